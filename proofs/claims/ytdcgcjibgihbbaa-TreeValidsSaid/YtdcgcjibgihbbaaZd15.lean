/-
  Texts of the proof, part 15.
-/
import Derived.Test.YtdcgcjibgihbbaaZd14
import Derived.Laws.BytesArg
import Derived.Test.YtdcgcjibgihbbaaRows
set_option maxRecDepth 10000
namespace Go.Mor
open Go.RowKit
section
variable {P : Program} {c : Code} {K : Act → World → Prop} {Q : Exit → Act → World → Prop} {w : World} {k : Nat} {N : FN} {env : Env}
end
section
variable {P : Program} {c : Code} {Q : Exit → Act → World → Prop} {N : FN} {i : Nat} {env0 : Env} {wr : World} {sp : Nat → Spec}
end
end Go.Mor
namespace Go.Proofs.Ytdcgcjibgihbbaa
open Go.Mor
theorem num15_c (e : Int) (w : World) :
    Calls Try.prog 11 #[(.int .i64 e)] w (Ret fun v w' => v = .int .i64 e ∧ Mem noS w w' []) := by
 refine zen 4 [(.int .i64 e)] Try.func11 ?_
 have hM := Mem.init w
 refine zsp <| zsp <| zre <| zo1 (.int .i64 e) ?_
 exact ⟨rfl, hM⟩
theorem one15_c (n : Int) (w : World) :
    Calls Try.prog 26 #[(.int .i64 n)] w (Ret fun v w' => v = .agg #[.int .i64 1, .int .i64 n, .string ⟨#[]⟩, .slice none 0 0] ∧ Mem noS w w' []) := by
 refine zen 5 [(.int .i64 n)] Try.func26 ?_
 have hM := Mem.init w
 refine zsr <| zal hM 53 [(.int .i64 0), (.int .i64 0), (.string ⟨#[]⟩), (.slice none 0 0)] fun b1 w2 hb1 M3 => ?_
 replace M3 := M3.nf
 clear hM
 refine zfe <| zsr <| zpn 2 ?_
 intro aC fr
 refine From_storeS_blk (by kernel_rfl : coreAt _ 2 = some (none, (.store 53 (.tmp 2) (.tmp 4)), 0, none)) fr (by kernel_rfl) (by kernel_rfl) (k' := 3) rfl (b := b1) (t0 := 53) (vs := [(.int .i64 1), (.int .i64 n), (.string ⟨#[]⟩), (.slice none 0 0)]) (cs := [(.int .i64 0), (.int .i64 0), (.string ⟨#[]⟩), (.slice none 0 0)]) (by kernel_rfl) (by kernel_rfl) (by kernel_rfl) (by simp only [List.mem_cons, List.not_mem_nil, or_false]; intro v hv; rcases hv with rfl | rfl | rfl | rfl <;> first | rfl | assumption) M3 0 rfl rfl ?_
 intro w4 M5 _ aC ea fr; clear ea
 replace M5 := M5.nf
 revert aC
 refine zfe <| zre ?_
 intro aC fr
 refine outC (ad := ⟨b1, 0, none⟩) (vs := [(.int .i64 1), (.int .i64 n), (.string ⟨#[]⟩), (.slice none 0 0)]) fr rfl (by kernel_rfl) (by kernel_rfl) (blk_cells (M5.get 0 rfl)) ?_
 refine ⟨_, rfl, ?_⟩
 have M12 := M5.od [] 0
 exact ⟨rfl, M12⟩
theorem local15_c (n : Int) (w : World) :
    Calls Try.prog 25 #[(.int .i64 n)] w (Ret fun v w' => v = .agg #[.int .i64 2, .int .i64 n, .string ⟨#[]⟩, .slice none 0 0] ∧ Mem noS w w' []) := by
 refine zen 5 [(.int .i64 n)] Try.func25 ?_
 have hM := Mem.init w
 refine zsr <| zal hM 53 [(.int .i64 0), (.int .i64 0), (.string ⟨#[]⟩), (.slice none 0 0)] fun b1 w2 hb1 M3 => ?_
 replace M3 := M3.nf
 clear hM
 refine zfe <| zsr <| zpn 2 ?_
 intro aC fr
 refine From_storeS_blk (by kernel_rfl : coreAt _ 2 = some (none, (.store 53 (.tmp 2) (.tmp 4)), 0, none)) fr (by kernel_rfl) (by kernel_rfl) (k' := 3) rfl (b := b1) (t0 := 53) (vs := [(.int .i64 2), (.int .i64 n), (.string ⟨#[]⟩), (.slice none 0 0)]) (cs := [(.int .i64 0), (.int .i64 0), (.string ⟨#[]⟩), (.slice none 0 0)]) (by kernel_rfl) (by kernel_rfl) (by kernel_rfl) (by simp only [List.mem_cons, List.not_mem_nil, or_false]; intro v hv; rcases hv with rfl | rfl | rfl | rfl <;> first | rfl | assumption) M3 0 rfl rfl ?_
 intro w4 M5 _ aC ea fr; clear ea
 replace M5 := M5.nf
 revert aC
 refine zfe <| zre ?_
 intro aC fr
 refine outC (ad := ⟨b1, 0, none⟩) (vs := [(.int .i64 2), (.int .i64 n), (.string ⟨#[]⟩), (.slice none 0 0)]) fr rfl (by kernel_rfl) (by kernel_rfl) (blk_cells (M5.get 0 rfl)) ?_
 refine ⟨_, rfl, ?_⟩
 have M12 := M5.od [] 0
 exact ⟨rfl, M12⟩
theorem awake15_d (w : World) :
    Calls Try.prog 10 #[] w (Ret fun v w' => v = .bool (decide (True)) ∧ Mem noS w w' []) := by
 refine zen 48 [] Try.func10 ?_
 have hM := Mem.init w
 refine zsp <| zsr <| zcl (local15_c 0 w) ?_
 rintro _ w1 ⟨rfl, M2x⟩
 have M2 := hM.cl M2x
 clear M2x hM
 refine zcl (one15_c 1 w1) ?_
 rintro _ w3 ⟨rfl, M4x⟩
 have M4 := M2.cl M4x
 intro aC fr
 refine zBs 6 46 2 #[(0, (.tmp 4)), (1, (.tmp 5))] 46 fr (e := 53) (size := 4) (zs := [(.int .i64 0), (.int .i64 0), (.string ⟨#[]⟩), (.slice none 0 0)]) (vs := [(0, (.agg #[(.int .i64 2), (.int .i64 0), (.string ⟨#[]⟩), (.slice none 0 0)])), (1, (.agg #[(.int .i64 1), (.int .i64 1), (.string ⟨#[]⟩), (.slice none 0 0)]))]) (cs := [(.int .i64 2), (.int .i64 0), (.string ⟨#[]⟩), (.slice none 0 0), (.int .i64 1), (.int .i64 1), (.string ⟨#[]⟩), (.slice none 0 0)]) M4 ?_
 intro b5 w6 hb5 _ M7 _ aC ea fr; clear ea
 replace M7 := M7.nf
 revert aC
 refine zpn 1 ?_
 intro aC fr
 refine zBs 8 46 1 #[(0, (.tmp 7))] 46 fr (e := 53) (size := 4) (zs := [(.int .i64 0), (.int .i64 0), (.string ⟨#[]⟩), (.slice none 0 0)]) (vs := [(0, (.agg #[(.int .i64 3), (.int .i64 1), (.string ⟨#[]⟩), (.slice (sM b5) 2 2)]))]) (cs := [(.int .i64 3), (.int .i64 1), (.string ⟨#[]⟩), (.slice (sM b5) 2 2)]) M7 ?_
 intro b12 w13 hb12 _ M14 _ aC ea fr; clear ea
 replace M14 := M14.nf
 revert aC
 refine zpn 1 ?_
 intro aC fr
 refine zBs 10 43 1 #[(0, (.tmp 9))] 43 fr (e := 48) (size := 5) (zs := [(.int .i64 0), (.int .i64 0), (.slice none 0 0), (.slice none 0 0), (.slice none 0 0)]) (vs := [(0, (.agg #[(.int .i64 9), (.int .i64 0), (.slice (sM b12) 1 1), (.slice none 0 0), (.slice none 0 0)]))]) (cs := [(.int .i64 9), (.int .i64 0), (.slice (sM b12) 1 1), (.slice none 0 0), (.slice none 0 0)]) M14 ?_
 intro b19 w20 hb19 _ M21 _ aC ea fr; clear ea
 replace M21 := M21.nf
 revert aC
 refine zpn 1 <| zal M21 45 [(.string ⟨#[]⟩), (.bool false), (.int .i64 0), (.int .i64 0), (.slice none 0 0)] fun b26 w27 hb26 M28 => ?_
 replace M28 := M28.nf
 refine zss M28 3 [(.string ⟨#[102]⟩), (.bool false), (.int .i64 1), (.int .i64 1), (.slice (sM b19) 1 1)] rfl fun w29 M30 => ?_
 replace M30 := M30.nf
 refine zfe <| zsr <| zpn 1 ?_
 intro aC fr
 refine zBs 13 43 1 #[(0, (.tmp 12))] 43 fr (e := 48) (size := 5) (zs := [(.int .i64 0), (.int .i64 0), (.slice none 0 0), (.slice none 0 0), (.slice none 0 0)]) (vs := [(0, (.agg #[(.int .i64 10), (.int .i64 5), (.slice none 0 0), (.slice none 0 0), (.slice none 0 0)]))]) (cs := [(.int .i64 10), (.int .i64 5), (.slice none 0 0), (.slice none 0 0), (.slice none 0 0)]) M30 ?_
 intro b31 w32 hb31 _ M33 _ aC ea fr; clear ea
 replace M33 := M33.nf
 revert aC
 refine zkp [(1, (pT b26 0)), (13, (.slice (sM b31) 1 1))] <| zpn 1 <| zal M33 45 [(.string ⟨#[]⟩), (.bool false), (.int .i64 0), (.int .i64 0), (.slice none 0 0)] fun b38 w39 hb38 M40 => ?_
 replace M40 := M40.nf
 refine zss M40 5 [(.string ⟨#[103]⟩), (.bool false), (.int .i64 0), (.int .i64 0), (.slice (sM b31) 1 1)] rfl fun w41 M42 => ?_
 replace M42 := M42.nf
 refine zfe <| zsr <| zls ⟨b38, 0, none⟩ [(.string ⟨#[103]⟩), (.bool false), (.int .i64 0), (.int .i64 0), (.slice (sM b31) 1 1)] (blk_cells (M42.get 5 rfl)) ?_
 intro aC fr
 refine zBs 16 22 1 #[(0, (.tmp 15))] 22 fr (e := 45) (size := 5) (zs := [(.string ⟨#[]⟩), (.bool false), (.int .i64 0), (.int .i64 0), (.slice none 0 0)]) (vs := [(0, (.agg #[(.string ⟨#[103]⟩), (.bool false), (.int .i64 0), (.int .i64 0), (.slice (sM b31) 1 1)]))]) (cs := [(.string ⟨#[103]⟩), (.bool false), (.int .i64 0), (.int .i64 0), (.slice (sM b31) 1 1)]) M42 ?_
 intro b43 w44 hb43 _ M45 _ aC ea fr; clear ea
 replace M45 := M45.nf
 revert aC
 refine zpn 1 ?_
 intro aC fr
 refine zBs 18 32 1 #[(0, (.tmp 17))] 32 fr (e := 25) (size := 3) (zs := [(.string ⟨#[]⟩), (.slice none 0 0), (.slice none 0 0)]) (vs := [(0, (.agg #[(.string ⟨#[]⟩), (.slice (sM b43) 1 1), (.slice none 0 0)]))]) (cs := [(.string ⟨#[]⟩), (.slice (sM b43) 1 1), (.slice none 0 0)]) M45 ?_
 intro b50 w51 hb50 _ M52 _ aC ea fr; clear ea
 replace M52 := M52.nf
 refine zBs 19 33 1 #[(0, (.const (.string { data := #[103] })))] 33 fr (e := 9) (size := 1) (zs := [(.string ⟨#[]⟩)]) (vs := [(0, (.string ⟨#[103]⟩))]) (cs := [(.string ⟨#[103]⟩)]) M52 ?_
 intro b57 w58 hb57 _ M59 _ aC ea fr; clear ea
 replace M59 := M59.nf
 revert aC
 refine zcl (vs := #[(.slice (sM b50) 1 1), (.slice (sM b57) 1 1), (.int .i64 10), (.slice none 0 0), (.int .i64 10)]) ((by have h9 := trun_c [awM1 (sM b43) (sM b31)] (sM b50) 1 [⟨#[103]⟩] (sM b57) 1 10 [] none 0 10 w58 (aw1_in (A13 := (sM b31)) (A16 := (sM b43)) (M59.get 7 rfl) (M59.get 8 rfl) (M59.get 6 rfl) (M59.get 4 rfl)) (by show (0 : Nat) ≤ _; omega); rw [aw1_run] at h9; exact h9)) ?_
 rintro _ w64 ⟨oA62, oc63, rfl, M65x⟩
 have M65 := M59.cl M65x
 refine zal M65 38 [(.int .i64 0), (.int .i64 0), (.slice none 0 0), (.int .i64 0)] fun b66 w67 hb66 M68 => ?_
 replace M68 := M68.nf
 refine zss M68 10 [(.int .i64 2), (.int .i64 5), (.slice oA62 0 oc63), (.int .i64 1)] rfl fun w69 M70 => ?_
 replace M70 := M70.nf
 refine zfe <| zsr <| zls ⟨b26, 0, none⟩ [(.string ⟨#[102]⟩), (.bool false), (.int .i64 1), (.int .i64 1), (.slice (sM b19) 1 1)] (blk_cells (M70.get 3 rfl)) <| zkp [(1, (pT b26 0)), (2, (pT b38 0)), (3, (pT b66 0)), (21, (.agg #[(.string ⟨#[102]⟩), (.bool false), (.int .i64 1), (.int .i64 1), (.slice (sM b19) 1 1)]))] <| zcl (vs := #[(.agg #[(.string ⟨#[102]⟩), (.bool false), (.int .i64 1), (.int .i64 1), (.slice (sM b19) 1 1)])]) ((by have h9 := tsize_c (awFn (sM b5) (sM b12) (sM b19)) _ w69 (awFn_ro (A6 := (sM b5)) (A8 := (sM b12)) (A10 := (sM b19)) (M70.get 0 rfl) (M70.get 1 rfl) (M70.get 2 rfl)) (sub_fn (List.mem_singleton.2 rfl)) awFn_in (by show (4 : Nat) ≤ _; omega); exact h9)) ?_
 rintro _ w71 ⟨rfl, M72x⟩
 have M72 := M70.cl M72x
 refine zpn 2 <| zls ⟨b26, 0, none⟩ [(.string ⟨#[102]⟩), (.bool false), (.int .i64 1), (.int .i64 1), (.slice (sM b19) 1 1)] (blk_cells (M72.get 3 rfl)) <| zls ⟨b38, 0, none⟩ [(.string ⟨#[103]⟩), (.bool false), (.int .i64 0), (.int .i64 0), (.slice (sM b31) 1 1)] (blk_cells (M72.get 5 rfl)) ?_
 intro aC fr
 refine From_buildSlice (by kernel_rfl : coreAt _ 6 = some (some 27, (.buildSlice 22 2 #[(0, (.tmp 25)), (1, (.tmp 26))]), 22, some (3, true))) fr (by kernel_rfl) (by kernel_rfl) (k' := 7) rfl (e := 45) (size := 5) (zs := [(.string ⟨#[]⟩), (.bool false), (.int .i64 0), (.int .i64 0), (.slice none 0 0)]) (vs := [(0, (.agg #[(.string ⟨#[102]⟩), (.bool false), (.int .i64 1), (.int .i64 1), (.slice (sM b19) 1 1)])), (1, (.agg #[(.string ⟨#[103]⟩), (.bool false), (.int .i64 0), (.int .i64 0), (.slice (sM b31) 1 1)]))]) (cs := [(.string ⟨#[102]⟩), (.bool false), (.int .i64 1), (.int .i64 1), (.slice (sM b19) 1 1), (.string ⟨#[103]⟩), (.bool false), (.int .i64 0), (.int .i64 0), (.slice (sM b31) 1 1)]) (by kernel_rfl) (by kernel_rfl) (by kernel_rfl) (by kernel_rfl) (by kernel_rfl) (by kernel_rfl) M72 ?_
 intro b73 w74 hb73 _ M75 _ aC ea fr; clear ea
 replace M75 := M75.nf
 revert aC
 refine zpn 1 <| zcl (tsmall_c (awM2 (sM b73) (sM b5) (sM b12) (sM b19) (sM b31)) w74 (awM2_ro (A27 := (sM b73)) (A6 := (sM b5)) (A8 := (sM b12)) (A10 := (sM b19)) (A13 := (sM b31)) (M75.get 11 rfl) (M75.get 0 rfl) (M75.get 1 rfl) (M75.get 2 rfl) (M75.get 4 rfl)) awM2_in) ?_
 rintro _ w84 ⟨fs82, A80, c81, hf83, rfl, M85x⟩
 have M85 := M75.cl M85x
 rw [aw_small_len hf83]
 have hfl_ := aw_small_len hf83
 refine zpn 5 <| zld ⟨b66, 0, none⟩ (.int .i64 2) (blk_cell (M85.get 10 rfl) rfl) <| zpn 4 <| zld ⟨b66, 1, none⟩ (.int .i64 5) (blk_cell (M85.get 10 rfl) rfl) <| zpn 4 <| zld ⟨b66, 3, none⟩ (.int .i64 1) (blk_cell (M85.get 10 rfl) rfl) <| zkp [(43, (.bool true)), (45, (.int .i64 1))] <| zpn 3 <| zfe <| zre ?_
 refine zo1 (.bool true) ?_
 have hR : true = true ↔ True := by simp
 have M86 := M85.od [] 0
 exact ⟨bool_dec hR (⟨fun _ => trivial, fun _ => by first | trivial | omega | rfl⟩), M86⟩
theorem awake15_c (w : World) : Calls Try.prog 10 #[] w (Ret fun v w' => v = .bool true ∧ Mem noS w w' []) := by
  have h := awake15_d w
  simpa using h
end Go.Proofs.Ytdcgcjibgihbbaa
namespace Go.Proofs.Ytdcgcjibgihbbaa
open Go.Mor
theorem rparts_c (m : TMod) (w : World) (hR : RO noS w (.all m.parts)) (hI : m.In) :
    Calls Try.prog 30 #[(.agg #[(.string m.pkg), (.slice m.fA m.fns.length m.fc), (.slice m.dA m.dats.length m.dc)])] w (Ret fun v w' => ∃ r, v = .int .i64 r ∧ Cnt 20000 0 (fnsN m.fns) r ∧ Mem noS w w' []) := by
 have hnf := hI.nf
 have hnd := hI.nd
 refine zen 28 [(.agg #[(.string m.pkg), (.slice m.fA m.fns.length m.fc), (.slice m.dA m.dats.length m.dc)])] Try.func30 ?_
 have hM := Mem.init w
 refine zsr <| zbx hM 25 (.agg #[(.string m.pkg), (.slice m.fA m.fns.length m.fc), (.slice m.dA m.dats.length m.dc)]) [(.string m.pkg), (.slice m.fA m.fns.length m.fc), (.slice m.dA m.dats.length m.dc)] fun b1 w2 hb1 M3 => ?_
 replace M3 := M3.nf
 clear hM
 refine zpn 1 <| zfe <| zsp <| zsq <| zsp <| zbk 0 ?_
 intro aC fr
 refine zlp (fun n_ a_ w_ => ∃ (j : Nat) (nj : Int), n_ = m.fns.length - j ∧ Fr a_ 28 [(1, (pT b1 0)), (3, (.int .i64 nj)), (4, (nV j))] ∧ Mem noS w w_ [.blk b1 25 [(.string m.pkg), (.slice m.fA m.fns.length m.fc), (.slice m.dA m.dats.length m.dc)]] ∧ (j ≤ m.fns.length) ∧ (Cnt 20000 0 (fnsN (m.fns.take j)) nj) ∧ (nj ≤ 20002)) (n := _) ⟨0, 0, rfl, fr.kp [1, 3, 4], M3, Nat.zero_le _, Cnt.zero, by omega⟩ ?_
 clear fr aC M3; rintro n aC w6 ⟨j, nj, rfl, fr, M7, hj, hc, hb⟩
 revert aC
 refine zsq <| zsr <| zpn 2 <| zld ⟨b1, 1, none⟩ (.slice m.fA m.fns.length m.fc) (blk_cell (M7.get 0 rfl) rfl) <| zpn 3 ?_
 obtain ⟨B10, hB10⟩ : ∃ B : Bool, B = decide (((j : Int) : Int) < ((m.fns.length : Nat) : Int)) := ⟨_, rfl⟩
 refine zkp [(1, (pT b1 0)), (3, (.int .i64 nj)), (4, (nV j)), (10, (.bool (decide (((j : Int) : Int) < ((m.fns.length : Nat) : Int)))))] ?_
 rw [← hB10]
 have iB10 : B10 = true ↔ (((j : Int) : Int) < ((m.fns.length : Nat) : Int)) := by rw [hB10]; simp only [decide_eq_true_eq]
 clear hB10
 intro aC fr
 refine zpk 3 9 [13] fr (news := [(13, (.bool (B10 && decide ((nj : Int) ≤ 20000))))]) (by cases B10 <;> kernel_rfl) ?_
 intro aC fr
 revert aC
 refine zfe <| zcP (B10 && decide ((nj : Int) ≤ 20000)) ((((j : Int) : Int) < ((m.fns.length : Nat) : Int)) ∧ ((nj : Int) ≤ 20000)) (by simp only [Bool.and_eq_true, decide_eq_true_eq, iB10]) (fun c15 => ?_) (fun c15 => ?_)
 refine zsk <| zsq <| zbk 1 <| zrg ?_
 have hcb := hc.le
 obtain ⟨f, hf⟩ := get_of (l := m.fns) (i := j) (by omega)
 have hfm := List.mem_of_getElem? hf
 have hfI := hI.fns f hfm
 refine zpn 2 <| zld ⟨b1, 1, none⟩ (.slice m.fA m.fns.length m.fc) (blk_cell (M7.get 0 rfl) rfl) <| zpn 1 ?_
 obtain ⟨ad16, had17⟩ := rds_some (M7.ro hR.m_fns) (cs := f.cells) (i := j) (by rw [List.getElem?_map, hf]; rfl)
 intro aC fr
 refine From_ixA (some 20) m.fA ad16 m.fns.length 5 (j : Int) fr (by kernel_rfl) had17 (by omega) (by omega) ?_
 intro aC fr
 revert aC
 refine zpn 1 ?_
 refine zld (((ad16 : Addr).add (((j : Int)).toNat * 5)).add 4) (.slice f.A f.body.length f.c) (rds_get (M7.ro hR.m_fns) had17 (i := j) (cs := f.cells) (by rw [List.getElem?_map, hf]; rfl) 4 _ rfl) ?_
 refine zpn 1 <| zar (20000 - nj) <| zcl (vs := #[(.slice f.A f.body.length f.c), (.int .i64 (20000 - nj))]) (tsck_all f.body f.A f.c _ _ w6 (by omega) (by omega) (hR.m_tree.at_ M7) (sub_fn hfm) hfI.body hfI.len) ?_
 rintro _ w23 ⟨r22, rfl, ⟨hrk, hrb⟩, M24x⟩
 have M24 := M7.cl M24x
 have hrl := hrk.le
 refine zar (nj + r22) <| zpn 1 <| zfe <| zrg <| zpn 1 <| zar ((j : Int) + 1) <| zkp [(1, (pT b1 0)), (3, (.int .i64 (nj + r22))), (15, (.int .i64 ((j : Int) + 1)))] <| zpn 1 <| zfe ?_
 intro aC fr
 exact ⟨m.fns.length - (j + 1), by omega, j + 1, (nj + r22), rfl, fr.kp [1, 3, 4], (M24.tk 1), by omega, (hc.trans hrk.sh).cast (by rw [fnsN_take hf]; omega), by omega⟩
 refine zex 0 <| zbh <| zsp <| zre <| zo1 (.int .i64 nj) ?_
 have M27 := M7.od [] 0
 exact ⟨nj, rfl, hc.upto (by have := fnsN_le m.fns j; omega) (by by_cases h_ : j < m.fns.length; exact .inl (by omega); exact .inr (by rw [List.take_of_length_le (by omega)])), M27⟩
theorem rwords_c (m : TMod) (w : World) (hR : RO noS w (.all m.parts)) (hI : m.In) :
    Calls Try.prog 31 #[(.agg #[(.string m.pkg), (.slice m.fA m.fns.length m.fc), (.slice m.dA m.dats.length m.dc)])] w (Ret fun v w' => ∃ r, v = .int .i64 r ∧ Cnt 16384 0 (datN m.dats) r ∧ Mem noS w w' []) := by
 have hnf := hI.nf
 have hnd := hI.nd
 refine zen 27 [(.agg #[(.string m.pkg), (.slice m.fA m.fns.length m.fc), (.slice m.dA m.dats.length m.dc)])] Try.func31 ?_
 have hM := Mem.init w
 refine zsr <| zbx hM 25 (.agg #[(.string m.pkg), (.slice m.fA m.fns.length m.fc), (.slice m.dA m.dats.length m.dc)]) [(.string m.pkg), (.slice m.fA m.fns.length m.fc), (.slice m.dA m.dats.length m.dc)] fun b1 w2 hb1 M3 => ?_
 replace M3 := M3.nf
 clear hM
 refine zpn 1 <| zfe <| zsp <| zsq <| zsp <| zbk 0 ?_
 intro aC fr
 refine zlp (fun n_ a_ w_ => ∃ (j : Nat) (nj : Int), n_ = m.dats.length - j ∧ Fr a_ 27 [(1, (pT b1 0)), (3, (.int .i64 nj)), (4, (nV j))] ∧ Mem noS w w_ [.blk b1 25 [(.string m.pkg), (.slice m.fA m.fns.length m.fc), (.slice m.dA m.dats.length m.dc)]] ∧ (j ≤ m.dats.length) ∧ (Cnt 16384 0 (datN (m.dats.take j)) nj) ∧ (nj ≤ 32770)) (n := _) ⟨0, 0, rfl, fr.kp [1, 3, 4], M3, Nat.zero_le _, Cnt.zero, by omega⟩ ?_
 clear fr aC M3; rintro n aC w6 ⟨j, nj, rfl, fr, M7, hj, hc, hb⟩
 revert aC
 refine zsq <| zsr <| zpn 2 <| zld ⟨b1, 2, none⟩ (.slice m.dA m.dats.length m.dc) (blk_cell (M7.get 0 rfl) rfl) <| zpn 3 ?_
 obtain ⟨B10, hB10⟩ : ∃ B : Bool, B = decide (((j : Int) : Int) < ((m.dats.length : Nat) : Int)) := ⟨_, rfl⟩
 refine zkp [(1, (pT b1 0)), (3, (.int .i64 nj)), (4, (nV j)), (10, (.bool (decide (((j : Int) : Int) < ((m.dats.length : Nat) : Int)))))] ?_
 rw [← hB10]
 have iB10 : B10 = true ↔ (((j : Int) : Int) < ((m.dats.length : Nat) : Int)) := by rw [hB10]; simp only [decide_eq_true_eq]
 clear hB10
 intro aC fr
 refine zpk 3 9 [13] fr (news := [(13, (.bool (B10 && decide ((nj : Int) ≤ 16384))))]) (by cases B10 <;> kernel_rfl) ?_
 intro aC fr
 revert aC
 refine zfe <| zcP (B10 && decide ((nj : Int) ≤ 16384)) ((((j : Int) : Int) < ((m.dats.length : Nat) : Int)) ∧ ((nj : Int) ≤ 16384)) (by simp only [Bool.and_eq_true, decide_eq_true_eq, iB10]) (fun c15 => ?_) (fun c15 => ?_)
 refine zsk <| zsq <| zbk 1 <| zrg ?_
 have hcb := hc.le
 obtain ⟨d, hd⟩ := get_of (l := m.dats) (i := j) (by omega)
 have hdI := hI.dats d (List.mem_of_getElem? hd)
 have hdw := hdI.2.1
 unfold LenOk at hdw
 refine zpn 2 <| zld ⟨b1, 2, none⟩ (.slice m.dA m.dats.length m.dc) (blk_cell (M7.get 0 rfl) rfl) <| zpn 1 ?_
 obtain ⟨ad16, had17⟩ := rds_some (M7.ro hR.m_dats) (cs := d.cells) (i := j) (by rw [List.getElem?_map, hd]; rfl)
 intro aC fr
 refine From_ixA (some 20) m.dA ad16 m.dats.length 4 (j : Int) fr (by kernel_rfl) had17 (by omega) (by omega) ?_
 intro aC fr
 revert aC
 refine zpn 1 ?_
 refine zld (((ad16 : Addr).add (((j : Int)).toNat * 4)).add 2) (.slice d.wA d.words.length d.wc) (rds_get (M7.ro hR.m_dats) had17 (i := j) (cs := d.cells) (by rw [List.getElem?_map, hd]; rfl) 2 _ rfl) ?_
 refine zpn 1 <| zmn (some 24) (.tmp 23) (.const (.int .i64 16385)) #[3, 3] 3 .i64 ((d.words.length : Nat) : Int) 16385 <| zar (nj + (min ((d.words.length : Nat) : Int) 16385)) <| zpn 1 <| zfe <| zrg <| zpn 1 <| zar ((j : Int) + 1) <| zkp [(1, (pT b1 0)), (3, (.int .i64 (nj + (min ((d.words.length : Nat) : Int) 16385)))), (15, (.int .i64 ((j : Int) + 1)))] <| zpn 1 ?_
 refine zfe ?_
 intro aC fr
 exact ⟨m.dats.length - (j + 1), by omega, j + 1, (nj + (min ((d.words.length : Nat) : Int) 16385)), rfl, fr.kp [1, 3, 4], M7, by omega, (by unfold Cnt at hc ⊢; rw [datN_take hd]; omega), by omega⟩
 refine zex 0 <| zbh <| zsp <| zre <| zo1 (.int .i64 nj) ?_
 have M24 := M7.od [] 0
 exact ⟨nj, rfl, hc.upto (by have := datN_le m.dats j; omega) (by by_cases h_ : j < m.dats.length; exact .inl (by omega); exact .inr (by rw [List.take_of_length_le (by omega)])), M24⟩
set_option maxHeartbeats 1000000 in
theorem rvalid_c (m : TMod) (w : World) (hR : RO noS w (.all m.parts)) (hI : m.In) :
    Calls Try.prog 13 #[(.agg #[(.string m.pkg), (.slice m.fA m.fns.length m.fc), (.slice m.dA m.dats.length m.dc)])] w (Ret fun v w' => v = .int .i64 (validT m) ∧ Mem noS w w' []) := by
 have hnf := hI.nf
 have hnd := hI.nd
 refine zen 79 [(.agg #[(.string m.pkg), (.slice m.fA m.fns.length m.fc), (.slice m.dA m.dats.length m.dc)])] Try.func13 ?_
 have hM := Mem.init w
 refine zsr <| zbx hM 25 (.agg #[(.string m.pkg), (.slice m.fA m.fns.length m.fc), (.slice m.dA m.dats.length m.dc)]) [(.string m.pkg), (.slice m.fA m.fns.length m.fc), (.slice m.dA m.dats.length m.dc)] fun b1 w2 hb1 M3 => ?_
 replace M3 := M3.nf
 clear hM
 refine zpn 1 <| zfe <| zsq <| zsr <| zls ⟨b1, 0, none⟩ [(.string m.pkg), (.slice m.fA m.fns.length m.fc), (.slice m.dA m.dats.length m.dc)] (blk_cells (M3.get 0 rfl)) <| zcl (rparts_c m w2 (hR.at_ M3) hI) ?_
 rintro _ w5 ⟨r4, rfl, hcp, M6x⟩
 have M6 := M3.cl M6x
 have hgp := hcp.gt
 refine zpn 2 ?_
 obtain ⟨B7, hB7⟩ : ∃ B : Bool, B = decide ((r4 : Int) > 20000) := ⟨_, rfl⟩
 refine zkp [(1, (pT b1 0)), (10, (.bool (decide ((r4 : Int) > 20000))))] ?_
 rw [← hB7]
 have iB7 : B7 = true ↔ ((r4 : Int) > 20000) := by rw [hB7]; simp only [decide_eq_true_eq]
 clear hB7
 cases B7
 have c7 : ¬ ((r4 : Int) > 20000) := (fun h => Bool.noConfusion (iB7.2 h) : ¬ ((r4 : Int) > 20000))
 refine zls ⟨b1, 0, none⟩ [(.string m.pkg), (.slice m.fA m.fns.length m.fc), (.slice m.dA m.dats.length m.dc)] (blk_cells (M6.get 0 rfl)) <| zcl (rwords_c m w5 (hR.at_ M6) hI) ?_
 rintro _ w9 ⟨r8, rfl, hcw, M10x⟩
 have M10 := M6.cl M10x
 have hgw := hcw.gt
 refine zpn 2 <| zfe <| zcD ((r8 : Int) > 16384) (fun c11 => ?_) (fun c11 => ?_)
 refine zsr ?_
 have hlq : largeQ m := by unfold largeQ; omega
 refine zpn 1 <| zfe <| zre <| zo1 (.int .i64 12) ?_
 have M12 := M10.od [] 0
 exact ⟨by rw [validT_12 hlq], M12⟩
 refine zsk <| zsq <| zsr ?_
 have hnl : ¬ largeQ m := by unfold largeQ; omega
 refine zpn 1 <| zfe <| zbk 0 ?_
 intro aC fr
 refine zlp (fun n_ a_ w_ => ∃ (j : Nat), n_ = m.fns.length - j ∧ Fr a_ 79 [(1, (pT b1 0)), (3, (nV j))] ∧ Mem noS w w_ [.blk b1 25 [(.string m.pkg), (.slice m.fA m.fns.length m.fc), (.slice m.dA m.dats.length m.dc)]] ∧ (j ≤ m.fns.length) ∧ (fnsTo m.fns j)) (n := _) ⟨0, rfl, fr.kp [1, 3], M10, Nat.zero_le _, fnsTo_zero _⟩ ?_
 clear fr aC M10; rintro n aC w15 ⟨j, rfl, fr, M16, hj, hr⟩
 revert aC
 refine zsq <| zsr <| zpn 2 <| zld ⟨b1, 1, none⟩ (.slice m.fA m.fns.length m.fc) (blk_cell (M16.get 0 rfl) rfl) <| zpn 2 <| zfe <| zcD (((j : Int) : Int) < ((m.fns.length : Nat) : Int)) (fun c19 => ?_) (fun c19 => ?_)
 refine zsk <| zsq <| zbk 1 <| zsq <| zsr ?_
 obtain ⟨f, hf⟩ := get_of (l := m.fns) (i := j) (by omega)
 have hfm := List.mem_of_getElem? hf
 have hfI := hI.fns f hfm
 refine zpn 1 <| zld ⟨b1, 1, none⟩ (.slice m.fA m.fns.length m.fc) (blk_cell (M16.get 0 rfl) rfl) <| zpn 1 ?_
 obtain ⟨ad20, had21⟩ := rds_some (M16.ro hR.m_fns) (cs := f.cells) (i := j) (by rw [List.getElem?_map, hf]; rfl)
 intro aC fr
 refine From_ixA (some 25) m.fA ad20 m.fns.length 5 (j : Int) fr (by kernel_rfl) had21 (by omega) (by omega) ?_
 intro aC fr
 revert aC
 refine zls ((ad20 : Addr).add (((j : Int)).toNat * 5)) [(.string f.nm), (.bool f.wk), (.int .i64 f.pa), (.int .i64 f.lo), (.slice f.A f.body.length f.c)] (rds_cells (i := j) (M16.ro hR.m_fns) had21 (by rw [List.getElem?_map, hf]; rfl)) ?_
 refine zcl (rfunc_c f (m.fns.flatMap TFn.parts) w15 (hR.m_tree.at_ M16) (sub_fn hfm) hfI) ?_
 rintro _ w26 ⟨rfl, M27x⟩
 have M27 := M16.cl M27x
 refine zpn 1 <| zfe <| zcP (!(fnV f)) (¬ ((fnV f) = true)) (by simp only [notT]) (fun c28 => ?_) (fun c28 => ?_)
 replace c28 : (fnV f) = false := Bool.eq_false_iff.2 c28
 have hV_ : ¬ fnV f = true := by have h_ := c28; simp_all
 refine zsp <| zre <| zbr <| zbr <| zo1 (.int .i64 4) ?_
 have M29 := M27.od [] 0
 have hb_ : ¬ fnsTo m.fns m.fns.length := fns_no hf (by omega) (fun h_ => hV_ h_.1)
 exact ⟨by rw [validT_4 hnl (fun h_ => hb_ h_.1)], M29⟩
 replace c28 : (fnV f) = true := Classical.not_not.1 c28
 have hV_ : fnV f = true := by have h_ := c28; simp_all
 refine zsk <| zsp <| zbk 2 ?_
 intro aC fr
 refine zlp (fun n_ a_ w_ => ∃ (k : Nat), n_ = j - k ∧ Fr a_ 79 [(1, (pT b1 0)), (3, (nV j)), (4, (nV k))] ∧ Mem noS w w_ [.blk b1 25 [(.string m.pkg), (.slice m.fA m.fns.length m.fc), (.slice m.dA m.dats.length m.dc)]] ∧ (k ≤ j) ∧ (f.nm ∉ (m.fns.take k).map (·.nm))) (n := _) ⟨0, rfl, fr.kp [1, 3, 4], M27, Nat.zero_le _, nin_zero _⟩ ?_
 clear fr aC M27; rintro n aC w32 ⟨k, rfl, fr, M33, hk, hkn⟩
 revert aC
 refine zsq <| zsp <| zcD (((k : Int) : Int) < (j : Int)) (fun c36 => ?_) (fun c36 => ?_)
 refine zsk <| zsq <| zbk 3 <| zsq ?_
 obtain ⟨fk, hfk⟩ := get_of (l := m.fns) (i := k) (by omega)
 obtain ⟨ad37, had38⟩ := rds_some (M33.ro hR.m_fns) (cs := fk.cells) (i := k) (by rw [List.getElem?_map, hfk]; rfl)
 obtain ⟨ad39, had40⟩ := rds_some (M33.ro hR.m_fns) (cs := f.cells) (i := j) (by rw [List.getElem?_map, hf]; rfl)
 obtain ⟨B41, hB41⟩ : ∃ B : Bool, B = ((fk.nm : ByteArray).toList == (f.nm : ByteArray).toList) := ⟨_, rfl⟩
 refine zkp [(1, (pT b1 0)), (3, (nV j)), (4, (nV k))] ?_
 intro aC fr
 refine zdr (N := 79) (env0 := [(1, (pT b1 0)), (3, (nV j)), (4, (nV k))]) (specAt [.det (pT b1 1), .det (.slice m.fA m.fns.length m.fc), .det (nV k), .det (.pointer (some ((ad37 : Addr).add (((k : Int)).toNat * 5)))), .det (.pointer (some ((ad37 : Addr).add (((k : Int)).toNat * 5)))), .det (.string fk.nm), .det (pT b1 1), .det (.slice m.fA m.fns.length m.fc), .det (nV j), .det (.pointer (some ((ad39 : Addr).add (((j : Int)).toNat * 5)))), .det (.pointer (some ((ad39 : Addr).add (((j : Int)).toNat * 5)))), .det (.string f.nm), .det (.bool B41)]) fr (la (la (la (la (la (la (la (la (la (la (la (la (la lz dP) (dL ⟨b1, 1, none⟩ (.slice m.fA m.fns.length m.fc) fun w_ hK => (blk_cell ((M33.then_ hK).get 0 rfl) rfl))) dP) (dIA m.fA ad37 m.fns.length 5 (k : Int) had38)) dP) (dL ((ad37 : Addr).add (((k : Int)).toNat * 5)) (.string fk.nm) fun w_ hK => (rds_get ((M33.then_ hK).ro hR.m_fns) had38 (i := k) (cs := fk.cells) (by rw [List.getElem?_map, hfk]; rfl) 0 _ rfl))) dP) (dL ⟨b1, 1, none⟩ (.slice m.fA m.fns.length m.fc) fun w_ hK => (blk_cell ((M33.then_ hK).get 0 rfl) rfl))) dP) (dIA m.fA ad39 m.fns.length 5 (j : Int) had40)) dP) (dL ((ad39 : Addr).add (((j : Int)).toNat * 5)) (.string f.nm) fun w_ hK => (rds_get ((M33.then_ hK).ro hR.m_fns) had40 (i := j) (cs := f.cells) (by rw [List.getElem?_map, hf]; rfl) 0 _ rfl))) (dPe hB41)) ?_
 intro aC w46 vs hK hv fr
 revert aC; refine zkp [(1, (pT b1 0)), (3, (nV j)), (4, (nV k)), (46, (.bool B41))] ?_
 have M47 := M33.then_ hK
 clear hK hv fr aC M33; clear vs
 have iB41 : B41 = true ↔ ((fk.nm).toList = (f.nm).toList) := by rw [hB41]; simp only [beq_iff_eq]
 clear hB41
 refine zcP B41 ((fk.nm).toList = (f.nm).toList) iB41 (fun c48 => ?_) (fun c48 => ?_)
 refine zsp <| zre <| zbr <| zbr <| zbr <| zbr <| zo1 (.int .i64 4) ?_
 have M49 := M47.od [] 0
 have hb_ : ¬ fnsTo m.fns m.fns.length := fns_no hf (by omega) (fun h_ => h_.2 (nin_no (k := k) (by omega) hfk (ba_same.1 c48)))
 exact ⟨by rw [validT_4 hnl (fun h_ => hb_ h_.1)], M49⟩
 refine zsk <| zrg <| zpn 1 <| zar ((k : Int) + 1) <| zpn 1 <| zfe ?_
 intro aC fr
 exact ⟨j - (k + 1), by omega, k + 1, rfl, fr.kp [1, 3, 4], M47, by omega, nin_succ hkn hfk (fun h_ => c48 (ba_same.2 h_))⟩
 refine zex 2 <| zbh <| zrg ?_
 obtain rfl : j = k := by omega
 refine zpn 1 <| zar ((j : Int) + 1) <| zpn 1 <| zfe ?_
 intro aC fr
 exact ⟨m.fns.length - (j + 1), by omega, j + 1, rfl, fr.kp [1, 3], M33, by omega, fnsTo_succ hr hf hV_ hkn⟩
 refine zex 0 <| zbh <| zsq <| zsp <| zbk 4 ?_
 obtain rfl : j = m.fns.length := by omega
 have hfT := hr
 clear hr hj
 intro aC fr
 refine zlp (fun n_ a_ w_ => ∃ (j : Nat), n_ = m.dats.length - j ∧ Fr a_ 79 [(1, (pT b1 0)), (5, (nV j))] ∧ Mem noS w w_ [.blk b1 25 [(.string m.pkg), (.slice m.fA m.fns.length m.fc), (.slice m.dA m.dats.length m.dc)]] ∧ (j ≤ m.dats.length) ∧ (datsTo m.dats j)) (n := _) ⟨0, rfl, fr.kp [1, 5], M16, Nat.zero_le _, datsTo_zero _⟩ ?_
 clear fr aC M16; rintro n aC w56 ⟨j, rfl, fr, M57, hj, hr⟩
 revert aC
 refine zsq <| zsr <| zpn 2 <| zld ⟨b1, 2, none⟩ (.slice m.dA m.dats.length m.dc) (blk_cell (M57.get 0 rfl) rfl) <| zpn 2 <| zfe <| zcD (((j : Int) : Int) < ((m.dats.length : Nat) : Int)) (fun c60 => ?_) (fun c60 => ?_)
 refine zsk <| zsq <| zbk 5 <| zsq <| zsr ?_
 obtain ⟨d, hd⟩ := get_of (l := m.dats) (i := j) (by omega)
 have hdm := List.mem_of_getElem? hd
 have hdI := hI.dats d hdm
 refine zpn 1 <| zld ⟨b1, 2, none⟩ (.slice m.dA m.dats.length m.dc) (blk_cell (M57.get 0 rfl) rfl) <| zpn 1 ?_
 obtain ⟨ad61, had62⟩ := rds_some (M57.ro hR.m_dats) (cs := d.cells) (i := j) (by rw [List.getElem?_map, hd]; rfl)
 intro aC fr
 refine From_ixA (some 57) m.dA ad61 m.dats.length 4 (j : Int) fr (by kernel_rfl) had62 (by omega) (by omega) ?_
 intro aC fr
 revert aC
 refine zls ((ad61 : Addr).add (((j : Int)).toNat * 4)) [(.string d.nm), (.bool d.wk), (.slice d.wA d.words.length d.wc), (.slice d.rA d.refs.length d.rc)] (rds_cells (i := j) (M57.ro hR.m_dats) had62 (by rw [List.getElem?_map, hd]; rfl)) ?_
 refine zcl (rdata_c d w56 ((hR.m_refs hdm).at_ M57) hdI) ?_
 rintro _ w67 ⟨rfl, M68x⟩
 have M68 := M57.cl M68x
 refine zpn 1 <| zfe <| zcP (!(decide (datQ d))) (¬ (datQ d)) (by simp only [notT, decide_eq_true_eq]) (fun c69 => ?_) (fun c69 => ?_)
 have hV_ : ¬ datQ d := by have h_ := c69; simp_all
 refine zsp <| zre <| zbr <| zbr <| zo1 (.int .i64 4) ?_
 have M70 := M68.od [] 0
 have hb_ : ¬ datsTo m.dats m.dats.length := dats_no hd (by omega) (fun h_ => hV_ h_.1)
 exact ⟨by rw [validT_4 hnl (fun h_ => hb_ h_.2)], M70⟩
 have hV_ : datQ d := by have h_ := c69; simp_all
 refine zsk <| zsp <| zbk 6 ?_
 intro aC fr
 refine zlp (fun n_ a_ w_ => ∃ (k : Nat), n_ = j - k ∧ Fr a_ 79 [(1, (pT b1 0)), (5, (nV j)), (6, (nV k))] ∧ Mem noS w w_ [.blk b1 25 [(.string m.pkg), (.slice m.fA m.fns.length m.fc), (.slice m.dA m.dats.length m.dc)]] ∧ (k ≤ j) ∧ (d.nm ∉ (m.dats.take k).map (·.nm))) (n := _) ⟨0, rfl, fr.kp [1, 5, 6], M68, Nat.zero_le _, nin_zero _⟩ ?_
 clear fr aC M68; rintro n aC w73 ⟨k, rfl, fr, M74, hk, hkn⟩
 revert aC
 refine zsq <| zsp <| zcD (((k : Int) : Int) < (j : Int)) (fun c77 => ?_) (fun c77 => ?_)
 refine zsk <| zsq <| zbk 7 <| zsq ?_
 obtain ⟨dk, hdk⟩ := get_of (l := m.dats) (i := k) (by omega)
 obtain ⟨ad78, had79⟩ := rds_some (M74.ro hR.m_dats) (cs := dk.cells) (i := k) (by rw [List.getElem?_map, hdk]; rfl)
 obtain ⟨ad80, had81⟩ := rds_some (M74.ro hR.m_dats) (cs := d.cells) (i := j) (by rw [List.getElem?_map, hd]; rfl)
 obtain ⟨B82, hB82⟩ : ∃ B : Bool, B = ((dk.nm : ByteArray).toList == (d.nm : ByteArray).toList) := ⟨_, rfl⟩
 refine zkp [(1, (pT b1 0)), (5, (nV j)), (6, (nV k))] ?_
 intro aC fr
 refine zdr (N := 79) (env0 := [(1, (pT b1 0)), (5, (nV j)), (6, (nV k))]) (specAt [.det (pT b1 2), .det (.slice m.dA m.dats.length m.dc), .det (nV k), .det (.pointer (some ((ad78 : Addr).add (((k : Int)).toNat * 4)))), .det (.pointer (some ((ad78 : Addr).add (((k : Int)).toNat * 4)))), .det (.string dk.nm), .det (pT b1 2), .det (.slice m.dA m.dats.length m.dc), .det (nV j), .det (.pointer (some ((ad80 : Addr).add (((j : Int)).toNat * 4)))), .det (.pointer (some ((ad80 : Addr).add (((j : Int)).toNat * 4)))), .det (.string d.nm), .det (.bool B82)]) fr (la (la (la (la (la (la (la (la (la (la (la (la (la lz dP) (dL ⟨b1, 2, none⟩ (.slice m.dA m.dats.length m.dc) fun w_ hK => (blk_cell ((M74.then_ hK).get 0 rfl) rfl))) dP) (dIA m.dA ad78 m.dats.length 4 (k : Int) had79)) dP) (dL ((ad78 : Addr).add (((k : Int)).toNat * 4)) (.string dk.nm) fun w_ hK => (rds_get ((M74.then_ hK).ro hR.m_dats) had79 (i := k) (cs := dk.cells) (by rw [List.getElem?_map, hdk]; rfl) 0 _ rfl))) dP) (dL ⟨b1, 2, none⟩ (.slice m.dA m.dats.length m.dc) fun w_ hK => (blk_cell ((M74.then_ hK).get 0 rfl) rfl))) dP) (dIA m.dA ad80 m.dats.length 4 (j : Int) had81)) dP) (dL ((ad80 : Addr).add (((j : Int)).toNat * 4)) (.string d.nm) fun w_ hK => (rds_get ((M74.then_ hK).ro hR.m_dats) had81 (i := j) (cs := d.cells) (by rw [List.getElem?_map, hd]; rfl) 0 _ rfl))) (dPe hB82)) ?_
 intro aC w87 vs hK hv fr
 revert aC; refine zkp [(1, (pT b1 0)), (5, (nV j)), (6, (nV k)), (78, (.bool B82))] ?_
 have M88 := M74.then_ hK
 clear hK hv fr aC M74; clear vs
 have iB82 : B82 = true ↔ ((dk.nm).toList = (d.nm).toList) := by rw [hB82]; simp only [beq_iff_eq]
 clear hB82
 refine zcP B82 ((dk.nm).toList = (d.nm).toList) iB82 (fun c89 => ?_) (fun c89 => ?_)
 refine zsp <| zre <| zbr <| zbr <| zbr <| zbr <| zo1 (.int .i64 4) ?_
 have M90 := M88.od [] 0
 have hb_ : ¬ datsTo m.dats m.dats.length := dats_no hd (by omega) (fun h_ => h_.2 (nin_no (k := k) (by omega) hdk (ba_same.1 c89)))
 exact ⟨by rw [validT_4 hnl (fun h_ => hb_ h_.2)], M90⟩
 refine zsk <| zrg <| zpn 1 <| zar ((k : Int) + 1) <| zpn 1 <| zfe ?_
 intro aC fr
 exact ⟨j - (k + 1), by omega, k + 1, rfl, fr.kp [1, 5, 6], M88, by omega, nin_succ hkn hdk (fun h_ => c89 (ba_same.2 h_))⟩
 refine zex 6 <| zbh <| zrg ?_
 obtain rfl : j = k := by omega
 refine zpn 1 <| zar ((j : Int) + 1) <| zpn 1 <| zfe ?_
 intro aC fr
 exact ⟨m.dats.length - (j + 1), by omega, j + 1, rfl, fr.kp [1, 5], M74, by omega, datsTo_succ hr hd hV_ hkn⟩
 refine zex 4 <| zbh <| zsp <| zre <| zo1 (.int .i64 0) ?_
 have M95 := M57.od [] 0
 obtain rfl : j = m.dats.length := by omega
 exact ⟨by rw [validT_0 hnl hfT hr], M95⟩
 have c7 : ((r4 : Int) > 20000) := iB7.1 rfl
 refine zpn 4 <| zfe <| zcT <| zsr ?_
 have hlq : largeQ m := by unfold largeQ; omega
 refine zpn 1 <| zfe <| zre <| zo1 (.int .i64 12) ?_
 have M96 := M6.od [] 0
 exact ⟨by rw [validT_12 hlq], M96⟩
theorem treeValids_d (m : TMod) (w : World) (hR : RO noS w (.all m.parts)) (hI : m.In0) :
    Calls Try.prog 3 #[(.agg #[(.string m.pkg), (.slice m.fA m.fns.length m.fc), (.slice m.dA m.dats.length m.dc)])] w (Ret fun v w' => v = .bool (decide (True)) ∧ Mem noS w w' []) := by
 refine zen 15 [(.agg #[(.string m.pkg), (.slice m.fA m.fns.length m.fc), (.slice m.dA m.dats.length m.dc)])] Try.func3 ?_
 have hM := Mem.init w
 refine zsr <| zbx hM 25 (.agg #[(.string m.pkg), (.slice m.fA m.fns.length m.fc), (.slice m.dA m.dats.length m.dc)]) [(.string m.pkg), (.slice m.fA m.fns.length m.fc), (.slice m.dA m.dats.length m.dc)] fun b1 w2 hb1 M3 => ?_
 replace M3 := M3.nf
 clear hM
 refine zpn 1 <| zfe <| zsq <| zsr <| zls ⟨b1, 0, none⟩ [(.string m.pkg), (.slice m.fA m.fns.length m.fc), (.slice m.dA m.dats.length m.dc)] (blk_cells (M3.get 0 rfl)) <| zcl (tgreat_c m w2 (hR.at_ M3) hI) ?_
 rintro _ w5 ⟨B4, rfl, hBg, M6x⟩
 have M6 := M3.cl M6x
 refine zfe <| zcP B4 (B4 = true) Iff.rfl (fun c7 => ?_) (fun c7 => ?_)
 refine zsr <| zcl (awake15_c w5) ?_
 rintro _ w8 ⟨rfl, M9x⟩
 have M9 := M6.cl M9x
 refine zpn 1 <| zfe <| zre <| zo1 (.bool true) ?_
 have hR : true = true ↔ True := by simp
 have M10 := M9.od [] 0
 exact ⟨bool_dec hR (⟨fun _ => trivial, fun _ => by first | trivial | omega | simp⟩), M10⟩
 replace c7 : B4 = false := Bool.eq_false_iff.2 c7
 have hIn := hI.in_ (hBg c7)
 refine zsk <| zsq <| zkp [(1, (pT b1 0))] ?_
 intro aC fr
 refine zdt 4 (N := 15) (env0 := [(1, (pT b1 0))]) (specAt [.det (.agg #[(.string m.pkg), (.slice m.fA m.fns.length m.fc), (.slice m.dA m.dats.length m.dc)]), .det (.int .i64 (validT m)), .det (.int .i64 (validT m)), .det (.agg #[(.string m.pkg), (.slice m.fA m.fns.length m.fc), (.slice m.dA m.dats.length m.dc)])]) fr (la (la (la (la lz (dS ⟨b1, 0, none⟩ [(.string m.pkg), (.slice m.fA m.fns.length m.fc), (.slice m.dA m.dats.length m.dc)] fun w_ hK => (blk_cells ((M6.then_ hK).get 0 rfl)))) (dD (fun w_ hK => tvalid_c m w_ (hR.at_ (M6.then_ hK)) hIn) rfl)) (dD (fun w_ hK => num15_c (validT m) w_) rfl)) (dS ⟨b1, 0, none⟩ [(.string m.pkg), (.slice m.fA m.fns.length m.fc), (.slice m.dA m.dats.length m.dc)] fun w_ hK => (blk_cells ((M6.then_ hK).get 0 rfl)))) ?_
 intro aC w15 vs hK hv fr
 revert aC; refine zkp [(8, (.int .i64 (validT m))), (9, (.agg #[(.string m.pkg), (.slice m.fA m.fns.length m.fc), (.slice m.dA m.dats.length m.dc)]))] ?_
 have M16 := M6.then_ hK
 clear hK hv fr aC M6; clear vs
 refine zcl (rvalid_c m w15 (hR.at_ M16) hIn) ?_
 rintro _ w17 ⟨rfl, M18x⟩
 have M18 := M16.cl M18x
 refine zpn 2 ?_
 obtain ⟨B19, hB19⟩ : ∃ B : Bool, B = (((validT m) : Int) == (validT m)) := ⟨_, rfl⟩
 refine zkp [(12, (.bool (((validT m) : Int) == (validT m))))] ?_
 rw [← hB19]
 have iB19 : B19 = true ↔ (((validT m) : Int) = (validT m)) := by rw [hB19]; simp only [beq_iff_eq]
 clear hB19
 cases B19
 have c19 : ¬ (((validT m) : Int) = (validT m)) := (fun h => Bool.noConfusion (iB19.2 h) : ¬ (((validT m) : Int) = (validT m)))
 refine zpn 3 <| zfe <| zre <| zo1 (.bool false) ?_
 have hR : false = true ↔ False := by simp
 have M20 := M18.od [] 0
 exact ⟨bool_dec hR (⟨fun h_ => h_.elim, fun _ => by omega⟩), M20⟩
 have c19 : (((validT m) : Int) = (validT m)) := iB19.1 rfl
 refine zcl (awake15_c w17) ?_
 rintro _ w21 ⟨rfl, M22x⟩
 have M22 := M18.cl M22x
 refine zpn 2 <| zfe <| zre <| zo1 (.bool true) ?_
 have hR : true = true ↔ True := by simp
 have M23 := M22.od [] 0
 exact ⟨bool_dec hR (⟨fun _ => trivial, fun _ => by first | trivial | omega | simp⟩), M23⟩
theorem treeValids_c (m : TMod) (w : World) (hR : RO noS w (.all m.parts)) (hI : m.In0) : Calls Try.prog 3 #[(.agg #[(.string m.pkg), (.slice m.fA m.fns.length m.fc), (.slice m.dA m.dats.length m.dc)])] w (Ret fun v w' => v = .bool true ∧ Mem noS w w' []) := by
  have h := treeValids_d m w hR hI
  simpa using h
end Go.Proofs.Ytdcgcjibgihbbaa
