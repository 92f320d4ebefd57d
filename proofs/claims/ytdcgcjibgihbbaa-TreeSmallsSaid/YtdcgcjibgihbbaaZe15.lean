/-
  Texts of the proof, part 15.
-/
import Derived.Test.YtdcgcjibgihbbaaZe14
import Derived.Laws.BytesArg
import Derived.Test.YtdcgcjibgihbbaaRows
set_option maxRecDepth 10000
namespace Go.Mor
open Go.RowKit
section
variable {P : Program} {c : Code} {K : Act → World → Prop} {Q : Exit → Act → World → Prop} {w : World} {k : Nat} {N : FN} {env : Env}
end
section
variable {P : Program} {c : Code} {Q : Exit → Act → World → Prop} {N : FN} {i : Nat} {env0 : Env} {wr : World} {sp : Nat → Spec}
end
end Go.Mor
namespace Go.Proofs.Ytdcgcjibgihbbaa
open Go.Mor
theorem one15_c (n : Int) (w : World) :
    Calls Try.prog 26 #[(.int .i64 n)] w (Ret fun v w' => v = .agg #[.int .i64 1, .int .i64 n, .string ⟨#[]⟩, .slice none 0 0] ∧ Mem noS w w' []) := by
 refine zen 5 [(.int .i64 n)] Try.func26 ?_
 have hM := Mem.init w
 refine zsr <| zal hM 53 [(.int .i64 0), (.int .i64 0), (.string ⟨#[]⟩), (.slice none 0 0)] fun b1 w2 hb1 M3 => ?_
 replace M3 := M3.nf
 clear hM
 refine zfe <| zsr <| zpn 2 ?_
 intro aC fr
 refine From_storeS_blk (by kernel_rfl : coreAt _ 2 = some (none, (.store 53 (.tmp 2) (.tmp 4)), 0, none)) fr (by kernel_rfl) (by kernel_rfl) (k' := 3) rfl (b := b1) (t0 := 53) (vs := [(.int .i64 1), (.int .i64 n), (.string ⟨#[]⟩), (.slice none 0 0)]) (cs := [(.int .i64 0), (.int .i64 0), (.string ⟨#[]⟩), (.slice none 0 0)]) (by kernel_rfl) (by kernel_rfl) (by kernel_rfl) (by simp only [List.mem_cons, List.not_mem_nil, or_false]; intro v hv; rcases hv with rfl | rfl | rfl | rfl <;> first | rfl | assumption) M3 0 rfl rfl ?_
 intro w4 M5 _ aC ea fr; clear ea
 replace M5 := M5.nf
 revert aC
 refine zfe <| zre ?_
 intro aC fr
 refine outC (ad := ⟨b1, 0, none⟩) (vs := [(.int .i64 1), (.int .i64 n), (.string ⟨#[]⟩), (.slice none 0 0)]) fr rfl (by kernel_rfl) (by kernel_rfl) (blk_cells (M5.get 0 rfl)) ?_
 refine ⟨_, rfl, ?_⟩
 have M12 := M5.od [] 0
 exact ⟨rfl, M12⟩
theorem local15_c (n : Int) (w : World) :
    Calls Try.prog 25 #[(.int .i64 n)] w (Ret fun v w' => v = .agg #[.int .i64 2, .int .i64 n, .string ⟨#[]⟩, .slice none 0 0] ∧ Mem noS w w' []) := by
 refine zen 5 [(.int .i64 n)] Try.func25 ?_
 have hM := Mem.init w
 refine zsr <| zal hM 53 [(.int .i64 0), (.int .i64 0), (.string ⟨#[]⟩), (.slice none 0 0)] fun b1 w2 hb1 M3 => ?_
 replace M3 := M3.nf
 clear hM
 refine zfe <| zsr <| zpn 2 ?_
 intro aC fr
 refine From_storeS_blk (by kernel_rfl : coreAt _ 2 = some (none, (.store 53 (.tmp 2) (.tmp 4)), 0, none)) fr (by kernel_rfl) (by kernel_rfl) (k' := 3) rfl (b := b1) (t0 := 53) (vs := [(.int .i64 2), (.int .i64 n), (.string ⟨#[]⟩), (.slice none 0 0)]) (cs := [(.int .i64 0), (.int .i64 0), (.string ⟨#[]⟩), (.slice none 0 0)]) (by kernel_rfl) (by kernel_rfl) (by kernel_rfl) (by simp only [List.mem_cons, List.not_mem_nil, or_false]; intro v hv; rcases hv with rfl | rfl | rfl | rfl <;> first | rfl | assumption) M3 0 rfl rfl ?_
 intro w4 M5 _ aC ea fr; clear ea
 replace M5 := M5.nf
 revert aC
 refine zfe <| zre ?_
 intro aC fr
 refine outC (ad := ⟨b1, 0, none⟩) (vs := [(.int .i64 2), (.int .i64 n), (.string ⟨#[]⟩), (.slice none 0 0)]) fr rfl (by kernel_rfl) (by kernel_rfl) (blk_cells (M5.get 0 rfl)) ?_
 refine ⟨_, rfl, ?_⟩
 have M12 := M5.od [] 0
 exact ⟨rfl, M12⟩
theorem awake15_d (w : World) :
    Calls Try.prog 10 #[] w (Ret fun v w' => v = .bool (decide (True)) ∧ Mem noS w w' []) := by
 refine zen 48 [] Try.func10 ?_
 have hM := Mem.init w
 refine zsp <| zsr <| zcl (local15_c 0 w) ?_
 rintro _ w1 ⟨rfl, M2x⟩
 have M2 := hM.cl M2x
 clear M2x hM
 refine zcl (one15_c 1 w1) ?_
 rintro _ w3 ⟨rfl, M4x⟩
 have M4 := M2.cl M4x
 intro aC fr
 refine zBs 6 46 2 #[(0, (.tmp 4)), (1, (.tmp 5))] 46 fr (e := 53) (size := 4) (zs := [(.int .i64 0), (.int .i64 0), (.string ⟨#[]⟩), (.slice none 0 0)]) (vs := [(0, (.agg #[(.int .i64 2), (.int .i64 0), (.string ⟨#[]⟩), (.slice none 0 0)])), (1, (.agg #[(.int .i64 1), (.int .i64 1), (.string ⟨#[]⟩), (.slice none 0 0)]))]) (cs := [(.int .i64 2), (.int .i64 0), (.string ⟨#[]⟩), (.slice none 0 0), (.int .i64 1), (.int .i64 1), (.string ⟨#[]⟩), (.slice none 0 0)]) M4 ?_
 intro b5 w6 hb5 _ M7 _ aC ea fr; clear ea
 replace M7 := M7.nf
 revert aC
 refine zpn 1 ?_
 intro aC fr
 refine zBs 8 46 1 #[(0, (.tmp 7))] 46 fr (e := 53) (size := 4) (zs := [(.int .i64 0), (.int .i64 0), (.string ⟨#[]⟩), (.slice none 0 0)]) (vs := [(0, (.agg #[(.int .i64 3), (.int .i64 1), (.string ⟨#[]⟩), (.slice (sM b5) 2 2)]))]) (cs := [(.int .i64 3), (.int .i64 1), (.string ⟨#[]⟩), (.slice (sM b5) 2 2)]) M7 ?_
 intro b12 w13 hb12 _ M14 _ aC ea fr; clear ea
 replace M14 := M14.nf
 revert aC
 refine zpn 1 ?_
 intro aC fr
 refine zBs 10 43 1 #[(0, (.tmp 9))] 43 fr (e := 48) (size := 5) (zs := [(.int .i64 0), (.int .i64 0), (.slice none 0 0), (.slice none 0 0), (.slice none 0 0)]) (vs := [(0, (.agg #[(.int .i64 9), (.int .i64 0), (.slice (sM b12) 1 1), (.slice none 0 0), (.slice none 0 0)]))]) (cs := [(.int .i64 9), (.int .i64 0), (.slice (sM b12) 1 1), (.slice none 0 0), (.slice none 0 0)]) M14 ?_
 intro b19 w20 hb19 _ M21 _ aC ea fr; clear ea
 replace M21 := M21.nf
 revert aC
 refine zpn 1 <| zal M21 45 [(.string ⟨#[]⟩), (.bool false), (.int .i64 0), (.int .i64 0), (.slice none 0 0)] fun b26 w27 hb26 M28 => ?_
 replace M28 := M28.nf
 refine zss M28 3 [(.string ⟨#[102]⟩), (.bool false), (.int .i64 1), (.int .i64 1), (.slice (sM b19) 1 1)] rfl fun w29 M30 => ?_
 replace M30 := M30.nf
 refine zfe <| zsr <| zpn 1 ?_
 intro aC fr
 refine zBs 13 43 1 #[(0, (.tmp 12))] 43 fr (e := 48) (size := 5) (zs := [(.int .i64 0), (.int .i64 0), (.slice none 0 0), (.slice none 0 0), (.slice none 0 0)]) (vs := [(0, (.agg #[(.int .i64 10), (.int .i64 5), (.slice none 0 0), (.slice none 0 0), (.slice none 0 0)]))]) (cs := [(.int .i64 10), (.int .i64 5), (.slice none 0 0), (.slice none 0 0), (.slice none 0 0)]) M30 ?_
 intro b31 w32 hb31 _ M33 _ aC ea fr; clear ea
 replace M33 := M33.nf
 revert aC
 refine zkp [(1, (pT b26 0)), (13, (.slice (sM b31) 1 1))] <| zpn 1 <| zal M33 45 [(.string ⟨#[]⟩), (.bool false), (.int .i64 0), (.int .i64 0), (.slice none 0 0)] fun b38 w39 hb38 M40 => ?_
 replace M40 := M40.nf
 refine zss M40 5 [(.string ⟨#[103]⟩), (.bool false), (.int .i64 0), (.int .i64 0), (.slice (sM b31) 1 1)] rfl fun w41 M42 => ?_
 replace M42 := M42.nf
 refine zfe <| zsr <| zls ⟨b38, 0, none⟩ [(.string ⟨#[103]⟩), (.bool false), (.int .i64 0), (.int .i64 0), (.slice (sM b31) 1 1)] (blk_cells (M42.get 5 rfl)) ?_
 intro aC fr
 refine zBs 16 22 1 #[(0, (.tmp 15))] 22 fr (e := 45) (size := 5) (zs := [(.string ⟨#[]⟩), (.bool false), (.int .i64 0), (.int .i64 0), (.slice none 0 0)]) (vs := [(0, (.agg #[(.string ⟨#[103]⟩), (.bool false), (.int .i64 0), (.int .i64 0), (.slice (sM b31) 1 1)]))]) (cs := [(.string ⟨#[103]⟩), (.bool false), (.int .i64 0), (.int .i64 0), (.slice (sM b31) 1 1)]) M42 ?_
 intro b43 w44 hb43 _ M45 _ aC ea fr; clear ea
 replace M45 := M45.nf
 revert aC
 refine zpn 1 ?_
 intro aC fr
 refine zBs 18 32 1 #[(0, (.tmp 17))] 32 fr (e := 25) (size := 3) (zs := [(.string ⟨#[]⟩), (.slice none 0 0), (.slice none 0 0)]) (vs := [(0, (.agg #[(.string ⟨#[]⟩), (.slice (sM b43) 1 1), (.slice none 0 0)]))]) (cs := [(.string ⟨#[]⟩), (.slice (sM b43) 1 1), (.slice none 0 0)]) M45 ?_
 intro b50 w51 hb50 _ M52 _ aC ea fr; clear ea
 replace M52 := M52.nf
 refine zBs 19 33 1 #[(0, (.const (.string { data := #[103] })))] 33 fr (e := 9) (size := 1) (zs := [(.string ⟨#[]⟩)]) (vs := [(0, (.string ⟨#[103]⟩))]) (cs := [(.string ⟨#[103]⟩)]) M52 ?_
 intro b57 w58 hb57 _ M59 _ aC ea fr; clear ea
 replace M59 := M59.nf
 revert aC
 refine zcl (vs := #[(.slice (sM b50) 1 1), (.slice (sM b57) 1 1), (.int .i64 10), (.slice none 0 0), (.int .i64 10)]) ((by have h9 := trun_c [awM1 (sM b43) (sM b31)] (sM b50) 1 [⟨#[103]⟩] (sM b57) 1 10 [] none 0 10 w58 (aw1_in (A13 := (sM b31)) (A16 := (sM b43)) (M59.get 7 rfl) (M59.get 8 rfl) (M59.get 6 rfl) (M59.get 4 rfl)) (by show (0 : Nat) ≤ _; omega); rw [aw1_run] at h9; exact h9)) ?_
 rintro _ w64 ⟨oA62, oc63, rfl, M65x⟩
 have M65 := M59.cl M65x
 refine zal M65 38 [(.int .i64 0), (.int .i64 0), (.slice none 0 0), (.int .i64 0)] fun b66 w67 hb66 M68 => ?_
 replace M68 := M68.nf
 refine zss M68 10 [(.int .i64 2), (.int .i64 5), (.slice oA62 0 oc63), (.int .i64 1)] rfl fun w69 M70 => ?_
 replace M70 := M70.nf
 refine zfe <| zsr <| zls ⟨b26, 0, none⟩ [(.string ⟨#[102]⟩), (.bool false), (.int .i64 1), (.int .i64 1), (.slice (sM b19) 1 1)] (blk_cells (M70.get 3 rfl)) <| zkp [(1, (pT b26 0)), (2, (pT b38 0)), (3, (pT b66 0)), (21, (.agg #[(.string ⟨#[102]⟩), (.bool false), (.int .i64 1), (.int .i64 1), (.slice (sM b19) 1 1)]))] <| zcl (vs := #[(.agg #[(.string ⟨#[102]⟩), (.bool false), (.int .i64 1), (.int .i64 1), (.slice (sM b19) 1 1)])]) ((by have h9 := tsize_c (awFn (sM b5) (sM b12) (sM b19)) _ w69 (awFn_ro (A6 := (sM b5)) (A8 := (sM b12)) (A10 := (sM b19)) (M70.get 0 rfl) (M70.get 1 rfl) (M70.get 2 rfl)) (sub_fn (List.mem_singleton.2 rfl)) awFn_in (by show (4 : Nat) ≤ _; omega); exact h9)) ?_
 rintro _ w71 ⟨rfl, M72x⟩
 have M72 := M70.cl M72x
 refine zpn 2 <| zls ⟨b26, 0, none⟩ [(.string ⟨#[102]⟩), (.bool false), (.int .i64 1), (.int .i64 1), (.slice (sM b19) 1 1)] (blk_cells (M72.get 3 rfl)) <| zls ⟨b38, 0, none⟩ [(.string ⟨#[103]⟩), (.bool false), (.int .i64 0), (.int .i64 0), (.slice (sM b31) 1 1)] (blk_cells (M72.get 5 rfl)) ?_
 intro aC fr
 refine From_buildSlice (by kernel_rfl : coreAt _ 6 = some (some 27, (.buildSlice 22 2 #[(0, (.tmp 25)), (1, (.tmp 26))]), 22, some (3, true))) fr (by kernel_rfl) (by kernel_rfl) (k' := 7) rfl (e := 45) (size := 5) (zs := [(.string ⟨#[]⟩), (.bool false), (.int .i64 0), (.int .i64 0), (.slice none 0 0)]) (vs := [(0, (.agg #[(.string ⟨#[102]⟩), (.bool false), (.int .i64 1), (.int .i64 1), (.slice (sM b19) 1 1)])), (1, (.agg #[(.string ⟨#[103]⟩), (.bool false), (.int .i64 0), (.int .i64 0), (.slice (sM b31) 1 1)]))]) (cs := [(.string ⟨#[102]⟩), (.bool false), (.int .i64 1), (.int .i64 1), (.slice (sM b19) 1 1), (.string ⟨#[103]⟩), (.bool false), (.int .i64 0), (.int .i64 0), (.slice (sM b31) 1 1)]) (by kernel_rfl) (by kernel_rfl) (by kernel_rfl) (by kernel_rfl) (by kernel_rfl) (by kernel_rfl) M72 ?_
 intro b73 w74 hb73 _ M75 _ aC ea fr; clear ea
 replace M75 := M75.nf
 revert aC
 refine zpn 1 <| zcl (tsmall_c (awM2 (sM b73) (sM b5) (sM b12) (sM b19) (sM b31)) w74 (awM2_ro (A27 := (sM b73)) (A6 := (sM b5)) (A8 := (sM b12)) (A10 := (sM b19)) (A13 := (sM b31)) (M75.get 11 rfl) (M75.get 0 rfl) (M75.get 1 rfl) (M75.get 2 rfl) (M75.get 4 rfl)) awM2_in) ?_
 rintro _ w84 ⟨fs82, A80, c81, hf83, rfl, M85x⟩
 have M85 := M75.cl M85x
 rw [aw_small_len hf83]
 have hfl_ := aw_small_len hf83
 refine zpn 5 <| zld ⟨b66, 0, none⟩ (.int .i64 2) (blk_cell (M85.get 10 rfl) rfl) <| zpn 4 <| zld ⟨b66, 1, none⟩ (.int .i64 5) (blk_cell (M85.get 10 rfl) rfl) <| zpn 4 <| zld ⟨b66, 3, none⟩ (.int .i64 1) (blk_cell (M85.get 10 rfl) rfl) <| zkp [(43, (.bool true)), (45, (.int .i64 1))] <| zpn 3 <| zfe <| zre ?_
 refine zo1 (.bool true) ?_
 have hR : true = true ↔ True := by simp
 have M86 := M85.od [] 0
 exact ⟨bool_dec hR (⟨fun _ => trivial, fun _ => by first | trivial | omega | rfl⟩), M86⟩
theorem awake15_c (w : World) : Calls Try.prog 10 #[] w (Ret fun v w' => v = .bool true ∧ Mem noS w w' []) := by
  have h := awake15_d w
  simpa using h
end Go.Proofs.Ytdcgcjibgihbbaa
namespace Go.Proofs.Ytdcgcjibgihbbaa
open Go.Mor
theorem rparts_c (m : TMod) (w : World) (hR : RO noS w (.all m.parts)) (hI : m.In) :
    Calls Try.prog 30 #[(.agg #[(.string m.pkg), (.slice m.fA m.fns.length m.fc), (.slice m.dA m.dats.length m.dc)])] w (Ret fun v w' => ∃ r, v = .int .i64 r ∧ Cnt 20000 0 (fnsN m.fns) r ∧ Mem noS w w' []) := by
 have hnf := hI.nf
 have hnd := hI.nd
 refine zen 28 [(.agg #[(.string m.pkg), (.slice m.fA m.fns.length m.fc), (.slice m.dA m.dats.length m.dc)])] Try.func30 ?_
 have hM := Mem.init w
 refine zsr <| zbx hM 25 (.agg #[(.string m.pkg), (.slice m.fA m.fns.length m.fc), (.slice m.dA m.dats.length m.dc)]) [(.string m.pkg), (.slice m.fA m.fns.length m.fc), (.slice m.dA m.dats.length m.dc)] fun b1 w2 hb1 M3 => ?_
 replace M3 := M3.nf
 clear hM
 refine zpn 1 <| zfe <| zsp <| zsq <| zsp <| zbk 0 ?_
 intro aC fr
 refine zlp (fun n_ a_ w_ => ∃ (j : Nat) (nj : Int), n_ = m.fns.length - j ∧ Fr a_ 28 [(1, (pT b1 0)), (3, (.int .i64 nj)), (4, (nV j))] ∧ Mem noS w w_ [.blk b1 25 [(.string m.pkg), (.slice m.fA m.fns.length m.fc), (.slice m.dA m.dats.length m.dc)]] ∧ (j ≤ m.fns.length) ∧ (Cnt 20000 0 (fnsN (m.fns.take j)) nj) ∧ (nj ≤ 20002)) (n := _) ⟨0, 0, rfl, fr.kp [1, 3, 4], M3, Nat.zero_le _, Cnt.zero, by omega⟩ ?_
 clear fr aC M3; rintro n aC w6 ⟨j, nj, rfl, fr, M7, hj, hc, hb⟩
 revert aC
 refine zsq <| zsr <| zpn 2 <| zld ⟨b1, 1, none⟩ (.slice m.fA m.fns.length m.fc) (blk_cell (M7.get 0 rfl) rfl) <| zpn 3 ?_
 obtain ⟨B10, hB10⟩ : ∃ B : Bool, B = decide (((j : Int) : Int) < ((m.fns.length : Nat) : Int)) := ⟨_, rfl⟩
 refine zkp [(1, (pT b1 0)), (3, (.int .i64 nj)), (4, (nV j)), (10, (.bool (decide (((j : Int) : Int) < ((m.fns.length : Nat) : Int)))))] ?_
 rw [← hB10]
 have iB10 : B10 = true ↔ (((j : Int) : Int) < ((m.fns.length : Nat) : Int)) := by rw [hB10]; simp only [decide_eq_true_eq]
 clear hB10
 intro aC fr
 refine zpk 3 9 [13] fr (news := [(13, (.bool (B10 && decide ((nj : Int) ≤ 20000))))]) (by cases B10 <;> kernel_rfl) ?_
 intro aC fr
 revert aC
 refine zfe <| zcP (B10 && decide ((nj : Int) ≤ 20000)) ((((j : Int) : Int) < ((m.fns.length : Nat) : Int)) ∧ ((nj : Int) ≤ 20000)) (by simp only [Bool.and_eq_true, decide_eq_true_eq, iB10]) (fun c15 => ?_) (fun c15 => ?_)
 refine zsk <| zsq <| zbk 1 <| zrg ?_
 have hcb := hc.le
 obtain ⟨f, hf⟩ := get_of (l := m.fns) (i := j) (by omega)
 have hfm := List.mem_of_getElem? hf
 have hfI := hI.fns f hfm
 refine zpn 2 <| zld ⟨b1, 1, none⟩ (.slice m.fA m.fns.length m.fc) (blk_cell (M7.get 0 rfl) rfl) <| zpn 1 ?_
 obtain ⟨ad16, had17⟩ := rds_some (M7.ro hR.m_fns) (cs := f.cells) (i := j) (by rw [List.getElem?_map, hf]; rfl)
 intro aC fr
 refine From_ixA (some 20) m.fA ad16 m.fns.length 5 (j : Int) fr (by kernel_rfl) had17 (by omega) (by omega) ?_
 intro aC fr
 revert aC
 refine zpn 1 ?_
 refine zld (((ad16 : Addr).add (((j : Int)).toNat * 5)).add 4) (.slice f.A f.body.length f.c) (rds_get (M7.ro hR.m_fns) had17 (i := j) (cs := f.cells) (by rw [List.getElem?_map, hf]; rfl) 4 _ rfl) ?_
 refine zpn 1 <| zar (20000 - nj) <| zcl (vs := #[(.slice f.A f.body.length f.c), (.int .i64 (20000 - nj))]) (tsck_all f.body f.A f.c _ _ w6 (by omega) (by omega) (hR.m_tree.at_ M7) (sub_fn hfm) hfI.body hfI.len) ?_
 rintro _ w23 ⟨r22, rfl, ⟨hrk, hrb⟩, M24x⟩
 have M24 := M7.cl M24x
 have hrl := hrk.le
 refine zar (nj + r22) <| zpn 1 <| zfe <| zrg <| zpn 1 <| zar ((j : Int) + 1) <| zkp [(1, (pT b1 0)), (3, (.int .i64 (nj + r22))), (15, (.int .i64 ((j : Int) + 1)))] <| zpn 1 <| zfe ?_
 intro aC fr
 exact ⟨m.fns.length - (j + 1), by omega, j + 1, (nj + r22), rfl, fr.kp [1, 3, 4], (M24.tk 1), by omega, (hc.trans hrk.sh).cast (by rw [fnsN_take hf]; omega), by omega⟩
 refine zex 0 <| zbh <| zsp <| zre <| zo1 (.int .i64 nj) ?_
 have M27 := M7.od [] 0
 exact ⟨nj, rfl, hc.upto (by have := fnsN_le m.fns j; omega) (by by_cases h_ : j < m.fns.length; exact .inl (by omega); exact .inr (by rw [List.take_of_length_le (by omega)])), M27⟩
theorem rwords_c (m : TMod) (w : World) (hR : RO noS w (.all m.parts)) (hI : m.In) :
    Calls Try.prog 31 #[(.agg #[(.string m.pkg), (.slice m.fA m.fns.length m.fc), (.slice m.dA m.dats.length m.dc)])] w (Ret fun v w' => ∃ r, v = .int .i64 r ∧ Cnt 16384 0 (datN m.dats) r ∧ Mem noS w w' []) := by
 have hnf := hI.nf
 have hnd := hI.nd
 refine zen 27 [(.agg #[(.string m.pkg), (.slice m.fA m.fns.length m.fc), (.slice m.dA m.dats.length m.dc)])] Try.func31 ?_
 have hM := Mem.init w
 refine zsr <| zbx hM 25 (.agg #[(.string m.pkg), (.slice m.fA m.fns.length m.fc), (.slice m.dA m.dats.length m.dc)]) [(.string m.pkg), (.slice m.fA m.fns.length m.fc), (.slice m.dA m.dats.length m.dc)] fun b1 w2 hb1 M3 => ?_
 replace M3 := M3.nf
 clear hM
 refine zpn 1 <| zfe <| zsp <| zsq <| zsp <| zbk 0 ?_
 intro aC fr
 refine zlp (fun n_ a_ w_ => ∃ (j : Nat) (nj : Int), n_ = m.dats.length - j ∧ Fr a_ 27 [(1, (pT b1 0)), (3, (.int .i64 nj)), (4, (nV j))] ∧ Mem noS w w_ [.blk b1 25 [(.string m.pkg), (.slice m.fA m.fns.length m.fc), (.slice m.dA m.dats.length m.dc)]] ∧ (j ≤ m.dats.length) ∧ (Cnt 16384 0 (datN (m.dats.take j)) nj) ∧ (nj ≤ 32770)) (n := _) ⟨0, 0, rfl, fr.kp [1, 3, 4], M3, Nat.zero_le _, Cnt.zero, by omega⟩ ?_
 clear fr aC M3; rintro n aC w6 ⟨j, nj, rfl, fr, M7, hj, hc, hb⟩
 revert aC
 refine zsq <| zsr <| zpn 2 <| zld ⟨b1, 2, none⟩ (.slice m.dA m.dats.length m.dc) (blk_cell (M7.get 0 rfl) rfl) <| zpn 3 ?_
 obtain ⟨B10, hB10⟩ : ∃ B : Bool, B = decide (((j : Int) : Int) < ((m.dats.length : Nat) : Int)) := ⟨_, rfl⟩
 refine zkp [(1, (pT b1 0)), (3, (.int .i64 nj)), (4, (nV j)), (10, (.bool (decide (((j : Int) : Int) < ((m.dats.length : Nat) : Int)))))] ?_
 rw [← hB10]
 have iB10 : B10 = true ↔ (((j : Int) : Int) < ((m.dats.length : Nat) : Int)) := by rw [hB10]; simp only [decide_eq_true_eq]
 clear hB10
 intro aC fr
 refine zpk 3 9 [13] fr (news := [(13, (.bool (B10 && decide ((nj : Int) ≤ 16384))))]) (by cases B10 <;> kernel_rfl) ?_
 intro aC fr
 revert aC
 refine zfe <| zcP (B10 && decide ((nj : Int) ≤ 16384)) ((((j : Int) : Int) < ((m.dats.length : Nat) : Int)) ∧ ((nj : Int) ≤ 16384)) (by simp only [Bool.and_eq_true, decide_eq_true_eq, iB10]) (fun c15 => ?_) (fun c15 => ?_)
 refine zsk <| zsq <| zbk 1 <| zrg ?_
 have hcb := hc.le
 obtain ⟨d, hd⟩ := get_of (l := m.dats) (i := j) (by omega)
 have hdI := hI.dats d (List.mem_of_getElem? hd)
 have hdw := hdI.2.1
 unfold LenOk at hdw
 refine zpn 2 <| zld ⟨b1, 2, none⟩ (.slice m.dA m.dats.length m.dc) (blk_cell (M7.get 0 rfl) rfl) <| zpn 1 ?_
 obtain ⟨ad16, had17⟩ := rds_some (M7.ro hR.m_dats) (cs := d.cells) (i := j) (by rw [List.getElem?_map, hd]; rfl)
 intro aC fr
 refine From_ixA (some 20) m.dA ad16 m.dats.length 4 (j : Int) fr (by kernel_rfl) had17 (by omega) (by omega) ?_
 intro aC fr
 revert aC
 refine zpn 1 ?_
 refine zld (((ad16 : Addr).add (((j : Int)).toNat * 4)).add 2) (.slice d.wA d.words.length d.wc) (rds_get (M7.ro hR.m_dats) had17 (i := j) (cs := d.cells) (by rw [List.getElem?_map, hd]; rfl) 2 _ rfl) ?_
 refine zpn 1 <| zmn (some 24) (.tmp 23) (.const (.int .i64 16385)) #[3, 3] 3 .i64 ((d.words.length : Nat) : Int) 16385 <| zar (nj + (min ((d.words.length : Nat) : Int) 16385)) <| zpn 1 <| zfe <| zrg <| zpn 1 <| zar ((j : Int) + 1) <| zkp [(1, (pT b1 0)), (3, (.int .i64 (nj + (min ((d.words.length : Nat) : Int) 16385)))), (15, (.int .i64 ((j : Int) + 1)))] <| zpn 1 ?_
 refine zfe ?_
 intro aC fr
 exact ⟨m.dats.length - (j + 1), by omega, j + 1, (nj + (min ((d.words.length : Nat) : Int) 16385)), rfl, fr.kp [1, 3, 4], M7, by omega, (by unfold Cnt at hc ⊢; rw [datN_take hd]; omega), by omega⟩
 refine zex 0 <| zbh <| zsp <| zre <| zo1 (.int .i64 nj) ?_
 have M24 := M7.od [] 0
 exact ⟨nj, rfl, hc.upto (by have := datN_le m.dats j; omega) (by by_cases h_ : j < m.dats.length; exact .inl (by omega); exact .inr (by rw [List.take_of_length_le (by omega)])), M24⟩
set_option maxHeartbeats 1000000 in
theorem rvalid_c (m : TMod) (w : World) (hR : RO noS w (.all m.parts)) (hI : m.In) :
    Calls Try.prog 13 #[(.agg #[(.string m.pkg), (.slice m.fA m.fns.length m.fc), (.slice m.dA m.dats.length m.dc)])] w (Ret fun v w' => v = .int .i64 (validT m) ∧ Mem noS w w' []) := by
 have hnf := hI.nf
 have hnd := hI.nd
 refine zen 79 [(.agg #[(.string m.pkg), (.slice m.fA m.fns.length m.fc), (.slice m.dA m.dats.length m.dc)])] Try.func13 ?_
 have hM := Mem.init w
 refine zsr <| zbx hM 25 (.agg #[(.string m.pkg), (.slice m.fA m.fns.length m.fc), (.slice m.dA m.dats.length m.dc)]) [(.string m.pkg), (.slice m.fA m.fns.length m.fc), (.slice m.dA m.dats.length m.dc)] fun b1 w2 hb1 M3 => ?_
 replace M3 := M3.nf
 clear hM
 refine zpn 1 <| zfe <| zsq <| zsr <| zls ⟨b1, 0, none⟩ [(.string m.pkg), (.slice m.fA m.fns.length m.fc), (.slice m.dA m.dats.length m.dc)] (blk_cells (M3.get 0 rfl)) <| zcl (rparts_c m w2 (hR.at_ M3) hI) ?_
 rintro _ w5 ⟨r4, rfl, hcp, M6x⟩
 have M6 := M3.cl M6x
 have hgp := hcp.gt
 refine zpn 2 ?_
 obtain ⟨B7, hB7⟩ : ∃ B : Bool, B = decide ((r4 : Int) > 20000) := ⟨_, rfl⟩
 refine zkp [(1, (pT b1 0)), (10, (.bool (decide ((r4 : Int) > 20000))))] ?_
 rw [← hB7]
 have iB7 : B7 = true ↔ ((r4 : Int) > 20000) := by rw [hB7]; simp only [decide_eq_true_eq]
 clear hB7
 cases B7
 have c7 : ¬ ((r4 : Int) > 20000) := (fun h => Bool.noConfusion (iB7.2 h) : ¬ ((r4 : Int) > 20000))
 refine zls ⟨b1, 0, none⟩ [(.string m.pkg), (.slice m.fA m.fns.length m.fc), (.slice m.dA m.dats.length m.dc)] (blk_cells (M6.get 0 rfl)) <| zcl (rwords_c m w5 (hR.at_ M6) hI) ?_
 rintro _ w9 ⟨r8, rfl, hcw, M10x⟩
 have M10 := M6.cl M10x
 have hgw := hcw.gt
 refine zpn 2 <| zfe <| zcD ((r8 : Int) > 16384) (fun c11 => ?_) (fun c11 => ?_)
 refine zsr ?_
 have hlq : largeQ m := by unfold largeQ; omega
 refine zpn 1 <| zfe <| zre <| zo1 (.int .i64 12) ?_
 have M12 := M10.od [] 0
 exact ⟨by rw [validT_12 hlq], M12⟩
 refine zsk <| zsq <| zsr ?_
 have hnl : ¬ largeQ m := by unfold largeQ; omega
 refine zpn 1 <| zfe <| zbk 0 ?_
 intro aC fr
 refine zlp (fun n_ a_ w_ => ∃ (j : Nat), n_ = m.fns.length - j ∧ Fr a_ 79 [(1, (pT b1 0)), (3, (nV j))] ∧ Mem noS w w_ [.blk b1 25 [(.string m.pkg), (.slice m.fA m.fns.length m.fc), (.slice m.dA m.dats.length m.dc)]] ∧ (j ≤ m.fns.length) ∧ (fnsTo m.fns j)) (n := _) ⟨0, rfl, fr.kp [1, 3], M10, Nat.zero_le _, fnsTo_zero _⟩ ?_
 clear fr aC M10; rintro n aC w15 ⟨j, rfl, fr, M16, hj, hr⟩
 revert aC
 refine zsq <| zsr <| zpn 2 <| zld ⟨b1, 1, none⟩ (.slice m.fA m.fns.length m.fc) (blk_cell (M16.get 0 rfl) rfl) <| zpn 2 <| zfe <| zcD (((j : Int) : Int) < ((m.fns.length : Nat) : Int)) (fun c19 => ?_) (fun c19 => ?_)
 refine zsk <| zsq <| zbk 1 <| zsq <| zsr ?_
 obtain ⟨f, hf⟩ := get_of (l := m.fns) (i := j) (by omega)
 have hfm := List.mem_of_getElem? hf
 have hfI := hI.fns f hfm
 refine zpn 1 <| zld ⟨b1, 1, none⟩ (.slice m.fA m.fns.length m.fc) (blk_cell (M16.get 0 rfl) rfl) <| zpn 1 ?_
 obtain ⟨ad20, had21⟩ := rds_some (M16.ro hR.m_fns) (cs := f.cells) (i := j) (by rw [List.getElem?_map, hf]; rfl)
 intro aC fr
 refine From_ixA (some 25) m.fA ad20 m.fns.length 5 (j : Int) fr (by kernel_rfl) had21 (by omega) (by omega) ?_
 intro aC fr
 revert aC
 refine zls ((ad20 : Addr).add (((j : Int)).toNat * 5)) [(.string f.nm), (.bool f.wk), (.int .i64 f.pa), (.int .i64 f.lo), (.slice f.A f.body.length f.c)] (rds_cells (i := j) (M16.ro hR.m_fns) had21 (by rw [List.getElem?_map, hf]; rfl)) ?_
 refine zcl (rfunc_c f (m.fns.flatMap TFn.parts) w15 (hR.m_tree.at_ M16) (sub_fn hfm) hfI) ?_
 rintro _ w26 ⟨rfl, M27x⟩
 have M27 := M16.cl M27x
 refine zpn 1 <| zfe <| zcP (!(fnV f)) (¬ ((fnV f) = true)) (by simp only [notT]) (fun c28 => ?_) (fun c28 => ?_)
 replace c28 : (fnV f) = false := Bool.eq_false_iff.2 c28
 have hV_ : ¬ fnV f = true := by have h_ := c28; simp_all
 refine zsp <| zre <| zbr <| zbr <| zo1 (.int .i64 4) ?_
 have M29 := M27.od [] 0
 have hb_ : ¬ fnsTo m.fns m.fns.length := fns_no hf (by omega) (fun h_ => hV_ h_.1)
 exact ⟨by rw [validT_4 hnl (fun h_ => hb_ h_.1)], M29⟩
 replace c28 : (fnV f) = true := Classical.not_not.1 c28
 have hV_ : fnV f = true := by have h_ := c28; simp_all
 refine zsk <| zsp <| zbk 2 ?_
 intro aC fr
 refine zlp (fun n_ a_ w_ => ∃ (k : Nat), n_ = j - k ∧ Fr a_ 79 [(1, (pT b1 0)), (3, (nV j)), (4, (nV k))] ∧ Mem noS w w_ [.blk b1 25 [(.string m.pkg), (.slice m.fA m.fns.length m.fc), (.slice m.dA m.dats.length m.dc)]] ∧ (k ≤ j) ∧ (f.nm ∉ (m.fns.take k).map (·.nm))) (n := _) ⟨0, rfl, fr.kp [1, 3, 4], M27, Nat.zero_le _, nin_zero _⟩ ?_
 clear fr aC M27; rintro n aC w32 ⟨k, rfl, fr, M33, hk, hkn⟩
 revert aC
 refine zsq <| zsp <| zcD (((k : Int) : Int) < (j : Int)) (fun c36 => ?_) (fun c36 => ?_)
 refine zsk <| zsq <| zbk 3 <| zsq ?_
 obtain ⟨fk, hfk⟩ := get_of (l := m.fns) (i := k) (by omega)
 obtain ⟨ad37, had38⟩ := rds_some (M33.ro hR.m_fns) (cs := fk.cells) (i := k) (by rw [List.getElem?_map, hfk]; rfl)
 obtain ⟨ad39, had40⟩ := rds_some (M33.ro hR.m_fns) (cs := f.cells) (i := j) (by rw [List.getElem?_map, hf]; rfl)
 obtain ⟨B41, hB41⟩ : ∃ B : Bool, B = ((fk.nm : ByteArray).toList == (f.nm : ByteArray).toList) := ⟨_, rfl⟩
 refine zkp [(1, (pT b1 0)), (3, (nV j)), (4, (nV k))] ?_
 intro aC fr
 refine zdr (N := 79) (env0 := [(1, (pT b1 0)), (3, (nV j)), (4, (nV k))]) (specAt [.det (pT b1 1), .det (.slice m.fA m.fns.length m.fc), .det (nV k), .det (.pointer (some ((ad37 : Addr).add (((k : Int)).toNat * 5)))), .det (.pointer (some ((ad37 : Addr).add (((k : Int)).toNat * 5)))), .det (.string fk.nm), .det (pT b1 1), .det (.slice m.fA m.fns.length m.fc), .det (nV j), .det (.pointer (some ((ad39 : Addr).add (((j : Int)).toNat * 5)))), .det (.pointer (some ((ad39 : Addr).add (((j : Int)).toNat * 5)))), .det (.string f.nm), .det (.bool B41)]) fr (la (la (la (la (la (la (la (la (la (la (la (la (la lz dP) (dL ⟨b1, 1, none⟩ (.slice m.fA m.fns.length m.fc) fun w_ hK => (blk_cell ((M33.then_ hK).get 0 rfl) rfl))) dP) (dIA m.fA ad37 m.fns.length 5 (k : Int) had38)) dP) (dL ((ad37 : Addr).add (((k : Int)).toNat * 5)) (.string fk.nm) fun w_ hK => (rds_get ((M33.then_ hK).ro hR.m_fns) had38 (i := k) (cs := fk.cells) (by rw [List.getElem?_map, hfk]; rfl) 0 _ rfl))) dP) (dL ⟨b1, 1, none⟩ (.slice m.fA m.fns.length m.fc) fun w_ hK => (blk_cell ((M33.then_ hK).get 0 rfl) rfl))) dP) (dIA m.fA ad39 m.fns.length 5 (j : Int) had40)) dP) (dL ((ad39 : Addr).add (((j : Int)).toNat * 5)) (.string f.nm) fun w_ hK => (rds_get ((M33.then_ hK).ro hR.m_fns) had40 (i := j) (cs := f.cells) (by rw [List.getElem?_map, hf]; rfl) 0 _ rfl))) (dPe hB41)) ?_
 intro aC w46 vs hK hv fr
 revert aC; refine zkp [(1, (pT b1 0)), (3, (nV j)), (4, (nV k)), (46, (.bool B41))] ?_
 have M47 := M33.then_ hK
 clear hK hv fr aC M33; clear vs
 have iB41 : B41 = true ↔ ((fk.nm).toList = (f.nm).toList) := by rw [hB41]; simp only [beq_iff_eq]
 clear hB41
 refine zcP B41 ((fk.nm).toList = (f.nm).toList) iB41 (fun c48 => ?_) (fun c48 => ?_)
 refine zsp <| zre <| zbr <| zbr <| zbr <| zbr <| zo1 (.int .i64 4) ?_
 have M49 := M47.od [] 0
 have hb_ : ¬ fnsTo m.fns m.fns.length := fns_no hf (by omega) (fun h_ => h_.2 (nin_no (k := k) (by omega) hfk (ba_same.1 c48)))
 exact ⟨by rw [validT_4 hnl (fun h_ => hb_ h_.1)], M49⟩
 refine zsk <| zrg <| zpn 1 <| zar ((k : Int) + 1) <| zpn 1 <| zfe ?_
 intro aC fr
 exact ⟨j - (k + 1), by omega, k + 1, rfl, fr.kp [1, 3, 4], M47, by omega, nin_succ hkn hfk (fun h_ => c48 (ba_same.2 h_))⟩
 refine zex 2 <| zbh <| zrg ?_
 obtain rfl : j = k := by omega
 refine zpn 1 <| zar ((j : Int) + 1) <| zpn 1 <| zfe ?_
 intro aC fr
 exact ⟨m.fns.length - (j + 1), by omega, j + 1, rfl, fr.kp [1, 3], M33, by omega, fnsTo_succ hr hf hV_ hkn⟩
 refine zex 0 <| zbh <| zsq <| zsp <| zbk 4 ?_
 obtain rfl : j = m.fns.length := by omega
 have hfT := hr
 clear hr hj
 intro aC fr
 refine zlp (fun n_ a_ w_ => ∃ (j : Nat), n_ = m.dats.length - j ∧ Fr a_ 79 [(1, (pT b1 0)), (5, (nV j))] ∧ Mem noS w w_ [.blk b1 25 [(.string m.pkg), (.slice m.fA m.fns.length m.fc), (.slice m.dA m.dats.length m.dc)]] ∧ (j ≤ m.dats.length) ∧ (datsTo m.dats j)) (n := _) ⟨0, rfl, fr.kp [1, 5], M16, Nat.zero_le _, datsTo_zero _⟩ ?_
 clear fr aC M16; rintro n aC w56 ⟨j, rfl, fr, M57, hj, hr⟩
 revert aC
 refine zsq <| zsr <| zpn 2 <| zld ⟨b1, 2, none⟩ (.slice m.dA m.dats.length m.dc) (blk_cell (M57.get 0 rfl) rfl) <| zpn 2 <| zfe <| zcD (((j : Int) : Int) < ((m.dats.length : Nat) : Int)) (fun c60 => ?_) (fun c60 => ?_)
 refine zsk <| zsq <| zbk 5 <| zsq <| zsr ?_
 obtain ⟨d, hd⟩ := get_of (l := m.dats) (i := j) (by omega)
 have hdm := List.mem_of_getElem? hd
 have hdI := hI.dats d hdm
 refine zpn 1 <| zld ⟨b1, 2, none⟩ (.slice m.dA m.dats.length m.dc) (blk_cell (M57.get 0 rfl) rfl) <| zpn 1 ?_
 obtain ⟨ad61, had62⟩ := rds_some (M57.ro hR.m_dats) (cs := d.cells) (i := j) (by rw [List.getElem?_map, hd]; rfl)
 intro aC fr
 refine From_ixA (some 57) m.dA ad61 m.dats.length 4 (j : Int) fr (by kernel_rfl) had62 (by omega) (by omega) ?_
 intro aC fr
 revert aC
 refine zls ((ad61 : Addr).add (((j : Int)).toNat * 4)) [(.string d.nm), (.bool d.wk), (.slice d.wA d.words.length d.wc), (.slice d.rA d.refs.length d.rc)] (rds_cells (i := j) (M57.ro hR.m_dats) had62 (by rw [List.getElem?_map, hd]; rfl)) ?_
 refine zcl (rdata_c d w56 ((hR.m_refs hdm).at_ M57) hdI) ?_
 rintro _ w67 ⟨rfl, M68x⟩
 have M68 := M57.cl M68x
 refine zpn 1 <| zfe <| zcP (!(decide (datQ d))) (¬ (datQ d)) (by simp only [notT, decide_eq_true_eq]) (fun c69 => ?_) (fun c69 => ?_)
 have hV_ : ¬ datQ d := by have h_ := c69; simp_all
 refine zsp <| zre <| zbr <| zbr <| zo1 (.int .i64 4) ?_
 have M70 := M68.od [] 0
 have hb_ : ¬ datsTo m.dats m.dats.length := dats_no hd (by omega) (fun h_ => hV_ h_.1)
 exact ⟨by rw [validT_4 hnl (fun h_ => hb_ h_.2)], M70⟩
 have hV_ : datQ d := by have h_ := c69; simp_all
 refine zsk <| zsp <| zbk 6 ?_
 intro aC fr
 refine zlp (fun n_ a_ w_ => ∃ (k : Nat), n_ = j - k ∧ Fr a_ 79 [(1, (pT b1 0)), (5, (nV j)), (6, (nV k))] ∧ Mem noS w w_ [.blk b1 25 [(.string m.pkg), (.slice m.fA m.fns.length m.fc), (.slice m.dA m.dats.length m.dc)]] ∧ (k ≤ j) ∧ (d.nm ∉ (m.dats.take k).map (·.nm))) (n := _) ⟨0, rfl, fr.kp [1, 5, 6], M68, Nat.zero_le _, nin_zero _⟩ ?_
 clear fr aC M68; rintro n aC w73 ⟨k, rfl, fr, M74, hk, hkn⟩
 revert aC
 refine zsq <| zsp <| zcD (((k : Int) : Int) < (j : Int)) (fun c77 => ?_) (fun c77 => ?_)
 refine zsk <| zsq <| zbk 7 <| zsq ?_
 obtain ⟨dk, hdk⟩ := get_of (l := m.dats) (i := k) (by omega)
 obtain ⟨ad78, had79⟩ := rds_some (M74.ro hR.m_dats) (cs := dk.cells) (i := k) (by rw [List.getElem?_map, hdk]; rfl)
 obtain ⟨ad80, had81⟩ := rds_some (M74.ro hR.m_dats) (cs := d.cells) (i := j) (by rw [List.getElem?_map, hd]; rfl)
 obtain ⟨B82, hB82⟩ : ∃ B : Bool, B = ((dk.nm : ByteArray).toList == (d.nm : ByteArray).toList) := ⟨_, rfl⟩
 refine zkp [(1, (pT b1 0)), (5, (nV j)), (6, (nV k))] ?_
 intro aC fr
 refine zdr (N := 79) (env0 := [(1, (pT b1 0)), (5, (nV j)), (6, (nV k))]) (specAt [.det (pT b1 2), .det (.slice m.dA m.dats.length m.dc), .det (nV k), .det (.pointer (some ((ad78 : Addr).add (((k : Int)).toNat * 4)))), .det (.pointer (some ((ad78 : Addr).add (((k : Int)).toNat * 4)))), .det (.string dk.nm), .det (pT b1 2), .det (.slice m.dA m.dats.length m.dc), .det (nV j), .det (.pointer (some ((ad80 : Addr).add (((j : Int)).toNat * 4)))), .det (.pointer (some ((ad80 : Addr).add (((j : Int)).toNat * 4)))), .det (.string d.nm), .det (.bool B82)]) fr (la (la (la (la (la (la (la (la (la (la (la (la (la lz dP) (dL ⟨b1, 2, none⟩ (.slice m.dA m.dats.length m.dc) fun w_ hK => (blk_cell ((M74.then_ hK).get 0 rfl) rfl))) dP) (dIA m.dA ad78 m.dats.length 4 (k : Int) had79)) dP) (dL ((ad78 : Addr).add (((k : Int)).toNat * 4)) (.string dk.nm) fun w_ hK => (rds_get ((M74.then_ hK).ro hR.m_dats) had79 (i := k) (cs := dk.cells) (by rw [List.getElem?_map, hdk]; rfl) 0 _ rfl))) dP) (dL ⟨b1, 2, none⟩ (.slice m.dA m.dats.length m.dc) fun w_ hK => (blk_cell ((M74.then_ hK).get 0 rfl) rfl))) dP) (dIA m.dA ad80 m.dats.length 4 (j : Int) had81)) dP) (dL ((ad80 : Addr).add (((j : Int)).toNat * 4)) (.string d.nm) fun w_ hK => (rds_get ((M74.then_ hK).ro hR.m_dats) had81 (i := j) (cs := d.cells) (by rw [List.getElem?_map, hd]; rfl) 0 _ rfl))) (dPe hB82)) ?_
 intro aC w87 vs hK hv fr
 revert aC; refine zkp [(1, (pT b1 0)), (5, (nV j)), (6, (nV k)), (78, (.bool B82))] ?_
 have M88 := M74.then_ hK
 clear hK hv fr aC M74; clear vs
 have iB82 : B82 = true ↔ ((dk.nm).toList = (d.nm).toList) := by rw [hB82]; simp only [beq_iff_eq]
 clear hB82
 refine zcP B82 ((dk.nm).toList = (d.nm).toList) iB82 (fun c89 => ?_) (fun c89 => ?_)
 refine zsp <| zre <| zbr <| zbr <| zbr <| zbr <| zo1 (.int .i64 4) ?_
 have M90 := M88.od [] 0
 have hb_ : ¬ datsTo m.dats m.dats.length := dats_no hd (by omega) (fun h_ => h_.2 (nin_no (k := k) (by omega) hdk (ba_same.1 c89)))
 exact ⟨by rw [validT_4 hnl (fun h_ => hb_ h_.2)], M90⟩
 refine zsk <| zrg <| zpn 1 <| zar ((k : Int) + 1) <| zpn 1 <| zfe ?_
 intro aC fr
 exact ⟨j - (k + 1), by omega, k + 1, rfl, fr.kp [1, 5, 6], M88, by omega, nin_succ hkn hdk (fun h_ => c89 (ba_same.2 h_))⟩
 refine zex 6 <| zbh <| zrg ?_
 obtain rfl : j = k := by omega
 refine zpn 1 <| zar ((j : Int) + 1) <| zpn 1 <| zfe ?_
 intro aC fr
 exact ⟨m.dats.length - (j + 1), by omega, j + 1, rfl, fr.kp [1, 5], M74, by omega, datsTo_succ hr hd hV_ hkn⟩
 refine zex 4 <| zbh <| zsp <| zre <| zo1 (.int .i64 0) ?_
 have M95 := M57.od [] 0
 obtain rfl : j = m.dats.length := by omega
 exact ⟨by rw [validT_0 hnl hfT hr], M95⟩
 have c7 : ((r4 : Int) > 20000) := iB7.1 rfl
 refine zpn 4 <| zfe <| zcT <| zsr ?_
 have hlq : largeQ m := by unfold largeQ; omega
 refine zpn 1 <| zfe <| zre <| zo1 (.int .i64 12) ?_
 have M96 := M6.od [] 0
 exact ⟨by rw [validT_12 hlq], M96⟩
end Go.Proofs.Ytdcgcjibgihbbaa
namespace Go.Proofs.Ytdcgcjibgihbbaa
open Go.Mor
theorem rpure_c (e : MEx) (ih : ∀ k, k ∈ e.kids → RPlOk Try.prog k) (T : List Res) (w : World) (hT : RO noS w (.all T)) (hs : SubE T e) (hI : exI e) :
    Calls Try.prog 65 #[(.agg #[(.int .i64 e.op), (.int .i64 e.n), (.string e.nm), (.slice e.A e.kids.length e.c)])] w (Ret fun v w' => v = .bool (plV e) ∧ Mem noS w w' []) := by
 have hkl := hI.own.kids
 unfold LenOk at hkl
 refine zen 26 [(.agg #[(.int .i64 e.op), (.int .i64 e.n), (.string e.nm), (.slice e.A e.kids.length e.c)])] Try.func65 ?_
 have hM := Mem.init w
 refine zsr <| zbx hM 53 (.agg #[(.int .i64 e.op), (.int .i64 e.n), (.string e.nm), (.slice e.A e.kids.length e.c)]) [(.int .i64 e.op), (.int .i64 e.n), (.string e.nm), (.slice e.A e.kids.length e.c)] fun b1 w2 hb1 M3 => ?_
 replace M3 := M3.nf
 clear hM
 refine zpn 1 <| zfe <| zsq <| zsr <| zpn 1 <| zld ⟨b1, 0, none⟩ (.int .i64 e.op) (blk_cell (M3.get 0 rfl) rfl) <| zfe <| zbk 0 <| zsq <| zsp ?_
 obtain ⟨B4, hB4⟩ : ∃ B : Bool, B = ((e.op : Int) == 6) := ⟨_, rfl⟩
 refine zkp [(1, (pT b1 0)), (5, (.int .i64 e.op)), (6, (.bool ((e.op : Int) == 6)))] ?_
 rw [← hB4]
 have iB4 : B4 = true ↔ ((e.op : Int) = 6) := by rw [hB4]; simp only [beq_iff_eq]
 clear hB4
 cases B4
 have c4 : ¬ ((e.op : Int) = 6) := (fun h => Bool.noConfusion (iB4.2 h) : ¬ ((e.op : Int) = 6))
 refine zcF <| zsp ?_
 obtain ⟨B5, hB5⟩ : ∃ B : Bool, B = ((e.op : Int) == 7) := ⟨_, rfl⟩
 refine zkp [(1, (pT b1 0)), (5, (.int .i64 e.op)), (6, (.bool ((e.op : Int) == 7)))] ?_
 rw [← hB5]
 have iB5 : B5 = true ↔ ((e.op : Int) = 7) := by rw [hB5]; simp only [beq_iff_eq]
 clear hB5
 cases B5
 have c5 : ¬ ((e.op : Int) = 7) := (fun h => Bool.noConfusion (iB5.2 h) : ¬ ((e.op : Int) = 7))
 refine zcF <| zsp ?_
 obtain ⟨B6, hB6⟩ : ∃ B : Bool, B = ((e.op : Int) == 10) := ⟨_, rfl⟩
 refine zkp [(1, (pT b1 0)), (5, (.int .i64 e.op)), (6, (.bool ((e.op : Int) == 10)))] ?_
 rw [← hB6]
 have iB6 : B6 = true ↔ ((e.op : Int) = 10) := by rw [hB6]; simp only [beq_iff_eq]
 clear hB6
 cases B6
 have c6 : ¬ ((e.op : Int) = 10) := (fun h => Bool.noConfusion (iB6.2 h) : ¬ ((e.op : Int) = 10))
 refine zcF <| zsp ?_
 obtain ⟨B7, hB7⟩ : ∃ B : Bool, B = ((e.op : Int) == 11) := ⟨_, rfl⟩
 refine zkp [(1, (pT b1 0)), (5, (.int .i64 e.op)), (6, (.bool ((e.op : Int) == 11)))] ?_
 rw [← hB7]
 have iB7 : B7 = true ↔ ((e.op : Int) = 11) := by rw [hB7]; simp only [beq_iff_eq]
 clear hB7
 cases B7
 have c7 : ¬ ((e.op : Int) = 11) := (fun h => Bool.noConfusion (iB7.2 h) : ¬ ((e.op : Int) = 11))
 refine zcF <| zrp <| zcP ((e.op : Int) == 13) ((e.op : Int) = 13) (by simp only [beq_iff_eq]) (fun c8 => ?_) (fun c8 => ?_)
 refine zsp <| zre <| zbr <| zo1 (.bool false) ?_
 have M9 := M3.od [] 0
 exact ⟨congrArg Value.bool (show plV e = false by rw [plV_eq, decide_eq_true (by omega), Bool.not_true, Bool.false_and]).symm, M9⟩
 refine zsk <| zsq <| zsp <| zbk 1 ?_
 intro aC fr
 refine zlp (fun n_ a_ w_ => ∃ (j : Nat), n_ = e.kids.length - j ∧ Fr a_ 26 [(1, (pT b1 0)), (3, (nV j))] ∧ Mem noS w w_ [.blk b1 53 [(.int .i64 e.op), (.int .i64 e.n), (.string e.nm), (.slice e.A e.kids.length e.c)]] ∧ (j ≤ e.kids.length) ∧ (plsV e.kids = plsV (e.kids.drop j))) (n := _) ⟨0, rfl, fr.kp [1, 3], M3, Nat.zero_le _, (by rw [List.drop_zero])⟩ ?_
 clear fr aC M3; rintro n aC w12 ⟨j, rfl, fr, M13, hj, hr⟩
 revert aC
 refine zsq <| zsr <| zpn 2 <| zld ⟨b1, 3, none⟩ (.slice e.A e.kids.length e.c) (blk_cell (M13.get 0 rfl) rfl) <| zpn 2 <| zfe <| zcD (((j : Int) : Int) < ((e.kids.length : Nat) : Int)) (fun c16 => ?_) (fun c16 => ?_)
 refine zsk <| zsq <| zbk 2 <| zsr ?_
 obtain ⟨k, hk⟩ := get_of (l := e.kids) (i := j) (by omega)
 have hkm := List.mem_of_getElem? hk
 refine zpn 1 <| zld ⟨b1, 3, none⟩ (.slice e.A e.kids.length e.c) (blk_cell (M13.get 0 rfl) rfl) <| zpn 1 ?_
 obtain ⟨ad17, had18⟩ := rds_some (M13.ro (hT.sub hs.kids.1)) (cs := k.cells) (i := j) (by rw [List.getElem?_map, hk]; rfl)
 intro aC fr
 refine From_ixA (some 22) e.A ad17 e.kids.length 4 (j : Int) fr (by kernel_rfl) had18 (by omega) (by omega) ?_
 intro aC fr
 revert aC
 refine zls ((ad17 : Addr).add (((j : Int)).toNat * 4)) [(.int .i64 k.op), (.int .i64 k.n), (.string k.nm), (.slice k.A k.kids.length k.c)] (rds_cells (i := j) (M13.ro (hT.sub hs.kids.1)) had18 (by rw [List.getElem?_map, hk]; rfl)) ?_
 refine zcl (ih k hkm T w12 (hT.at_ M13) (hs.kids.2 k hkm) (exsI_mem hI.kids hkm)) ?_
 rintro _ w23 ⟨rfl, M24x⟩
 have M24 := M13.cl M24x
 refine zpn 1 <| zfe <| zcP (!(plV k)) (¬ ((plV k) = true)) (by simp only [notT]) (fun c25 => ?_) (fun c25 => ?_)
 replace c25 : (plV k) = false := Bool.eq_false_iff.2 c25
 have ck_ : plV k = false := by simpa using c25
 refine zsp <| zre <| zbr <| zbr <| zo1 (.bool false) ?_
 have M26 := M24.od [] 0
 exact ⟨congrArg Value.bool (show plV e = false by rw [plV_eq, hr, plsV_at hk, ck_, Bool.false_and, Bool.and_false]).symm, M26⟩
 replace c25 : (plV k) = true := Classical.not_not.1 c25
 have ck_ : plV k = true := by simpa using c25
 refine zsk <| zrg <| zpn 1 <| zar ((j : Int) + 1) <| zkp [(1, (pT b1 0)), (18, (.int .i64 ((j : Int) + 1)))] <| zpn 1 <| zfe ?_
 intro aC fr
 exact ⟨e.kids.length - (j + 1), by omega, j + 1, rfl, fr.kp [1, 3], M24, by omega, hr.trans (by rw [plsV_at hk, ck_, Bool.true_and])⟩
 refine zex 1 <| zbh <| zsp <| zre <| zo1 (.bool true) ?_
 have M29 := M13.od [] 0
 exact ⟨congrArg Value.bool (show plV e = true by rw [plV_eq, decide_eq_false (by omega), hr, List.drop_eq_nil_of_le (by omega), plsV, Bool.not_false, Bool.true_and]).symm, M29⟩
 have c7 : ((e.op : Int) = 11) := iB7.1 rfl
 refine zcT <| zsk <| zcT <| zsp <| zre <| zbr <| zo1 (.bool false) ?_
 have M30 := M3.od [] 0
 exact ⟨congrArg Value.bool (show plV e = false by rw [plV_eq, decide_eq_true (by omega), Bool.not_true, Bool.false_and]).symm, M30⟩
 have c6 : ((e.op : Int) = 10) := iB6.1 rfl
 refine zcT <| zsk <| zcT <| zsp <| zre <| zbr <| zo1 (.bool false) ?_
 have M31 := M3.od [] 0
 exact ⟨congrArg Value.bool (show plV e = false by rw [plV_eq, decide_eq_true (by omega), Bool.not_true, Bool.false_and]).symm, M31⟩
 have c5 : ((e.op : Int) = 7) := iB5.1 rfl
 refine zcT <| zsk <| zcT <| zsp <| zre <| zbr <| zo1 (.bool false) ?_
 have M32 := M3.od [] 0
 exact ⟨congrArg Value.bool (show plV e = false by rw [plV_eq, decide_eq_true (by omega), Bool.not_true, Bool.false_and]).symm, M32⟩
 have c4 : ((e.op : Int) = 6) := iB4.1 rfl
 refine zcT <| zsk <| zcT <| zsp <| zre <| zbr <| zo1 (.bool false) ?_
 have M33 := M3.od [] 0
 exact ⟨congrArg Value.bool (show plV e = false by rw [plV_eq, decide_eq_true (by omega), Bool.not_true, Bool.false_and]).symm, M33⟩
theorem rpure_all (e : MEx) : RPlOk Try.prog e := MEx.ind (fun e ih T w hT hs hI => rpure_c e ih T w hT hs hI) e
theorem rsize_c (f : TFn) (T : List Res) (w : World) (hT : RO noS w (.all T)) (hs : SubXs T f.A f.body) (hI : f.In) (hN : stsN f.body ≤ 1000000000) :
    Calls Try.prog 22 #[(.agg #[(.string f.nm), (.bool f.wk), (.int .i64 f.pa), (.int .i64 f.lo), (.slice f.A f.body.length f.c)])] w (Ret fun v w' => v = .int .i64 (stsN f.body : Int) ∧ Mem noS w w' []) := by
 refine zen 6 [(.agg #[(.string f.nm), (.bool f.wk), (.int .i64 f.pa), (.int .i64 f.lo), (.slice f.A f.body.length f.c)])] Try.func22 ?_
 have hM := Mem.init w
 refine zsr <| zbx hM 45 (.agg #[(.string f.nm), (.bool f.wk), (.int .i64 f.pa), (.int .i64 f.lo), (.slice f.A f.body.length f.c)]) [(.string f.nm), (.bool f.wk), (.int .i64 f.pa), (.int .i64 f.lo), (.slice f.A f.body.length f.c)] fun b1 w2 hb1 M3 => ?_
 replace M3 := M3.nf
 clear hM
 refine zpn 1 <| zfe <| zsr <| zpn 1 <| zld ⟨b1, 4, none⟩ (.slice f.A f.body.length f.c) (blk_cell (M3.get 0 rfl) rfl) <| zcl (tsck_all f.body f.A f.c 1073741824 T w2 (by decide) (by decide) (hT.at_ M3) hs hI.body hI.len) ?_
 rintro _ w5 ⟨r4, rfl, ⟨hrk, hrb⟩, M6x⟩
 have M6 := M3.cl M6x
 have hre := hrk.eq (by omega)
 refine zpn 1 <| zfe <| zre <| zo1 (.int .i64 r4) ?_
 have M7 := M6.od [] 0
 exact ⟨by rw [hre, Int.zero_add], M7⟩
theorem rissmall_c (f : TFn) (T : List Res) (w : World) (hT : RO noS w (.all T)) (hs : SubXs T f.A f.body) (hI : f.In) (hN : stsN f.body ≤ 1000000000) :
    Calls Try.prog 45 #[(.agg #[(.string f.nm), (.bool f.wk), (.int .i64 f.pa), (.int .i64 f.lo), (.slice f.A f.body.length f.c)])] w (Ret fun v w' => v = .bool (decide (smQ f)) ∧ Mem noS w w' []) := by
 have h1_ := hI.len
 unfold LenOk at h1_
 refine zen 39 [(.agg #[(.string f.nm), (.bool f.wk), (.int .i64 f.pa), (.int .i64 f.lo), (.slice f.A f.body.length f.c)])] Try.func45 ?_
 have hM := Mem.init w
 refine zsr <| zbx hM 45 (.agg #[(.string f.nm), (.bool f.wk), (.int .i64 f.pa), (.int .i64 f.lo), (.slice f.A f.body.length f.c)]) [(.string f.nm), (.bool f.wk), (.int .i64 f.pa), (.int .i64 f.lo), (.slice f.A f.body.length f.c)] fun b1 w2 hb1 M3 => ?_
 replace M3 := M3.nf
 clear hM
 refine zpn 1 <| zfe <| zsr <| zpn 1 <| zld ⟨b1, 4, none⟩ (.slice f.A f.body.length f.c) (blk_cell (M3.get 0 rfl) rfl) <| zpn 3 ?_
 obtain ⟨B4, hB4⟩ : ∃ B : Bool, B = ((((f.body.length : Nat) : Int) : Int) == 1) := ⟨_, rfl⟩
 refine zkp [(1, (pT b1 0)), (7, (.bool ((((f.body.length : Nat) : Int) : Int) == 1)))] ?_
 rw [← hB4]
 have iB4 : B4 = true ↔ ((((f.body.length : Nat) : Int) : Int) = 1) := by rw [hB4]; simp only [beq_iff_eq]
 clear hB4
 intro aC fr
 refine zpk 1 6 [8] fr (news := [(8, (cond B4 (pT b1 4) undef))]) (by cases B4 <;> kernel_rfl) ?_
 intro aC fr
 cases B4
 have c4 : ¬ ((((f.body.length : Nat) : Int) : Int) = 1) := (fun h => Bool.noConfusion (iB4.2 h) : ¬ ((((f.body.length : Nat) : Int) : Int) = 1))
 revert aC
 refine zpn 31 <| zfe <| zre <| zo1 (.bool false) ?_
 have hR : false = true ↔ False := by simp
 have M9 := M3.od [] 0
 exact ⟨bool_dec hR (⟨False.elim, fun h_ => smQ_1 (by have h_ := c4; omega) h_⟩), M9⟩
 have c4 : ((((f.body.length : Nat) : Int) : Int) = 1) := iB4.1 rfl
 have hbl : f.body.length = 1 := by have h_ := c4; omega
 obtain ⟨x, hb⟩ : ∃ x, f.body = [x] := List.length_eq_one_iff.1 hbl
 have hxm : x ∈ f.body := by rw [hb]; exact List.mem_cons_self ..
 have hsx := hs.2 x hxm
 have hxI := stsI_mem hI.body hxm
 revert aC
 refine zld ⟨b1, 4, none⟩ (.slice f.A f.body.length f.c) (blk_cell (M3.get 0 rfl) rfl) ?_
 obtain ⟨ad10, had11⟩ := rds_some (M3.ro (hT.sub hs.1)) (cs := x.cells) (i := 0) (by rw [List.getElem?_map, hb]; rfl)
 intro aC fr
 refine From_ixA (some 10) f.A ad10 f.body.length 5 0 fr (by kernel_rfl) had11 (by omega) (by omega) ?_
 intro aC fr
 revert aC
 refine zpn 1 ?_
 refine zld ((ad10 : Addr).add ((0 : Int).toNat * 5)) (.int .i64 x.op) (rds_get (M3.ro (hT.sub hs.1)) had11 (i := 0) (cs := x.cells) (by rw [List.getElem?_map, hb]; rfl) 0 _ rfl) ?_
 refine zpn 3 ?_
 obtain ⟨B16, hB16⟩ : ∃ B : Bool, B = ((x.op : Int) == 9) := ⟨_, rfl⟩
 refine zkp [(1, (pT b1 0)), (15, (.bool ((x.op : Int) == 9)))] ?_
 rw [← hB16]
 have iB16 : B16 = true ↔ ((x.op : Int) = 9) := by rw [hB16]; simp only [beq_iff_eq]
 clear hB16
 intro aC fr
 refine zpk 1 14 [16] fr (news := [(16, (cond B16 (pT b1 4) undef))]) (by cases B16 <;> kernel_rfl) ?_
 intro aC fr
 cases B16
 have c16 : ¬ ((x.op : Int) = 9) := (fun h => Bool.noConfusion (iB16.2 h) : ¬ ((x.op : Int) = 9))
 revert aC
 refine zpn 23 <| zfe <| zre <| zo1 (.bool false) ?_
 have hR : false = true ↔ False := by simp
 have M21 := M3.od [] 0
 exact ⟨bool_dec hR (⟨False.elim, fun h_ => smQ_2 hb (by have h_ := c16; omega) h_⟩), M21⟩
 have c16 : ((x.op : Int) = 9) := iB16.1 rfl
 have h9 : x.op = 9 := by have h_ := c16; omega
 revert aC
 refine zld ⟨b1, 4, none⟩ (.slice f.A f.body.length f.c) (blk_cell (M3.get 0 rfl) rfl) ?_
 obtain ⟨ad22, had23⟩ := rds_some (M3.ro (hT.sub hs.1)) (cs := x.cells) (i := 0) (by rw [List.getElem?_map, hb]; rfl)
 intro aC fr
 refine From_ixA (some 18) f.A ad22 f.body.length 5 0 fr (by kernel_rfl) had23 (by omega) (by omega) ?_
 intro aC fr
 revert aC
 refine zpn 1 ?_
 refine zld (((ad22 : Addr).add ((0 : Int).toNat * 5)).add 2) (.slice x.eA x.exprs.length x.ec) (rds_get (M3.ro (hT.sub hs.1)) had23 (i := 0) (cs := x.cells) (by rw [List.getElem?_map, hb]; rfl) 2 _ rfl) ?_
 refine zpn 4 ?_
 obtain ⟨B28, hB28⟩ : ∃ B : Bool, B = ((((x.exprs.length : Nat) : Int) : Int) == 1) := ⟨_, rfl⟩
 refine zkp [(1, (pT b1 0)), (24, (.bool ((((x.exprs.length : Nat) : Int) : Int) == 1)))] ?_
 rw [← hB28]
 have iB28 : B28 = true ↔ ((((x.exprs.length : Nat) : Int) : Int) = 1) := by rw [hB28]; simp only [beq_iff_eq]
 clear hB28
 intro aC fr
 refine zpk 1 23 [25] fr (news := [(25, (cond B28 (pT b1 4) undef))]) (by cases B28 <;> kernel_rfl) ?_
 intro aC fr
 cases B28
 have c28 : ¬ ((((x.exprs.length : Nat) : Int) : Int) = 1) := (fun h => Bool.noConfusion (iB28.2 h) : ¬ ((((x.exprs.length : Nat) : Int) : Int) = 1))
 revert aC
 refine zpn 14 <| zfe <| zre <| zo1 (.bool false) ?_
 have hR : false = true ↔ False := by simp
 have M33 := M3.od [] 0
 exact ⟨bool_dec hR (⟨False.elim, fun h_ => smQ_3 hb (by have h_ := c28; omega) h_⟩), M33⟩
 have c28 : ((((x.exprs.length : Nat) : Int) : Int) = 1) := iB28.1 rfl
 have hel : x.exprs.length = 1 := by have h_ := c28; omega
 obtain ⟨e, he⟩ : ∃ e, x.exprs = [e] := List.length_eq_one_iff.1 hel
 have hem : e ∈ x.exprs := by rw [he]; exact List.mem_cons_self ..
 have heI := exsI_mem hxI.exprs hem
 revert aC
 refine zld ⟨b1, 4, none⟩ (.slice f.A f.body.length f.c) (blk_cell (M3.get 0 rfl) rfl) ?_
 obtain ⟨ad34, had35⟩ := rds_some (M3.ro (hT.sub hs.1)) (cs := x.cells) (i := 0) (by rw [List.getElem?_map, hb]; rfl)
 intro aC fr
 refine From_ixA (some 27) f.A ad34 f.body.length 5 0 fr (by kernel_rfl) had35 (by omega) (by omega) ?_
 intro aC fr
 revert aC
 refine zpn 1 ?_
 refine zld (((ad34 : Addr).add ((0 : Int).toNat * 5)).add 2) (.slice x.eA x.exprs.length x.ec) (rds_get (M3.ro (hT.sub hs.1)) had35 (i := 0) (cs := x.cells) (by rw [List.getElem?_map, hb]; rfl) 2 _ rfl) ?_
 obtain ⟨ad40, had41⟩ := rds_some (M3.ro (hT.sub hsx.exprs.1)) (cs := e.cells) (i := 0) (by rw [List.getElem?_map, he]; rfl)
 intro aC fr
 refine From_ixA (some 30) x.eA ad40 x.exprs.length 4 0 fr (by kernel_rfl) had41 (by omega) (by omega) ?_
 intro aC fr
 revert aC
 refine zls ((ad40 : Addr).add ((0 : Int).toNat * 4)) [(.int .i64 e.op), (.int .i64 e.n), (.string e.nm), (.slice e.A e.kids.length e.c)] (rds_cells (i := 0) (M3.ro (hT.sub hsx.exprs.1)) had41 (by rw [List.getElem?_map, he]; rfl)) ?_
 refine zcl (rpure_all e T w2 (hT.at_ M3) (hsx.exprs.2 e hem) heI) ?_
 rintro _ w46 ⟨rfl, M47x⟩
 have M47 := M3.cl M47x
 refine zpn 2 ?_
 obtain ⟨B48, hB48⟩ : ∃ B : Bool, B = (plV e) := ⟨_, rfl⟩
 refine zkp [(1, (pT b1 0)), (34, (.bool (plV e)))] ?_
 rw [← hB48]
 have iB48 : B48 = true ↔ ((plV e) = true) := by rw [hB48]
 clear hB48
 cases B48
 have c48 : (plV e) = false := Bool.eq_false_iff.2 ((fun h => Bool.noConfusion (iB48.2 h) : ¬ ((plV e) = true)))
 refine zpn 5 <| zfe <| zre <| zo1 (.bool false) ?_
 have hR : false = true ↔ False := by simp
 have M49 := M47.od [] 0
 exact ⟨bool_dec hR (⟨False.elim, fun h_ => smQ_5 hb he (by have h_ := c48; simp_all) h_⟩), M49⟩
 have c48 : ((plV e) = true) := iB48.1 rfl
 have hpl : plV e = true := by have h_ := c48; simp_all
 refine zls ⟨b1, 0, none⟩ [(.string f.nm), (.bool f.wk), (.int .i64 f.pa), (.int .i64 f.lo), (.slice f.A f.body.length f.c)] (blk_cells (M47.get 0 rfl)) <| zcl (rsize_c f T w46 (hT.at_ M47) hs hI hN) ?_
 rintro _ w50 ⟨rfl, M51x⟩
 have M51 := M47.cl M51x
 refine zpn 3 <| zfe <| zre <| zo1 (.bool (decide (((stsN f.body : Int) : Int) ≤ 12))) ?_
 have hR : decide (((stsN f.body : Int) : Int) ≤ 12) = true ↔ (((stsN f.body : Int) : Int) ≤ 12) := by simp only [decide_eq_true_eq]
 have M52 := M51.od [] 0
 exact ⟨bool_dec hR (⟨fun h_ => smQ_y hb h9 he (by omega) hpl, fun h_ => by have h2_ := smQ_n h_; omega⟩), M52⟩
set_option maxHeartbeats 1000000 in
theorem rsmall_c (m : TMod) (w : World) (hR : RO noS w (.all m.parts)) (hI : m.In) :
    Calls Try.prog 20 #[(.agg #[(.string m.pkg), (.slice m.fA m.fns.length m.fc), (.slice m.dA m.dats.length m.dc)])] w (Ret fun v w' => ∃ (A : Option Addr) (c : Nat), v = .slice A (smallT m).length c ∧ Mem noS w w' [.row 45 5 A (smallT m).length c ((smallT m).flatMap TFn.cells)]) := by
 have hnf := hI.nf
 have hnd := hI.nd
 refine zen 30 [(.agg #[(.string m.pkg), (.slice m.fA m.fns.length m.fc), (.slice m.dA m.dats.length m.dc)])] Try.func20 ?_
 have hM := Mem.init w
 refine zsr <| zbx hM 25 (.agg #[(.string m.pkg), (.slice m.fA m.fns.length m.fc), (.slice m.dA m.dats.length m.dc)]) [(.string m.pkg), (.slice m.fA m.fns.length m.fc), (.slice m.dA m.dats.length m.dc)] fun b1 w2 hb1 M3 => ?_
 replace M3 := M3.nf
 clear hM
 refine zpn 1 <| zfe <| zsp <| zsq <| zsr <| zls ⟨b1, 0, none⟩ [(.string m.pkg), (.slice m.fA m.fns.length m.fc), (.slice m.dA m.dats.length m.dc)] (blk_cells (M3.get 0 rfl)) <| zcl (rvalid_c m w2 (hR.at_ M3) hI) ?_
 rintro _ w4 ⟨rfl, M5x⟩
 have M5 := M3.cl M5x
 refine zpn 1 <| zfe <| zcP (((validT m) : Int) != 0) (((validT m) : Int) ≠ 0) (by simp only [bne_iff_ne]) (fun c6 => ?_) (fun c6 => ?_)
 have hv0 : ¬ validT m = 0 := c6
 refine zsp <| zre <| zo1 (.slice none 0 0) ?_
 have M7 := M5.od [] 0
 exact ⟨none, 0, by unfold smallT; rw [if_neg hv0]; rfl, (M7.call (Mem.nilrow _ 45 5)).cast (by unfold smallT; rw [if_neg hv0]; rfl)⟩
 have hv0 : validT m = 0 := by have h_ := c6; omega
 refine zsk <| zsq <| zsp <| zbk 0 ?_
 have M8 : Mem noS w w4 [.blk b1 25 [(.string m.pkg), (.slice m.fA m.fns.length m.fc), (.slice m.dA m.dats.length m.dc)], .row 45 5 none ((smL m.fns 0).length) 0 ((smL m.fns 0).flatMap TFn.cells)] := (M5.call (Mem.nilrow _ 45 5)).cast rfl
 intro aC fr
 refine zlp (fun n_ a_ w_ => ∃ (j : Nat) (oA : Option Addr) (oc : Nat), n_ = m.fns.length - j ∧ Fr a_ 30 [(1, (pT b1 0)), (3, (.slice oA ((smL m.fns j).length) oc)), (4, (nV j))] ∧ Mem noS w w_ [.blk b1 25 [(.string m.pkg), (.slice m.fA m.fns.length m.fc), (.slice m.dA m.dats.length m.dc)], .row 45 5 oA ((smL m.fns j).length) oc ((smL m.fns j).flatMap TFn.cells)] ∧ (j ≤ m.fns.length)) (n := _) ⟨0, none, 0, rfl, fr.kp [1, 3, 4], M8, Nat.zero_le _⟩ ?_
 clear fr aC M8; rintro n aC w11 ⟨j, oA, oc, rfl, fr, M12, hj⟩
 revert aC
 refine zsq <| zsr <| zpn 2 <| zld ⟨b1, 1, none⟩ (.slice m.fA m.fns.length m.fc) (blk_cell (M12.get 0 rfl) rfl) <| zpn 2 <| zfe <| zcD (((j : Int) : Int) < ((m.fns.length : Nat) : Int)) (fun c15 => ?_) (fun c15 => ?_)
 refine zsk <| zsq <| zbk 1 <| zsr ?_
 obtain ⟨f, hf⟩ := get_of (l := m.fns) (i := j) (by omega)
 have hfm := List.mem_of_getElem? hf
 have hfI := hI.fns f hfm
 have hsl := smL_len (l := m.fns) (j := j)
 have hfN := stsN_le_fns hfm
 have hpp := hI.parts
 refine zpn 1 <| zld ⟨b1, 1, none⟩ (.slice m.fA m.fns.length m.fc) (blk_cell (M12.get 0 rfl) rfl) <| zpn 1 ?_
 obtain ⟨ad16, had17⟩ := rds_some (M12.ro hR.m_fns) (cs := f.cells) (i := j) (by rw [List.getElem?_map, hf]; rfl)
 intro aC fr
 refine From_ixA (some 18) m.fA ad16 m.fns.length 5 (j : Int) fr (by kernel_rfl) had17 (by omega) (by omega) ?_
 intro aC fr
 revert aC
 refine zls ((ad16 : Addr).add (((j : Int)).toNat * 5)) [(.string f.nm), (.bool f.wk), (.int .i64 f.pa), (.int .i64 f.lo), (.slice f.A f.body.length f.c)] (rds_cells (i := j) (M12.ro hR.m_fns) had17 (by rw [List.getElem?_map, hf]; rfl)) ?_
 refine zcl (rissmall_c f (m.fns.flatMap TFn.parts) w11 (hR.m_tree.at_ M12) (sub_fn hfm) hfI (by omega)) ?_
 rintro _ w22 ⟨rfl, M23x⟩
 have M23 := M12.cl M23x
 refine zfe <| zcD (smQ f) (fun c24 => ?_) (fun c24 => ?_)
 have hsy := smL_yes hf c24
 refine zrg <| zpn 2 <| zld ⟨b1, 1, none⟩ (.slice m.fA m.fns.length m.fc) (blk_cell (M23.get 0 rfl) rfl) <| zpn 1 ?_
 obtain ⟨ad25, had26⟩ := rds_some (M23.ro hR.m_fns) (cs := f.cells) (i := j) (by rw [List.getElem?_map, hf]; rfl)
 intro aC fr
 refine From_ixA (some 25) m.fA ad25 m.fns.length 5 (j : Int) fr (by kernel_rfl) had26 (by omega) (by omega) ?_
 intro aC fr
 revert aC
 refine zkp [(1, (pT b1 0)), (4, (nV j)), (21, (.slice oA ((smL m.fns j).length) oc)), (25, (.pointer (some ((ad25 : Addr).add (((j : Int)).toNat * 5)))))] ?_
 refine zls ((ad25 : Addr).add (((j : Int)).toNat * 5)) [(.string f.nm), (.bool f.wk), (.int .i64 f.pa), (.int .i64 f.lo), (.slice f.A f.body.length f.c)] (rds_cells (i := j) (M23.ro hR.m_fns) had26 (by rw [List.getElem?_map, hf]; rfl)) ?_
 intro aC fr
 refine zBs 27 22 1 #[(0, (.tmp 26))] 22 fr (e := 45) (size := 5) (zs := [(.string ⟨#[]⟩), (.bool false), (.int .i64 0), (.int .i64 0), (.slice none 0 0)]) (vs := [(0, (.agg #[(.string f.nm), (.bool f.wk), (.int .i64 f.pa), (.int .i64 f.lo), (.slice f.A f.body.length f.c)]))]) (cs := [(.string f.nm), (.bool f.wk), (.int .i64 f.pa), (.int .i64 f.lo), (.slice f.A f.body.length f.c)]) M23 ?_
 intro b31 w32 hb31 _ M33 _ aC ea fr; clear ea
 replace M33 := M33.nf
 refine From_appendN (by kernel_rfl : coreAt _ 7 = some (some 28, (.call { callee := (.builtin .append), args := #[(.tmp 21), (.tmp 27)], argTypes := #[22, 22] }), 22, none)) fr (by kernel_rfl) (by kernel_rfl) (k' := 8) rfl (e := 45) (size := 5) (bytes := 64) (z := (.agg #[(.string ⟨#[]⟩), (.bool false), (.int .i64 0), (.int .i64 0), (.slice none 0 0)])) (by kernel_rfl) (by kernel_rfl) (by kernel_rfl) (by kernel_rfl) (A := oA) (B := (sM b31)) (n := ((smL m.fns j).length)) (cap := oc) (m := 1) (cap' := 1) (xs := ((smL m.fns j).flatMap TFn.cells)) (news := [(.string f.nm), (.bool f.wk), (.int .i64 f.pa), (.int .i64 f.lo), (.slice f.A f.body.length f.c)]) (by kernel_rfl) (by kernel_rfl) M33 1 rfl (row_rd (M33.get 2 rfl)) rfl (by simp [Value.oneCell']) (by omega) (by simp only [maxLen]; omega) ((smL m.fns (j + 1)).length) ((smL m.fns (j + 1)).flatMap TFn.cells) (by rw [hsy]; simp) (by rw [hsy, List.flatMap_append]; rfl) ?_
 intro A38 c39 w40 M41 _ aC ea fr; clear ea
 replace M41 := M41.nf
 have M44 := M41.od [1, 1] 2
 revert aC
 refine zpn 1 <| zfe <| zrg <| zpn 1 <| zar ((j : Int) + 1) <| zpn 1 <| zfe ?_
 have M45 := M44.od [1, 1] 2
 intro aC fr
 exact ⟨m.fns.length - (j + 1), by omega, j + 1, A38, c39, rfl, fr.kp [1, 3, 4], M45, by omega⟩
 refine zsk <| zrg <| zpn 1 <| zar ((j : Int) + 1) <| zpn 1 <| zfe ?_
 intro aC fr
 have hnx_ : smL m.fns (j + 1) = smL m.fns j := smL_no hf c24
 exact ⟨m.fns.length - (j + 1), by omega, j + 1, oA, oc, rfl, (by rw [hnx_]; exact fr.kp [1, 3, 4]), ((M23.tk 2).cast (by rw [hnx_]; rfl)), by omega⟩
 refine zex 0 <| zbh <| zsp <| zre <| zo1 (.slice oA ((smL m.fns j).length) oc) ?_
 have M50 := M12.od [1] 1
 obtain rfl : j = m.fns.length := by omega
 exact ⟨oA, oc, by unfold smallT; rw [if_pos hv0], by unfold smallT; rw [if_pos hv0]; exact M50⟩
end Go.Proofs.Ytdcgcjibgihbbaa
namespace Go.Proofs.Ytdcgcjibgihbbaa
open Go.Mor
set_option maxHeartbeats 1000000 in
theorem treeSmalls_d (m : TMod) (w : World) (hR : RO noS w (.all m.parts)) (hI : m.In0) :
    Calls Try.prog 5 #[(.agg #[(.string m.pkg), (.slice m.fA m.fns.length m.fc), (.slice m.dA m.dats.length m.dc)])] w (Ret fun v w' => v = .bool (decide (True)) ∧ Mem noS w w' []) := by
 refine zen 57 [(.agg #[(.string m.pkg), (.slice m.fA m.fns.length m.fc), (.slice m.dA m.dats.length m.dc)])] Try.func5 ?_
 have hM := Mem.init w
 refine zsr <| zbx hM 25 (.agg #[(.string m.pkg), (.slice m.fA m.fns.length m.fc), (.slice m.dA m.dats.length m.dc)]) [(.string m.pkg), (.slice m.fA m.fns.length m.fc), (.slice m.dA m.dats.length m.dc)] fun b1 w2 hb1 M3 => ?_
 replace M3 := M3.nf
 clear hM
 refine zpn 1 <| zfe <| zsq <| zsr <| zls ⟨b1, 0, none⟩ [(.string m.pkg), (.slice m.fA m.fns.length m.fc), (.slice m.dA m.dats.length m.dc)] (blk_cells (M3.get 0 rfl)) <| zcl (tgreat_c m w2 (hR.at_ M3) hI) ?_
 rintro _ w5 ⟨B4, rfl, hBg, M6x⟩
 have M6 := M3.cl M6x
 refine zfe <| zcP B4 (B4 = true) Iff.rfl (fun c7 => ?_) (fun c7 => ?_)
 refine zsr <| zcl (awake15_c w5) ?_
 rintro _ w8 ⟨rfl, M9x⟩
 have M9 := M6.cl M9x
 refine zpn 1 <| zfe <| zre <| zo1 (.bool true) ?_
 have hR : true = true ↔ True := by simp
 have M10 := M9.od [] 0
 exact ⟨bool_dec hR (⟨fun _ => trivial, fun _ => by first | trivial | omega⟩), M10⟩
 replace c7 : B4 = false := Bool.eq_false_iff.2 c7
 have hIn := hI.in_ (hBg c7)
 have hnf := hIn.nf
 have hsl := small_len (m := m)
 refine zsk <| zsr <| zls ⟨b1, 0, none⟩ [(.string m.pkg), (.slice m.fA m.fns.length m.fc), (.slice m.dA m.dats.length m.dc)] (blk_cells (M6.get 0 rfl)) <| zcl (tsmall_c m w5 (hR.at_ M6) hIn) ?_
 rintro _ w11 ⟨fsx, oAx, ocx, hfsx, rfl, M12x⟩
 have M12 := M6.cl M12x
 refine zpn 1 <| zfe <| zsq <| zsr <| zpn 1 <| zls ⟨b1, 0, none⟩ [(.string m.pkg), (.slice m.fA m.fns.length m.fc), (.slice m.dA m.dats.length m.dc)] (blk_cells (M12.get 0 rfl)) <| zcl (rsmall_c m w11 (hR.at_ M12) hIn) ?_
 rintro _ w13 ⟨rAx, rcx, rfl, M14x⟩
 have M14 := M12.cl M14x
 refine zcl (vs := #[(.slice oAx fsx.length ocx), (.slice rAx ((smallT m).length) rcx)]) (rsameFs_c fsx (smallT m) oAx rAx ocx rcx _ _ w13 hfsx (RO.of (tfn_row (M14.get 1 rfl))) (RO.of (tfn_row (M14.get 3 rfl))) (own_fns (M14.get 2 rfl)) (hR.m_tree.at_ M14) (fun f_ h_ => sub_fn h_) (fun f_ h_ => sub_fn (small_mem h_).1) (fun f_ h_ => hIn.fns f_ (small_mem h_).1) (by omega)) ?_
 rintro _ w15 ⟨rfl, M16x⟩
 have M16 := M14.cl M16x
 refine zpn 1 <| zfe <| zcF <| zsk <| zsq <| zsp <| zbk 0 ?_
 intro aC fr
 refine zlp (fun n_ a_ w_ => ∃ (j : Nat), n_ = m.fns.length - j ∧ Fr a_ 57 [(1, (pT b1 0)), (3, (.slice oAx fsx.length ocx)), (4, (nV j))] ∧ Mem noS w w_ [.blk b1 25 [(.string m.pkg), (.slice m.fA m.fns.length m.fc), (.slice m.dA m.dats.length m.dc)], .row 45 5 oAx fsx.length ocx (fsx.flatMap TFn.cells), .pk (fsx.flatMap fnOwn), .row 45 5 rAx ((smallT m).length) rcx ((smallT m).flatMap TFn.cells)] ∧ (j ≤ m.fns.length)) (n := _) ⟨0, rfl, fr.kp [1, 3, 4], M16, Nat.zero_le _⟩ ?_
 clear fr aC M16; rintro n aC w19 ⟨j, rfl, fr, M20, hj⟩
 revert aC
 refine zsq <| zsr <| zpn 2 <| zld ⟨b1, 1, none⟩ (.slice m.fA m.fns.length m.fc) (blk_cell (M20.get 0 rfl) rfl) <| zpn 2 <| zfe <| zcD (((j : Int) : Int) < ((m.fns.length : Nat) : Int)) (fun c23 => ?_) (fun c23 => ?_)
 refine zsk <| zsq <| zbk 1 <| zsq ?_
 obtain ⟨f, hf⟩ := get_of (l := m.fns) (i := j) (by omega)
 have hfm := List.mem_of_getElem? hf
 have hfI := hIn.fns f hfm
 have hfN := stsN_le_fns hfm
 have hpp := hIn.parts
 obtain ⟨ad24, had25⟩ := rds_some (M20.ro hR.m_fns) (cs := f.cells) (i := j) (by rw [List.getElem?_map, hf]; rfl)
 obtain ⟨ad26, had27⟩ := rds_some (M20.ro hR.m_fns) (cs := f.cells) (i := j) (by rw [List.getElem?_map, hf]; rfl)
 refine zkp [(1, (pT b1 0)), (3, (.slice oAx fsx.length ocx)), (4, (nV j))] ?_
 intro aC fr
 refine zdt 11 (N := 57) (env0 := [(1, (pT b1 0)), (3, (.slice oAx fsx.length ocx)), (4, (nV j))]) (specAt [.det (pT b1 1), .det (.slice m.fA m.fns.length m.fc), .det (nV j), .det (.pointer (some ((ad24 : Addr).add (((j : Int)).toNat * 5)))), .det (.agg #[(.string f.nm), (.bool f.wk), (.int .i64 f.pa), (.int .i64 f.lo), (.slice f.A f.body.length f.c)]), .det (.int .i64 (stsN f.body : Int)), .det (pT b1 1), .det (.slice m.fA m.fns.length m.fc), .det (nV j), .det (.pointer (some ((ad26 : Addr).add (((j : Int)).toNat * 5)))), .det (.agg #[(.string f.nm), (.bool f.wk), (.int .i64 f.pa), (.int .i64 f.lo), (.slice f.A f.body.length f.c)])]) fr (la (la (la (la (la (la (la (la (la (la (la lz dP) (dL ⟨b1, 1, none⟩ (.slice m.fA m.fns.length m.fc) fun w_ hK => (blk_cell ((M20.then_ hK).get 0 rfl) rfl))) dP) (dIA m.fA ad24 m.fns.length 5 (j : Int) had25)) (dS ((ad24 : Addr).add (((j : Int)).toNat * 5)) [(.string f.nm), (.bool f.wk), (.int .i64 f.pa), (.int .i64 f.lo), (.slice f.A f.body.length f.c)] fun w_ hK => (rds_cells (i := j) ((M20.then_ hK).ro hR.m_fns) had25 (by rw [List.getElem?_map, hf]; rfl)))) (dD (fun w_ hK => tsize_c f (m.fns.flatMap TFn.parts) w_ (hR.m_tree.at_ (M20.then_ hK)) (sub_fn hfm) hfI (by omega)) rfl)) dP) (dL ⟨b1, 1, none⟩ (.slice m.fA m.fns.length m.fc) fun w_ hK => (blk_cell ((M20.then_ hK).get 0 rfl) rfl))) dP) (dIA m.fA ad26 m.fns.length 5 (j : Int) had27)) (dS ((ad26 : Addr).add (((j : Int)).toNat * 5)) [(.string f.nm), (.bool f.wk), (.int .i64 f.pa), (.int .i64 f.lo), (.slice f.A f.body.length f.c)] fun w_ hK => (rds_cells (i := j) ((M20.then_ hK).ro hR.m_fns) had27 (by rw [List.getElem?_map, hf]; rfl)))) ?_
 intro aC w32 vs hK hv fr
 revert aC; refine zkp [(1, (pT b1 0)), (3, (.slice oAx fsx.length ocx)), (4, (nV j)), (28, (.int .i64 (stsN f.body : Int))), (33, (.agg #[(.string f.nm), (.bool f.wk), (.int .i64 f.pa), (.int .i64 f.lo), (.slice f.A f.body.length f.c)]))] ?_
 have M33 := M20.then_ hK
 clear hK hv fr aC M20; clear vs
 refine zcl (rsize_c f (m.fns.flatMap TFn.parts) w32 (hR.m_tree.at_ M33) (sub_fn hfm) hfI (by omega)) ?_
 rintro _ w34 ⟨rfl, M35x⟩
 have M35 := M33.cl M35x
 refine zcm ((stsN f.body : Int) != (stsN f.body : Int)) fun B36 hB36 => ?_
 obtain rfl : B36 = false := by
   have hkn : ¬ (((stsN f.body : Int) : Int) ≠ (stsN f.body : Int)) := by omega
   first | exact hB36.trans (decide_eq_true hkn) | exact hB36.trans (decide_eq_false hkn) | exact hB36.trans (beq_iff_eq.2 hkn) | exact hB36.trans (bne_iff_ne.2 hkn) | exact hB36.trans (Bool.eq_false_iff.2 (fun e => hkn (beq_iff_eq.1 e))) | exact hB36.trans (Bool.eq_false_iff.2 (fun e => hkn (bne_iff_ne.1 e)))
 clear hB36
 refine zfe <| zcF <| zsk <| zrg <| zpn 1 <| zar ((j : Int) + 1) <| zpn 1 <| zfe ?_
 intro aC fr
 exact ⟨m.fns.length - (j + 1), by omega, j + 1, rfl, fr.kp [1, 3, 4], M35, by omega⟩
 refine zex 0 <| zbh <| zsq <| zsp <| zbk 2 ?_
 have M39 := M20.od [2, 2, 2] 3
 have M40 : Mem noS w w19 [.blk b1 25 [(.string m.pkg), (.slice m.fA m.fns.length m.fc), (.slice m.dA m.dats.length m.dc)], .row 45 5 oAx fsx.length ocx (fsx.flatMap TFn.cells), .pk (rows77 fsx 0)] := M39.pkSub (L := [.blk b1 25 [(.string m.pkg), (.slice m.fA m.fns.length m.fc), (.slice m.dA m.dats.length m.dc)], .row 45 5 oAx fsx.length ocx (fsx.flatMap TFn.cells)]) (by rw [rows77_zero]; exact rows_sub)
 intro aC fr
 refine zlp (fun n_ a_ w_ => ∃ (i : Nat), n_ = fsx.length - i ∧ Fr a_ 57 [(1, (pT b1 0)), (3, (.slice oAx fsx.length ocx)), (5, (nV i))] ∧ Mem noS w w_ [.blk b1 25 [(.string m.pkg), (.slice m.fA m.fns.length m.fc), (.slice m.dA m.dats.length m.dc)], .row 45 5 oAx fsx.length ocx (fsx.flatMap TFn.cells), .pk (rows77 fsx i)] ∧ (i ≤ fsx.length)) (n := _) ⟨0, rfl, fr.kp [1, 3, 5], M40, Nat.zero_le _⟩ ?_
 clear fr aC M40; rintro n aC w43 ⟨i, rfl, fr, M44, hi⟩
 revert aC
 refine zsq <| zsp <| zcD (((i : Int) : Int) < ((fsx.length : Nat) : Int)) (fun c47 => ?_) (fun c47 => ?_)
 refine zsk <| zsq <| zbk 3 <| zrg ?_
 obtain ⟨g, hg⟩ := get_of (l := fsx) (i := i) (by omega)
 have hg1 := small_one hfsx hg
 have hfx := map_len hfsx
 have M48 : Mem noS w w43 [.blk b1 25 [(.string m.pkg), (.slice m.fA m.fns.length m.fc), (.slice m.dA m.dats.length m.dc)], .row 45 5 oAx fsx.length ocx (fsx.flatMap TFn.cells), .pk (((fsx.take i).map rowT) ++ ((fsx.drop (i + 1)).map rowS)), .row 48 5 g.A g.body.length g.c (g.body.flatMap MSt.cells)] := Mem.pkOut (L := [.blk b1 25 [(.string m.pkg), (.slice m.fA m.fns.length m.fc), (.slice m.dA m.dats.length m.dc)], .row 45 5 oAx fsx.length ocx (fsx.flatMap TFn.cells)]) (P := ((fsx.take i).map rowT)) (Q := ((fsx.drop (i + 1)).map rowS)) (r := rowS g) (M44.cast (by rw [rows77_at hg]; rfl))
 refine zpn 2 ?_
 obtain ⟨ad49, rfl⟩ := rds_some (tfn_row (M48.get 1 rfl)) (cs := g.cells) (i := i) (by rw [List.getElem?_map, hg]; rfl)
 refine zix ad49 fsx.length 5 (i : Int) <| zpn 1 ?_
 refine zld (((ad49 : Addr).add (((i : Int)).toNat * 5)).add 4) (.slice g.A g.body.length g.c) (rds_get (tfn_row (M48.get 1 rfl)) rfl (i := i) (cs := g.cells) (by rw [List.getElem?_map, hg]; rfl) 4 _ rfl) ?_
 obtain ⟨ad50, had51⟩ := (show ∃ ad, g.A = some ad from (row_some (M48.get 3 rfl) (by omega)).elim (fun q_ e_ => ⟨_, e_⟩))
 intro aC fr
 refine From_ixA (some 47) g.A ad50 g.body.length 5 0 fr (by kernel_rfl) had51 (by omega) (by omega) ?_
 intro aC fr
 have M56 : Mem noS w w43 [.blk b1 25 [(.string m.pkg), (.slice m.fA m.fns.length m.fc), (.slice m.dA m.dats.length m.dc)], .row 45 5 (some ad49) fsx.length ocx (fsx.flatMap TFn.cells), .pk (((fsx.take i).map rowT) ++ ((fsx.drop (i + 1)).map rowS)), .row 48 5 (some ad50) g.body.length g.c (g.body.flatMap MSt.cells)] := M48.cast (by rw [had51])
 revert aC
 refine zpn 1 <| zsw M56 3 ((ad50 : Addr).add ((0 : Int).toNat * 5)) ((0 : Int).toNat * 5) (.int .i64 77) rfl rfl (by omega) fun w57 M58 => ?_
 replace M58 := M58.nf
 refine zfe <| zrg <| zpn 1 <| zar ((i : Int) + 1) <| zpn 1 <| zfe ?_
 intro aC fr
 exact ⟨fsx.length - (i + 1), by omega, i + 1, rfl, fr.kp [1, 3, 5], ((M58.pkIn (L := [.blk b1 25 [(.string m.pkg), (.slice m.fA m.fns.length m.fc), (.slice m.dA m.dats.length m.dc)], .row 45 5 (some ad49) fsx.length ocx (fsx.flatMap TFn.cells)]) (P := ((fsx.take i).map rowT)) (Q := ((fsx.drop (i + 1)).map rowS))).cast (by rw [rows77_succ hg]; unfold rowT; rw [had51]; try rfl)), by omega⟩
 refine zex 2 <| zbh <| zsq <| zkp [(1, (pT b1 0)), (3, (.slice oAx fsx.length ocx)), (5, (nV i))] ?_
 intro aC fr
 refine zdtJ (N := 57) (env0 := [(1, (pT b1 0)), (3, (.slice oAx fsx.length ocx)), (5, (nV i))]) (wr := w43) 3 (specAt [.det (.agg #[(.string m.pkg), (.slice m.fA m.fns.length m.fc), (.slice m.dA m.dats.length m.dc)]), Spec.free, .det (.agg #[(.string m.pkg), (.slice m.fA m.fns.length m.fc), (.slice m.dA m.dats.length m.dc)])]) (fun ls vs w_ => match ls 1 with | true => (∃ (fsy : List TFn) (oAy : Option Addr) (ocy : Nat), vs 1 = (.slice oAy fsy.length ocy) ∧ (fsy.map fnCan = (smallT m).map fnCan) ∧ Mem noS w w_ [.blk b1 25 [(.string m.pkg), (.slice m.fA m.fns.length m.fc), (.slice m.dA m.dats.length m.dc)], .row 45 5 oAx fsx.length ocx (fsx.flatMap TFn.cells), .pk (rows77 fsx i), .row 45 5 oAy fsy.length ocy (fsy.flatMap TFn.cells), .pk (fsy.flatMap fnOwn)]) | false => (Mem noS w w_ [.blk b1 25 [(.string m.pkg), (.slice m.fA m.fns.length m.fc), (.slice m.dA m.dats.length m.dc)], .row 45 5 oAx fsx.length ocx (fsx.flatMap TFn.cells), .pk (rows77 fsx i)])) fr (plain_ok (.det (.free (.det .nil)))) (M44.then_ (Mem.drew _)) (la (la (la lz ?_) ?_) ?_) ?_
 intro aa_ w_ ls vs rest_ hJ hi_ hc_ hp hF
 refine okG (g0 := none) ?_
 replace hF : Fr aa_ 57 [(1, (pT b1 0))] := hF.kp [1]
 have f1 : ls 1 = false := notyet hc_ hi_ (n := 9) (by kernel_rfl)
 have hM_ := hJ
 simp only [f1] at hM_
 refine From_loadS (by kernel_rfl : coreAt _ 0 = some (some 49, (.load 25 (.tmp 1)), 25, none)) hF (by kernel_rfl) (by kernel_rfl) (k' := 1) rfl (ad := ⟨b1, 0, none⟩) (vs := [(.string m.pkg), (.slice m.fA m.fns.length m.fc), (.slice m.dA m.dats.length m.dc)]) (by kernel_rfl) (by kernel_rfl) (blk_cells (hM_.get 0 rfl)) ?_
 intro a2 ea _
 refine From_end (by kernel_rfl) ?_; exact op_doneJ (d := some 49) (by kernel_rfl) ea rfl hJ
 intro aa_ w_ ls vs rest_ hJ hi_ hc_ hp hF
 refine okG (g0 := none) ?_
 replace hF : Fr aa_ 57 [(49, (.agg #[(.string m.pkg), (.slice m.fA m.fns.length m.fc), (.slice m.dA m.dats.length m.dc)]))] := hF.kp [49]
 have f1 : ls 1 = false := hi_
 have hM_ := hJ
 simp only [f1] at hM_
 refine From_call (by kernel_rfl : coreAt _ 0 = some (some 50, (.call { callee := (.value (.func 18)), args := #[(.tmp 49)], argTypes := #[25] }), 22, none)) hF (by kernel_rfl) (by kernel_rfl) (k' := 1) rfl (f := 18) (vs := [(.agg #[(.string m.pkg), (.slice m.fA m.fns.length m.fc), (.slice m.dA m.dats.length m.dc)])]) (cap := []) (by kernel_rfl) (by kernel_rfl) (by kernel_rfl) (tsmall_c m w_ (hR.at_ hM_) hIn) ?_
 rintro _ w2 ⟨fsyp, oAyp, ocyp, hfsy, rfl, hm2⟩ a2 ea _
 have hm3 := hM_.call hm2
 refine From_end (by kernel_rfl) ?_; refine op_doneJ (d := some 50) (by kernel_rfl) ea trivial ?_
 show ∃ (fsy : List TFn) (oAy : Option Addr) (ocy : Nat), _
 exact ⟨fsyp, oAyp, ocyp, rfl, hfsy, hm3⟩
 intro aa_ w_ ls vs rest_ hJ hi_ hc_ hp hF
 refine okG (g0 := none) ?_
 replace hF : Fr aa_ 57 [(1, (pT b1 0))] := hF.kp [1]
 have hM_ := hJ
 cases fu : ls 1
 simp only [fu] at hM_
 refine From_loadS (by kernel_rfl : coreAt _ 0 = some (some 51, (.load 25 (.tmp 1)), 25, none)) hF (by kernel_rfl) (by kernel_rfl) (k' := 1) rfl (ad := ⟨b1, 0, none⟩) (vs := [(.string m.pkg), (.slice m.fA m.fns.length m.fc), (.slice m.dA m.dats.length m.dc)]) (by kernel_rfl) (by kernel_rfl) (blk_cells (hM_.get 0 rfl)) ?_
 intro a2 ea _
 refine From_end (by kernel_rfl) ?_; exact op_doneJ (d := some 51) (by kernel_rfl) ea rfl hJ
 simp only [fu] at hM_
 obtain ⟨_, _, _, _, _, hM_⟩ := hM_
 refine From_loadS (by kernel_rfl : coreAt _ 0 = some (some 51, (.load 25 (.tmp 1)), 25, none)) hF (by kernel_rfl) (by kernel_rfl) (k' := 1) rfl (ad := ⟨b1, 0, none⟩) (vs := [(.string m.pkg), (.slice m.fA m.fns.length m.fc), (.slice m.dA m.dats.length m.dc)]) (by kernel_rfl) (by kernel_rfl) (blk_cells (hM_.get 0 rfl)) ?_
 intro a2 ea _
 refine From_end (by kernel_rfl) ?_; exact op_doneJ (d := some 51) (by kernel_rfl) ea rfl hJ
 intro aC w65 ls vs hall M66 hv fr
 simp only [show ls 1 = true from hall 1 (by decide)] at M66
 revert aC; refine zkp [(50, vs 1), (51, (.agg #[(.string m.pkg), (.slice m.fA m.fns.length m.fc), (.slice m.dA m.dats.length m.dc)]))] ?_
 obtain ⟨fsy, oAy, ocy, e1_, hfsy, M66⟩ := M66
 try rw [e1_]
 clear e1_
 clear hall hv fr aC M44; clear vs ls
 refine zcl (rsmall_c m w65 (hR.at_ M66) hIn) ?_
 rintro _ w67 ⟨rAy, rcy, rfl, M68x⟩
 have M68 := M66.cl M68x
 refine zcl (vs := #[(.slice oAy fsy.length ocy), (.slice rAy ((smallT m).length) rcy)]) (rsameFs_c fsy (smallT m) oAy rAy ocy rcy _ _ w67 hfsy (RO.of (tfn_row (M68.get 3 rfl))) (RO.of (tfn_row (M68.get 5 rfl))) (own_fns (M68.get 4 rfl)) (hR.m_tree.at_ M68) (fun f_ h_ => sub_fn h_) (fun f_ h_ => sub_fn (small_mem h_).1) (fun f_ h_ => hIn.fns f_ (small_mem h_).1) (by omega)) ?_
 rintro _ w69 ⟨rfl, M70x⟩
 have M70 := M68.cl M70x
 refine zpn 1 <| zcl (awake15_c w69) ?_
 rintro _ w71 ⟨rfl, M72x⟩
 have M72 := M70.cl M72x
 refine zpn 2 <| zfe <| zre <| zo1 (.bool true) ?_
 have hR : true = true ↔ True := by simp
 have M73 := M72.od [] 0
 exact ⟨bool_dec hR (⟨fun _ => trivial, fun _ => by first | trivial | omega⟩), M73⟩
theorem treeSmalls_c (m : TMod) (w : World) (hR : RO noS w (.all m.parts)) (hI : m.In0) : Calls Try.prog 5 #[(.agg #[(.string m.pkg), (.slice m.fA m.fns.length m.fc), (.slice m.dA m.dats.length m.dc)])] w (Ret fun v w' => v = .bool true ∧ Mem noS w w' []) := by
  have h := treeSmalls_d m w hR hI
  simpa using h
end Go.Proofs.Ytdcgcjibgihbbaa
