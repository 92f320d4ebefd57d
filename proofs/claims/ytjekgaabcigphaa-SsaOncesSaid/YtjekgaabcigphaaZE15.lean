/-
  Texts of the proof, part 15.
-/
import Derived.Test.YtjekgaabcigphaaZE14
set_option maxRecDepth 10000
namespace Go.Proofs.Ytjekgaabcigphaa
open Go.Mor
theorem countF_e (cs l : List FFn) (A : Option Addr) (c : Nat) (w : World) (hm : l.length ≤ 1000) (hl : RO noS w (.rds A 5 (l.map FFn.cells))) (hcs : cs = chosenF l) :
    Calls Try.prog 47 #[.slice A l.length c, .func (.func 48) #[] #[]] w (Ret fun v w' => ∃ A' c', v = .slice A' cs.length c' ∧ Mem noS w w' [.row 24 5 A' cs.length c' (cs.flatMap FFn.cells)]) := by
  subst hcs
  exact countF_c l A c w hm hl
set_option maxHeartbeats 2000000 in
theorem run_c (fs : List FFn) (fA : Option Addr) (fc : Nat) (bg : List ByteArray) (gA : Option Addr) (gc : Nat) (mem : Int) (inp : List Int) (iA : Option Addr) (ic : Nat) (fuel : Int) (w : World) (hI : RunIn w fs fA bg gA inp iA ic) :
    Calls Try.prog 16 #[(.slice fA fs.length fc), (.slice none 0 0), (.slice gA bg.length gc), (.int .i64 mem), (.slice iA inp.length ic), (.int .i64 fuel)] w (Ret fun v w' => ∃ oA oc, v = outV (runO fs [] bg mem inp fuel) oA oc ∧ Mem noS w w' [.row 5 1 oA (runO fs [] bg mem inp fuel).2.2.1.length oc (u8s (runO fs [] bg mem inp fuel).2.2.1)]) := by
 have hI1 := hI.len
 have hI2 := hI.glen
 refine zen 180 [(.slice fA fs.length fc), (.slice none 0 0), (.slice gA bg.length gc), (.int .i64 mem), (.slice iA inp.length ic), (.int .i64 fuel)] Try.func16 ?_
 have hM := Mem.init w
 refine zsr <| zal hM 36 [(.int .i64 0), (.int .i64 0), (.slice none 0 0), (.int .i64 0)] fun b1 w2 hb1 M3 => ?_
 replace M3 := M3.nf
 clear hM
 refine zfe <| zsr <| zpn 3 ?_
 obtain ⟨B4, hB4⟩ : ∃ B : Bool, B = decide ((mem : Int) < 1) := ⟨_, rfl⟩
 refine zkp [(0, (.slice fA fs.length fc)), (1, (.slice none 0 0)), (2, (.slice gA bg.length gc)), (3, (.int .i64 mem)), (4, (.slice iA inp.length ic)), (5, (.int .i64 fuel)), (12, (pT b1 0)), (27, (.bool (decide ((mem : Int) < 1))))] ?_
 rw [← hB4]
 have iB4 : B4 = true ↔ ((mem : Int) < 1) := by rw [hB4]; simp only [decide_eq_true_eq]
 clear hB4
 intro aC fr
 refine zpk 4 7 [30, 31] fr (news := [(30, (.bool (B4 || decide ((mem : Int) > 262144)))), (31, (.bool (B4 || decide ((mem : Int) > 262144))))]) (by cases B4 <;> kernel_rfl) ?_
 intro aC fr
 obtain ⟨B9, hB9⟩ : ∃ B : Bool, B = (B4 || decide ((mem : Int) > 262144)) := ⟨_, rfl⟩
 revert aC
 refine zkp [(0, (.slice fA fs.length fc)), (1, (.slice none 0 0)), (2, (.slice gA bg.length gc)), (3, (.int .i64 mem)), (4, (.slice iA inp.length ic)), (5, (.int .i64 fuel)), (12, (pT b1 0)), (31, (.bool (B4 || decide ((mem : Int) > 262144))))] ?_
 rw [← hB9]
 have iB9 : B9 = true ↔ (((mem : Int) < 1) ∨ ((mem : Int) > 262144)) := by rw [hB9]; simp only [Bool.or_eq_true, decide_eq_true_eq, iB4]
 clear hB9
 intro aC fr
 refine zpk 5 12 [13, 35] fr (news := [(13, (.bool (B9 || decide ((((inp.length : Nat) : Int) : Int) > 4096)))), (35, (.bool (B9 || decide ((((inp.length : Nat) : Int) : Int) > 4096))))]) (by cases B9 <;> kernel_rfl) ?_
 intro aC fr
 revert aC
 refine zfe <| zsq <| zsp <| zbk 0 ?_
 obtain ⟨B14, hB14⟩ : ∃ B : Bool, B = (B9 || decide ((((inp.length : Nat) : Int) : Int) > 4096)) := ⟨_, rfl⟩
 refine zkp [(0, (.slice fA fs.length fc)), (1, (.slice none 0 0)), (2, (.slice gA bg.length gc)), (3, (.int .i64 mem)), (4, (.slice iA inp.length ic)), (5, (.int .i64 fuel)), (12, (pT b1 0)), (13, (.bool (B9 || decide ((((inp.length : Nat) : Int) : Int) > 4096)))), (36, (.slice none 0 0)), (37, (.int .i64 0)), (38, (.int .i64 0))] ?_
 rw [← hB14]
 have iB14 : B14 = true ↔ ((((mem : Int) < 1) ∨ ((mem : Int) > 262144)) ∨ ((((inp.length : Nat) : Int) : Int) > 4096)) := by rw [hB14]; simp only [Bool.or_eq_true, decide_eq_true_eq, iB9]
 clear hB14
 have hb0 := bad_start (fs := fs) (B := B14) (mem := mem) (inp := inp) (by rw [iB14]; omega)
 refine zkp [(0, (.slice fA fs.length fc)), (1, (.slice none 0 0)), (2, (.slice gA bg.length gc)), (3, (.int .i64 mem)), (4, (.slice iA inp.length ic)), (5, (.int .i64 fuel)), (12, (pT b1 0)), (13, (.bool B14)), (36, (.slice none 0 0)), (37, (.int .i64 0)), (38, (.int .i64 0))] ?_
 intro aC fr
 refine zlp (fun n_ a_ w_ => n_ = 0 ∧ Fr a_ 180 [(0, (.slice fA fs.length fc)), (1, (.slice none 0 0)), (2, (.slice gA bg.length gc)), (3, (.int .i64 mem)), (4, (.slice iA inp.length ic)), (5, (.int .i64 fuel)), (12, (pT b1 0)), (13, (.bool B14)), (36, (.slice none 0 0)), (37, (.int .i64 0)), (38, (.int .i64 0))] ∧ Mem noS w w_ [.blk b1 36 [(.int .i64 0), (.int .i64 0), (.slice none 0 0), (.int .i64 0)]]) (n := _) ⟨rfl, fr.kp [0, 1, 2, 3, 4, 5, 12, 13, 36, 37, 38], M3⟩ ?_
 clear fr aC M3; rintro n aC w17 ⟨rfl, fr, M18⟩
 revert aC
 refine zsp <| zsq <| zcF <| zex 0 <| zbh <| zsq <| zsp <| zbk 2 ?_
 intro aC fr
 refine zlp (fun n_ a_ w_ => ∃ (j : Nat) (Bk : Bool), n_ = fs.length - j ∧ Fr a_ 180 [(0, (.slice fA fs.length fc)), (1, (.slice none 0 0)), (2, (.slice gA bg.length gc)), (3, (.int .i64 mem)), (4, (.slice iA inp.length ic)), (5, (.int .i64 fuel)), (12, (pT b1 0)), (13, (.bool Bk)), (51, (.slice fA fs.length fc)), (52, (.int .i64 ((fs.length : Nat) : Int))), (53, (nV j))] ∧ Mem noS w w_ [.blk b1 36 [(.int .i64 0), (.int .i64 0), (.slice none 0 0), (.int .i64 0)]] ∧ (j ≤ fs.length) ∧ (Bk = true ↔ badQ fs mem inp j)) (n := _) ⟨0, B14, rfl, fr.kp [0, 1, 2, 3, 4, 5, 12, 13, 51, 52, 53], M18, Nat.zero_le _, hb0⟩ ?_
 clear fr aC M18; rintro n aC w23 ⟨j, Bk, rfl, fr, M24, hj, hbk⟩
 revert aC
 refine zsp <| zsq <| zcD (((j : Int) : Int) < ((fs.length : Nat) : Int)) (fun c27 => ?_) (fun c27 => ?_)
 refine zsk <| zsq <| zbk 3 <| zsr ?_
 obtain ⟨f, hf⟩ := get_of (l := fs) (i := j) (by omega)
 have hfm := List.mem_of_getElem? hf
 obtain ⟨ad28, rfl⟩ := rds_some (M24.ro hI.cells) (i := j) (by rw [List.getElem?_map, hf]; rfl)
 refine zix ad28 fs.length 5 (j : Int) ?_
 refine zls ((ad28 : Addr).add (((j : Int)).toNat * 5)) [(.string f.nm), (.bool f.wk), (.int .i64 f.pa), (.int .i64 f.va), (.slice f.A ((bsOf f.blks).length) f.c)] (rds_cells (i := j) (M24.ro hI.cells) rfl (by rw [List.getElem?_map, hf]; rfl)) ?_
 refine zal M24 24 [(.string ⟨#[]⟩), (.bool false), (.int .i64 0), (.int .i64 0), (.slice none 0 0)] fun b29 w30 hb29 M31 => ?_
 replace M31 := M31.nf
 refine zss M31 1 [(.string f.nm), (.bool f.wk), (.int .i64 f.pa), (.int .i64 f.va), (.slice f.A ((bsOf f.blks).length) f.c)] rfl fun w32 M33 => ?_
 replace M33 := M33.nf
 refine zfe <| zrg <| zpn 2 ?_
 obtain ⟨B34, hB34⟩ : ∃ B : Bool, B = Bk := ⟨_, rfl⟩
 refine zkp [(0, (.slice (some ad28) fs.length fc)), (1, (.slice none 0 0)), (2, (.slice gA bg.length gc)), (3, (.int .i64 mem)), (4, (.slice iA inp.length ic)), (5, (.int .i64 fuel)), (12, (pT b1 0)), (17, (pT b29 0)), (51, (.slice (some ad28) fs.length fc)), (52, (.int .i64 ((fs.length : Nat) : Int))), (53, (nV j)), (58, (.bool Bk))] ?_
 rw [← hB34]
 have iB34 : B34 = true ↔ (Bk = true) := by rw [hB34]
 clear hB34
 cases B34
 have c34 : Bk = false := Bool.eq_false_iff.2 ((fun h => Bool.noConfusion (iB34.2 h) : ¬ (Bk = true)))
 subst c34
 refine zls ⟨b29, 0, none⟩ [(.string f.nm), (.bool f.wk), (.int .i64 f.pa), (.int .i64 f.va), (.slice f.A ((bsOf f.blks).length) f.c)] (blk_cells (M33.get 1 rfl)) <| zcl (valid_c f.nm f.wk f.pa f.va f.A f.c f.blks w32 (hI.ok f hfm).2 (hI.ok f hfm).1 ((hI.fn f hfm).at_ M33)) ?_
 rintro _ w35 ⟨rfl, M36x⟩
 have M36 := M33.cl M36x
 refine zpn 3 <| zfe <| zrg <| zar ((j : Int) + 1) <| zpn 1 <| zfe ?_
 intro aC fr
 exact ⟨fs.length - (j + 1), by omega, j + 1, (((validN f.nm f.pa f.va f.blks) : Int) != 0), rfl, fr.kp [0, 1, 2, 3, 4, 5, 12, 13, 51, 52, 53], (M36.tk 1), by omega, bad_new hbk hf⟩
 have c34 : (Bk = true) := iB34.1 rfl
 subst c34
 refine zpn 5 <| zfe <| zrg <| zar ((j : Int) + 1) <| zpn 1 <| zfe ?_
 intro aC fr
 exact ⟨fs.length - (j + 1), by omega, j + 1, true, rfl, fr.kp [0, 1, 2, 3, 4, 5, 12, 13, 51, 52, 53], (M33.tk 1), by omega, bad_keep hbk⟩
 refine zex 2 <| zbh <| zsq <| zsr ?_
 obtain rfl : j = fs.length := by omega
 refine zpn 1 <| zfe <| zcP Bk (Bk = true) Iff.rfl (fun c41 => ?_) (fun c41 => ?_)
 have hbad : badQ fs mem inp fs.length := hbk.1 c41
 refine zsr <| zpn 1 <| zss M24 0 [(.int .i64 5), (.int .i64 0), (.slice none 0 0), (.int .i64 0)] rfl fun w42 M43 => ?_
 replace M43 := M43.nf
 refine zfe <| zre ?_
 intro aC fr
 refine outC (ad := ⟨b1, 0, none⟩) (vs := [(.int .i64 5), (.int .i64 0), (.slice none 0 0), (.int .i64 0)]) fr rfl (by kernel_rfl) (by kernel_rfl) (blk_cells (M43.get 0 rfl)) ?_
 refine ⟨_, rfl, ?_⟩
 have hMz := M43.cl (Mem.nilrow _ 5 1)
 have M46 := hMz.od [1] 1
 clear hMz
 rw [run_bad hbad]; exact ⟨none, 0, rfl, M46⟩
 replace c41 : Bk = false := Bool.eq_false_iff.2 c41
 have hbad : ¬ badQ fs mem inp fs.length := fun h => by have := hbk.2 h; rw [this] at c41; cases c41
 have hm1 : 1 ≤ mem := by unfold badQ at hbad; omega
 have hm2 : mem ≤ 262144 := by unfold badQ at hbad; omega
 have hin : inp.length ≤ 4096 := by unfold badQ at hbad; omega
 refine zsk <| zsr <| zmm M24 fun b47 w48 hb47 M49 => ?_
 replace M49 := M49.nf
 have M50 : Mem noS w w48 [.blk b1 36 [(.int .i64 0), (.int .i64 0), (.slice none 0 0), (.int .i64 0)], .map b47 (inK .string (vK []))] := M49.cast rfl
 refine zmm M50 fun b51 w52 hb51 M53 => ?_
 replace M53 := M53.nf
 have M54 : Mem noS w w52 [.blk b1 36 [(.int .i64 0), (.int .i64 0), (.slice none 0 0), (.int .i64 0)], .map b47 (inK .string (vK [])), .map b51 (inK .string (vK []))] := M53.cast rfl
 refine zpn 1 ?_
 intro aC fr
 refine From_make1 (by kernel_rfl : coreAt _ 3 = some (some 69, (.makeSlice 75 (.tmp 68) (.tmp 68)), 75, none)) fr (by kernel_rfl) (by kernel_rfl) (k' := 4) rfl (e := 2) (bytes := 8) (z := (.int .i64 0)) (n := mem.toNat) (i := mem) (by kernel_rfl) (by kernel_rfl) (by omega) (by kernel_rfl) (by kernel_rfl) rfl (by omega) (by simp only [maxLen]; omega) M54 ?_
 intro b55 w56 hb55 _ M57 _ aC ea fr; clear ea
 replace M57 := M57.nf
 revert aC
 refine zpn 2 <| zmx (some 72) (.tmp 71) (.const (.int .i64 0)) #[3, 3] 3 .i64 fuel 0 <| zmn (some 73) (.tmp 72) (.const (.int .i64 4194304)) #[3, 3] 3 .i64 (max fuel 0) 4194304 <| zpn 1 ?_
 intro aC fr
 refine zBs 75 31 1 #[(0, (.tmp 74))] 31 fr (e := 24) (size := 5) (zs := [(.string ⟨#[]⟩), (.bool false), (.int .i64 0), (.int .i64 0), (.slice none 0 0)]) (vs := [(0, (.agg #[(.string ⟨#[]⟩), (.bool false), (.int .i64 0), (.int .i64 0), (.slice none 0 0)]))]) (cs := [(.string ⟨#[]⟩), (.bool false), (.int .i64 0), (.int .i64 0), (.slice none 0 0)]) M57 ?_
 intro b62 w63 hb62 _ M64 _ aC ea fr; clear ea
 replace M64 := M64.nf
 refine zBs 76 86 1 #[(0, (.const (.slice none 0 0)))] 86 fr (e := 52) (size := 1) (zs := [(.slice none 0 0)]) (vs := [(0, (.slice none 0 0))]) (cs := [(.slice none 0 0)]) M64 ?_
 intro b69 w70 hb69 _ M71 _ aC ea fr; clear ea
 replace M71 := M71.nf
 revert aC
 refine zkp [(0, (.slice fA fs.length fc)), (1, (.slice none 0 0)), (2, (.slice gA bg.length gc)), (12, (pT b1 0)), (66, (.map (some b47))), (67, (.map (some b51))), (69, (.slice (sM b55) mem.toNat mem.toNat)), (70, (.slice iA inp.length ic)), (73, (.int .i64 (min (max fuel 0) 4194304))), (75, (.slice (sM b62) 1 1)), (76, (.slice (sM b69) 1 1))] <| zpn 1 <| zbx M71 89 (.agg #[(.slice (sM b62) 1 1), (.slice (sM b69) 1 1), (.map (some b47)), (.map (some b51)), (.slice (sM b55) mem.toNat mem.toNat), (.int .i64 0), (.slice iA inp.length ic), (.slice none 0 0), (.int .i64 (min (max fuel 0) 4194304)), (.int .i64 0), (.int .i64 0), (.slice none 0 0)]) [(.slice (sM b62) 1 1), (.slice (sM b69) 1 1), (.map (some b47)), (.map (some b51)), (.slice (sM b55) mem.toNat mem.toNat), (.int .i64 0), (.slice iA inp.length ic), (.slice none 0 0), (.int .i64 (min (max fuel 0) 4194304)), (.int .i64 0), (.int .i64 0), (.slice none 0 0)] fun b74 w75 hb74 M76 => ?_
 replace M76 := M76.nf
 refine zpn 1 <| zfe <| zsr <| zpn 1 ?_
 intro aC fr
 refine From_make1 (by kernel_rfl : coreAt _ 1 = some (some 80, (.makeSlice 87 (.const (.int .i64 13)) (.const (.int .i64 13))), 87, none)) fr (by kernel_rfl) (by kernel_rfl) (k' := 2) rfl (e := 90) (bytes := 8) (z := .nilFunc) (n := 13) (i := 13) (by kernel_rfl) (by kernel_rfl) (by omega) (by kernel_rfl) (by kernel_rfl) rfl (by omega) (by simp only [maxLen]; omega) M76 ?_
 intro b77 w78 hb77 _ M79 _ aC ea fr; clear ea
 replace M79 := M79.nf
 revert aC
 refine zpn 2 <| zsb (ho := (by simp)) M79 6 11 (.slice (sM b77) 13 13) rfl fun w84 M85 => ?_
 replace M85 := M85.nf
 refine zfe <| zsq <| zsr <| zmm M85 fun b86 w87 hb86 M88 => ?_
 replace M88 := M88.nf
 have M89 : Mem noS w w87 [.blk b1 36 [(.int .i64 0), (.int .i64 0), (.slice none 0 0), (.int .i64 0)], .map b47 (inK .string (vK [])), .map b51 (inK .string (vK [])), .row 2 1 (sM b55) mem.toNat mem.toNat (List.replicate mem.toNat (.int .i64 0)), .row 24 5 (sM b62) 1 1 [(.string ⟨#[]⟩), (.bool false), (.int .i64 0), (.int .i64 0), (.slice none 0 0)], .row 52 1 (sM b69) 1 1 [(.slice none 0 0)], .blk b74 89 [(.slice (sM b62) 1 1), (.slice (sM b69) 1 1), (.map (some b47)), (.map (some b51)), (.slice (sM b55) mem.toNat mem.toNat), (.int .i64 0), (.slice iA inp.length ic), (.slice none 0 0), (.int .i64 (min (max fuel 0) 4194304)), (.int .i64 0), (.int .i64 0), (.slice (sM b77) 13 13)], .row 90 1 (sM b77) 13 13 (List.replicate 13 .nilFunc), .map b86 (inK (Value.int .i64) ([] : List (Int × Value)))] := M88.cast rfl
 refine zpn 2 <| zmu (intLaw Try.underlying3) M89 8 1 (.func (.func 35) #[(pT b74 0)] #[]) (l := ([] : List (Int × Value))) rfl Try.underlying91 fun w90 M91 => ?_
 replace M91 := M91.nf
 refine zpn 2 <| zmu (intLaw Try.underlying3) M91 8 2 (.func (.func 36) #[(pT b74 0)] #[]) (l := upk ([] : List (Int × Value)) 1 (.func (.func 35) #[(pT b74 0)] #[])) rfl Try.underlying91 fun w92 M93 => ?_
 replace M93 := M93.nf
 refine zkp [(0, (.slice fA fs.length fc)), (1, (.slice none 0 0)), (2, (.slice gA bg.length gc)), (12, (pT b1 0)), (18, (pT b74 0)), (83, (.map (some b86)))] <| zpn 2 <| zmu (intLaw Try.underlying3) M93 8 3 (.func (.func 37) #[(pT b74 0)] #[]) (l := upk (upk ([] : List (Int × Value)) 1 (.func (.func 35) #[(pT b74 0)] #[])) 2 (.func (.func 36) #[(pT b74 0)] #[])) rfl Try.underlying91 fun w94 M95 => ?_
 replace M95 := M95.nf
 refine zpn 2 <| zmu (intLaw Try.underlying3) M95 8 4 (.func (.func 38) #[(pT b74 0)] #[]) (l := upk (upk (upk ([] : List (Int × Value)) 1 (.func (.func 35) #[(pT b74 0)] #[])) 2 (.func (.func 36) #[(pT b74 0)] #[])) 3 (.func (.func 37) #[(pT b74 0)] #[])) rfl Try.underlying91 fun w96 M97 => ?_
 replace M97 := M97.nf
 refine zpn 2 <| zmu (intLaw Try.underlying3) M97 8 5 (.func (.func 39) #[(pT b74 0)] #[]) (l := upk (upk (upk (upk ([] : List (Int × Value)) 1 (.func (.func 35) #[(pT b74 0)] #[])) 2 (.func (.func 36) #[(pT b74 0)] #[])) 3 (.func (.func 37) #[(pT b74 0)] #[])) 4 (.func (.func 38) #[(pT b74 0)] #[])) rfl Try.underlying91 fun w98 M99 => ?_
 replace M99 := M99.nf
 refine zpn 2 <| zmu (intLaw Try.underlying3) M99 8 6 (.func (.func 40) #[(pT b74 0)] #[]) (l := upk (upk (upk (upk (upk ([] : List (Int × Value)) 1 (.func (.func 35) #[(pT b74 0)] #[])) 2 (.func (.func 36) #[(pT b74 0)] #[])) 3 (.func (.func 37) #[(pT b74 0)] #[])) 4 (.func (.func 38) #[(pT b74 0)] #[])) 5 (.func (.func 39) #[(pT b74 0)] #[])) rfl Try.underlying91 fun w100 M101 => ?_
 replace M101 := M101.nf
 refine zpn 2 <| zmu (intLaw Try.underlying3) M101 8 7 (.func (.func 41) #[(pT b74 0)] #[]) (l := upk (upk (upk (upk (upk (upk ([] : List (Int × Value)) 1 (.func (.func 35) #[(pT b74 0)] #[])) 2 (.func (.func 36) #[(pT b74 0)] #[])) 3 (.func (.func 37) #[(pT b74 0)] #[])) 4 (.func (.func 38) #[(pT b74 0)] #[])) 5 (.func (.func 39) #[(pT b74 0)] #[])) 6 (.func (.func 40) #[(pT b74 0)] #[])) rfl Try.underlying91 fun w102 M103 => ?_
 replace M103 := M103.nf
 refine zpn 2 <| zmu (intLaw Try.underlying3) M103 8 8 (.func (.func 42) #[(pT b74 0)] #[]) (l := upk (upk (upk (upk (upk (upk (upk ([] : List (Int × Value)) 1 (.func (.func 35) #[(pT b74 0)] #[])) 2 (.func (.func 36) #[(pT b74 0)] #[])) 3 (.func (.func 37) #[(pT b74 0)] #[])) 4 (.func (.func 38) #[(pT b74 0)] #[])) 5 (.func (.func 39) #[(pT b74 0)] #[])) 6 (.func (.func 40) #[(pT b74 0)] #[])) 7 (.func (.func 41) #[(pT b74 0)] #[])) rfl Try.underlying91 fun w104 M105 => ?_
 replace M105 := M105.nf
 refine zkp [(0, (.slice fA fs.length fc)), (1, (.slice none 0 0)), (2, (.slice gA bg.length gc)), (12, (pT b1 0)), (18, (pT b74 0)), (83, (.map (some b86)))] <| zpn 2 <| zmu (intLaw Try.underlying3) M105 8 9 (.func (.func 43) #[(pT b74 0)] #[]) (l := upk (upk (upk (upk (upk (upk (upk (upk ([] : List (Int × Value)) 1 (.func (.func 35) #[(pT b74 0)] #[])) 2 (.func (.func 36) #[(pT b74 0)] #[])) 3 (.func (.func 37) #[(pT b74 0)] #[])) 4 (.func (.func 38) #[(pT b74 0)] #[])) 5 (.func (.func 39) #[(pT b74 0)] #[])) 6 (.func (.func 40) #[(pT b74 0)] #[])) 7 (.func (.func 41) #[(pT b74 0)] #[])) 8 (.func (.func 42) #[(pT b74 0)] #[])) rfl Try.underlying91 fun w106 M107 => ?_
 replace M107 := M107.nf
 refine zpn 2 <| zmu (intLaw Try.underlying3) M107 8 10 (.func (.func 44) #[(pT b74 0)] #[]) (l := upk (upk (upk (upk (upk (upk (upk (upk (upk ([] : List (Int × Value)) 1 (.func (.func 35) #[(pT b74 0)] #[])) 2 (.func (.func 36) #[(pT b74 0)] #[])) 3 (.func (.func 37) #[(pT b74 0)] #[])) 4 (.func (.func 38) #[(pT b74 0)] #[])) 5 (.func (.func 39) #[(pT b74 0)] #[])) 6 (.func (.func 40) #[(pT b74 0)] #[])) 7 (.func (.func 41) #[(pT b74 0)] #[])) 8 (.func (.func 42) #[(pT b74 0)] #[])) 9 (.func (.func 43) #[(pT b74 0)] #[])) rfl Try.underlying91 fun w108 M109 => ?_
 replace M109 := M109.nf
 refine zpn 2 <| zmu (intLaw Try.underlying3) M109 8 11 (.func (.func 45) #[(pT b74 0)] #[]) (l := upk (upk (upk (upk (upk (upk (upk (upk (upk (upk ([] : List (Int × Value)) 1 (.func (.func 35) #[(pT b74 0)] #[])) 2 (.func (.func 36) #[(pT b74 0)] #[])) 3 (.func (.func 37) #[(pT b74 0)] #[])) 4 (.func (.func 38) #[(pT b74 0)] #[])) 5 (.func (.func 39) #[(pT b74 0)] #[])) 6 (.func (.func 40) #[(pT b74 0)] #[])) 7 (.func (.func 41) #[(pT b74 0)] #[])) 8 (.func (.func 42) #[(pT b74 0)] #[])) 9 (.func (.func 43) #[(pT b74 0)] #[])) 10 (.func (.func 44) #[(pT b74 0)] #[])) rfl Try.underlying91 fun w110 M111 => ?_
 replace M111 := M111.nf
 refine zpn 2 <| zmu (intLaw Try.underlying3) M111 8 12 (.func (.func 46) #[(pT b74 0)] #[]) (l := upk (upk (upk (upk (upk (upk (upk (upk (upk (upk (upk ([] : List (Int × Value)) 1 (.func (.func 35) #[(pT b74 0)] #[])) 2 (.func (.func 36) #[(pT b74 0)] #[])) 3 (.func (.func 37) #[(pT b74 0)] #[])) 4 (.func (.func 38) #[(pT b74 0)] #[])) 5 (.func (.func 39) #[(pT b74 0)] #[])) 6 (.func (.func 40) #[(pT b74 0)] #[])) 7 (.func (.func 41) #[(pT b74 0)] #[])) 8 (.func (.func 42) #[(pT b74 0)] #[])) 9 (.func (.func 43) #[(pT b74 0)] #[])) 10 (.func (.func 44) #[(pT b74 0)] #[])) 11 (.func (.func 45) #[(pT b74 0)] #[])) rfl Try.underlying91 fun w112 M113 => ?_
 replace M113 := M113.nf
 refine zpn 1 ?_
 have M114 : Mem noS w w112 [.blk b1 36 [(.int .i64 0), (.int .i64 0), (.slice none 0 0), (.int .i64 0)], .map b47 (inK .string (vK [])), .map b51 (inK .string (vK [])), .row 2 1 (sM b55) mem.toNat mem.toNat (List.replicate mem.toNat (.int .i64 0)), .row 24 5 (sM b62) 1 1 [(.string ⟨#[]⟩), (.bool false), (.int .i64 0), (.int .i64 0), (.slice none 0 0)], .row 52 1 (sM b69) 1 1 [(.slice none 0 0)], .blk b74 89 [(.slice (sM b62) 1 1), (.slice (sM b69) 1 1), (.map (some b47)), (.map (some b51)), (.slice (sM b55) mem.toNat mem.toNat), (.int .i64 0), (.slice iA inp.length ic), (.slice none 0 0), (.int .i64 (min (max fuel 0) 4194304)), (.int .i64 0), (.int .i64 0), (.slice (sM b77) 13 13)], .row 90 1 (sM b77) 13 13 (List.replicate 13 .nilFunc), .map b86 (inK (Value.int .i64) (opsL b74))] := M113.cast rfl
 refine zrn M114 8 rfl Try.underlying91 fun b115 w116 M117 => ?_
 replace M117 := M117.nf
 have M118 : Mem noS w w116 [.blk b1 36 [(.int .i64 0), (.int .i64 0), (.slice none 0 0), (.int .i64 0)], .map b47 (inK .string (vK [])), .map b51 (inK .string (vK [])), .row 2 1 (sM b55) mem.toNat mem.toNat (List.replicate mem.toNat (.int .i64 0)), .row 24 5 (sM b62) 1 1 [(.string ⟨#[]⟩), (.bool false), (.int .i64 0), (.int .i64 0), (.slice none 0 0)], .row 52 1 (sM b69) 1 1 [(.slice none 0 0)], .blk b74 89 [(.slice (sM b62) 1 1), (.slice (sM b69) 1 1), (.map (some b47)), (.map (some b51)), (.slice (sM b55) mem.toNat mem.toNat), (.int .i64 0), (.slice iA inp.length ic), (.slice none 0 0), (.int .i64 (min (max fuel 0) 4194304)), (.int .i64 0), (.int .i64 0), (.slice (sM b77) 13 13)], .row 90 1 (sM b77) 13 13 (List.replicate 13 .nilFunc), .rng b86 b115 (inK (Value.int .i64) (opsL b74)) (inK (Value.int .i64) (opsL b74)) none] := M117
 refine zfe <| zbk 4 ?_
 intro aC fr
 refine zlp (fun n_ a_ w_ => ∃ (left : List (Value × Value)) (cur : Option (Value × Value)) (ov : List Value), n_ = left.length ∧ Fr a_ 180 [(0, (.slice fA fs.length fc)), (1, (.slice none 0 0)), (2, (.slice gA bg.length gc)), (12, (pT b1 0)), (18, (pT b74 0)), (109, (pT b115 0))] ∧ Mem noS w w_ [.blk b1 36 [(.int .i64 0), (.int .i64 0), (.slice none 0 0), (.int .i64 0)], .map b47 (inK .string (vK [])), .map b51 (inK .string (vK [])), .row 2 1 (sM b55) mem.toNat mem.toNat (List.replicate mem.toNat (.int .i64 0)), .row 24 5 (sM b62) 1 1 [(.string ⟨#[]⟩), (.bool false), (.int .i64 0), (.int .i64 0), (.slice none 0 0)], .row 52 1 (sM b69) 1 1 [(.slice none 0 0)], .blk b74 89 [(.slice (sM b62) 1 1), (.slice (sM b69) 1 1), (.map (some b47)), (.map (some b51)), (.slice (sM b55) mem.toNat mem.toNat), (.int .i64 0), (.slice iA inp.length ic), (.slice none 0 0), (.int .i64 (min (max fuel 0) 4194304)), (.int .i64 0), (.int .i64 0), (.slice (sM b77) 13 13)], .row 90 1 (sM b77) 13 13 ov, .rng b86 b115 (inK (Value.int .i64) (opsL b74)) left cur] ∧ (OpsTo b74 left ov)) (n := _) ⟨(inK (Value.int .i64) (opsL b74)), none, List.replicate 13 .nilFunc, rfl, fr.kp [0, 1, 2, 12, 18, 109], M118, OpsTo.start b74⟩ ?_
 clear fr aC M118; rintro n aC w121 ⟨left, cur, ov, rfl, fr, M122, hops⟩
 revert aC
 refine zsr <| znx M122 8 rfl (fun hl0 => ?_) (fun kx vx lf2 w125 hm_ hlt_ hal_ hsb_ M126 => ?_)
 subst hl0
 have hopv := hops.done
 subst hopv
 refine zpn 1 <| zfe <| zsq <| zcF <| zex 4 <| zbh <| zsq <| zsr <| zpn 1 ?_
 obtain ⟨cs, hcs⟩ : ∃ z, z = chosenF fs := ⟨_, rfl⟩
 have hcl : cs.length ≤ fs.length := hcs ▸ chosenTo_len
 have hfl := hI.len
 refine zcl (countF_e cs fs fA fc w121 hI.len (hI.cells.at_ M122) hcs) ?_
 rintro _ w129 ⟨A127, c128, rfl, M130x⟩
 have M130 := M122.cl M130x
 refine zpn 2 <| zfe <| zbk 6 ?_
 have M131 : Mem noS w w129 [.pk [], .blk b1 36 [(.int .i64 0), (.int .i64 0), (.slice none 0 0), (.int .i64 0)], .map b47 (inK .string (vK (namesTo cs 0))), .map b51 (inK .string (vK [])), .row 2 1 (sM b55) mem.toNat mem.toNat (List.replicate mem.toNat (.int .i64 0)), .row 24 5 (sM b62) (0 + 1) 1 (fnCells ([] : List RFn)), .row 52 1 (sM b69) (0 + 1) 1 (srcCells ([] : List RFn)), .blk b74 89 [(.slice (sM b62) (0 + 1) 1), (.slice (sM b69) (0 + 1) 1), (.map (some b47)), (.map (some b51)), (.slice (sM b55) mem.toNat mem.toNat), (.int .i64 0), (.slice iA inp.length ic), (.slice none 0 0), (.int .i64 (min (max fuel 0) 4194304)), (.int .i64 0), (.int .i64 0), (.slice (sM b77) 13 13)], .row 90 1 (sM b77) 13 13 (opsV b74), .rng b86 b115 (inK (Value.int .i64) (opsL b74)) [] cur, .row 24 5 A127 cs.length c128 (cs.flatMap FFn.cells)] := Mem.pk0 (M130.cast rfl)
 have hnd : (cs.map (·.nm)).Nodup := hcs ▸ chosenF_nodup fs
 intro aC fr
 refine zlp (fun n_ a_ w_ => ∃ (j : Nat) (qs : List RFn) (X : List Res) (rA : Option Addr) (rc : Nat) (sA : Option Addr) (sc : Nat), n_ = cs.length - j ∧ Fr a_ 180 [(1, (.slice none 0 0)), (2, (.slice gA bg.length gc)), (12, (pT b1 0)), (18, (pT b74 0)), (123, (.slice A127 cs.length c128)), (124, (.int .i64 ((cs.length : Nat) : Int))), (125, (nV j))] ∧ Mem noS w w_ [.pk X, .blk b1 36 [(.int .i64 0), (.int .i64 0), (.slice none 0 0), (.int .i64 0)], .map b47 (inK .string (vK (namesTo cs j))), .map b51 (inK .string (vK [])), .row 2 1 (sM b55) mem.toNat mem.toNat (List.replicate mem.toNat (.int .i64 0)), .row 24 5 rA (j + 1) rc (fnCells qs), .row 52 1 sA (j + 1) sc (srcCells qs), .blk b74 89 [(.slice rA (j + 1) rc), (.slice sA (j + 1) sc), (.map (some b47)), (.map (some b51)), (.slice (sM b55) mem.toNat mem.toNat), (.int .i64 0), (.slice iA inp.length ic), (.slice none 0 0), (.int .i64 (min (max fuel 0) 4194304)), (.int .i64 0), (.int .i64 0), (.slice (sM b77) 13 13)], .row 90 1 (sM b77) 13 13 (opsV b74), .rng b86 b115 (inK (Value.int .i64) (opsL b74)) [] cur, .row 24 5 A127 cs.length c128 (cs.flatMap FFn.cells)] ∧ (j ≤ cs.length) ∧ (qs.length = j) ∧ (qs.map RFn.can = (cs.take j).map canF) ∧ (∀ f, f ∈ qs → InX X f)) (n := _) ⟨0, [], [], (sM b62), 1, (sM b69), 1, rfl, fr.kp [1, 2, 12, 18, 123, 124, 125], M131, Nat.zero_le _, rfl, by simp, by simp⟩ ?_
 clear fr aC M131; rintro n aC w134 ⟨j, qs, X, rA, rc, sA, sc, rfl, fr, M135, hj, hql, hqc, hqX⟩
 revert aC
 refine zsp <| zsq <| zcD (((j : Int) : Int) < ((cs.length : Nat) : Int)) (fun c138 => ?_) (fun c138 => ?_)
 refine zsk <| zsq <| zbk 7 <| zsr ?_
 obtain ⟨x, hx⟩ := get_of (l := cs) (i := j) (by omega)
 have hxm := List.mem_of_getElem? hx
 have hxf : x ∈ fs := chosenTo_mem (hcs ▸ hxm)
 obtain ⟨g140, rfl⟩ := row_some (M135.get 10 rfl) (by omega)
 refine zix ⟨g140, 0, none⟩ cs.length 5 (j : Int) <| zls ((⟨g140, 0, none⟩ : Addr).add (((j : Int)).toNat * 5)) [(.string x.nm), (.bool x.wk), (.int .i64 x.pa), (.int .i64 x.va), (.slice x.A ((bsOf x.blks).length) x.c)] (rds_cells (i := j) (rows_rds (f := FFn.cells) (size := 5) (l := cs) (fun _ => rfl) (by decide) (M135.get 10 rfl)) rfl (by rw [List.getElem?_map, hx]; rfl)) ?_
 refine zal M135 24 [(.string ⟨#[]⟩), (.bool false), (.int .i64 0), (.int .i64 0), (.slice none 0 0)] fun b141 w142 hb141 M143 => ?_
 replace M143 := M143.nf
 refine zss M143 11 [(.string x.nm), (.bool x.wk), (.int .i64 x.pa), (.int .i64 x.va), (.slice x.A ((bsOf x.blks).length) x.c)] rfl fun w144 M145 => ?_
 replace M145 := M145.nf
 refine zfe <| zsq <| zkp [(1, (.slice none 0 0)), (2, (.slice gA bg.length gc)), (12, (pT b1 0)), (18, (pT b74 0)), (22, (pT b141 0)), (123, (.slice (sM g140) cs.length c128)), (124, (.int .i64 ((cs.length : Nat) : Int))), (125, (nV j))] ?_
 intro aC fr
 refine zdt 11 (N := 180) (env0 := [(1, (.slice none 0 0)), (2, (.slice gA bg.length gc)), (12, (pT b1 0)), (18, (pT b74 0)), (22, (pT b141 0)), (123, (.slice (sM g140) cs.length c128)), (124, (.int .i64 ((cs.length : Nat) : Int))), (125, (nV j))]) (specAt [.det (pT b74 0), .det (pT b74 0), .det (pT b74 2), .det (.map (some b47)), .det (pT b141 0), .det (.string x.nm), .det (pT b74 0), .det (pT b74 0), .det (pT b74 0), .det (.slice rA (j + 1) rc), .det (.int .i64 (((j + 1) : Nat) : Int))]) fr (la (la (la (la (la (la (la (la (la (la (la lz dP) dP) dP) (dL ⟨b74, 2, none⟩ (.map (some b47)) fun w_ hK => (blk_cell ((M145.then_ hK).get 7 rfl) rfl))) dP) (dL ⟨b141, 0, none⟩ (.string x.nm) fun w_ hK => (blk_cell ((M145.then_ hK).get 11 rfl) rfl))) dP) dP) dP) (dL ⟨b74, 0, none⟩ (.slice rA (j + 1) rc) fun w_ hK => (blk_cell ((M145.then_ hK).get 7 rfl) rfl))) dP) ?_
 intro aC w150 vs hK hv fr
 revert aC; refine zkp [(1, (.slice none 0 0)), (2, (.slice gA bg.length gc)), (12, (pT b1 0)), (18, (pT b74 0)), (22, (pT b141 0)), (123, (.slice (sM g140) cs.length c128)), (124, (.int .i64 ((cs.length : Nat) : Int))), (125, (nV j)), (132, (.map (some b47))), (134, (.string x.nm)), (139, (.int .i64 (((j + 1) : Nat) : Int)))] ?_
 have M151 := M145.then_ hK
 clear hK hv fr aC M145; clear vs
 refine zmu (strLaw Try.underlying9) M151 2 x.nm (.int .i64 (((j + 1) : Nat) : Int)) (l := (vK (namesTo cs j))) rfl Try.underlying84 fun w152 M153 => ?_
 replace M153 := M153.nf
 have M154 : Mem noS w w152 [.pk X, .blk b1 36 [(.int .i64 0), (.int .i64 0), (.slice none 0 0), (.int .i64 0)], .map b47 (inK .string (vK (namesTo cs (j + 1)))), .map b51 (inK .string (vK [])), .row 2 1 (sM b55) mem.toNat mem.toNat (List.replicate mem.toNat (.int .i64 0)), .row 24 5 rA (j + 1) rc (fnCells qs), .row 52 1 sA (j + 1) sc (srcCells qs), .blk b74 89 [(.slice rA (j + 1) rc), (.slice sA (j + 1) sc), (.map (some b47)), (.map (some b51)), (.slice (sM b55) mem.toNat mem.toNat), (.int .i64 0), (.slice iA inp.length ic), (.slice none 0 0), (.int .i64 (min (max fuel 0) 4194304)), (.int .i64 0), (.int .i64 0), (.slice (sM b77) 13 13)], .row 90 1 (sM b77) 13 13 (opsV b74), .rng b86 b115 (inK (Value.int .i64) (opsL b74)) [] cur, .row 24 5 (sM g140) cs.length c128 (cs.flatMap FFn.cells), .blk b141 24 [(.string x.nm), (.bool x.wk), (.int .i64 x.pa), (.int .i64 x.va), (.slice x.A ((bsOf x.blks).length) x.c)]] := M153.cast (by rw [namesTo_up hnd hx])
 refine zfe <| zsq <| zkp [(1, (.slice none 0 0)), (2, (.slice gA bg.length gc)), (12, (pT b1 0)), (18, (pT b74 0)), (22, (pT b141 0)), (123, (.slice (sM g140) cs.length c128)), (124, (.int .i64 ((cs.length : Nat) : Int))), (125, (nV j))] ?_
 intro aC fr
 refine zdj (N := 180) (env0 := [(1, (.slice none 0 0)), (2, (.slice gA bg.length gc)), (12, (pT b1 0)), (18, (pT b74 0)), (22, (pT b141 0)), (123, (.slice (sM g140) cs.length c128)), (124, (.int .i64 ((cs.length : Nat) : Int))), (125, (nV j))]) (specAt [.det (pT b74 0), .det (pT b74 0), .det (pT b74 0), .det (pT b74 0), .det (.slice rA (j + 1) rc), .det (.agg #[(.string x.nm), (.bool x.wk), (.int .i64 x.pa), (.int .i64 x.va), (.slice x.A ((bsOf x.blks).length) x.c)]), Spec.free, Spec.free, .det (pT b74 0), .det (pT b74 0), .det undef]) (fun ls vs w_ => match ls 10 with | true => (∃ (g155 : Nat) (A156 : Option Addr) (c157 : Nat), vs 6 = (.slice (sM g155) 1 1) ∧ vs 7 = (.slice A156 ((j + 1) + 1) c157) ∧ Mem noS w w_ [.pk X, .blk b1 36 [(.int .i64 0), (.int .i64 0), (.slice none 0 0), (.int .i64 0)], .map b47 (inK .string (vK (namesTo cs (j + 1)))), .map b51 (inK .string (vK [])), .row 2 1 (sM b55) mem.toNat mem.toNat (List.replicate mem.toNat (.int .i64 0)), .row 24 5 A156 ((j + 1) + 1) c157 ((fnCells qs) ++ [(.string x.nm), (.bool x.wk), (.int .i64 x.pa), (.int .i64 x.va), (.slice x.A ((bsOf x.blks).length) x.c)]), .row 52 1 sA (j + 1) sc (srcCells qs), .blk b74 89 [(.slice A156 ((j + 1) + 1) c157), (.slice sA (j + 1) sc), (.map (some b47)), (.map (some b51)), (.slice (sM b55) mem.toNat mem.toNat), (.int .i64 0), (.slice iA inp.length ic), (.slice none 0 0), (.int .i64 (min (max fuel 0) 4194304)), (.int .i64 0), (.int .i64 0), (.slice (sM b77) 13 13)], .row 90 1 (sM b77) 13 13 (opsV b74), .rng b86 b115 (inK (Value.int .i64) (opsL b74)) [] cur, .row 24 5 (sM g140) cs.length c128 (cs.flatMap FFn.cells), .blk b141 24 [(.string x.nm), (.bool x.wk), (.int .i64 x.pa), (.int .i64 x.va), (.slice x.A ((bsOf x.blks).length) x.c)], .row 24 5 (sM g155) 1 1 [(.string x.nm), (.bool x.wk), (.int .i64 x.pa), (.int .i64 x.va), (.slice x.A ((bsOf x.blks).length) x.c)]]) | false => (match ls 7 with | true => (∃ (g155 : Nat) (A156 : Option Addr) (c157 : Nat), vs 6 = (.slice (sM g155) 1 1) ∧ vs 7 = (.slice A156 ((j + 1) + 1) c157) ∧ Mem noS w w_ [.pk X, .blk b1 36 [(.int .i64 0), (.int .i64 0), (.slice none 0 0), (.int .i64 0)], .map b47 (inK .string (vK (namesTo cs (j + 1)))), .map b51 (inK .string (vK [])), .row 2 1 (sM b55) mem.toNat mem.toNat (List.replicate mem.toNat (.int .i64 0)), .row 24 5 A156 ((j + 1) + 1) c157 ((fnCells qs) ++ [(.string x.nm), (.bool x.wk), (.int .i64 x.pa), (.int .i64 x.va), (.slice x.A ((bsOf x.blks).length) x.c)]), .row 52 1 sA (j + 1) sc (srcCells qs), .blk b74 89 [(.slice rA (j + 1) rc), (.slice sA (j + 1) sc), (.map (some b47)), (.map (some b51)), (.slice (sM b55) mem.toNat mem.toNat), (.int .i64 0), (.slice iA inp.length ic), (.slice none 0 0), (.int .i64 (min (max fuel 0) 4194304)), (.int .i64 0), (.int .i64 0), (.slice (sM b77) 13 13)], .row 90 1 (sM b77) 13 13 (opsV b74), .rng b86 b115 (inK (Value.int .i64) (opsL b74)) [] cur, .row 24 5 (sM g140) cs.length c128 (cs.flatMap FFn.cells), .blk b141 24 [(.string x.nm), (.bool x.wk), (.int .i64 x.pa), (.int .i64 x.va), (.slice x.A ((bsOf x.blks).length) x.c)], .row 24 5 (sM g155) 1 1 [(.string x.nm), (.bool x.wk), (.int .i64 x.pa), (.int .i64 x.va), (.slice x.A ((bsOf x.blks).length) x.c)]]) | false => (match ls 6 with | true => (∃ (g155 : Nat), vs 6 = (.slice (sM g155) 1 1) ∧ Mem noS w w_ [.pk X, .blk b1 36 [(.int .i64 0), (.int .i64 0), (.slice none 0 0), (.int .i64 0)], .map b47 (inK .string (vK (namesTo cs (j + 1)))), .map b51 (inK .string (vK [])), .row 2 1 (sM b55) mem.toNat mem.toNat (List.replicate mem.toNat (.int .i64 0)), .row 24 5 rA (j + 1) rc (fnCells qs), .row 52 1 sA (j + 1) sc (srcCells qs), .blk b74 89 [(.slice rA (j + 1) rc), (.slice sA (j + 1) sc), (.map (some b47)), (.map (some b51)), (.slice (sM b55) mem.toNat mem.toNat), (.int .i64 0), (.slice iA inp.length ic), (.slice none 0 0), (.int .i64 (min (max fuel 0) 4194304)), (.int .i64 0), (.int .i64 0), (.slice (sM b77) 13 13)], .row 90 1 (sM b77) 13 13 (opsV b74), .rng b86 b115 (inK (Value.int .i64) (opsL b74)) [] cur, .row 24 5 (sM g140) cs.length c128 (cs.flatMap FFn.cells), .blk b141 24 [(.string x.nm), (.bool x.wk), (.int .i64 x.pa), (.int .i64 x.va), (.slice x.A ((bsOf x.blks).length) x.c)], .row 24 5 (sM g155) 1 1 [(.string x.nm), (.bool x.wk), (.int .i64 x.pa), (.int .i64 x.va), (.slice x.A ((bsOf x.blks).length) x.c)]]) | false => (Mem noS w w_ [.pk X, .blk b1 36 [(.int .i64 0), (.int .i64 0), (.slice none 0 0), (.int .i64 0)], .map b47 (inK .string (vK (namesTo cs (j + 1)))), .map b51 (inK .string (vK [])), .row 2 1 (sM b55) mem.toNat mem.toNat (List.replicate mem.toNat (.int .i64 0)), .row 24 5 rA (j + 1) rc (fnCells qs), .row 52 1 sA (j + 1) sc (srcCells qs), .blk b74 89 [(.slice rA (j + 1) rc), (.slice sA (j + 1) sc), (.map (some b47)), (.map (some b51)), (.slice (sM b55) mem.toNat mem.toNat), (.int .i64 0), (.slice iA inp.length ic), (.slice none 0 0), (.int .i64 (min (max fuel 0) 4194304)), (.int .i64 0), (.int .i64 0), (.slice (sM b77) 13 13)], .row 90 1 (sM b77) 13 13 (opsV b74), .rng b86 b115 (inK (Value.int .i64) (opsL b74)) [] cur, .row 24 5 (sM g140) cs.length c128 (cs.flatMap FFn.cells), .blk b141 24 [(.string x.nm), (.bool x.wk), (.int .i64 x.pa), (.int .i64 x.va), (.slice x.A ((bsOf x.blks).length) x.c)]])))) fr (plain_ok (.det (.det (.det (.det (.det (.det (.free (.free (.det (.det (.det .nil)))))))))))) (M154.then_ (Mem.drew _)) (la (la (la (la (la (la (la (la (la (la (la lz (dPJ fun _ _ _ _ h => h)) (dPJ fun _ _ _ _ h => h)) (dPJ fun _ _ _ _ h => h)) (dPJ fun _ _ _ _ h => h)) (dLJ ⟨b74, 0, none⟩ (.slice rA (j + 1) rc) (fun _ _ _ _ h => h) ?_)) ?_) ?_) ?_) (dPJ fun _ _ _ _ h => h)) (dPJ fun _ _ _ _ h => h)) ?_) ?_
 intro w_ ls vs hJ hi_ hc_ hp
 have f7 : ls 7 = false := notyet hc_ hi_ (n := 11) (by kernel_rfl)
 have f10 : ls 10 = false := notyet hc_ hi_ (n := 11) (by kernel_rfl)
 have hM_ := hJ
 simp only [f7, f10] at hM_
 cases fu : ls 6
 simp only [fu] at hM_
 exact (blk_cell (hM_.get 7 rfl) rfl)
 simp only [fu] at hM_
 obtain ⟨_, _, hM_⟩ := hM_
 exact (blk_cell (hM_.get 7 rfl) rfl)
 intro aa_ w_ ls vs rest_ hJ hi_ hc_ hp hF
 refine okG (g0 := none) ?_
 replace hF : Fr aa_ 180 [(22, (pT b141 0))] := hF.kp [22]
 have f6 : ls 6 = false := notyet hc_ hi_ (n := 11) (by kernel_rfl)
 have f7 : ls 7 = false := notyet hc_ hi_ (n := 11) (by kernel_rfl)
 have f10 : ls 10 = false := notyet hc_ hi_ (n := 11) (by kernel_rfl)
 have hM_ := hJ
 simp only [f6, f7, f10] at hM_
 refine From_loadS (by kernel_rfl : coreAt _ 0 = some (some 145, (.load 24 (.tmp 22)), 24, none)) hF (by kernel_rfl) (by kernel_rfl) (k' := 1) rfl (ad := ⟨b141, 0, none⟩) (vs := [(.string x.nm), (.bool x.wk), (.int .i64 x.pa), (.int .i64 x.va), (.slice x.A ((bsOf x.blks).length) x.c)]) (by kernel_rfl) (by kernel_rfl) (blk_cells (hM_.get 11 rfl)) ?_
 intro a2 ea _
 refine From_end (by kernel_rfl) ?_; exact op_doneJ (d := some 145) (by kernel_rfl) ea rfl hJ
 intro aa_ w_ ls vs rest_ hJ hi_ hc_ hp hF
 refine okG (g0 := none) ?_
 replace hF : Fr aa_ 180 [(145, (.agg #[(.string x.nm), (.bool x.wk), (.int .i64 x.pa), (.int .i64 x.va), (.slice x.A ((bsOf x.blks).length) x.c)]))] := hF.kp [145]
 have f6 : ls 6 = false := hi_
 have f7 : ls 7 = false := notyet hc_ hi_ (n := 11) (by kernel_rfl)
 have f10 : ls 10 = false := notyet hc_ hi_ (n := 11) (by kernel_rfl)
 have hM_ := hJ
 simp only [f6, f7, f10] at hM_
 refine zBs 146 31 1 #[(0, (.tmp 145))] 31 hF (e := 24) (size := 5) (zs := [(.string ⟨#[]⟩), (.bool false), (.int .i64 0), (.int .i64 0), (.slice none 0 0)]) (vs := [(0, (.agg #[(.string x.nm), (.bool x.wk), (.int .i64 x.pa), (.int .i64 x.va), (.slice x.A ((bsOf x.blks).length) x.c)]))]) (cs := [(.string x.nm), (.bool x.wk), (.int .i64 x.pa), (.int .i64 x.va), (.slice x.A ((bsOf x.blks).length) x.c)]) hM_ ?_
 intro g155p w2 _ _ hm2 _ a2 ea _
 refine From_end (by kernel_rfl) ?_; refine op_doneJ (d := some 146) (by kernel_rfl) ea trivial ?_
 show match ls 10 with | true => _ | false => (match ls 7 with | true => _ | false => (∃ (g155 : Nat), _))
 rw [f10, f7]
 exact ⟨g155p, rfl, hm2⟩
 intro aa_ w_ ls vs rest_ hJ hi_ hc_ hp hF
 refine okG (g0 := none) ?_
 replace hF : Fr aa_ 180 [(144, (.slice rA (j + 1) rc)), (146, vs 6)] := hF.kp [144, 146]
 have f6 : ls 6 = true := donebefore hc_ (fun k hk => (hp k hk).1) (n := 11) (by kernel_rfl)
 have f7 : ls 7 = false := hi_
 have f10 : ls 10 = false := notyet hc_ hi_ (n := 11) (by kernel_rfl)
 have hM_ := hJ
 simp only [f6, f7, f10] at hM_
 obtain ⟨g155p, e6_, hM_⟩ := hM_
 try rw [e6_] at hF
 refine zAp 147 (.tmp 144) (.tmp 146) 31 31 hF (e := 24) (size := 5) (bytes := 64) (z := (.agg #[(.string ⟨#[]⟩), (.bool false), (.int .i64 0), (.int .i64 0), (.slice none 0 0)])) (A := rA) (B := (sM g155p)) (n := (j + 1)) (cap := rc) (m := 1) (cap' := 1) (xs := (fnCells qs)) (news := [(.string x.nm), (.bool x.wk), (.int .i64 x.pa), (.int .i64 x.va), (.slice x.A ((bsOf x.blks).length) x.c)]) hM_ 5 rfl (row_rd (hM_.get 12 rfl)) rfl (by simp [Value.oneCell']) (by omega) (by simp only [maxLen]; omega) ?_
 intro A156p c157p w2 hm2 _ a2 ea _
 refine From_end (by kernel_rfl) ?_; refine op_doneJ (d := some 147) (by kernel_rfl) ea trivial ?_
 show match ls 10 with | true => _ | false => (∃ (g155 : Nat) (A156 : Option Addr) (c157 : Nat), _)
 rw [f10]
 exact ⟨g155p, A156p, c157p, e6_, rfl, hm2⟩
 intro aa_ w_ ls vs rest_ hJ hi_ hc_ hp hF
 refine okG (g0 := none) ?_
 replace hF : Fr aa_ 180 [(147, vs 7), (149, (pT b74 0))] := hF.kp [147, 149]
 have f6 : ls 6 = true := donebefore hc_ (fun k hk => (hp k hk).1) (n := 11) (by kernel_rfl)
 have f7 : ls 7 = true := donebefore hc_ (fun k hk => (hp k hk).1) (n := 11) (by kernel_rfl)
 have f10 : ls 10 = false := hi_
 have hM_ := hJ
 simp only [f6, f7, f10] at hM_
 obtain ⟨g155p, A156p, c157p, e6_, e7_, hM_⟩ := hM_
 try rw [e6_] at hF
 try rw [e7_] at hF
 refine From_store_blk (by kernel_rfl : coreAt _ 0 = some (none, (.store 31 (.tmp 149) (.tmp 147)), 0, none)) hF (by kernel_rfl) (by kernel_rfl) (k' := 1) rfl (b := b74) (off := 0) (t0 := 89) (v := (.slice A156p ((j + 1) + 1) c157p)) (cs := [(.slice rA (j + 1) rc), (.slice sA (j + 1) sc), (.map (some b47)), (.map (some b51)), (.slice (sM b55) mem.toNat mem.toNat), (.int .i64 0), (.slice iA inp.length ic), (.slice none 0 0), (.int .i64 (min (max fuel 0) 4194304)), (.int .i64 0), (.int .i64 0), (.slice (sM b77) 13 13)]) (by kernel_rfl) (by kernel_rfl) (by kernel_rfl) rfl hM_ 7 rfl (by simp) ?_
 intro w2 hm2 _ a2 ea _
 refine From_end (by kernel_rfl) ?_; refine op_doneJ (d := none) (by kernel_rfl) ea rfl ?_
 show ∃ (g155 : Nat) (A156 : Option Addr) (c157 : Nat), _
 exact ⟨g155p, A156p, c157p, e6_, e7_, hm2⟩
 intro aC w162 ls vs hall M163 hv fr
 simp only [show ls 10 = true from hall 10 (by decide)] at M163
 revert aC; refine zkp [(1, (.slice none 0 0)), (2, (.slice gA bg.length gc)), (12, (pT b1 0)), (18, (pT b74 0)), (22, (pT b141 0)), (123, (.slice (sM g140) cs.length c128)), (124, (.int .i64 ((cs.length : Nat) : Int))), (125, (nV j))] ?_
 obtain ⟨g155, A156, c157, e6_, e7_, M163⟩ := M163
 try rw [e6_]
 try rw [e7_]
 clear e6_ e7_
 clear hall hv fr aC M154; clear vs ls
 have hA := (hI.fn x hxf).bs
 have hm : (bsOf x.blks).length ≤ 1000000 := by rw [bsOf_len]; have := (hI.ok x hxf).2; omega
 refine zkp [(1, (.slice none 0 0)), (2, (.slice gA bg.length gc)), (12, (pT b1 0)), (18, (pT b74 0)), (22, (pT b141 0)), (123, (.slice (sM g140) cs.length c128)), (124, (.int .i64 ((cs.length : Nat) : Int))), (125, (nV j))] ?_
 intro aC fr
 refine zdj (N := 180) (env0 := [(1, (.slice none 0 0)), (2, (.slice gA bg.length gc)), (12, (pT b1 0)), (18, (pT b74 0)), (22, (pT b141 0)), (123, (.slice (sM g140) cs.length c128)), (124, (.int .i64 ((cs.length : Nat) : Int))), (125, (nV j))]) (specAt [.det (pT b74 0), .det (pT b74 0), .det (pT b74 0), .det (pT b74 1), .det (.slice sA (j + 1) sc), .det (.agg #[(.string x.nm), (.bool x.wk), (.int .i64 x.pa), (.int .i64 x.va), (.slice x.A ((bsOf x.blks).length) x.c)]), Spec.free, Spec.free, Spec.free, .det (pT b74 0), .det (pT b74 1), .det undef]) (fun ls vs w_ => match ls 11 with | true => (∃ (A164 : Option Addr) (c165 : Nat) (rows166 : List RowV) (g167 : Nat) (A168 : Option Addr) (c169 : Nat), vs 6 = (.slice A164 ((bsOf x.blks).length) c165) ∧ vs 7 = (.slice (sM g167) 1 1) ∧ vs 8 = (.slice A168 ((j + 1) + 1) c169) ∧ (FamOf (Value.int .i64) rows166 (allL (bsOf x.blks))) ∧ Mem noS w w_ [.pk X, .blk b1 36 [(.int .i64 0), (.int .i64 0), (.slice none 0 0), (.int .i64 0)], .map b47 (inK .string (vK (namesTo cs (j + 1)))), .map b51 (inK .string (vK [])), .row 2 1 (sM b55) mem.toNat mem.toNat (List.replicate mem.toNat (.int .i64 0)), .row 24 5 A156 ((j + 1) + 1) c157 ((fnCells qs) ++ [(.string x.nm), (.bool x.wk), (.int .i64 x.pa), (.int .i64 x.va), (.slice x.A ((bsOf x.blks).length) x.c)]), .row 52 1 A168 ((j + 1) + 1) c169 ((srcCells qs) ++ [(.slice A164 ((bsOf x.blks).length) c165)]), .blk b74 89 [(.slice A156 ((j + 1) + 1) c157), (.slice A168 ((j + 1) + 1) c169), (.map (some b47)), (.map (some b51)), (.slice (sM b55) mem.toNat mem.toNat), (.int .i64 0), (.slice iA inp.length ic), (.slice none 0 0), (.int .i64 (min (max fuel 0) 4194304)), (.int .i64 0), (.int .i64 0), (.slice (sM b77) 13 13)], .row 90 1 (sM b77) 13 13 (opsV b74), .rng b86 b115 (inK (Value.int .i64) (opsL b74)) [] cur, .row 24 5 (sM g140) cs.length c128 (cs.flatMap FFn.cells), .blk b141 24 [(.string x.nm), (.bool x.wk), (.int .i64 x.pa), (.int .i64 x.va), (.slice x.A ((bsOf x.blks).length) x.c)], .row 24 5 (sM g155) 1 1 [(.string x.nm), (.bool x.wk), (.int .i64 x.pa), (.int .i64 x.va), (.slice x.A ((bsOf x.blks).length) x.c)], .fam 3 rows166, .row 44 1 A164 ((bsOf x.blks).length) c165 (slv rows166), .row 52 1 (sM g167) 1 1 [(.slice A164 ((bsOf x.blks).length) c165)]]) | false => (match ls 8 with | true => (∃ (A164 : Option Addr) (c165 : Nat) (rows166 : List RowV) (g167 : Nat) (A168 : Option Addr) (c169 : Nat), vs 6 = (.slice A164 ((bsOf x.blks).length) c165) ∧ vs 7 = (.slice (sM g167) 1 1) ∧ vs 8 = (.slice A168 ((j + 1) + 1) c169) ∧ (FamOf (Value.int .i64) rows166 (allL (bsOf x.blks))) ∧ Mem noS w w_ [.pk X, .blk b1 36 [(.int .i64 0), (.int .i64 0), (.slice none 0 0), (.int .i64 0)], .map b47 (inK .string (vK (namesTo cs (j + 1)))), .map b51 (inK .string (vK [])), .row 2 1 (sM b55) mem.toNat mem.toNat (List.replicate mem.toNat (.int .i64 0)), .row 24 5 A156 ((j + 1) + 1) c157 ((fnCells qs) ++ [(.string x.nm), (.bool x.wk), (.int .i64 x.pa), (.int .i64 x.va), (.slice x.A ((bsOf x.blks).length) x.c)]), .row 52 1 A168 ((j + 1) + 1) c169 ((srcCells qs) ++ [(.slice A164 ((bsOf x.blks).length) c165)]), .blk b74 89 [(.slice A156 ((j + 1) + 1) c157), (.slice sA (j + 1) sc), (.map (some b47)), (.map (some b51)), (.slice (sM b55) mem.toNat mem.toNat), (.int .i64 0), (.slice iA inp.length ic), (.slice none 0 0), (.int .i64 (min (max fuel 0) 4194304)), (.int .i64 0), (.int .i64 0), (.slice (sM b77) 13 13)], .row 90 1 (sM b77) 13 13 (opsV b74), .rng b86 b115 (inK (Value.int .i64) (opsL b74)) [] cur, .row 24 5 (sM g140) cs.length c128 (cs.flatMap FFn.cells), .blk b141 24 [(.string x.nm), (.bool x.wk), (.int .i64 x.pa), (.int .i64 x.va), (.slice x.A ((bsOf x.blks).length) x.c)], .row 24 5 (sM g155) 1 1 [(.string x.nm), (.bool x.wk), (.int .i64 x.pa), (.int .i64 x.va), (.slice x.A ((bsOf x.blks).length) x.c)], .fam 3 rows166, .row 44 1 A164 ((bsOf x.blks).length) c165 (slv rows166), .row 52 1 (sM g167) 1 1 [(.slice A164 ((bsOf x.blks).length) c165)]]) | false => (match ls 7 with | true => (∃ (A164 : Option Addr) (c165 : Nat) (rows166 : List RowV) (g167 : Nat), vs 6 = (.slice A164 ((bsOf x.blks).length) c165) ∧ vs 7 = (.slice (sM g167) 1 1) ∧ (FamOf (Value.int .i64) rows166 (allL (bsOf x.blks))) ∧ Mem noS w w_ [.pk X, .blk b1 36 [(.int .i64 0), (.int .i64 0), (.slice none 0 0), (.int .i64 0)], .map b47 (inK .string (vK (namesTo cs (j + 1)))), .map b51 (inK .string (vK [])), .row 2 1 (sM b55) mem.toNat mem.toNat (List.replicate mem.toNat (.int .i64 0)), .row 24 5 A156 ((j + 1) + 1) c157 ((fnCells qs) ++ [(.string x.nm), (.bool x.wk), (.int .i64 x.pa), (.int .i64 x.va), (.slice x.A ((bsOf x.blks).length) x.c)]), .row 52 1 sA (j + 1) sc (srcCells qs), .blk b74 89 [(.slice A156 ((j + 1) + 1) c157), (.slice sA (j + 1) sc), (.map (some b47)), (.map (some b51)), (.slice (sM b55) mem.toNat mem.toNat), (.int .i64 0), (.slice iA inp.length ic), (.slice none 0 0), (.int .i64 (min (max fuel 0) 4194304)), (.int .i64 0), (.int .i64 0), (.slice (sM b77) 13 13)], .row 90 1 (sM b77) 13 13 (opsV b74), .rng b86 b115 (inK (Value.int .i64) (opsL b74)) [] cur, .row 24 5 (sM g140) cs.length c128 (cs.flatMap FFn.cells), .blk b141 24 [(.string x.nm), (.bool x.wk), (.int .i64 x.pa), (.int .i64 x.va), (.slice x.A ((bsOf x.blks).length) x.c)], .row 24 5 (sM g155) 1 1 [(.string x.nm), (.bool x.wk), (.int .i64 x.pa), (.int .i64 x.va), (.slice x.A ((bsOf x.blks).length) x.c)], .fam 3 rows166, .row 44 1 A164 ((bsOf x.blks).length) c165 (slv rows166), .row 52 1 (sM g167) 1 1 [(.slice A164 ((bsOf x.blks).length) c165)]]) | false => (match ls 6 with | true => (∃ (A164 : Option Addr) (c165 : Nat) (rows166 : List RowV), vs 6 = (.slice A164 ((bsOf x.blks).length) c165) ∧ (FamOf (Value.int .i64) rows166 (allL (bsOf x.blks))) ∧ Mem noS w w_ [.pk X, .blk b1 36 [(.int .i64 0), (.int .i64 0), (.slice none 0 0), (.int .i64 0)], .map b47 (inK .string (vK (namesTo cs (j + 1)))), .map b51 (inK .string (vK [])), .row 2 1 (sM b55) mem.toNat mem.toNat (List.replicate mem.toNat (.int .i64 0)), .row 24 5 A156 ((j + 1) + 1) c157 ((fnCells qs) ++ [(.string x.nm), (.bool x.wk), (.int .i64 x.pa), (.int .i64 x.va), (.slice x.A ((bsOf x.blks).length) x.c)]), .row 52 1 sA (j + 1) sc (srcCells qs), .blk b74 89 [(.slice A156 ((j + 1) + 1) c157), (.slice sA (j + 1) sc), (.map (some b47)), (.map (some b51)), (.slice (sM b55) mem.toNat mem.toNat), (.int .i64 0), (.slice iA inp.length ic), (.slice none 0 0), (.int .i64 (min (max fuel 0) 4194304)), (.int .i64 0), (.int .i64 0), (.slice (sM b77) 13 13)], .row 90 1 (sM b77) 13 13 (opsV b74), .rng b86 b115 (inK (Value.int .i64) (opsL b74)) [] cur, .row 24 5 (sM g140) cs.length c128 (cs.flatMap FFn.cells), .blk b141 24 [(.string x.nm), (.bool x.wk), (.int .i64 x.pa), (.int .i64 x.va), (.slice x.A ((bsOf x.blks).length) x.c)], .row 24 5 (sM g155) 1 1 [(.string x.nm), (.bool x.wk), (.int .i64 x.pa), (.int .i64 x.va), (.slice x.A ((bsOf x.blks).length) x.c)], .fam 3 rows166, .row 44 1 A164 ((bsOf x.blks).length) c165 (slv rows166)]) | false => (Mem noS w w_ [.pk X, .blk b1 36 [(.int .i64 0), (.int .i64 0), (.slice none 0 0), (.int .i64 0)], .map b47 (inK .string (vK (namesTo cs (j + 1)))), .map b51 (inK .string (vK [])), .row 2 1 (sM b55) mem.toNat mem.toNat (List.replicate mem.toNat (.int .i64 0)), .row 24 5 A156 ((j + 1) + 1) c157 ((fnCells qs) ++ [(.string x.nm), (.bool x.wk), (.int .i64 x.pa), (.int .i64 x.va), (.slice x.A ((bsOf x.blks).length) x.c)]), .row 52 1 sA (j + 1) sc (srcCells qs), .blk b74 89 [(.slice A156 ((j + 1) + 1) c157), (.slice sA (j + 1) sc), (.map (some b47)), (.map (some b51)), (.slice (sM b55) mem.toNat mem.toNat), (.int .i64 0), (.slice iA inp.length ic), (.slice none 0 0), (.int .i64 (min (max fuel 0) 4194304)), (.int .i64 0), (.int .i64 0), (.slice (sM b77) 13 13)], .row 90 1 (sM b77) 13 13 (opsV b74), .rng b86 b115 (inK (Value.int .i64) (opsL b74)) [] cur, .row 24 5 (sM g140) cs.length c128 (cs.flatMap FFn.cells), .blk b141 24 [(.string x.nm), (.bool x.wk), (.int .i64 x.pa), (.int .i64 x.va), (.slice x.A ((bsOf x.blks).length) x.c)], .row 24 5 (sM g155) 1 1 [(.string x.nm), (.bool x.wk), (.int .i64 x.pa), (.int .i64 x.va), (.slice x.A ((bsOf x.blks).length) x.c)]]))))) fr (plain_ok (.det (.det (.det (.det (.det (.det (.free (.free (.free (.det (.det (.det .nil))))))))))))) (M163.then_ (Mem.drew _)) (la (la (la (la (la (la (la (la (la (la (la (la lz (dPJ fun _ _ _ _ h => h)) (dPJ fun _ _ _ _ h => h)) (dPJ fun _ _ _ _ h => h)) (dPJ fun _ _ _ _ h => h)) (dLJ ⟨b74, 1, none⟩ (.slice sA (j + 1) sc) (fun _ _ _ _ h => h) ?_)) ?_) ?_) ?_) ?_) (dPJ fun _ _ _ _ h => h)) (dPJ fun _ _ _ _ h => h)) ?_) ?_
 intro w_ ls vs hJ hi_ hc_ hp
 have f8 : ls 8 = false := notyet hc_ hi_ (n := 12) (by kernel_rfl)
 have f11 : ls 11 = false := notyet hc_ hi_ (n := 12) (by kernel_rfl)
 have hM_ := hJ
 simp only [f8, f11] at hM_
 cases fu7 : ls 7
 simp only [fu7] at hM_
 cases fu6 : ls 6
 simp only [fu6] at hM_
 exact (blk_cell (hM_.get 7 rfl) rfl)
 simp only [fu6] at hM_
 obtain ⟨_, _, _, _, _, hM_⟩ := hM_
 exact (blk_cell (hM_.get 7 rfl) rfl)
 simp only [fu7] at hM_
 obtain ⟨_, _, _, _, _, _, _, hM_⟩ := hM_
 exact (blk_cell (hM_.get 7 rfl) rfl)
 intro aa_ w_ ls vs rest_ hJ hi_ hc_ hp hF
 refine okG (g0 := none) ?_
 replace hF : Fr aa_ 180 [(22, (pT b141 0))] := hF.kp [22]
 have f6 : ls 6 = false := notyet hc_ hi_ (n := 12) (by kernel_rfl)
 have f7 : ls 7 = false := notyet hc_ hi_ (n := 12) (by kernel_rfl)
 have f8 : ls 8 = false := notyet hc_ hi_ (n := 12) (by kernel_rfl)
 have f11 : ls 11 = false := notyet hc_ hi_ (n := 12) (by kernel_rfl)
 have hM_ := hJ
 simp only [f6, f7, f8, f11] at hM_
 refine From_loadS (by kernel_rfl : coreAt _ 0 = some (some 155, (.load 24 (.tmp 22)), 24, none)) hF (by kernel_rfl) (by kernel_rfl) (k' := 1) rfl (ad := ⟨b141, 0, none⟩) (vs := [(.string x.nm), (.bool x.wk), (.int .i64 x.pa), (.int .i64 x.va), (.slice x.A ((bsOf x.blks).length) x.c)]) (by kernel_rfl) (by kernel_rfl) (blk_cells (hM_.get 11 rfl)) ?_
 intro a2 ea _
 refine From_end (by kernel_rfl) ?_; exact op_doneJ (d := some 155) (by kernel_rfl) ea rfl hJ
 intro aa_ w_ ls vs rest_ hJ hi_ hc_ hp hF
 refine okG (g0 := none) ?_
 replace hF : Fr aa_ 180 [(155, (.agg #[(.string x.nm), (.bool x.wk), (.int .i64 x.pa), (.int .i64 x.va), (.slice x.A ((bsOf x.blks).length) x.c)]))] := hF.kp [155]
 have f6 : ls 6 = false := hi_
 have f7 : ls 7 = false := notyet hc_ hi_ (n := 12) (by kernel_rfl)
 have f8 : ls 8 = false := notyet hc_ hi_ (n := 12) (by kernel_rfl)
 have f11 : ls 11 = false := notyet hc_ hi_ (n := 12) (by kernel_rfl)
 have hM_ := hJ
 simp only [f6, f7, f8, f11] at hM_
 refine From_call (by kernel_rfl : coreAt _ 0 = some (some 156, (.call { callee := (.value (.func 19)), args := #[(.tmp 155)], argTypes := #[24] }), 52, none)) hF (by kernel_rfl) (by kernel_rfl) (k' := 1) rfl (f := 19) (vs := [(.agg #[(.string x.nm), (.bool x.wk), (.int .i64 x.pa), (.int .i64 x.va), (.slice x.A ((bsOf x.blks).length) x.c)])]) (cap := []) (by kernel_rfl) (by kernel_rfl) (by kernel_rfl) (all_c _ _ _ _ x.A x.c (bsOf x.blks) w_ hm (hA.at_ hM_)) ?_
 rintro _ w2 ⟨A164p, c165p, rows166p, rfl, hfrows166, hm2⟩ a2 ea _
 have hm3 := hM_.call hm2
 refine From_end (by kernel_rfl) ?_; refine op_doneJ (d := some 156) (by kernel_rfl) ea trivial ?_
 show match ls 11 with | true => _ | false => (match ls 8 with | true => _ | false => (match ls 7 with | true => _ | false => (∃ (A164 : Option Addr) (c165 : Nat) (rows166 : List RowV), _)))
 rw [f11, f8, f7]
 exact ⟨A164p, c165p, rows166p, rfl, hfrows166, hm3⟩
 intro aa_ w_ ls vs rest_ hJ hi_ hc_ hp hF
 refine okG (g0 := none) ?_
 replace hF : Fr aa_ 180 [(156, vs 6)] := hF.kp [156]
 have f6 : ls 6 = true := donebefore hc_ (fun k hk => (hp k hk).1) (n := 12) (by kernel_rfl)
 have f7 : ls 7 = false := hi_
 have f8 : ls 8 = false := notyet hc_ hi_ (n := 12) (by kernel_rfl)
 have f11 : ls 11 = false := notyet hc_ hi_ (n := 12) (by kernel_rfl)
 have hM_ := hJ
 simp only [f6, f7, f8, f11] at hM_
 obtain ⟨A164p, c165p, rows166p, e6_, hfrows166, hM_⟩ := hM_
 try rw [e6_] at hF
 refine zBs 157 86 1 #[(0, (.tmp 156))] 86 hF (e := 52) (size := 1) (zs := [(.slice none 0 0)]) (vs := [(0, (.slice A164p ((bsOf x.blks).length) c165p))]) (cs := [(.slice A164p ((bsOf x.blks).length) c165p)]) hM_ ?_
 intro g167p w2 _ _ hm2 _ a2 ea _
 refine From_end (by kernel_rfl) ?_; refine op_doneJ (d := some 157) (by kernel_rfl) ea trivial ?_
 show match ls 11 with | true => _ | false => (match ls 8 with | true => _ | false => (∃ (A164 : Option Addr) (c165 : Nat) (rows166 : List RowV) (g167 : Nat), _))
 rw [f11, f8]
 exact ⟨A164p, c165p, rows166p, g167p, e6_, rfl, hfrows166, hm2⟩
 intro aa_ w_ ls vs rest_ hJ hi_ hc_ hp hF
 refine okG (g0 := none) ?_
 replace hF : Fr aa_ 180 [(154, (.slice sA (j + 1) sc)), (157, vs 7)] := hF.kp [154, 157]
 have f6 : ls 6 = true := donebefore hc_ (fun k hk => (hp k hk).1) (n := 12) (by kernel_rfl)
 have f7 : ls 7 = true := donebefore hc_ (fun k hk => (hp k hk).1) (n := 12) (by kernel_rfl)
 have f8 : ls 8 = false := hi_
 have f11 : ls 11 = false := notyet hc_ hi_ (n := 12) (by kernel_rfl)
 have hM_ := hJ
 simp only [f6, f7, f8, f11] at hM_
 obtain ⟨A164p, c165p, rows166p, g167p, e6_, e7_, hfrows166, hM_⟩ := hM_
 try rw [e6_] at hF
 try rw [e7_] at hF
 refine zAp 158 (.tmp 154) (.tmp 157) 86 86 hF (e := 52) (size := 1) (bytes := 24) (z := (.slice none 0 0)) (A := sA) (B := (sM g167p)) (n := (j + 1)) (cap := sc) (m := 1) (cap' := 1) (xs := (srcCells qs)) (news := [(.slice A164p ((bsOf x.blks).length) c165p)]) hM_ 6 rfl (row_rd (hM_.get 15 rfl)) rfl (by simp [Value.oneCell']) (by omega) (by simp only [maxLen]; omega) ?_
 intro A168p c169p w2 hm2 _ a2 ea _
 refine From_end (by kernel_rfl) ?_; refine op_doneJ (d := some 158) (by kernel_rfl) ea trivial ?_
 show match ls 11 with | true => _ | false => (∃ (A164 : Option Addr) (c165 : Nat) (rows166 : List RowV) (g167 : Nat) (A168 : Option Addr) (c169 : Nat), _)
 rw [f11]
 exact ⟨A164p, c165p, rows166p, g167p, A168p, c169p, e6_, e7_, rfl, hfrows166, hm2⟩
 intro aa_ w_ ls vs rest_ hJ hi_ hc_ hp hF
 refine okG (g0 := none) ?_
 replace hF : Fr aa_ 180 [(158, vs 8), (160, (pT b74 1))] := hF.kp [158, 160]
 have f6 : ls 6 = true := donebefore hc_ (fun k hk => (hp k hk).1) (n := 12) (by kernel_rfl)
 have f7 : ls 7 = true := donebefore hc_ (fun k hk => (hp k hk).1) (n := 12) (by kernel_rfl)
 have f8 : ls 8 = true := donebefore hc_ (fun k hk => (hp k hk).1) (n := 12) (by kernel_rfl)
 have f11 : ls 11 = false := hi_
 have hM_ := hJ
 simp only [f6, f7, f8, f11] at hM_
 obtain ⟨A164p, c165p, rows166p, g167p, A168p, c169p, e6_, e7_, e8_, hfrows166, hM_⟩ := hM_
 try rw [e6_] at hF
 try rw [e7_] at hF
 try rw [e8_] at hF
 refine From_store_blk (by kernel_rfl : coreAt _ 0 = some (none, (.store 86 (.tmp 160) (.tmp 158)), 0, none)) hF (by kernel_rfl) (by kernel_rfl) (k' := 1) rfl (b := b74) (off := 1) (t0 := 89) (v := (.slice A168p ((j + 1) + 1) c169p)) (cs := [(.slice A156 ((j + 1) + 1) c157), (.slice sA (j + 1) sc), (.map (some b47)), (.map (some b51)), (.slice (sM b55) mem.toNat mem.toNat), (.int .i64 0), (.slice iA inp.length ic), (.slice none 0 0), (.int .i64 (min (max fuel 0) 4194304)), (.int .i64 0), (.int .i64 0), (.slice (sM b77) 13 13)]) (by kernel_rfl) (by kernel_rfl) (by kernel_rfl) rfl hM_ 7 rfl (by simp) ?_
 intro w2 hm2 _ a2 ea _
 refine From_end (by kernel_rfl) ?_; refine op_doneJ (d := none) (by kernel_rfl) ea rfl ?_
 show ∃ (A164 : Option Addr) (c165 : Nat) (rows166 : List RowV) (g167 : Nat) (A168 : Option Addr) (c169 : Nat), _
 exact ⟨A164p, c165p, rows166p, g167p, A168p, c169p, e6_, e7_, e8_, hfrows166, hm2⟩
 intro aC w174 ls vs hall M175 hv fr
 simp only [show ls 11 = true from hall 11 (by decide)] at M175
 revert aC; refine zkp [(1, (.slice none 0 0)), (2, (.slice gA bg.length gc)), (12, (pT b1 0)), (18, (pT b74 0)), (123, (.slice (sM g140) cs.length c128)), (124, (.int .i64 ((cs.length : Nat) : Int))), (125, (nV j))] ?_
 obtain ⟨A164, c165, rows166, g167, A168, c169, e6_, e7_, e8_, hfrows166, M175⟩ := M175
 try rw [e6_]
 try rw [e7_]
 try rw [e8_]
 clear e6_ e7_ e8_
 clear hall hv fr aC M163; clear vs ls
 refine zrg <| zar ((j : Int) + 1) <| zpn 1 <| zfe ?_
 have M176 := M175.od [10, 10, 10, 10, 10, 10, 10, 10, 10, 10, 14, 14, 12] 13
 have M177 : Mem noS w w174 [.pk (X ++ [.fam 3 rows166, .row 44 1 A164 ((bsOf x.blks).length) c165 (slv rows166)]), .blk b1 36 [(.int .i64 0), (.int .i64 0), (.slice none 0 0), (.int .i64 0)], .map b47 (inK .string (vK (namesTo cs (j + 1)))), .map b51 (inK .string (vK [])), .row 2 1 (sM b55) mem.toNat mem.toNat (List.replicate mem.toNat (.int .i64 0)), .row 24 5 A156 ((j + 1) + 1) c157 ((fnCells qs) ++ [(.string x.nm), (.bool x.wk), (.int .i64 x.pa), (.int .i64 x.va), (.slice x.A ((bsOf x.blks).length) x.c)]), .row 52 1 A168 ((j + 1) + 1) c169 ((srcCells qs) ++ [(.slice A164 ((bsOf x.blks).length) c165)]), .blk b74 89 [(.slice A156 ((j + 1) + 1) c157), (.slice A168 ((j + 1) + 1) c169), (.map (some b47)), (.map (some b51)), (.slice (sM b55) mem.toNat mem.toNat), (.int .i64 0), (.slice iA inp.length ic), (.slice none 0 0), (.int .i64 (min (max fuel 0) 4194304)), (.int .i64 0), (.int .i64 0), (.slice (sM b77) 13 13)], .row 90 1 (sM b77) 13 13 (opsV b74), .rng b86 b115 (inK (Value.int .i64) (opsL b74)) [] cur, .row 24 5 (sM g140) cs.length c128 (cs.flatMap FFn.cells)] := Mem.pk2 (l := [.fam 3 rows166, .row 44 1 A164 ((bsOf x.blks).length) c165 (slv rows166)]) M176
 have M178 : Mem noS w w174 [.pk (X ++ [.fam 3 rows166, .row 44 1 A164 ((bsOf x.blks).length) c165 (slv rows166)]), .blk b1 36 [(.int .i64 0), (.int .i64 0), (.slice none 0 0), (.int .i64 0)], .map b47 (inK .string (vK (namesTo cs (j + 1)))), .map b51 (inK .string (vK [])), .row 2 1 (sM b55) mem.toNat mem.toNat (List.replicate mem.toNat (.int .i64 0)), .row 24 5 A156 ((j + 1) + 1) c157 (fnCells (qs ++ [(mkF x A164 c165 rows166)])), .row 52 1 A168 ((j + 1) + 1) c169 (srcCells (qs ++ [(mkF x A164 c165 rows166)])), .blk b74 89 [(.slice A156 ((j + 1) + 1) c157), (.slice A168 ((j + 1) + 1) c169), (.map (some b47)), (.map (some b51)), (.slice (sM b55) mem.toNat mem.toNat), (.int .i64 0), (.slice iA inp.length ic), (.slice none 0 0), (.int .i64 (min (max fuel 0) 4194304)), (.int .i64 0), (.int .i64 0), (.slice (sM b77) 13 13)], .row 90 1 (sM b77) 13 13 (opsV b74), .rng b86 b115 (inK (Value.int .i64) (opsL b74)) [] cur, .row 24 5 (sM g140) cs.length c128 (cs.flatMap FFn.cells)] := M177.cast (by rw [fns_snoc (A := A164) (c := c165) (rows := rows166), srcs_snoc hfrows166])
 intro aC fr
 exact ⟨cs.length - (j + 1), by omega, j + 1, qs ++ [(mkF x A164 c165 rows166)], X ++ [.fam 3 rows166, .row 44 1 A164 ((bsOf x.blks).length) c165 (slv rows166)], A156, c157, A168, c169, rfl, fr.kp [1, 2, 12, 18, 123, 124, 125], M178, by omega, by simp [hql], qs_snoc hqc hx hfrows166, inX_snoc hqX hfrows166⟩
 refine zex 6 <| zbh <| zsr ?_
 have hjl : j = cs.length := by omega
 rw [hjl, List.take_length] at hqc
 have M181 := M135.cl (Mem.nilrow _ 5 1)
 have M182 := M181.od [10, 10, 3, 10, 9, 9, 7, 7, 8, 11, 10, 11] 12
 have M183 : Mem noS w w134 [.blk b74 89 [(.slice rA (j + 1) rc), (.slice sA (j + 1) sc), (.map (some b47)), (.map (some b51)), (.slice (sM b55) mem.toNat mem.toNat), (.int .i64 0), (.slice iA inp.length ic), (.slice none 0 0), (.int .i64 (min (max fuel 0) 4194304)), (.int .i64 0), (.int .i64 0), (.slice (sM b77) 13 13)], .row 2 1 (sM b55) mem.toNat mem.toNat (ints (List.replicate mem.toNat 0)), .row 5 1 none 0 0 [], .map b51 (inK .string (vK [])), .pk X, .map b47 (inK .string (vK (namesTo cs j))), .row 24 5 rA (j + 1) rc (fnCells qs), .row 52 1 sA (j + 1) sc (srcCells qs), .row 90 1 (sM b77) 13 13 (opsV b74), .blk b1 36 [(.int .i64 0), (.int .i64 0), (.slice none 0 0), (.int .i64 0)], .rng b86 b115 (inK (Value.int .i64) (opsL b74)) [] cur, .row 24 5 A127 cs.length c128 (cs.flatMap FFn.cells)] := M182.cast (by rw [mem_ints])
 have M184 : Mem noS w w134 [.blk b74 89 [(.slice rA (qs.length + 1) rc), (.slice sA (qs.length + 1) sc), (.map (some b47)), (.map (some b51)), (.slice (sM b55) mem.toNat mem.toNat), (.int .i64 0), (.slice iA inp.length ic), (.slice none 0 0), (.int .i64 (min (max fuel 0) 4194304)), (.int .i64 0), (.int .i64 0), (.slice (sM b77) 13 13)], .row 2 1 (sM b55) mem.toNat mem.toNat (ints (List.replicate mem.toNat 0)), .row 5 1 none 0 0 [], .map b51 (inK .string (vK [])), .pk X, .map b47 (inK .string (vK (namesTo cs j))), .row 24 5 rA (j + 1) rc (fnCells qs), .row 52 1 sA (j + 1) sc (srcCells qs), .row 90 1 (sM b77) 13 13 (opsV b74), .blk b1 36 [(.int .i64 0), (.int .i64 0), (.slice none 0 0), (.int .i64 0)], .rng b86 b115 (inK (Value.int .i64) (opsL b74)) [] cur, .row 24 5 A127 cs.length c128 (cs.flatMap FFn.cells)] := (by rw [hql]; exact M183)
 have hWF := run_wf (names := namesTo cs j) (data := dataTo (chosenD []) (chosenD []).length) (fuel := fuel) (r := b74) (rA := rA) (rc := rc) (sA := sA) (sc := sc) (mB := b47) (dB := b51) (mG := b55) (oP := ⟨b77, 0, none⟩) hI hcs hqc hbad
 have hro := run_ro (l := (runL (mkC qs (namesTo cs j) (dataTo (chosenD []) (chosenD []).length) inp mem fuel b74 rA rc sA sc b47 b51 b55 iA ic ⟨b77, 0, none⟩) (lyS (List.replicate mem.toNat 0) 0) none 0 ++ [.map b51 (inK .string (vK []))])) (data := dataTo (chosenD []) (chosenD []).length) (mem := mem) (fuel := fuel) (sc := sc) (rc := rc) (dB := b51) (mG := b55) hI hcs hqc hqX M184
 refine zpn 3 <| zcl (play_c (mkC qs (namesTo cs j) (dataTo (chosenD []) (chosenD []).length) inp mem fuel b74 rA rc sA sc b47 b51 b55 iA ic ⟨b77, 0, none⟩) [] none 0 bg gA gc w134 hWF (by simp) (by simp) (by show 1 ≤ mem.toNat; omega) (chosenD []) rfl rfl hI.glen (Mem.pk_holds (l := (runL (mkC qs (namesTo cs j) (dataTo (chosenD []) (chosenD []).length) inp mem fuel b74 rA rc sA sc b47 b51 b55 iA ic ⟨b77, 0, none⟩) (lyS (List.replicate mem.toNat 0) 0) none 0 ++ [.map b51 (inK .string (vK []))])) M184) dats_nil hro (hI.bg.pk_at (l := (runL (mkC qs (namesTo cs j) (dataTo (chosenD []) (chosenD []).length) inp mem fuel b74 rA rc sA sc b47 b51 b55 iA ic ⟨b77, 0, none⟩) (lyS (List.replicate mem.toNat 0) 0) none 0 ++ [.map b51 (inK .string (vK []))])) M184)) ?_
 rintro _ w190 ⟨kk185, cc186, s187, oA188, oc189, hout, rfl, M191x⟩
 have M191 : Mem noS w w190 [.blk b74 89 [(.slice rA (qs.length + 1) rc), (.slice sA (qs.length + 1) sc), (.map (some b47)), (.map (some b51)), (.slice (sM b55) mem.toNat mem.toNat), (.int .i64 s187.next), (.slice ((inAt iA ic s187.pos).1) (inp.length - s187.pos) ((inAt iA ic s187.pos).2)), (.slice oA188 s187.out.length oc189), (.int .i64 (min (max fuel 0) 4194304)), (.int .i64 s187.steps), (.int .i64 s187.opened), (.slice (sM b77) 13 13)], .row 2 1 (sM b55) mem.toNat mem.toNat (ints s187.mem), .row 5 1 oA188 s187.out.length oc189 (u8s s187.out), .map b51 (inK .string (vK (dataTo (chosenD []) (chosenD []).length))), .pk X, .map b47 (inK .string (vK (namesTo cs j))), .row 24 5 rA (j + 1) rc (fnCells qs), .row 52 1 sA (j + 1) sc (srcCells qs), .row 90 1 (sM b77) 13 13 (opsV b74), .blk b1 36 [(.int .i64 0), (.int .i64 0), (.slice none 0 0), (.int .i64 0)], .rng b86 b115 (inK (Value.int .i64) (opsL b74)) [] cur, .row 24 5 A127 cs.length c128 (cs.flatMap FFn.cells)] := M184.mdk M191x
 refine zpn 5 <| zfe <| zsq <| zkp [(12, (pT b1 0)), (18, (pT b74 0)), (23, (.int .i64 kk185)), (24, (.int .i64 cc186))] ?_
 intro aC fr
 refine zdt 10 (N := 180) (env0 := [(12, (pT b1 0)), (18, (pT b74 0)), (23, (.int .i64 kk185)), (24, (.int .i64 cc186))]) (specAt [.det (.int .i64 kk185), .det (.int .i64 cc186), .det (pT b74 0), .det (pT b74 0), .det (pT b74 7), .det (.slice oA188 s187.out.length oc189), .det (pT b74 0), .det (pT b74 0), .det (pT b74 9), .det (.int .i64 s187.steps)]) fr (la (la (la (la (la (la (la (la (la (la lz dP) dP) dP) dP) dP) (dL ⟨b74, 7, none⟩ (.slice oA188 s187.out.length oc189) fun w_ hK => (blk_cell ((M191.then_ hK).get 0 rfl) rfl))) dP) dP) dP) (dL ⟨b74, 9, none⟩ (.int .i64 s187.steps) fun w_ hK => (blk_cell ((M191.then_ hK).get 0 rfl) rfl))) ?_
 intro aC w196 vs hK hv fr
 revert aC; refine zkp [(12, (pT b1 0)), (169, (.int .i64 kk185)), (170, (.int .i64 cc186)), (174, (.slice oA188 s187.out.length oc189)), (178, (.int .i64 s187.steps))] ?_
 have M197 := M191.then_ hK
 clear hK hv fr aC M191; clear vs
 refine zpn 1 <| zss M197 9 [(.int .i64 kk185), (.int .i64 cc186), (.slice oA188 s187.out.length oc189), (.int .i64 s187.steps)] rfl fun w198 M199 => ?_
 replace M199 := M199.nf
 refine zfe <| zre ?_
 intro aC fr
 refine outC (ad := ⟨b1, 0, none⟩) (vs := [(.int .i64 kk185), (.int .i64 cc186), (.slice oA188 s187.out.length oc189), (.int .i64 s187.steps)]) fr rfl (by kernel_rfl) (by kernel_rfl) (blk_cells (M199.get 9 rfl)) ?_
 refine ⟨_, rfl, ?_⟩
 have M202 := M199.od [2] 1
 have hO := run_out (ds := []) (k := kk185) (c := cc186) (s := s187) hcs hqc hbad (by rw [← hjl]; exact hout)
 rw [hO]; exact ⟨oA188, oc189, rfl, M202⟩
 obtain ⟨⟨p1, p2⟩, hp, hpe⟩ := hops.left _ hm_
 obtain ⟨rfl, rfl⟩ := Prod.mk.inj hpe
 obtain ⟨fnn, rfl⟩ := opsL_func hp
 have hop2 := hops.next hp hal_ hsb_
 have hpr := opsL_rng hp
 have hovl := hops.len
 have M203 : Mem noS w w125 [.blk b1 36 [(.int .i64 0), (.int .i64 0), (.slice none 0 0), (.int .i64 0)], .map b47 (inK .string (vK [])), .map b51 (inK .string (vK [])), .row 2 1 (sM b55) mem.toNat mem.toNat (List.replicate mem.toNat (.int .i64 0)), .row 24 5 (sM b62) 1 1 [(.string ⟨#[]⟩), (.bool false), (.int .i64 0), (.int .i64 0), (.slice none 0 0)], .row 52 1 (sM b69) 1 1 [(.slice none 0 0)], .blk b74 89 [(.slice (sM b62) 1 1), (.slice (sM b69) 1 1), (.map (some b47)), (.map (some b51)), (.slice (sM b55) mem.toNat mem.toNat), (.int .i64 0), (.slice iA inp.length ic), (.slice none 0 0), (.int .i64 (min (max fuel 0) 4194304)), (.int .i64 0), (.int .i64 0), (.slice (sM b77) 13 13)], .row 90 1 (sM b77) 13 13 ov, .rng b86 b115 (inK (Value.int .i64) (opsL b74)) lf2 (some (.int .i64 p1, .func (.func fnn) #[pT b74 0] #[]))] := M126
 refine zpn 1 <| zfe <| zsq <| zcT <| zsk <| zbk 5 <| zsr <| zey M203 8 (.int .i64 p1) (.func (.func fnn) #[pT b74 0] #[]) rfl <| zpn 4 <| zfe ?_
 refine zrg <| zpn 3 <| zld ⟨b74, 11, none⟩ (.slice (sM b77) 13 13) (blk_cell (M203.get 6 rfl) rfl) <| zpn 2 <| zix ⟨b77, 0, none⟩ 13 1 p1 <| zsw M203 7 ((⟨b77, 0, none⟩ : Addr).add ((p1).toNat * 1)) ((p1).toNat * 1) (.func (.func fnn) #[pT b74 0] #[]) rfl rfl (by omega) fun w204 M205 => ?_
 replace M205 := M205.nf
 refine zfe ?_
 intro aC fr
 exact ⟨lf2.length, by omega, lf2, some (.int .i64 p1, .func (.func fnn) #[pT b74 0] #[]), ov.set p1.toNat (.func (.func fnn) #[pT b74 0] #[]), rfl, fr.kp [0, 1, 2, 12, 18, 109], (M205.cast (by simp)), hop2⟩
end Go.Proofs.Ytjekgaabcigphaa
