/-
  Texts of the proof, part 9.
-/
import Derived.Test.YtlfbloadopeamaaDoorZD8
namespace Go.Proofs.YtlfbloadopeamaaDoor
open Go.Mor
set_option maxRecDepth 10000 in
theorem there_c (q gm qt gi go n N : Nat) (nm wk so : Value) (pa va : Int) (A : Option Addr) (c : Nat) (l : List (Int × Int)) (insL outL : List Int) (f g : Int → Int) (ds : Dfs) (v b k : Int) (w : World) (hq : RO noS w (.blk q 77 [nm, wk, (.int .i64 pa), (.int .i64 va), (.slice A N c), so, (pT qt 0), (.slice (sM gm) n n)])) (hmd : RO noS w (.row 103 2 (sM gm) n n (mdc l))) (hqt : RO noS w (.blk qt 108 [(.slice (sM gi) N N), (.slice (sM go) N N)])) (hgi : RO noS w (.row 3 1 (sM gi) N N (ints insL))) (hgo : RO noS w (.row 3 1 (sM go) N N (ints outL))) (hin : IntsOf N insL f) (hout : IntsOf N outL g) (hva : va = (n : Int)) (htb : TabS n ds l) (hds : ∀ d, d ∈ ds → 0 ≤ d.2.1 ∧ d.2.1 < (N : Int) ∧ -1 ≤ d.2.2) (hb0 : 0 ≤ b) (hb1 : b < (N : Int)) :
    Calls Tryd.prog 74 #[(pT q 0), (.int .i64 v), (.int .i64 b), (.int .i64 k)] w (Ret fun u w' => u = .bool (decide (thereQ (standQ f g) pa va ds v b k)) ∧ Mem noS w w' []) := by
 refine zen 57 [(pT q 0), (.int .i64 v), (.int .i64 b), (.int .i64 k)] Tryd.func74 ?_
 have hM := Mem.init w
 refine zsp <| zsq <| zsr <| zpn 3 ?_
 obtain ⟨B1, hB1⟩ : ∃ B : Bool, B = decide ((v : Int) < 0) := ⟨_, rfl⟩
 refine zkp [(0, (pT q 0)), (1, (.int .i64 v)), (2, (.int .i64 b)), (3, (.int .i64 k)), (12, (.bool (decide ((v : Int) < 0))))] ?_
 rw [← hB1]
 have iB1 : B1 = true ↔ ((v : Int) < 0) := by rw [hB1]; simp only [decide_eq_true_eq]
 clear hB1
 intro aC fr
 refine zpk 5 8 [13, 17] fr (news := [(13, (cond (!B1) (.int .i64 v) undef)), (17, (cond (!B1) (pT q 3) undef))]) (by cases B1 <;> kernel_rfl) ?_
 intro aC fr
 refine From_either (B := (!B1)) (d := (some 18)) (.int .i64 va) fr (by cases B1 <;> kernel_rfl) (fun hB hh => ?_) ?_
 cases B1 <;> first | (exact absurd hB (by decide)) | skip
 have c1 : ¬ ((v : Int) < 0) := (fun h => Bool.noConfusion (iB1.2 h) : ¬ ((v : Int) < 0))
 exact From_ld (some 18) ⟨q, 3, none⟩ fr (by kernel_rfl) (.int .i64 va) (blk_cell (hM.ro hq) rfl) hh
 intro aC fr
 refine zpk 2 11 [20] fr (news := [(20, (.bool (B1 || decide ((v : Int) ≥ va))))]) (by cases B1 <;> kernel_rfl) ?_
 intro aC fr
 revert aC
 refine zfe <| zcP (B1 || decide ((v : Int) ≥ va)) (((v : Int) < 0) ∨ ((v : Int) ≥ va)) (by simp only [Bool.or_eq_true, decide_eq_true_eq, iB1]) (fun c10 => ?_) (fun c10 => ?_)
 refine zsp <| zre <| zo1 (.bool false) ?_
 have hR : false = true ↔ False := by simp
 exact ⟨bool_dec hR (⟨False.elim, fun h => there_out (by omega) h⟩), hM⟩
 refine zsk <| zsr ?_
 obtain ⟨pm, hpm⟩ := get_of (l := l) (i := v.toNat) (by have := htb.len; omega)
 refine zpn 3 <| zld ⟨q, 7, none⟩ (.slice (sM gm) n n) (blk_cell (hM.ro hq) rfl) <| zpn 1 <| zix ⟨gm, 0, none⟩ n 2 v <| zls ((⟨gm, 0, none⟩ : Addr).add ((v).toNat * 2)) [(.int .i64 pm.1), (.int .i64 pm.2)] (md_rd (row_rd (hM.ro hmd)) rfl hpm) <| zal hM 103 [(.int .i64 0), (.int .i64 0)] fun b11 w12 hb11 hM13 => ?_
 replace hM13 := hM13.nf
 clear hM
 refine zss hM13 0 [(.int .i64 pm.1), (.int .i64 pm.2)] rfl fun w14 hM15 => ?_
 replace hM15 := hM15.nf
 refine zfe <| zsq <| zbk 0 <| zsr <| zpn 5 <| zld ⟨q, 2, none⟩ (.int .i64 pa) (blk_cell (hM15.ro hq) rfl) <| zkp [(0, (pT q 0)), (2, (.int .i64 b)), (3, (.int .i64 k)), (9, (pT b11 0)), (29, (.int .i64 v)), (34, (.int .i64 pa))] <| zpn 2 <| zfe <| zcD ((v : Int) < pa) (fun c16 => ?_) (fun c16 => ?_)
 refine zsp <| zre <| zbr <| zo1 (.bool true) ?_
 have hR : true = true ↔ True := by simp
 have hM17 := hM15.od [] 0
 exact ⟨bool_dec hR (⟨fun _ => there_par (by omega) (by omega) (by omega), fun _ => trivial⟩), hM17⟩
 refine zsr <| zpn 1 <| zld ⟨b11, 0, none⟩ (.int .i64 pm.1) (blk_cell (hM15.get 0 rfl) rfl) <| zpn 2 <| zfe <| zcD ((pm.1 : Int) < 0) (fun c18 => ?_) (fun c18 => ?_)
 refine zsp <| zre <| zbr <| zo1 (.bool false) ?_
 have hR : false = true ↔ False := by simp
 have hM19 := hM15.od [] 0
 exact ⟨bool_dec hR (⟨False.elim, fun h => there_no htb (fun d hd => (hds d hd).1) hpm (by omega) (by omega) (by omega) (by omega) h⟩), hM19⟩
 refine zsr <| zpn 1 <| zld ⟨b11, 0, none⟩ (.int .i64 pm.1) (blk_cell (hM15.get 0 rfl) rfl) <| zpn 3 <| zfe <| zcP ((pm.1 : Int) == b) ((pm.1 : Int) = b) (by simp only [beq_iff_eq]) (fun c20 => ?_) (fun c20 => ?_)
 refine zsr <| zpn 1 <| zld ⟨b11, 1, none⟩ (.int .i64 pm.2) (blk_cell (hM15.get 0 rfl) rfl) <| zpn 3 <| zfe <| zre <| zbr <| zo1 (.bool (decide ((pm.2 : Int) ≤ k))) ?_
 have hR : decide ((pm.2 : Int) ≤ k) = true ↔ ((pm.2 : Int) ≤ k) := by simp only [decide_eq_true_eq]
 have hM21 := hM15.od [] 0
 exact ⟨bool_dec hR (there_here htb hpm (by omega) (by omega) hva (by omega) (by omega) (by omega)), hM21⟩
 have hpr := there_rng (N := N) htb hds hpm (by omega) (by omega) (by omega)
 refine zsk <| zsq ?_
 obtain ⟨B22, hB22⟩ : ∃ B : Bool, B = decide (standQ f g pm.1 b) := ⟨_, rfl⟩
 refine zkp [(0, (pT q 0)), (2, (.int .i64 b)), (3, (.int .i64 k)), (9, (pT b11 0))] ?_
 intro aC fr
 refine zdr (N := 57) (env0 := [(0, (pT q 0)), (2, (.int .i64 b)), (3, (.int .i64 k)), (9, (pT b11 0))]) (specAt [.det (pT q 0), .det (pT q 0), .det (pT q 6), .det (pT qt 0), .det (pT b11 0), .det (.int .i64 pm.1), .det (.int .i64 b), .det (.bool B22), .det (.bool B22)]) fr (la (la (la (la (la (la (la (la (la lz dP) dP) dP) (dL ⟨q, 6, none⟩ (pT qt 0) fun w_ hK => (blk_cell ((hM15.then_ hK).ro hq) rfl))) dP) (dL ⟨b11, 0, none⟩ (.int .i64 pm.1) fun w_ hK => (blk_cell ((hM15.then_ hK).get 0 rfl) rfl))) dP) (dD (fun w_ hK => stands_c qt gi go N insL outL f g pm.1 b w_ (hqt.at_ (hM15.then_ hK)) (hgi.at_ (hM15.then_ hK)) (hgo.at_ (hM15.then_ hK)) hin hout (by omega) hpr (by omega) (by omega)) (congrArg Value.bool hB22.symm))) dP) ?_
 intro aC w27 vs hK hv fr
 revert aC; refine zkp [(8, (.bool B22))] ?_
 have hM28 := hM15.then_ hK
 clear hK hv fr aC hM15; clear vs
 have iB22 : B22 = true ↔ (standQ f g pm.1 b) := by rw [hB22]; simp only [decide_eq_true_eq]
 clear hB22
 refine zre <| zo1 (.bool B22) ?_
 have hR : B22 = true ↔ (standQ f g pm.1 b) := by simp only [iB22]
 have hM29 := hM28.od [] 0
 exact ⟨bool_dec hR (there_up htb hpm (by omega) (by omega) hva (by omega) (by omega) (by omega)), hM29⟩
set_option maxRecDepth 10000 in
theorem rthere_c (gm n co : Nat) (Ao : Option Addr) (pa va : Int) (l : List (Int × Int)) (ds : Dfs) (bs : List SB) (rows : List RowV) (v b k : Int) (w : World) (hN0 : 0 < bs.length) (hmd : RO noS w (.row 90 2 (sM gm) n n (mdc l))) (hF0 : RO noS w (.fam 4 rows)) (hR : RO noS w (.row 58 1 Ao bs.length co (slv rows))) (hfo : FamOf Value.bool rows (overL bs)) (hva : va = (n : Int)) (htb : TabR pa n ds l) (hpd : ∀ d, d ∈ ds → pa ≤ d.1) (hds : ∀ d, d ∈ ds → 0 ≤ d.2.1 ∧ d.2.1 < (bs.length : Int) ∧ -1 ≤ d.2.2) (hb0 : 0 ≤ b) (hb1 : b < (bs.length : Int)) :
    Calls Tryd.prog 58 #[(.slice (sM gm) n n), (.slice Ao bs.length co), (.int .i64 v), (.int .i64 b), (.int .i64 k)] w (Ret fun u w' => u = .bool (decide (thereQ (overD bs) pa va ds v b k)) ∧ Mem noS w w' []) := by
 have hll := htb.len
 refine zen 58 [(.slice (sM gm) n n), (.slice Ao bs.length co), (.int .i64 v), (.int .i64 b), (.int .i64 k)] Tryd.func58 ?_
 have hM := Mem.init w
 refine zsp <| zsq <| zsr <| zpn 3 ?_
 obtain ⟨B1, hB1⟩ : ∃ B : Bool, B = decide ((v : Int) < 0) := ⟨_, rfl⟩
 refine zkp [(0, (.slice (sM gm) n n)), (1, (.slice Ao bs.length co)), (2, (.int .i64 v)), (3, (.int .i64 b)), (4, (.int .i64 k)), (13, (.bool (decide ((v : Int) < 0))))] ?_
 rw [← hB1]
 have iB1 : B1 = true ↔ ((v : Int) < 0) := by rw [hB1]; simp only [decide_eq_true_eq]
 clear hB1
 intro aC fr
 refine zpk 6 9 [18, 19] fr (news := [(18, (.bool (B1 || decide ((v : Int) ≥ ((n : Nat) : Int))))), (19, (.bool (B1 || decide ((v : Int) ≥ ((n : Nat) : Int)))))]) (by cases B1 <;> kernel_rfl) ?_
 intro aC fr
 obtain ⟨B6, hB6⟩ : ∃ B : Bool, B = (B1 || decide ((v : Int) ≥ ((n : Nat) : Int))) := ⟨_, rfl⟩
 revert aC
 refine zkp [(0, (.slice (sM gm) n n)), (1, (.slice Ao bs.length co)), (2, (.int .i64 v)), (3, (.int .i64 b)), (4, (.int .i64 k)), (19, (.bool (B1 || decide ((v : Int) ≥ ((n : Nat) : Int)))))] ?_
 rw [← hB6]
 have iB6 : B6 = true ↔ (((v : Int) < 0) ∨ ((v : Int) ≥ ((n : Nat) : Int))) := by rw [hB6]; simp only [Bool.or_eq_true, decide_eq_true_eq, iB1]
 clear hB6
 intro aC fr
 refine zpk 2 11 [20, 21] fr (news := [(20, (cond (!B6) (.slice (sM gm) n n) undef)), (21, (cond (!B6) (.int .i64 v) undef))]) (by cases B6 <;> kernel_rfl) ?_
 intro aC fr
 refine From_either (B := (!B6)) (d := (some 22)) (.pointer (some ((⟨gm, 0, none⟩ : Addr).add ((v).toNat * 2)))) fr (by cases B6 <;> kernel_rfl) (fun hB hh => ?_) ?_
 cases B6 <;> first | (exact absurd hB (by decide)) | skip
 have c6 : ¬ (((v : Int) < 0) ∨ ((v : Int) ≥ ((n : Nat) : Int))) := (fun h => Bool.noConfusion (iB6.2 h) : ¬ (((v : Int) < 0) ∨ ((v : Int) ≥ ((n : Nat) : Int))))
 exact From_ix (some 22) ⟨gm, 0, none⟩ n 2 v fr (by kernel_rfl) (by omega) (by omega) hh
 intro aC fr
 refine zpk 1 13 [23] fr (news := [(23, (cond (!B6) (.pointer (some ((⟨gm, 0, none⟩ : Addr).add ((v).toNat * 2)))) undef))]) (by cases B6 <;> kernel_rfl) ?_
 intro aC fr
 refine From_either (B := (!B6)) (d := (some 24)) (.int .i64 ((l.getD v.toNat (0, 0)).1)) fr (by cases B6 <;> kernel_rfl) (fun hB hh => ?_) ?_
 cases B6 <;> first | (exact absurd hB (by decide)) | skip
 have c6 : ¬ (((v : Int) < 0) ∨ ((v : Int) ≥ ((n : Nat) : Int))) := (fun h => Bool.noConfusion (iB6.2 h) : ¬ (((v : Int) < 0) ∨ ((v : Int) ≥ ((n : Nat) : Int))))
 exact From_ld (some 24) ((⟨gm, 0, none⟩ : Addr).add ((v).toNat * 2)) fr (by kernel_rfl) (.int .i64 ((l.getD v.toNat (0, 0)).1)) (md_rd0 (row_rd (hM.ro hmd)) rfl (get_getD _ (by omega))) hh
 intro aC fr
 refine zpk 2 16 [26] fr (news := [(26, (.bool (B6 || decide (((l.getD v.toNat (0, 0)).1 : Int) < 0))))]) (by cases B6 <;> kernel_rfl) ?_
 intro aC fr
 revert aC
 refine zfe <| zcP (B6 || decide (((l.getD v.toNat (0, 0)).1 : Int) < 0)) ((((v : Int) < 0) ∨ ((v : Int) ≥ ((n : Nat) : Int))) ∨ (((l.getD v.toNat (0, 0)).1 : Int) < 0)) (by simp only [Bool.or_eq_true, decide_eq_true_eq, iB6]) (fun c19 => ?_) (fun c19 => ?_)
 refine zsp <| zre <| zo1 (.bool false) ?_
 have hR : false = true ↔ False := by simp
 exact ⟨bool_dec hR (⟨False.elim, fun h => rthere_out htb (fun d hd => (hds d hd).1) hva (by omega) h⟩), hM⟩
 have hpm := get_getD (l := l) (i := v.toNat) (0, 0) (by omega)
 refine zsk <| zsq <| zsr <| zpn 2 <| zix ⟨gm, 0, none⟩ n 2 v <| zpn 1 <| zld (((⟨gm, 0, none⟩ : Addr).add ((v).toNat * 2)).add 1) (.int .i64 ((l.getD v.toNat (0, 0)).2)) (md_rd (row_rd (hM.ro hmd)) rfl hpm 1 _ rfl) <| zpn 1 <| zfe <| zcP (((l.getD v.toNat (0, 0)).2 : Int) == (-2)) (((l.getD v.toNat (0, 0)).2 : Int) = (-2)) (by simp only [beq_iff_eq]) (fun c20 => ?_) (fun c20 => ?_)
 refine zsp <| zre <| zo1 (.bool true) ?_
 have hR : true = true ↔ True := by simp
 exact ⟨bool_dec hR (⟨fun _ => rthere_par htb (fun d hd => (hds d hd).2.2) hpm (by omega) (by omega) hva (by omega) (by omega), fun _ => trivial⟩), hM⟩
 refine zsk <| zsq <| zsr <| zpn 2 <| zix ⟨gm, 0, none⟩ n 2 v <| zkp [(0, (.slice (sM gm) n n)), (1, (.slice Ao bs.length co)), (2, (.int .i64 v)), (3, (.int .i64 b)), (4, (.int .i64 k)), (35, (.pointer (some ((⟨gm, 0, none⟩ : Addr).add ((v).toNat * 2)))))] <| zpn 1 <| zld ((⟨gm, 0, none⟩ : Addr).add ((v).toNat * 2)) (.int .i64 ((l.getD v.toNat (0, 0)).1)) (md_rd0 (row_rd (hM.ro hmd)) rfl hpm) <| zpn 2 <| zfe <| zcP (((l.getD v.toNat (0, 0)).1 : Int) == b) (((l.getD v.toNat (0, 0)).1 : Int) = b) (by simp only [beq_iff_eq]) (fun c21 => ?_) (fun c21 => ?_)
 refine zsr <| zpn 2 <| zix ⟨gm, 0, none⟩ n 2 v <| zpn 1 <| zld (((⟨gm, 0, none⟩ : Addr).add ((v).toNat * 2)).add 1) (.int .i64 ((l.getD v.toNat (0, 0)).2)) (md_rd (row_rd (hM.ro hmd)) rfl hpm 1 _ rfl) <| zpn 3 <| zfe <| zre <| zo1 (.bool (decide (((l.getD v.toNat (0, 0)).2 : Int) < k))) ?_
 have hR : decide (((l.getD v.toNat (0, 0)).2 : Int) < k) = true ↔ (((l.getD v.toNat (0, 0)).2 : Int) < k) := by simp only [decide_eq_true_eq]
 exact ⟨bool_dec hR (rthere_here (find_par hpd) htb hpm (by omega) (by omega) hva (by omega) (by omega) (by omega)), hM⟩
 have hpr := rthere_rng (N := bs.length) htb hds hpm (by omega) (by omega) (by omega)
 have hol := overL_len bs
 obtain ⟨x, hx⟩ := sq_get (l := overL bs) (l.getD v.toNat (0, 0)).1.toNat (by omega)
 have hxl := overL_square bs _ x hx
 obtain ⟨Ax, cx, hrx⟩ := hfo.get hx
 obtain ⟨adx, rfl⟩ := rd_some (fam_rd (hM.ro hF0) hrx) (by simp; omega)
 refine zsk <| zsr <| zpn 3 <| zix ⟨gm, 0, none⟩ n 2 v <| zpn 1 <| zld ((⟨gm, 0, none⟩ : Addr).add ((v).toNat * 2)) (.int .i64 ((l.getD v.toNat (0, 0)).1)) (md_rd0 (row_rd (hM.ro hmd)) rfl hpm) ?_
 obtain ⟨ad22, rfl⟩ := rd_some (row_rd (hM.ro hR)) (by rw [slv_len, hfo.len]; omega)
 refine zix ad22 bs.length 1 ((l.getD v.toNat (0, 0)).1) <| zld ((ad22 : Addr).add (((l.getD v.toNat (0, 0)).1).toNat * 1)) (.slice (some adx) x.length cx) (rd_get1 (row_rd (hM.ro hR)) rfl (slv_get hrx)) <| zpn 1 <| zix adx x.length 1 b <| zld ((adx : Addr).add ((b).toNat * 1)) (.bool (x.getD b.toNat false)) (rd_get1 (fam_rd (hM.ro hF0) hrx) rfl (bools_get (by omega))) <| zkp [(57, (.bool (x.getD b.toNat false)))] <| zpn 1 <| zfe <| zre <| zo1 (.bool (x.getD b.toNat false)) ?_
 have hR : (x.getD b.toNat false) = true ↔ ((x.getD b.toNat false) = true) := Iff.rfl
 exact ⟨bool_dec hR ((by rw [← rthere_up (find_par hpd) htb hpm (by omega) (by omega) hva (by omega) (by omega) (by omega), overD, at2_of hx])), hM⟩
end Go.Proofs.YtlfbloadopeamaaDoor
namespace Go.Proofs.YtlfbloadopeamaaDoor
open Go.Mor
set_option maxRecDepth 10000 in
theorem reads_c (q gm qt gi go gs n k cs : Nat) (nm wk : Value) (pa va : Int) (ad0 : Addr) (c : Nat) (fs : List FBlk) (l : List (Int × Int)) (insL outL : List Int) (f g : Int → Int) (rowsS : List RowV) (w : World) (hN : fs.length ≤ 1000) (hk : k < fs.length) (hok : FOk fs) (hA : RO noS w (.fn (some ad0) fs)) (hq : RO noS w (.blk q 77 [nm, wk, (.int .i64 pa), (.int .i64 va), (.slice (some ad0) ((bsOf fs).length) c), (.slice (sM gs) ((bsOf fs).length) cs), (pT qt 0), (.slice (sM gm) n n)])) (hmd : RO noS w (.row 103 2 (sM gm) n n (mdc l))) (hqt : RO noS w (.blk qt 108 [(.slice (sM gi) (bsOf fs).length (bsOf fs).length), (.slice (sM go) (bsOf fs).length (bsOf fs).length)])) (hgi : RO noS w (.row 3 1 (sM gi) (bsOf fs).length (bsOf fs).length (ints insL))) (hgo : RO noS w (.row 3 1 (sM go) (bsOf fs).length (bsOf fs).length (ints outL))) (hin : IntsOf (bsOf fs).length insL f) (hout : IntsOf (bsOf fs).length outL g) (hFs : RO noS w (.fam 3 rowsS)) (hRs : RO noS w (.row 36 1 (sM gs) (bsOf fs).length cs (slv rowsS))) (hfs : FamOf (Value.int .i64) rowsS (allL (bsOf fs))) (hva : va = (n : Int)) (htb : TabS n (defsF fs) l) :
    Calls Tryd.prog 49 #[(pT q 0), (nV k)] w (Ret fun v w' => v = .bool (decide (readsQ (standQ f g) (endS fs) finS pa va fs k)) ∧ Mem noS w w' []) := by
 have hbl := bsOf_len fs
 have hm : (bsOf fs).length ≤ 1000000 := by omega
 have hB := hA.bs
 have hds : ∀ d, d ∈ defsF fs → 0 ≤ d.2.1 ∧ d.2.1 < ((bsOf fs).length : Int) ∧ -1 ≤ d.2.2 := fun d hd => by rw [hbl]; exact defs_mem hd
 refine zen 121 [(pT q 0), (nV k)] Tryd.func49 ?_
 have hM := Mem.init w
 refine zsp <| zsr ?_
 obtain ⟨x, hx⟩ := get_of (l := fs) (i := k) (by omega)
 have hl1 : x.phis.length ≤ 281474976710656 := (hok.get hx).lp
 have hl2 : x.insts.length ≤ 281474976710656 := (hok.get hx).li
 refine zpn 4 <| zld ⟨q, 4, none⟩ (.slice (some ad0) ((bsOf fs).length) c) (blk_cell (hM.ro hq) rfl) <| zpn 1 <| zix ad0 ((bsOf fs).length) 6 (k : Int) <| zls ((ad0 : Addr).add (((k : Int)).toNat * 6)) (xV x) (fblk_get (hM.ro hB) rfl hx) <| zal hM 44 [(.slice none 0 0), (.slice none 0 0), (.int .i64 0), (.int .i64 0), (.int .i64 0), (.int .i64 0)] fun b1 w2 hb1 hM3 => ?_
 replace hM3 := hM3.nf
 clear hM
 refine zss hM3 0 (xV x) rfl fun w4 hM5 => ?_
 replace hM5 := hM5.nf
 refine zfe <| zsq <| zsr <| zpn 1 <| zld ⟨b1, 0, none⟩ (.slice x.pA x.phis.length x.pc) (blk_cell (hM5.get 0 rfl) rfl) <| zpn 2 <| zfe <| zbk 0 ?_
 intro aC fr
 refine zlp (fun n_ a_ w_ => ∃ (j : Nat), n_ = x.phis.length - j ∧ Fr a_ 121 [(0, (pT q 0)), (1, (nV k)), (5, (pT b1 0)), (24, (.slice x.pA x.phis.length x.pc)), (25, (.int .i64 ((x.phis.length : Nat) : Int))), (26, (nV j))] ∧ Mem noS w w_ [.blk b1 44 (xV x)] ∧ (j ≤ x.phis.length) ∧ (PhiTo (standQ f g) (endS fs) pa va fs k x j)) (n := _) ⟨0, rfl, fr.kp [0, 1, 5, 24, 25, 26], hM5, by omega, fun _ _ h => absurd h (Nat.not_lt_zero _)⟩ ?_
 clear fr aC hM5; rintro n aC w8 ⟨j, rfl, fr, hM9, hj, hph⟩
 revert aC
 refine zsp <| zsq <| zcD (((j : Int) : Int) < ((x.phis.length : Nat) : Int)) (fun c12 => ?_) (fun c12 => ?_)
 refine zsk <| zsq <| zbk 1 <| zsr ?_
 obtain ⟨p, hp⟩ := get_of (l := x.phis) (i := j) (by omega)
 have hpl : p.args.length ≤ 281474976710656 := ((hok.get hx).phis p (List.mem_of_getElem? hp)).len
 obtain ⟨ad13, had14⟩ := rds_some (hM9.ro (hA.phis hx)) (cs := p.cells) (i := j) (by simp [hp])
 intro aC fr
 refine From_ixA (some 28) x.pA ad13 x.phis.length 2 (j : Int) fr (by kernel_rfl) had14 (by omega) (by omega) ?_
 intro aC fr
 revert aC
 refine zls ((ad13 : Addr).add (((j : Int)).toNat * 2)) (pV p) (phi_get (hM9.ro (hA.phis hx)) had14 hp) <| zal hM9 65 [(.int .i64 0), (.slice none 0 0)] fun b19 w20 hb19 hM21 => ?_
 replace hM21 := hM21.nf
 refine zss hM21 1 (pV p) rfl fun w22 hM23 => ?_
 replace hM23 := hM23.nf
 refine zfe <| zsq <| zsq ?_
 obtain ⟨Ak, ck, hrk⟩ := hfs.get (allL_get (bs := bsOf fs) (t := k) (by omega))
 obtain ⟨Bln, hBln⟩ : ∃ B : Bool, B = (((p.args.length : Nat) : Int) != (((srcs (bsOf fs) (k : Int)).length : Nat) : Int)) := ⟨_, rfl⟩
 refine zkp [(0, (pT q 0)), (1, (nV k)), (5, (pT b1 0)), (7, (pT b19 0)), (24, (.slice x.pA x.phis.length x.pc)), (25, (.int .i64 ((x.phis.length : Nat) : Int))), (26, (nV j))] ?_
 intro aC fr
 refine zdr (N := 121) (env0 := [(0, (pT q 0)), (1, (nV k)), (5, (pT b1 0)), (7, (pT b19 0)), (24, (.slice x.pA x.phis.length x.pc)), (25, (.int .i64 ((x.phis.length : Nat) : Int))), (26, (nV j))]) (specAt [.det (pT b19 1), .det (.slice p.A p.args.length p.c), .det (.int .i64 ((p.args.length : Nat) : Int)), .det (pT q 0), .det (pT q 0), .det (pT q 5), .det (.slice (sM gs) ((bsOf fs).length) cs), .det (nV k), .det (.pointer (some ((⟨gs, 0, none⟩ : Addr).add (((k : Int)).toNat * 1)))), .det (.slice Ak ((srcs (bsOf fs) (k : Int)).length) ck), .det (.int .i64 (((srcs (bsOf fs) (k : Int)).length : Nat) : Int)), .det (.bool Bln)]) fr (la (la (la (la (la (la (la (la (la (la (la (la lz dP) (dL ⟨b19, 1, none⟩ (.slice p.A p.args.length p.c) fun w_ hK => (blk_cell ((hM23.then_ hK).get 1 rfl) rfl))) dP) dP) dP) dP) (dL ⟨q, 5, none⟩ (.slice (sM gs) ((bsOf fs).length) cs) fun w_ hK => (blk_cell ((hM23.then_ hK).ro hq) rfl))) dP) (dI ⟨gs, 0, none⟩ ((bsOf fs).length) 1 (k : Int))) (dL ((⟨gs, 0, none⟩ : Addr).add (((k : Int)).toNat * 1)) (.slice Ak ((srcs (bsOf fs) (k : Int)).length) ck) fun w_ hK => (rd_get1 (row_rd ((hM23.then_ hK).ro hRs)) rfl (slv_get hrk)))) dP) (dC (((p.args.length : Nat) : Int) != (((srcs (bsOf fs) (k : Int)).length : Nat) : Int)) hBln)) ?_
 intro aC w28 vs hK hv fr
 revert aC; refine zkp [(0, (pT q 0)), (1, (nV k)), (5, (pT b1 0)), (7, (pT b19 0)), (24, (.slice x.pA x.phis.length x.pc)), (25, (.int .i64 ((x.phis.length : Nat) : Int))), (26, (nV j)), (41, (.bool Bln))] ?_
 have hM29 := hM23.then_ hK
 clear hK hv fr aC hM23; clear vs
 have iBln : Bln = true ↔ ((((p.args.length : Nat) : Int) : Int) ≠ (((srcs (bsOf fs) (k : Int)).length : Nat) : Int)) := by rw [hBln]; simp only [bne_iff_ne]
 clear hBln
 refine zcP Bln ((((p.args.length : Nat) : Int) : Int) ≠ (((srcs (bsOf fs) (k : Int)).length : Nat) : Int)) iBln (fun c30 => ?_) (fun c30 => ?_)
 refine zsp <| zre <| zbr <| zbr <| zo1 (.bool false) ?_
 have hR : false = true ↔ False := by simp
 have hM31 := hM29.od [] 0
 exact ⟨bool_dec hR (⟨False.elim, fun h => reads_len hx hp (by omega) h⟩), hM31⟩
 refine zsk <| zsr <| zpn 1 <| zld ⟨b19, 1, none⟩ (.slice p.A p.args.length p.c) (blk_cell (hM29.get 1 rfl) rfl) <| zpn 2 <| zfe <| zbk 2 ?_
 intro aC fr
 refine zlp (fun n_ a_ w_ => ∃ (i : Nat), n_ = p.args.length - i ∧ Fr a_ 121 [(0, (pT q 0)), (1, (nV k)), (5, (pT b1 0)), (24, (.slice x.pA x.phis.length x.pc)), (25, (.int .i64 ((x.phis.length : Nat) : Int))), (26, (nV j)), (43, (.slice p.A p.args.length p.c)), (44, (.int .i64 ((p.args.length : Nat) : Int))), (45, (nV i))] ∧ Mem noS w w_ [.blk b1 44 (xV x), .blk b19 65 (pV p)] ∧ (i ≤ p.args.length) ∧ (ArgTo (standQ f g) (endS fs) pa va fs k p i)) (n := _) ⟨0, rfl, fr.kp [0, 1, 5, 24, 25, 26, 43, 44, 45], hM29, by omega, fun _ _ _ h => absurd h (Nat.not_lt_zero _)⟩ ?_
 clear fr aC hM29; rintro n aC w34 ⟨i, rfl, fr, hM35, hi, hag⟩
 revert aC
 refine zsp <| zsq <| zcD (((i : Int) : Int) < ((p.args.length : Nat) : Int)) (fun c38 => ?_) (fun c38 => ?_)
 refine zsk <| zsq <| zbk 3 <| zsr ?_
 obtain ⟨a, ha⟩ := get_of (l := p.args) (i := i) (by omega)
 obtain ⟨si, hsi, hsn⟩ := srcs_at (bs := bsOf fs) (b := (k : Int)) (q := i) (by omega)
 obtain ⟨y, hy⟩ := get_of (l := fs) (i := si) (by omega)
 refine zpn 1 ?_
 obtain ⟨ad39, had40⟩ := rd_some (hM35.ro (hA.phi hx hp)) (by simp [ints]; omega)
 intro aC fr
 refine From_ixA (some 48) p.A ad39 p.args.length 1 (i : Int) fr (by kernel_rfl) had40 (by omega) (by omega) ?_
 intro aC fr
 revert aC
 refine zld ((ad39 : Addr).add (((i : Int)).toNat * 1)) (.int .i64 a) (rd_at (hM35.ro (hA.phi hx hp)) had40 ha) <| zpn 2 <| zfe <| zsr <| zpn 3 <| zld ⟨q, 5, none⟩ (.slice (sM gs) ((bsOf fs).length) cs) (blk_cell (hM35.ro hq) rfl) <| zpn 1 <| zix ⟨gs, 0, none⟩ ((bsOf fs).length) 1 (k : Int) <| zld ((⟨gs, 0, none⟩ : Addr).add (((k : Int)).toNat * 1)) (.slice Ak ((srcs (bsOf fs) (k : Int)).length) ck) (rd_get1 (row_rd (hM35.ro hRs)) rfl (slv_get hrk)) <| zpn 1 ?_
 obtain ⟨ad45, rfl⟩ := rd_some (fam_rd (hM35.ro hFs) hrk) (by simp; omega)
 refine zix ad45 ((srcs (bsOf fs) (k : Int)).length) 1 (i : Int) <| zkp [(0, (pT q 0)), (1, (nV k)), (5, (pT b1 0)), (9, (.int .i64 a)), (24, (.slice x.pA x.phis.length x.pc)), (25, (.int .i64 ((x.phis.length : Nat) : Int))), (26, (nV j)), (43, (.slice p.A p.args.length p.c)), (44, (.int .i64 ((p.args.length : Nat) : Int))), (45, (nV i)), (58, (.pointer (some ((ad45 : Addr).add (((i : Int)).toNat * 1)))))] <| zld ((ad45 : Addr).add (((i : Int)).toNat * 1)) (nV si) (rd_at (fam_rd (hM35.ro hFs) hrk) rfl hsi) <| zpn 1 <| zfe <| zsr <| zpn 7 <| zld ⟨q, 4, none⟩ (.slice (some ad0) ((bsOf fs).length) c) (blk_cell (hM35.ro hq) rfl) <| zpn 1 <| zix ad0 ((bsOf fs).length) 6 (si : Int) ?_
 refine zpn 1 <| zld (((ad0 : Addr).add (((si : Int)).toNat * 6)).add 1) (.slice y.iA y.insts.length y.ic) (fblk_get (hM35.ro hB) rfl hy 1 _ rfl) <| zpn 1 <| zcl (there_c q gm qt gi go n (bsOf fs).length nm wk (.slice (sM gs) (bsOf fs).length cs) pa va (some ad0) c l insL outL f g (defsF fs) a (si : Int) ((y.insts.length : Nat) : Int) w34 (hq.at_ hM35) (hmd.at_ hM35) (hqt.at_ hM35) (hgi.at_ hM35) (hgo.at_ hM35) hin hout hva htb hds (by omega) (by omega)) ?_
 rintro _ w46 ⟨rfl, hM47x⟩
 have hM47 := hM35.cl hM47x
 refine zpn 1 <| zfe <| zcP (!(decide (thereQ (standQ f g) pa va (defsF fs) a (si : Int) ((y.insts.length : Nat) : Int)))) (¬ (thereQ (standQ f g) pa va (defsF fs) a (si : Int) ((y.insts.length : Nat) : Int))) (by simp only [notT, decide_eq_true_eq]) (fun c48 => ?_) (fun c48 => ?_)
 refine zsp <| zre <| zbr <| zbr <| zbr <| zbr <| zo1 (.bool false) ?_
 have hR : false = true ↔ False := by simp
 have hM49 := hM47.od [] 0
 exact ⟨bool_dec hR (⟨False.elim, fun h => reads_arg hx hp ha hsi (by rw [endS_at hy]; exact c48) h⟩), hM49⟩
 have htq := Classical.not_not.1 c48
 refine zsk <| zrg <| zar ((i : Int) + 1) <| zkp [(0, (pT q 0)), (1, (nV k)), (5, (pT b1 0)), (24, (.slice x.pA x.phis.length x.pc)), (25, (.int .i64 ((x.phis.length : Nat) : Int))), (26, (nV j)), (43, (.slice p.A p.args.length p.c)), (44, (.int .i64 ((p.args.length : Nat) : Int))), (75, (.int .i64 ((i : Int) + 1)))] <| zpn 1 <| zfe ?_
 intro aC fr
 exact ⟨p.args.length - (i + 1), by omega, i + 1, rfl, fr.kp [0, 1, 5, 24, 25, 26, 43, 44, 45], hM47, by omega, hag.next ha hsi (by rw [endS_at hy]; exact htq)⟩
 refine zex 2 <| zbh <| zrg <| zar ((j : Int) + 1) <| zpn 1 <| zfe ?_
 intro aC fr
 exact ⟨x.phis.length - (j + 1), by omega, j + 1, rfl, fr.kp [0, 1, 5, 24, 25, 26], (hM35.tk 1), by omega, hph.next hp (by omega) ((show i = p.args.length by omega) ▸ hag)⟩
 refine zex 0 <| zbh <| zsq <| zsr ?_
 have hphe : PhiTo (standQ f g) (endS fs) pa va fs k x x.phis.length := (show j = x.phis.length by omega) ▸ hph
 refine zpn 1 <| zld ⟨b1, 1, none⟩ (.slice x.iA x.insts.length x.ic) (blk_cell (hM9.get 0 rfl) rfl) <| zpn 2 <| zfe <| zbk 4 ?_
 intro aC fr
 refine zlp (fun n_ a_ w_ => ∃ (j3 : Nat), n_ = x.insts.length - j3 ∧ Fr a_ 121 [(0, (pT q 0)), (1, (nV k)), (5, (pT b1 0)), (78, (.slice x.iA x.insts.length x.ic)), (79, (.int .i64 ((x.insts.length : Nat) : Int))), (80, (nV j3))] ∧ Mem noS w w_ [.blk b1 44 (xV x)] ∧ (j3 ≤ x.insts.length) ∧ (InsTo (standQ f g) pa va fs k x j3)) (n := _) ⟨0, rfl, fr.kp [0, 1, 5, 78, 79, 80], hM9, by omega, fun _ _ h => absurd h (Nat.not_lt_zero _)⟩ ?_
 clear fr aC hM9; rintro n aC w56 ⟨j3, rfl, fr, hM57, hj3, hit⟩
 revert aC
 refine zsp <| zsq <| zcD (((j3 : Int) : Int) < ((x.insts.length : Nat) : Int)) (fun c60 => ?_) (fun c60 => ?_)
 refine zsk <| zsq <| zbk 5 <| zsr ?_
 obtain ⟨p3, hp3⟩ := get_of (l := x.insts) (i := j3) (by omega)
 have hpl3 : p3.args.length ≤ 281474976710656 := ((hok.get hx).insts p3 (List.mem_of_getElem? hp3)).len
 refine zpn 1 ?_
 obtain ⟨ad61, had62⟩ := rds_some (hM57.ro (hA.insts hx)) (cs := p3.cells) (i := j3) (by simp [hp3])
 intro aC fr
 refine From_ixA (some 83) x.iA ad61 x.insts.length 5 (j3 : Int) fr (by kernel_rfl) had62 (by omega) (by omega) ?_
 intro aC fr
 revert aC
 refine zls ((ad61 : Addr).add (((j3 : Int)).toNat * 5)) (iV p3) (ins_get (hM57.ro (hA.insts hx)) had62 hp3) <| zal hM57 40 [(.int .i64 0), (.int .i64 0), (.int .i64 0), (.string ⟨#[]⟩), (.slice none 0 0)] fun b67 w68 hb67 hM69 => ?_
 replace hM69 := hM69.nf
 refine zpn 1 <| zss hM69 1 (iV p3) rfl fun w70 hM71 => ?_
 replace hM71 := hM71.nf
 refine zfe <| zsr <| zpn 1 <| zld ⟨b67, 4, none⟩ (.slice p3.A p3.args.length p3.c) (blk_cell (hM71.get 1 rfl) rfl) <| zpn 2 <| zfe <| zbk 6 ?_
 intro aC fr
 refine zlp (fun n_ a_ w_ => ∃ (i3 : Nat), n_ = p3.args.length - i3 ∧ Fr a_ 121 [(0, (pT q 0)), (1, (nV k)), (5, (pT b1 0)), (11, (nV j3)), (78, (.slice x.iA x.insts.length x.ic)), (79, (.int .i64 ((x.insts.length : Nat) : Int))), (80, (nV j3)), (86, (.slice p3.A p3.args.length p3.c)), (87, (.int .i64 ((p3.args.length : Nat) : Int))), (88, (nV i3))] ∧ Mem noS w w_ [.blk b1 44 (xV x), .blk b67 40 (iV p3)] ∧ (i3 ≤ p3.args.length) ∧ (OpTo (standQ f g) pa va fs k j3 p3 i3)) (n := _) ⟨0, rfl, fr.kp [0, 1, 5, 11, 78, 79, 80, 86, 87, 88], hM71, by omega, fun _ _ h => absurd h (Nat.not_lt_zero _)⟩ ?_
 clear fr aC hM71; rintro n aC w74 ⟨i3, rfl, fr, hM75, hi3, hop⟩
 revert aC
 refine zsp <| zsq <| zcD (((i3 : Int) : Int) < ((p3.args.length : Nat) : Int)) (fun c78 => ?_) (fun c78 => ?_)
 refine zsk <| zsq <| zbk 7 <| zsr ?_
 obtain ⟨a, ha⟩ := get_of (l := p3.args) (i := i3) (by omega)
 obtain ⟨ad79, had80⟩ := rd_some (hM75.ro (hA.inst hx hp3)) (by simp [ints]; omega)
 intro aC fr
 refine From_ixA (some 90) p3.A ad79 p3.args.length 1 (i3 : Int) fr (by kernel_rfl) had80 (by omega) (by omega) ?_
 intro aC fr
 revert aC
 refine zld ((ad79 : Addr).add (((i3 : Int)).toNat * 1)) (.int .i64 a) (rd_at (hM75.ro (hA.inst hx hp3)) had80 ha) <| zpn 1 <| zfe <| zsr <| zpn 4 <| zcl (there_c q gm qt gi go n (bsOf fs).length nm wk (.slice (sM gs) (bsOf fs).length cs) pa va (some ad0) c l insL outL f g (defsF fs) a (k : Int) (j3 : Int) w74 (hq.at_ hM75) (hmd.at_ hM75) (hqt.at_ hM75) (hgi.at_ hM75) (hgo.at_ hM75) hin hout hva htb hds (by omega) (by omega)) ?_
 rintro _ w85 ⟨rfl, hM86x⟩
 have hM86 := hM75.cl hM86x
 refine zpn 1 <| zfe <| zcP (!(decide (thereQ (standQ f g) pa va (defsF fs) a (k : Int) (j3 : Int)))) (¬ (thereQ (standQ f g) pa va (defsF fs) a (k : Int) (j3 : Int))) (by simp only [notT, decide_eq_true_eq]) (fun c87 => ?_) (fun c87 => ?_)
 refine zsp <| zre <| zbr <| zbr <| zbr <| zbr <| zo1 (.bool false) ?_
 have hR : false = true ↔ False := by simp
 have hM88 := hM86.od [] 0
 exact ⟨bool_dec hR (⟨False.elim, fun h => reads_op hx hp3 ha c87 h⟩), hM88⟩
 have htq := Classical.not_not.1 c87
 refine zsk <| zrg <| zar ((i3 : Int) + 1) <| zpn 1 <| zfe ?_
 intro aC fr
 exact ⟨p3.args.length - (i3 + 1), by omega, i3 + 1, rfl, fr.kp [0, 1, 5, 11, 78, 79, 80, 86, 87, 88], hM86, by omega, hop.next ha htq⟩
 refine zex 6 <| zbh <| zrg <| zar ((j3 : Int) + 1) <| zpn 1 <| zfe ?_
 intro aC fr
 exact ⟨x.insts.length - (j3 + 1), by omega, j3 + 1, rfl, fr.kp [0, 1, 5, 78, 79, 80], (hM75.tk 1), by omega, hit.next hp3 ((show i3 = p3.args.length by omega) ▸ hop)⟩
 refine zex 4 <| zbh <| zsq <| zsr ?_
 have hite : InsTo (standQ f g) pa va fs k x x.insts.length := (show j3 = x.insts.length by omega) ▸ hit
 refine zpn 1 <| zld ⟨b1, 2, none⟩ (.int .i64 x.e) (blk_cell (hM57.get 0 rfl) rfl) <| zpn 2 ?_
 obtain ⟨B93, hB93⟩ : ∃ B : Bool, B = ((x.e : Int) == 1) := ⟨_, rfl⟩
 refine zkp [(0, (pT q 0)), (1, (nV k)), (5, (pT b1 0)), (103, (.bool ((x.e : Int) == 1)))] ?_
 rw [← hB93]
 have iB93 : B93 = true ↔ ((x.e : Int) = 1) := by rw [hB93]; simp only [beq_iff_eq]
 clear hB93
 intro aC fr
 refine zpk 1 5 [104] fr (news := [(104, (cond (!B93) (pT b1 2) undef))]) (by cases B93 <;> kernel_rfl) ?_
 intro aC fr
 refine From_either (B := (!B93)) (d := (some 105)) (.int .i64 x.e) fr (by cases B93 <;> kernel_rfl) (fun hB hh => ?_) ?_
 cases B93 <;> first | (exact absurd hB (by decide)) | skip
 have c93 : ¬ ((x.e : Int) = 1) := (fun h => Bool.noConfusion (iB93.2 h) : ¬ ((x.e : Int) = 1))
 exact From_ld (some 105) ⟨b1, 2, none⟩ fr (by kernel_rfl) (.int .i64 x.e) (blk_cell (hM57.get 0 rfl) rfl) hh
 intro aC fr
 refine zpk 2 8 [107] fr (news := [(107, (cond (!B93) (.bool ((x.e : Int) == 2)) undef))]) (by cases B93 <;> kernel_rfl) ?_
 intro aC fr
 obtain ⟨B102, hB102⟩ : ∃ B : Bool, B = ((x.e : Int) == 2) := ⟨_, rfl⟩
 revert aC
 refine zkp [(0, (pT q 0)), (1, (nV k)), (5, (pT b1 0)), (103, (.bool B93)), (107, (cond (!B93) (.bool ((x.e : Int) == 2)) undef))] ?_
 rw [← hB102]
 have iB102 : B102 = true ↔ ((x.e : Int) = 2) := by rw [hB102]; simp only [beq_iff_eq]
 clear hB102
 intro aC fr
 refine zpk 1 9 [108] fr (news := [(108, (cond (!B93 && B102) (pT b1 3) undef))]) (by cases B102 <;> cases B93 <;> kernel_rfl) ?_
 intro aC fr
 refine From_either (B := (!B93 && B102)) (d := (some 109)) (.int .i64 x.v) fr (by cases B93 <;> cases B102 <;> kernel_rfl) (fun hB hh => ?_) ?_
 cases B93 <;> cases B102 <;> first | (exact absurd hB (by decide)) | skip
 have c93 : ¬ ((x.e : Int) = 1) := (fun h => Bool.noConfusion (iB93.2 h) : ¬ ((x.e : Int) = 1))
 have c102 : ((x.e : Int) = 2) := iB102.1 rfl
 exact From_ld (some 109) ⟨b1, 3, none⟩ fr (by kernel_rfl) (.int .i64 x.v) (blk_cell (hM57.get 0 rfl) rfl) hh
 intro aC fr
 refine zpk 3 13 [112] fr (news := [(112, (.bool (B93 || (B102 && decide ((x.v : Int) ≥ 0)))))]) (by cases B102 <;> cases B93 <;> kernel_rfl) ?_
 intro aC fr
 revert aC
 refine zfe <| zcP (B93 || (B102 && decide ((x.v : Int) ≥ 0))) (((x.e : Int) = 1) ∨ (((x.e : Int) = 2) ∧ ((x.v : Int) ≥ 0))) (by simp only [Bool.or_eq_true, Bool.and_eq_true, decide_eq_true_eq, iB102, iB93]) (fun c111 => ?_) (fun c111 => ?_)
 refine zsr <| zpn 2 <| zld ⟨b1, 3, none⟩ (.int .i64 x.v) (blk_cell (hM57.get 0 rfl) rfl) <| zpn 2 <| zld ⟨b1, 1, none⟩ (.slice x.iA x.insts.length x.ic) (blk_cell (hM57.get 0 rfl) rfl) <| zpn 1 <| zcl (there_c q gm qt gi go n (bsOf fs).length nm wk (.slice (sM gs) (bsOf fs).length cs) pa va (some ad0) c l insL outL f g (defsF fs) x.v (k : Int) ((x.insts.length : Nat) : Int) w56 (hq.at_ hM57) (hmd.at_ hM57) (hqt.at_ hM57) (hgi.at_ hM57) (hgo.at_ hM57) hin hout hva htb hds (by omega) (by omega)) ?_
 rintro _ w112 ⟨rfl, hM113x⟩
 have hM113 := hM57.cl hM113x
 refine zpn 1 <| zfe <| zre <| zo1 (.bool (decide (thereQ (standQ f g) pa va (defsF fs) x.v (k : Int) ((x.insts.length : Nat) : Int)))) ?_
 have hR : decide (thereQ (standQ f g) pa va (defsF fs) x.v (k : Int) ((x.insts.length : Nat) : Int)) = true ↔ (thereQ (standQ f g) pa va (defsF fs) x.v (k : Int) ((x.insts.length : Nat) : Int)) := by simp only [decide_eq_true_eq]
 have hM114 := hM113.od [] 0
 exact ⟨bool_dec hR (⟨fun h => reads_yes hx hphe hite (fun _ => by rw [endS_at hx]; exact h), fun h => by have := (reads_of hx h).fin (by unfold finS; omega); rwa [endS_at hx] at this⟩), hM114⟩
 refine zsk <| zsp <| zre <| zo1 (.bool true) ?_
 have hR : true = true ↔ True := by simp
 have hM115 := hM57.od [] 0
 exact ⟨bool_dec hR (⟨fun _ => reads_yes hx hphe hite (fun hr => absurd hr (by unfold finS; omega)), fun _ => trivial⟩), hM115⟩
end Go.Proofs.YtlfbloadopeamaaDoor
namespace Go.Proofs.YtlfbloadopeamaaDoor
open Go.Mor
set_option maxRecDepth 10000 in
theorem rreads_c (nm : ByteArray) (wk : Bool) (gm n co k : Nat) (Ao : Option Addr) (pa va : Int) (A : Option Addr) (c : Nat) (fs : List FBlk) (l : List (Int × Int)) (rows : List RowV) (w : World) (hN : fs.length ≤ 1000) (hk : k < fs.length) (hok : FOk fs) (hA : RO noS w (.fn A fs)) (hmd : RO noS w (.row 90 2 (sM gm) n n (mdc l))) (hF0 : RO noS w (.fam 4 rows)) (hR : RO noS w (.row 58 1 Ao (bsOf fs).length co (slv rows))) (hfo : FamOf Value.bool rows (overL (bsOf fs))) (hva : va = (n : Int)) (htb : TabR pa n (defsF fs) l) (hpd : ∀ d, d ∈ defsF fs → pa ≤ d.1) :
    Calls Tryd.prog 30 #[(fA nm wk pa va A c fs), (.slice (sM gm) n n), (.slice Ao ((bsOf fs).length) co), (nV k)] w (Ret fun v w' => v = .bool (decide (readsQ (overD (bsOf fs)) (fun _ => 20000) finR pa va fs k)) ∧ Mem noS w w' []) := by
 have hbl := bsOf_len fs
 have hm : (bsOf fs).length ≤ 1000000 := by omega
 have hB := hA.bs
 have hds : ∀ d, d ∈ defsF fs → 0 ≤ d.2.1 ∧ d.2.1 < ((bsOf fs).length : Int) ∧ -1 ≤ d.2.2 := fun d hd => by rw [hbl]; exact defs_mem hd
 refine zen 115 [(fA nm wk pa va A c fs), (.slice (sM gm) n n), (.slice Ao ((bsOf fs).length) co), (nV k)] Tryd.func30 ?_
 have hM := Mem.init w
 refine zsr <| zbx hM 24 (fA nm wk pa va A c fs) (fV nm wk pa va A c fs) fun b1 w2 hb1 hM3 => ?_
 replace hM3 := hM3.nf
 clear hM
 refine zpn 1 <| zfe <| zsr ?_
 obtain ⟨x, hx⟩ := get_of (l := fs) (i := k) (by omega)
 have hl1 : x.phis.length ≤ 281474976710656 := (hok.get hx).lp
 have hl2 : x.insts.length ≤ 281474976710656 := (hok.get hx).li
 refine zpn 1 <| zld ⟨b1, 4, none⟩ (.slice A ((bsOf fs).length) c) (blk_cell (hM3.get 0 rfl) rfl) <| zpn 1 ?_
 obtain ⟨ad4, rfl⟩ := blocks_some (hM3.ro hB) (bsOf_get hx)
 refine zix ad4 ((bsOf fs).length) 6 (k : Int) <| zls ((ad4 : Addr).add (((k : Int)).toNat * 6)) (xV x) (fblk_get (hM3.ro hB) rfl hx) <| zal hM3 44 [(.slice none 0 0), (.slice none 0 0), (.int .i64 0), (.int .i64 0), (.int .i64 0), (.int .i64 0)] fun b5 w6 hb5 hM7 => ?_
 replace hM7 := hM7.nf
 refine zss hM7 1 (xV x) rfl fun w8 hM9 => ?_
 replace hM9 := hM9.nf
 refine zfe <| zsr <| zls ⟨b1, 0, none⟩ (fV nm wk pa va (some ad4) c fs) (blk_cells (hM9.get 0 rfl)) <| zpn 1 <| zcl (vs := #[(fA nm wk pa va (some ad4) c fs), (nV k)]) (rsources_c _ _ _ _ (some ad4) c (bsOf fs) (k : Int) w8 hm (hB.at_ hM9)) ?_
 rintro _ w12 ⟨A10, c11, rfl, hM13x⟩
 have hM13 := hM9.cl hM13x
 refine zkp [(1, (.slice (sM gm) n n)), (2, (.slice Ao ((bsOf fs).length) co)), (3, (nV k)), (9, (pT b5 0)), (22, (.slice A10 ((srcs (bsOf fs) (k : Int)).length) c11))] <| zpn 1 <| zfe <| zsq <| zsp <| zbk 0 ?_
 have hsl := srcsTo_len (bsOf fs) (k : Int) (bsOf fs).length
 intro aC fr
 refine zlp (fun n_ a_ w_ => ∃ (j : Nat), n_ = x.phis.length - j ∧ Fr a_ 115 [(1, (.slice (sM gm) n n)), (2, (.slice Ao ((bsOf fs).length) co)), (3, (nV k)), (9, (pT b5 0)), (10, (.slice A10 ((srcs (bsOf fs) (k : Int)).length) c11)), (11, (nV j))] ∧ Mem noS w w_ [.blk b1 24 (fV nm wk pa va (some ad4) c fs), .blk b5 44 (xV x), .row 3 1 A10 ((srcs (bsOf fs) (k : Int)).length) c11 (ints (srcs (bsOf fs) (k : Int)))] ∧ (j ≤ x.phis.length) ∧ (PhiTo (overD (bsOf fs)) (fun _ => 20000) pa va fs k x j)) (n := _) ⟨0, rfl, fr.kp [1, 2, 3, 9, 10, 11], hM13, by omega, fun _ _ h => absurd h (Nat.not_lt_zero _)⟩ ?_
 clear fr aC hM13; rintro n aC w16 ⟨j, rfl, fr, hM17, hj, hph⟩
 revert aC
 refine zsq <| zsr <| zpn 2 <| zld ⟨b5, 0, none⟩ (.slice x.pA x.phis.length x.pc) (blk_cell (hM17.get 1 rfl) rfl) <| zpn 2 <| zfe <| zcD (((j : Int) : Int) < ((x.phis.length : Nat) : Int)) (fun c20 => ?_) (fun c20 => ?_)
 refine zsk <| zsq <| zbk 1 <| zsq <| zsr ?_
 obtain ⟨p, hp⟩ := get_of (l := x.phis) (i := j) (by omega)
 have hpl : p.args.length ≤ 281474976710656 := ((hok.get hx).phis p (List.mem_of_getElem? hp)).len
 refine zpn 1 <| zld ⟨b5, 0, none⟩ (.slice x.pA x.phis.length x.pc) (blk_cell (hM17.get 1 rfl) rfl) <| zpn 1 ?_
 obtain ⟨ad21, had22⟩ := rds_some (hM17.ro (hA.phis hx)) (cs := p.cells) (i := j) (by simp [hp])
 intro aC fr
 refine From_ixA (some 33) x.pA ad21 x.phis.length 2 (j : Int) fr (by kernel_rfl) had22 (by omega) (by omega) ?_
 intro aC fr
 revert aC
 refine zpn 1 <| zld (((ad21 : Addr).add (((j : Int)).toNat * 2)).add 1) (.slice p.A p.args.length p.c) (phi_get (hM17.ro (hA.phis hx)) had22 hp 1 _ rfl) <| zpn 4 <| zfe <| zcP ((((p.args.length : Nat) : Int) : Int) != (((srcs (bsOf fs) (k : Int)).length : Nat) : Int)) ((((p.args.length : Nat) : Int) : Int) ≠ (((srcs (bsOf fs) (k : Int)).length : Nat) : Int)) (by simp only [bne_iff_ne]) (fun c27 => ?_) (fun c27 => ?_)
 refine zsp <| zre <| zbr <| zbr <| zo1 (.bool false) ?_
 have hR : false = true ↔ False := by simp
 have hM28 := hM17.od [] 0
 exact ⟨bool_dec hR (⟨False.elim, fun h => reads_len hx hp (by omega) h⟩), hM28⟩
 refine zsk <| zsp <| zbk 2 ?_
 intro aC fr
 refine zlp (fun n_ a_ w_ => ∃ (i : Nat), n_ = p.args.length - i ∧ Fr a_ 115 [(1, (.slice (sM gm) n n)), (2, (.slice Ao ((bsOf fs).length) co)), (3, (nV k)), (9, (pT b5 0)), (10, (.slice A10 ((srcs (bsOf fs) (k : Int)).length) c11)), (11, (nV j)), (12, (nV i))] ∧ Mem noS w w_ [.blk b1 24 (fV nm wk pa va (some ad4) c fs), .blk b5 44 (xV x), .row 3 1 A10 ((srcs (bsOf fs) (k : Int)).length) c11 (ints (srcs (bsOf fs) (k : Int)))] ∧ (i ≤ p.args.length) ∧ (ArgTo (overD (bsOf fs)) (fun _ => 20000) pa va fs k p i)) (n := _) ⟨0, rfl, fr.kp [1, 2, 3, 9, 10, 11, 12], hM17, by omega, fun _ _ _ h => absurd h (Nat.not_lt_zero _)⟩ ?_
 clear fr aC hM17; rintro n aC w31 ⟨i, rfl, fr, hM32, hi, hag⟩
 revert aC
 refine zsq <| zsp <| zcD (((i : Int) : Int) < (((srcs (bsOf fs) (k : Int)).length : Nat) : Int)) (fun c35 => ?_) (fun c35 => ?_)
 refine zsk <| zsq <| zbk 3 <| zsq ?_
 obtain ⟨a, ha⟩ := get_of (l := p.args) (i := i) (by omega)
 obtain ⟨si, hsi, hsn⟩ := srcs_at (bs := bsOf fs) (b := (k : Int)) (q := i) (by omega)
 obtain ⟨ad36, had37⟩ := rds_some (hM32.ro (hA.phis hx)) (cs := p.cells) (i := j) (by simp [hp])
 obtain ⟨ad38, had39⟩ := rd_some (hM32.ro (hA.phi hx hp)) (by simp [ints]; omega)
 obtain ⟨g40, rfl⟩ := row_some (hM32.get 2 rfl) (by omega)
 obtain ⟨Bth, hBth⟩ : ∃ B : Bool, B = decide (thereQ (overD (bsOf fs)) pa va (defsF fs) a (si : Int) 20000) := ⟨_, rfl⟩
 refine zkp [(1, (.slice (sM gm) n n)), (2, (.slice Ao ((bsOf fs).length) co)), (3, (nV k)), (9, (pT b5 0)), (10, (.slice (sM g40) ((srcs (bsOf fs) (k : Int)).length) c11)), (11, (nV j)), (12, (nV i))] ?_
 intro aC fr
 refine zdr (N := 115) (env0 := [(1, (.slice (sM gm) n n)), (2, (.slice Ao ((bsOf fs).length) co)), (3, (nV k)), (9, (pT b5 0)), (10, (.slice (sM g40) ((srcs (bsOf fs) (k : Int)).length) c11)), (11, (nV j)), (12, (nV i))]) (specAt [.det (.slice (sM gm) n n), .det (.slice Ao ((bsOf fs).length) co), .det (pT b5 0), .det (.slice x.pA x.phis.length x.pc), .det (nV j), .det (.pointer (some ((ad36 : Addr).add (((j : Int)).toNat * 2)))), .det (.pointer (some (((ad36 : Addr).add (((j : Int)).toNat * 2)).add 1))), .det (.slice p.A p.args.length p.c), .det (nV i), .det (.pointer (some ((ad38 : Addr).add (((i : Int)).toNat * 1)))), .det (.int .i64 a), .det (.slice (sM g40) ((srcs (bsOf fs) (k : Int)).length) c11), .det (nV i), .det (.pointer (some ((⟨g40, 0, none⟩ : Addr).add (((i : Int)).toNat * 1)))), .det (nV si), .det (.bool Bth), .det (.bool (!Bth))]) fr (la (la (la (la (la (la (la (la (la (la (la (la (la (la (la (la (la lz dP) dP) dP) (dL ⟨b5, 0, none⟩ (.slice x.pA x.phis.length x.pc) fun w_ hK => (blk_cell ((hM32.then_ hK).get 1 rfl) rfl))) dP) (dIA x.pA ad36 x.phis.length 2 (j : Int) had37)) dP) (dL (((ad36 : Addr).add (((j : Int)).toNat * 2)).add 1) (.slice p.A p.args.length p.c) fun w_ hK => (phi_get ((hM32.then_ hK).ro (hA.phis hx)) had37 hp 1 _ rfl))) dP) (dIA p.A ad38 p.args.length 1 (i : Int) had39)) (dL ((ad38 : Addr).add (((i : Int)).toNat * 1)) (.int .i64 a) fun w_ hK => (rd_at ((hM32.then_ hK).ro (hA.phi hx hp)) had39 ha))) dP) dP) (dI ⟨g40, 0, none⟩ ((srcs (bsOf fs) (k : Int)).length) 1 (i : Int))) (dL ((⟨g40, 0, none⟩ : Addr).add (((i : Int)).toNat * 1)) (nV si) fun w_ hK => (rd_at (row_rd ((hM32.then_ hK).get 2 rfl)) rfl hsi))) (dD (fun w_ hK => rthere_c gm n co Ao pa va l (defsF fs) (bsOf fs) rows a (si : Int) 20000 w_ (by omega) (hmd.at_ (hM32.then_ hK)) (hF0.at_ (hM32.then_ hK)) (hR.at_ (hM32.then_ hK)) hfo hva htb hpd hds (by omega) (by omega)) (congrArg Value.bool hBth.symm))) dP) ?_
 intro aC w45 vs hK hv fr
 revert aC; refine zkp [(1, (.slice (sM gm) n n)), (2, (.slice Ao ((bsOf fs).length) co)), (3, (nV k)), (9, (pT b5 0)), (10, (.slice (sM g40) ((srcs (bsOf fs) (k : Int)).length) c11)), (11, (nV j)), (12, (nV i)), (62, (.bool (!Bth)))] ?_
 have hM46 := hM32.then_ hK
 clear hK hv fr aC hM32; clear vs
 cases Bth
 have cth : (decide (thereQ (overD (bsOf fs)) pa va (defsF fs) a (si : Int) 20000)) = false := hBth.symm
 refine zcT <| zsp <| zre <| zbr <| zbr <| zbr <| zbr <| zo1 (.bool false) ?_
 have hR : false = true ↔ False := by simp
 have hM47 := hM46.od [] 0
 exact ⟨bool_dec hR (⟨False.elim, fun h => reads_arg hx hp ha hsi (of_decide_eq_false cth) h⟩), hM47⟩
 have cth : (decide (thereQ (overD (bsOf fs)) pa va (defsF fs) a (si : Int) 20000)) = true := hBth.symm
 have htq := of_decide_eq_true cth
 refine zcF <| zsk <| zrg <| zpn 1 <| zar ((i : Int) + 1) <| zpn 1 <| zfe ?_
 intro aC fr
 exact ⟨p.args.length - (i + 1), by omega, i + 1, rfl, fr.kp [1, 2, 3, 9, 10, 11, 12], hM46, by omega, hag.next ha hsi htq⟩
 refine zex 2 <| zbh <| zrg <| zpn 1 <| zar ((j : Int) + 1) <| zpn 1 <| zfe ?_
 intro aC fr
 exact ⟨x.phis.length - (j + 1), by omega, j + 1, rfl, fr.kp [1, 2, 3, 9, 10, 11], hM32, by omega, hph.next hp (by omega) ((show i = p.args.length by omega) ▸ hag)⟩
 refine zex 0 <| zbh <| zsq <| zsr ?_
 have hphe : PhiTo (overD (bsOf fs)) (fun _ => 20000) pa va fs k x x.phis.length := (show j = x.phis.length by omega) ▸ hph
 refine zpn 1 <| zfe <| zbk 4 ?_
 intro aC fr
 refine zlp (fun n_ a_ w_ => ∃ (j3 : Nat), n_ = x.insts.length - j3 ∧ Fr a_ 115 [(1, (.slice (sM gm) n n)), (2, (.slice Ao ((bsOf fs).length) co)), (3, (nV k)), (9, (pT b5 0)), (13, (nV j3))] ∧ Mem noS w w_ [.blk b1 24 (fV nm wk pa va (some ad4) c fs), .blk b5 44 (xV x), .row 3 1 A10 ((srcs (bsOf fs) (k : Int)).length) c11 (ints (srcs (bsOf fs) (k : Int)))] ∧ (j3 ≤ x.insts.length) ∧ (InsTo (overD (bsOf fs)) pa va fs k x j3)) (n := _) ⟨0, rfl, fr.kp [1, 2, 3, 9, 13], hM17, by omega, fun _ _ h => absurd h (Nat.not_lt_zero _)⟩ ?_
 clear fr aC hM17; rintro n aC w54 ⟨j3, rfl, fr, hM55, hj3, hit⟩
 revert aC
 refine zsq <| zsr <| zpn 2 <| zld ⟨b5, 1, none⟩ (.slice x.iA x.insts.length x.ic) (blk_cell (hM55.get 1 rfl) rfl) <| zpn 2 <| zfe <| zcD (((j3 : Int) : Int) < ((x.insts.length : Nat) : Int)) (fun c58 => ?_) (fun c58 => ?_)
 refine zsk <| zsq <| zbk 5 <| zsr ?_
 obtain ⟨p3, hp3⟩ := get_of (l := x.insts) (i := j3) (by omega)
 have hpl3 : p3.args.length ≤ 281474976710656 := ((hok.get hx).insts p3 (List.mem_of_getElem? hp3)).len
 refine zpn 1 <| zfe <| zbk 6 ?_
 intro aC fr
 refine zlp (fun n_ a_ w_ => ∃ (i3 : Nat), n_ = p3.args.length - i3 ∧ Fr a_ 115 [(1, (.slice (sM gm) n n)), (2, (.slice Ao ((bsOf fs).length) co)), (3, (nV k)), (9, (pT b5 0)), (13, (nV j3)), (14, (nV i3))] ∧ Mem noS w w_ [.blk b1 24 (fV nm wk pa va (some ad4) c fs), .blk b5 44 (xV x), .row 3 1 A10 ((srcs (bsOf fs) (k : Int)).length) c11 (ints (srcs (bsOf fs) (k : Int)))] ∧ (i3 ≤ p3.args.length) ∧ (OpTo (overD (bsOf fs)) pa va fs k j3 p3 i3)) (n := _) ⟨0, rfl, fr.kp [1, 2, 3, 9, 13, 14], hM55, by omega, fun _ _ h => absurd h (Nat.not_lt_zero _)⟩ ?_
 clear fr aC hM55; rintro n aC w61 ⟨i3, rfl, fr, hM62, hi3, hop⟩
 revert aC
 refine zsq <| zsr <| zpn 2 <| zld ⟨b5, 1, none⟩ (.slice x.iA x.insts.length x.ic) (blk_cell (hM62.get 1 rfl) rfl) <| zpn 1 ?_
 obtain ⟨ad65, had66⟩ := rds_some (hM62.ro (hA.insts hx)) (cs := p3.cells) (i := j3) (by simp [hp3])
 intro aC fr
 refine From_ixA (some 74) x.iA ad65 x.insts.length 5 (j3 : Int) fr (by kernel_rfl) had66 (by omega) (by omega) ?_
 intro aC fr
 revert aC
 refine zpn 1 <| zld (((ad65 : Addr).add (((j3 : Int)).toNat * 5)).add 4) (.slice p3.A p3.args.length p3.c) (ins_get (hM62.ro (hA.insts hx)) had66 hp3 4 _ rfl) <| zpn 2 <| zfe <| zcD (((i3 : Int) : Int) < ((p3.args.length : Nat) : Int)) (fun c71 => ?_) (fun c71 => ?_)
 refine zsk <| zsq <| zbk 7 <| zsr ?_
 obtain ⟨a, ha⟩ := get_of (l := p3.args) (i := i3) (by omega)
 refine zpn 3 <| zld ⟨b5, 1, none⟩ (.slice x.iA x.insts.length x.ic) (blk_cell (hM62.get 1 rfl) rfl) <| zpn 1 ?_
 obtain ⟨ad72, had73⟩ := rds_some (hM62.ro (hA.insts hx)) (cs := p3.cells) (i := j3) (by simp [hp3])
 intro aC fr
 refine From_ixA (some 86) x.iA ad72 x.insts.length 5 (j3 : Int) fr (by kernel_rfl) had73 (by omega) (by omega) ?_
 intro aC fr
 revert aC
 refine zpn 1 <| zld (((ad72 : Addr).add (((j3 : Int)).toNat * 5)).add 4) (.slice p3.A p3.args.length p3.c) (ins_get (hM62.ro (hA.insts hx)) had73 hp3 4 _ rfl) <| zkp [(1, (.slice (sM gm) n n)), (2, (.slice Ao ((bsOf fs).length) co)), (3, (nV k)), (9, (pT b5 0)), (13, (nV j3)), (14, (nV i3)), (81, (.slice (sM gm) n n)), (82, (.slice Ao ((bsOf fs).length) co)), (88, (.slice p3.A p3.args.length p3.c))] <| zpn 1 ?_
 obtain ⟨ad78, had79⟩ := rd_some (hM62.ro (hA.inst hx hp3)) (by simp [ints]; omega)
 intro aC fr
 refine From_ixA (some 90) p3.A ad78 p3.args.length 1 (i3 : Int) fr (by kernel_rfl) had79 (by omega) (by omega) ?_
 intro aC fr
 revert aC
 refine zld ((ad78 : Addr).add (((i3 : Int)).toNat * 1)) (.int .i64 a) (rd_at (hM62.ro (hA.inst hx hp3)) had79 ha) <| zpn 2 <| zcl (rthere_c gm n co Ao pa va l (defsF fs) (bsOf fs) rows a (k : Int) (j3 : Int) w61 (by omega) (hmd.at_ hM62) (hF0.at_ hM62) (hR.at_ hM62) hfo hva htb hpd hds (by omega) (by omega)) ?_
 rintro _ w84 ⟨rfl, hM85x⟩
 have hM85 := hM62.cl hM85x
 refine zpn 1 <| zfe <| zcP (!(decide (thereQ (overD (bsOf fs)) pa va (defsF fs) a (k : Int) (j3 : Int)))) (¬ (thereQ (overD (bsOf fs)) pa va (defsF fs) a (k : Int) (j3 : Int))) (by simp only [notT, decide_eq_true_eq]) (fun c86 => ?_) (fun c86 => ?_)
 refine zsp <| zre <| zbr <| zbr <| zbr <| zbr <| zo1 (.bool false) ?_
 have hR : false = true ↔ False := by simp
 have hM87 := hM85.od [] 0
 exact ⟨bool_dec hR (⟨False.elim, fun h => reads_op hx hp3 ha c86 h⟩), hM87⟩
 have htq := Classical.not_not.1 c86
 refine zsk <| zrg <| zpn 1 <| zar ((i3 : Int) + 1) <| zpn 1 <| zfe ?_
 intro aC fr
 exact ⟨p3.args.length - (i3 + 1), by omega, i3 + 1, rfl, fr.kp [1, 2, 3, 9, 13, 14], hM85, by omega, hop.next ha htq⟩
 refine zex 6 <| zbh <| zrg <| zpn 1 <| zar ((j3 : Int) + 1) <| zpn 1 <| zfe ?_
 intro aC fr
 exact ⟨x.insts.length - (j3 + 1), by omega, j3 + 1, rfl, fr.kp [1, 2, 3, 9, 13], hM62, by omega, hit.next hp3 ((show i3 = p3.args.length by omega) ▸ hop)⟩
 refine zex 4 <| zbh <| zsq <| zsr ?_
 have hite : InsTo (overD (bsOf fs)) pa va fs k x x.insts.length := (show j3 = x.insts.length by omega) ▸ hit
 refine zpn 1 <| zld ⟨b5, 2, none⟩ (.int .i64 x.e) (blk_cell (hM55.get 1 rfl) rfl) <| zpn 2 ?_
 obtain ⟨B92, hB92⟩ : ∃ B : Bool, B = ((x.e : Int) == 1) := ⟨_, rfl⟩
 refine zkp [(1, (.slice (sM gm) n n)), (2, (.slice Ao ((bsOf fs).length) co)), (3, (nV k)), (9, (pT b5 0)), (99, (.bool ((x.e : Int) == 1)))] ?_
 rw [← hB92]
 have iB92 : B92 = true ↔ ((x.e : Int) = 1) := by rw [hB92]; simp only [beq_iff_eq]
 clear hB92
 intro aC fr
 refine zpk 1 5 [100] fr (news := [(100, (cond (!B92) (pT b5 2) undef))]) (by cases B92 <;> kernel_rfl) ?_
 intro aC fr
 refine From_either (B := (!B92)) (d := (some 101)) (.int .i64 x.e) fr (by cases B92 <;> kernel_rfl) (fun hB hh => ?_) ?_
 cases B92 <;> first | (exact absurd hB (by decide)) | skip
 have c92 : ¬ ((x.e : Int) = 1) := (fun h => Bool.noConfusion (iB92.2 h) : ¬ ((x.e : Int) = 1))
 exact From_ld (some 101) ⟨b5, 2, none⟩ fr (by kernel_rfl) (.int .i64 x.e) (blk_cell (hM55.get 1 rfl) rfl) hh
 intro aC fr
 refine zpk 2 8 [103] fr (news := [(103, (cond (!B92) (.bool ((x.e : Int) == 2)) undef))]) (by cases B92 <;> kernel_rfl) ?_
 intro aC fr
 obtain ⟨B101, hB101⟩ : ∃ B : Bool, B = ((x.e : Int) == 2) := ⟨_, rfl⟩
 revert aC
 refine zkp [(1, (.slice (sM gm) n n)), (2, (.slice Ao ((bsOf fs).length) co)), (3, (nV k)), (9, (pT b5 0)), (99, (.bool B92)), (103, (cond (!B92) (.bool ((x.e : Int) == 2)) undef))] ?_
 rw [← hB101]
 have iB101 : B101 = true ↔ ((x.e : Int) = 2) := by rw [hB101]; simp only [beq_iff_eq]
 clear hB101
 intro aC fr
 refine zpk 1 9 [104] fr (news := [(104, (cond (!B92 && B101) (pT b5 3) undef))]) (by cases B101 <;> cases B92 <;> kernel_rfl) ?_
 intro aC fr
 refine From_either (B := (!B92 && B101)) (d := (some 105)) (.int .i64 x.v) fr (by cases B92 <;> cases B101 <;> kernel_rfl) (fun hB hh => ?_) ?_
 cases B92 <;> cases B101 <;> first | (exact absurd hB (by decide)) | skip
 have c92 : ¬ ((x.e : Int) = 1) := (fun h => Bool.noConfusion (iB92.2 h) : ¬ ((x.e : Int) = 1))
 have c101 : ((x.e : Int) = 2) := iB101.1 rfl
 exact From_ld (some 105) ⟨b5, 3, none⟩ fr (by kernel_rfl) (.int .i64 x.v) (blk_cell (hM55.get 1 rfl) rfl) hh
 intro aC fr
 refine zpk 3 13 [108] fr (news := [(108, (.bool (B92 || (B101 && ((x.v : Int) != (-1))))))]) (by cases B101 <;> cases B92 <;> kernel_rfl) ?_
 intro aC fr
 revert aC
 refine zfe <| zcP (B92 || (B101 && ((x.v : Int) != (-1)))) (((x.e : Int) = 1) ∨ (((x.e : Int) = 2) ∧ ((x.v : Int) ≠ (-1)))) (by simp only [Bool.or_eq_true, Bool.and_eq_true, bne_iff_ne, iB101, iB92]) (fun c110 => ?_) (fun c110 => ?_)
 refine zsr <| zpn 3 <| zld ⟨b5, 3, none⟩ (.int .i64 x.v) (blk_cell (hM55.get 1 rfl) rfl) <| zpn 1 <| zcl (rthere_c gm n co Ao pa va l (defsF fs) (bsOf fs) rows x.v (k : Int) 20000 w54 (by omega) (hmd.at_ hM55) (hF0.at_ hM55) (hR.at_ hM55) hfo hva htb hpd hds (by omega) (by omega)) ?_
 rintro _ w111 ⟨rfl, hM112x⟩
 have hM112 := hM55.cl hM112x
 refine zpn 1 <| zfe <| zre <| zo1 (.bool (decide (thereQ (overD (bsOf fs)) pa va (defsF fs) x.v (k : Int) 20000))) ?_
 have hR : decide (thereQ (overD (bsOf fs)) pa va (defsF fs) x.v (k : Int) 20000) = true ↔ (thereQ (overD (bsOf fs)) pa va (defsF fs) x.v (k : Int) 20000) := by simp only [decide_eq_true_eq]
 have hM113 := hM112.od [] 0
 exact ⟨bool_dec hR (⟨fun h => reads_yes hx hphe hite (fun _ => h), fun h => (reads_of hx h).fin (by unfold finR; omega)⟩), hM113⟩
 refine zsk <| zsp <| zre <| zo1 (.bool true) ?_
 have hR : true = true ↔ True := by simp
 have hM114 := hM55.od [] 0
 exact ⟨bool_dec hR (⟨fun _ => reads_yes hx hphe hite (fun hr => absurd hr (by unfold finR; omega)), fun _ => trivial⟩), hM114⟩
end Go.Proofs.YtlfbloadopeamaaDoor
namespace Go.Proofs.YtlfbloadopeamaaDoor
open Go.Mor
set_option maxRecDepth 10000 in
theorem local_c (n b : Nat) (nm : ByteArray) (wk : Bool) (pa va : Int) (A : Option Addr) (c : Nat) (fs : List FBlk) (w : World) (hN : fs.length ≤ 1000) (hok : FOk fs) (hA : RO noS w (.fn A fs)) (hva : va = (n : Int)) (hn2 : n ≤ 20000) (hb : b < fs.length) (hvr : ∀ x, x ∈ fs → VR n x) :
    Calls Tryd.prog 31 #[(fA nm wk pa va A c fs), (nV b)] w (Ret fun v w' => ∃ A1 c1 A2 c2 l1 l2, v = .tuple #[.slice A1 n c1, .slice A2 n c2] ∧ BoolsOf n l1 (madeF fs (b : Int)) ∧ BoolsOf n l2 (useF fs (b : Int)) ∧ Mem noS w w' [.row 4 1 A1 n c1 (bools l1), .row 4 1 A2 n c2 (bools l2)]) := by
 have hbl := bsOf_len fs
 have hm : (bsOf fs).length ≤ 1000000 := by omega
 have hB := hA.bs
 refine zen 122 [(fA nm wk pa va A c fs), (nV b)] Tryd.func31 ?_
 have hM := Mem.init w
 refine zsr <| zbx hM 24 (fA nm wk pa va A c fs) (fV nm wk pa va A c fs) fun b1 w2 hb1 hM3 => ?_
 replace hM3 := hM3.nf
 clear hM
 refine zpn 2 <| zfe <| zsr <| zpn 1 <| zld ⟨b1, 3, none⟩ (.int .i64 va) (blk_cell (hM3.get 0 rfl) rfl) ?_
 intro aC fr
 refine From_make1 (by kernel_rfl : coreAt _ 2 = some (some 14, (.makeSlice 58 (.tmp 13) (.tmp 13)), 58, none)) fr (by kernel_rfl) (by kernel_rfl) (k' := 3) rfl (e := 4) (bytes := 1) (z := (.bool false)) (n := n) (i := va) (by kernel_rfl) (by kernel_rfl) hva (by kernel_rfl) (by kernel_rfl) rfl (by omega) (by simp only [maxLen]; omega) hM3 ?_
 intro b4 w5 hb4 _ hM6 _ aC ea fr; clear ea
 replace hM6 := hM6.nf
 revert aC
 refine zpn 1 <| zfe <| zsr <| zpn 1 <| zld ⟨b1, 3, none⟩ (.int .i64 va) (blk_cell (hM6.get 0 rfl) rfl) ?_
 intro aC fr
 refine From_make1 (by kernel_rfl : coreAt _ 2 = some (some 17, (.makeSlice 58 (.tmp 16) (.tmp 16)), 58, none)) fr (by kernel_rfl) (by kernel_rfl) (k' := 3) rfl (e := 4) (bytes := 1) (z := (.bool false)) (n := n) (i := va) (by kernel_rfl) (by kernel_rfl) hva (by kernel_rfl) (by kernel_rfl) rfl (by omega) (by simp only [maxLen]; omega) hM6 ?_
 intro b11 w12 hb11 _ hM13 _ aC ea fr; clear ea
 replace hM13 := hM13.nf
 revert aC
 refine zpn 1 <| zfe <| zsr ?_
 have hM18 : Mem noS w w12 [.blk b1 24 (fV nm wk pa va A c fs), .row 4 1 (sM b4) n n (bools (List.replicate n false)), .row 4 1 (sM b11) n n (bools (List.replicate n false))] := hM13.cast (by simp only [bools, List.map_replicate])
 obtain ⟨x, hx⟩ := get_of (l := fs) (i := b) (by omega)
 have hl1 : x.phis.length ≤ 281474976710656 := (hok.get hx).lp
 have hl2 : x.insts.length ≤ 281474976710656 := (hok.get hx).li
 have hv := hvr x (List.mem_of_getElem? hx)
 refine zpn 1 <| zld ⟨b1, 4, none⟩ (.slice A ((bsOf fs).length) c) (blk_cell (hM18.get 0 rfl) rfl) <| zkp [(1, (nV b)), (6, (.slice (sM b4) n n)), (7, (.slice (sM b11) n n)), (19, (.slice A ((bsOf fs).length) c))] <| zpn 1 ?_
 obtain ⟨ad19, rfl⟩ := blocks_some (hM18.ro hB) (bsOf_get hx)
 refine zix ad19 ((bsOf fs).length) 6 (b : Int) <| zls ((ad19 : Addr).add (((b : Int)).toNat * 6)) (xV x) (fblk_get (hM18.ro hB) rfl hx) <| zal hM18 44 [(.slice none 0 0), (.slice none 0 0), (.int .i64 0), (.int .i64 0), (.int .i64 0), (.int .i64 0)] fun b20 w21 hb20 hM22 => ?_
 replace hM22 := hM22.nf
 refine zss hM22 3 (xV x) rfl fun w23 hM24 => ?_
 replace hM24 := hM24.nf
 refine zfe <| zsq <| zsp <| zbk 0 ?_
 intro aC fr
 refine zlp (fun n_ a_ w_ => ∃ (k : Nat) (l1 : List Bool) (M : Int → Bool), n_ = x.phis.length - k ∧ Fr a_ 122 [(6, (.slice (sM b4) n n)), (7, (.slice (sM b11) n n)), (8, (pT b20 0)), (9, (nV k))] ∧ Mem noS w w_ [.blk b1 24 (fV nm wk pa va (some ad19) c fs), .row 4 1 (sM b4) n n (bools l1), .row 4 1 (sM b11) n n (bools (List.replicate n false)), .blk b20 44 (xV x)] ∧ (k ≤ x.phis.length) ∧ (BoolsOf n l1 M) ∧ (MkP x k M)) (n := _) ⟨0, (List.replicate n false), (fun _ => false), rfl, fr.kp [6, 7, 8, 9], hM24, by omega, BoolsOf.start n, MkP.start⟩ ?_
 clear fr aC hM24; rintro n aC w27 ⟨k, l1, M, rfl, fr, hM28, hk, hl1, hMk⟩
 revert aC
 refine zsq <| zsr <| zpn 2 <| zld ⟨b20, 0, none⟩ (.slice x.pA x.phis.length x.pc) (blk_cell (hM28.get 3 rfl) rfl) <| zpn 2 <| zfe <| zcD (((k : Int) : Int) < ((x.phis.length : Nat) : Int)) (fun c31 => ?_) (fun c31 => ?_)
 refine zsk <| zsq <| zbk 1 <| zrg ?_
 obtain ⟨p, hph⟩ := get_of (l := x.phis) (i := k) (by omega)
 obtain ⟨hd0, hd1⟩ := hv.phis p (List.mem_of_getElem? hph)
 obtain ⟨dn, hdn⟩ := Int.eq_ofNat_of_zero_le hd0
 have hll := hl1.1
 refine zpn 2 <| zld ⟨b20, 0, none⟩ (.slice x.pA x.phis.length x.pc) (blk_cell (hM28.get 3 rfl) rfl) <| zpn 1 ?_
 obtain ⟨ad32, had33⟩ := rds_some (hM28.ro (hA.phis hx)) (cs := p.cells) (i := k) (by simp [hph])
 intro aC fr
 refine From_ixA (some 34) x.pA ad32 x.phis.length 2 (k : Int) fr (by kernel_rfl) had33 (by omega) (by omega) ?_
 intro aC fr
 revert aC
 refine zpn 1 <| zld ((ad32 : Addr).add (((k : Int)).toNat * 2)) (.int .i64 (dn : Int)) (by rw [← hdn]; exact phi_get (hM28.ro (hA.phis hx)) had33 hph 0 _ rfl) <| zix ⟨b4, 0, none⟩ n 1 (dn : Int) <| zsw hM28 1 ((⟨b4, 0, none⟩ : Addr).add (((dn : Int)).toNat * 1)) (((dn : Int)).toNat * 1) (.bool true) rfl rfl (by omega) fun w38 hM39 => ?_
 replace hM39 := hM39.nf
 refine zfe <| zrg <| zpn 1 <| zar ((k : Int) + 1) <| zkp [(6, (.slice (sM b4) n n)), (7, (.slice (sM b11) n n)), (8, (pT b20 0)), (29, (.int .i64 ((k : Int) + 1)))] <| zpn 1 <| zfe ?_
 have hM40 : Mem noS w w38 [.blk b1 24 (fV nm wk pa va (some ad19) c fs), .row 4 1 (sM b4) n n (bools (l1.set dn true)), .row 4 1 (sM b11) n n (bools (List.replicate n false)), .blk b20 44 (xV x)] := hM39.cast (by simp only [bools_set, Int.toNat_natCast, Nat.mul_one])
 intro aC fr
 exact ⟨x.phis.length - (k + 1), by omega, k + 1, (l1.set dn true), (addS M (dn : Int)), rfl, fr.kp [6, 7, 8, 9], hM40, by omega, hl1.put (by omega), hMk.next hph hdn⟩
 refine zex 0 <| zbh <| zsq <| zsr ?_
 have hMI := hMk.all (by omega)
 refine zpn 1 <| zfe <| zbk 2 ?_
 intro aC fr
 refine zlp (fun n_ a_ w_ => ∃ (j : Nat) (l2 : List Bool) (M2 : Int → Bool) (lu : List Bool) (U : Int → Bool), n_ = x.insts.length - j ∧ Fr a_ 122 [(6, (.slice (sM b4) n n)), (7, (.slice (sM b11) n n)), (8, (pT b20 0)), (10, (nV j))] ∧ Mem noS w w_ [.blk b1 24 (fV nm wk pa va (some ad19) c fs), .row 4 1 (sM b4) n n (bools l2), .row 4 1 (sM b11) n n (bools lu), .blk b20 44 (xV x)] ∧ (j ≤ x.insts.length) ∧ (BoolsOf n l2 M2) ∧ (MkI x j M2) ∧ (BoolsOf n lu U) ∧ (UsI x j U)) (n := _) ⟨0, l1, M, (List.replicate n false), (fun _ => false), rfl, fr.kp [6, 7, 8, 10], hM28, by omega, hl1, hMI, BoolsOf.start n, UsI.start⟩ ?_
 clear fr aC hM28; rintro n aC w45 ⟨j, l2, M2, lu, U, rfl, fr, hM46, hj, hl2, hM2, hlu, hU⟩
 revert aC
 refine zsq <| zsr <| zpn 2 <| zld ⟨b20, 1, none⟩ (.slice x.iA x.insts.length x.ic) (blk_cell (hM46.get 3 rfl) rfl) <| zpn 2 <| zfe <| zcD (((j : Int) : Int) < ((x.insts.length : Nat) : Int)) (fun c49 => ?_) (fun c49 => ?_)
 refine zsk <| zsq <| zbk 3 <| zsq <| zsr ?_
 obtain ⟨p3, hp3⟩ := get_of (l := x.insts) (i := j) (by omega)
 obtain ⟨hpd0, hpd1, hpa⟩ := hv.insts p3 (List.mem_of_getElem? hp3)
 have hpl3 : p3.args.length ≤ 281474976710656 := ((hok.get hx).insts p3 (List.mem_of_getElem? hp3)).len
 have hll := hl2.1
 refine zpn 1 <| zfe <| zbk 4 ?_
 intro aC fr
 refine zlp (fun n_ a_ w_ => ∃ (i : Nat) (lv : List Bool) (V : Int → Bool), n_ = p3.args.length - i ∧ Fr a_ 122 [(6, (.slice (sM b4) n n)), (7, (.slice (sM b11) n n)), (8, (pT b20 0)), (10, (nV j)), (11, (nV i))] ∧ Mem noS w w_ [.blk b1 24 (fV nm wk pa va (some ad19) c fs), .row 4 1 (sM b4) n n (bools l2), .row 4 1 (sM b11) n n (bools lv), .blk b20 44 (xV x)] ∧ (i ≤ p3.args.length) ∧ (BoolsOf n lv V) ∧ (UsJ x j p3.args i V)) (n := _) ⟨0, lu, U, rfl, fr.kp [6, 7, 8, 10, 11], hM46, by omega, hlu, hU.args _⟩ ?_
 clear fr aC hM46; rintro n aC w52 ⟨i, lv, V, rfl, fr, hM53, hi, hlv, hV⟩
 revert aC
 refine zsq <| zsr <| zpn 2 <| zld ⟨b20, 1, none⟩ (.slice x.iA x.insts.length x.ic) (blk_cell (hM53.get 3 rfl) rfl) <| zpn 1 ?_
 obtain ⟨ad56, had57⟩ := rds_some (hM53.ro (hA.insts hx)) (cs := p3.cells) (i := j) (by simp [hp3])
 intro aC fr
 refine From_ixA (some 49) x.iA ad56 x.insts.length 5 (j : Int) fr (by kernel_rfl) had57 (by omega) (by omega) ?_
 intro aC fr
 revert aC
 refine zpn 1 <| zld (((ad56 : Addr).add (((j : Int)).toNat * 5)).add 4) (.slice p3.A p3.args.length p3.c) (ins_get (hM53.ro (hA.insts hx)) had57 hp3 4 _ rfl) <| zpn 2 <| zfe <| zcD (((i : Int) : Int) < ((p3.args.length : Nat) : Int)) (fun c62 => ?_) (fun c62 => ?_)
 refine zsk <| zsq <| zbk 5 <| zsr ?_
 obtain ⟨a0, ha⟩ := get_of (l := p3.args) (i := i) (by omega)
 obtain ⟨ha0, ha1⟩ := hpa a0 (List.mem_of_getElem? ha)
 obtain ⟨an, rfl⟩ := Int.eq_ofNat_of_zero_le ha0
 have hlw := hlv.1
 refine zpn 2 <| zld ⟨b20, 1, none⟩ (.slice x.iA x.insts.length x.ic) (blk_cell (hM53.get 3 rfl) rfl) <| zpn 1 ?_
 obtain ⟨ad63, had64⟩ := rds_some (hM53.ro (hA.insts hx)) (cs := p3.cells) (i := j) (by simp [hp3])
 intro aC fr
 refine From_ixA (some 60) x.iA ad63 x.insts.length 5 (j : Int) fr (by kernel_rfl) had64 (by omega) (by omega) ?_
 intro aC fr
 revert aC
 refine zpn 1 <| zld (((ad63 : Addr).add (((j : Int)).toNat * 5)).add 4) (.slice p3.A p3.args.length p3.c) (ins_get (hM53.ro (hA.insts hx)) had64 hp3 4 _ rfl) <| zkp [(6, (.slice (sM b4) n n)), (7, (.slice (sM b11) n n)), (8, (pT b20 0)), (10, (nV j)), (11, (nV i)), (56, (.slice (sM b4) n n)), (62, (.slice p3.A p3.args.length p3.c))] <| zpn 1 ?_
 obtain ⟨ad69, had70⟩ := rd_some (hM53.ro (hA.inst hx hp3)) (by simp [ints]; omega)
 intro aC fr
 refine From_ixA (some 64) p3.A ad69 p3.args.length 1 (i : Int) fr (by kernel_rfl) had70 (by omega) (by omega) ?_
 intro aC fr
 revert aC
 refine zld ((ad69 : Addr).add (((i : Int)).toNat * 1)) (nV an) (rd_at (hM53.ro (hA.inst hx hp3)) had70 ha) <| zix ⟨b4, 0, none⟩ n 1 (an : Int) <| zld ((⟨b4, 0, none⟩ : Addr).add (((an : Int)).toNat * 1)) (.bool (l2.getD an false)) (rd_get1 (row_rd (hM53.get 1 rfl)) rfl (bools_get (by omega))) <| zpn 1 <| zfe <| zcP (!(l2.getD an false)) (¬ ((l2.getD an false) = true)) (by simp only [notT]) (fun c75 => ?_) (fun c75 => ?_)
 replace c75 : (l2.getD an false) = false := Bool.eq_false_iff.2 c75
 refine zrg <| zpn 2 <| zld ⟨b20, 1, none⟩ (.slice x.iA x.insts.length x.ic) (blk_cell (hM53.get 3 rfl) rfl) <| zpn 1 ?_
 obtain ⟨ad76, had77⟩ := rds_some (hM53.ro (hA.insts hx)) (cs := p3.cells) (i := j) (by simp [hp3])
 intro aC fr
 refine From_ixA (some 73) x.iA ad76 x.insts.length 5 (j : Int) fr (by kernel_rfl) had77 (by omega) (by omega) ?_
 intro aC fr
 revert aC
 refine zpn 1 <| zld (((ad76 : Addr).add (((j : Int)).toNat * 5)).add 4) (.slice p3.A p3.args.length p3.c) (ins_get (hM53.ro (hA.insts hx)) had77 hp3 4 _ rfl) <| zkp [(6, (.slice (sM b4) n n)), (7, (.slice (sM b11) n n)), (8, (pT b20 0)), (10, (nV j)), (11, (nV i)), (69, (.slice (sM b11) n n)), (75, (.slice p3.A p3.args.length p3.c))] <| zpn 1 ?_
 obtain ⟨ad82, had83⟩ := rd_some (hM53.ro (hA.inst hx hp3)) (by simp [ints]; omega)
 intro aC fr
 refine From_ixA (some 77) p3.A ad82 p3.args.length 1 (i : Int) fr (by kernel_rfl) had83 (by omega) (by omega) ?_
 intro aC fr
 revert aC
 refine zld ((ad82 : Addr).add (((i : Int)).toNat * 1)) (nV an) (rd_at (hM53.ro (hA.inst hx hp3)) had83 ha) <| zix ⟨b11, 0, none⟩ n 1 (an : Int) <| zsw hM53 2 ((⟨b11, 0, none⟩ : Addr).add (((an : Int)).toNat * 1)) (((an : Int)).toNat * 1) (.bool true) rfl rfl (by omega) fun w88 hM89 => ?_
 replace hM89 := hM89.nf
 refine zfe <| zrg <| zpn 1 <| zar ((i : Int) + 1) <| zpn 1 <| zfe ?_
 have hM90 : Mem noS w w88 [.blk b1 24 (fV nm wk pa va (some ad19) c fs), .row 4 1 (sM b4) n n (bools l2), .row 4 1 (sM b11) n n (bools (lv.set an true)), .blk b20 44 (xV x)] := hM89.cast (by simp only [bools_set, Int.toNat_natCast, Nat.mul_one])
 intro aC fr
 exact ⟨p3.args.length - (i + 1), by omega, i + 1, (lv.set an true), (addS V (an : Int)), rfl, fr.kp [6, 7, 8, 10, 11], hM90, by omega, hlv.put (by omega), hV.read hM2 ha (by rw [← hl2.2 an (by omega)]; exact c75)⟩
 replace c75 : (l2.getD an false) = true := Classical.not_not.1 c75
 refine zsk <| zrg <| zpn 1 <| zar ((i : Int) + 1) <| zpn 1 <| zfe ?_
 intro aC fr
 exact ⟨p3.args.length - (i + 1), by omega, i + 1, lv, V, rfl, fr.kp [6, 7, 8, 10, 11], hM53, by omega, hlv, hV.made hM2 ha (by rw [← hl2.2 an (by omega)]; exact c75)⟩
 refine zex 4 <| zbh <| zsr <| zpn 1 <| zld ⟨b20, 1, none⟩ (.slice x.iA x.insts.length x.ic) (blk_cell (hM53.get 3 rfl) rfl) <| zpn 1 ?_
 obtain ⟨ad95, had96⟩ := rds_some (hM53.ro (hA.insts hx)) (cs := p3.cells) (i := j) (by simp [hp3])
 intro aC fr
 refine From_ixA (some 83) x.iA ad95 x.insts.length 5 (j : Int) fr (by kernel_rfl) had96 (by omega) (by omega) ?_
 intro aC fr
 revert aC
 refine zpn 1 <| zld (((ad95 : Addr).add (((j : Int)).toNat * 5)).add 1) (.int .i64 p3.dst) (ins_get (hM53.ro (hA.insts hx)) had96 hp3 1 _ rfl) <| zkp [(6, (.slice (sM b4) n n)), (7, (.slice (sM b11) n n)), (8, (pT b20 0)), (10, (nV j)), (85, (.int .i64 p3.dst))] <| zpn 1 <| zfe <| zcD ((p3.dst : Int) ≥ 0) (fun c101 => ?_) (fun c101 => ?_)
 obtain ⟨dn, hdn⟩ := Int.eq_ofNat_of_zero_le (show 0 ≤ p3.dst by omega)
 refine zrg <| zpn 2 <| zld ⟨b20, 1, none⟩ (.slice x.iA x.insts.length x.ic) (blk_cell (hM53.get 3 rfl) rfl) <| zpn 1 ?_
 obtain ⟨ad102, had103⟩ := rds_some (hM53.ro (hA.insts hx)) (cs := p3.cells) (i := j) (by simp [hp3])
 intro aC fr
 refine From_ixA (some 91) x.iA ad102 x.insts.length 5 (j : Int) fr (by kernel_rfl) had103 (by omega) (by omega) ?_
 intro aC fr
 revert aC
 refine zpn 1 <| zld (((ad102 : Addr).add (((j : Int)).toNat * 5)).add 1) (.int .i64 (dn : Int)) (by rw [← hdn]; exact ins_get (hM53.ro (hA.insts hx)) had103 hp3 1 _ rfl) <| zix ⟨b4, 0, none⟩ n 1 (dn : Int) <| zsw hM53 1 ((⟨b4, 0, none⟩ : Addr).add (((dn : Int)).toNat * 1)) (((dn : Int)).toNat * 1) (.bool true) rfl rfl (by omega) fun w108 hM109 => ?_
 replace hM109 := hM109.nf
 refine zfe <| zrg <| zpn 1 <| zar ((j : Int) + 1) <| zpn 1 <| zfe ?_
 have hM110 : Mem noS w w108 [.blk b1 24 (fV nm wk pa va (some ad19) c fs), .row 4 1 (sM b4) n n (bools (l2.set dn true)), .row 4 1 (sM b11) n n (bools lv), .blk b20 44 (xV x)] := hM109.cast (by simp only [bools_set, Int.toNat_natCast, Nat.mul_one])
 intro aC fr
 exact ⟨x.insts.length - (j + 1), by omega, j + 1, (l2.set dn true), (addS M2 (dn : Int)), lv, V, rfl, fr.kp [6, 7, 8, 10], hM110, by omega, hl2.put (by omega), hM2.next hp3 hdn, hlv, hV.all hp3 (by omega)⟩
 refine zsk <| zrg <| zpn 1 <| zar ((j : Int) + 1) <| zpn 1 <| zfe ?_
 intro aC fr
 exact ⟨x.insts.length - (j + 1), by omega, j + 1, l2, M2, lv, V, rfl, fr.kp [6, 7, 8, 10], hM53, by omega, hl2, hM2.skip hp3 (by omega), hlv, hV.all hp3 (by omega)⟩
 refine zex 2 <| zbh <| zsq <| zsr ?_
 have hll := hl2.1
 have hlw := hlu.1
 have hjl : x.insts.length ≤ j := by omega
 have hvf : (x.e = 1 ∨ x.e = 2 ∧ 0 ≤ x.v) → 0 ≤ x.v ∧ x.v < (n : Int) := fun h => hv.fin (by unfold finS; omega)
 refine zpn 1 <| zld ⟨b20, 2, none⟩ (.int .i64 x.e) (blk_cell (hM46.get 3 rfl) rfl) <| zpn 2 ?_
 obtain ⟨B115, hB115⟩ : ∃ B : Bool, B = ((x.e : Int) == 1) := ⟨_, rfl⟩
 refine zkp [(6, (.slice (sM b4) n n)), (7, (.slice (sM b11) n n)), (8, (pT b20 0)), (98, (.bool ((x.e : Int) == 1)))] ?_
 rw [← hB115]
 have iB115 : B115 = true ↔ ((x.e : Int) = 1) := by rw [hB115]; simp only [beq_iff_eq]
 clear hB115
 intro aC fr
 refine zpk 1 5 [99] fr (news := [(99, (cond (!B115) (pT b20 2) undef))]) (by cases B115 <;> kernel_rfl) ?_
 intro aC fr
 refine From_either (B := (!B115)) (d := (some 100)) (.int .i64 x.e) fr (by cases B115 <;> kernel_rfl) (fun hB hh => ?_) ?_
 cases B115 <;> first | (exact absurd hB (by decide)) | skip
 have c115 : ¬ ((x.e : Int) = 1) := (fun h => Bool.noConfusion (iB115.2 h) : ¬ ((x.e : Int) = 1))
 exact From_ld (some 100) ⟨b20, 2, none⟩ fr (by kernel_rfl) (.int .i64 x.e) (blk_cell (hM46.get 3 rfl) rfl) hh
 intro aC fr
 refine zpk 2 8 [102] fr (news := [(102, (cond (!B115) (.bool ((x.e : Int) == 2)) undef))]) (by cases B115 <;> kernel_rfl) ?_
 intro aC fr
 obtain ⟨B124, hB124⟩ : ∃ B : Bool, B = ((x.e : Int) == 2) := ⟨_, rfl⟩
 revert aC
 refine zkp [(6, (.slice (sM b4) n n)), (7, (.slice (sM b11) n n)), (8, (pT b20 0)), (98, (.bool B115)), (102, (cond (!B115) (.bool ((x.e : Int) == 2)) undef))] ?_
 rw [← hB124]
 have iB124 : B124 = true ↔ ((x.e : Int) = 2) := by rw [hB124]; simp only [beq_iff_eq]
 clear hB124
 intro aC fr
 refine zpk 1 9 [103] fr (news := [(103, (cond (!B115 && B124) (pT b20 3) undef))]) (by cases B115 <;> cases B124 <;> kernel_rfl) ?_
 intro aC fr
 refine From_either (B := (!B115 && B124)) (d := (some 104)) (.int .i64 x.v) fr (by cases B115 <;> cases B124 <;> kernel_rfl) (fun hB hh => ?_) ?_
 cases B115 <;> cases B124 <;> first | (exact absurd hB (by decide)) | skip
 have c115 : ¬ ((x.e : Int) = 1) := (fun h => Bool.noConfusion (iB115.2 h) : ¬ ((x.e : Int) = 1))
 have c124 : ((x.e : Int) = 2) := iB124.1 rfl
 exact From_ld (some 104) ⟨b20, 3, none⟩ fr (by kernel_rfl) (.int .i64 x.v) (blk_cell (hM46.get 3 rfl) rfl) hh
 intro aC fr
 refine zpk 4 14 [107, 108] fr (news := [(107, (.bool (B115 || (B124 && decide ((x.v : Int) ≥ 0))))), (108, (.bool (B115 || (B124 && decide ((x.v : Int) ≥ 0)))))]) (by cases B115 <;> cases B124 <;> kernel_rfl) ?_
 intro aC fr
 obtain ⟨B133, hB133⟩ : ∃ B : Bool, B = (B115 || (B124 && decide ((x.v : Int) ≥ 0))) := ⟨_, rfl⟩
 revert aC
 refine zkp [(6, (.slice (sM b4) n n)), (7, (.slice (sM b11) n n)), (8, (pT b20 0)), (108, (.bool (B115 || (B124 && decide ((x.v : Int) ≥ 0)))))] ?_
 rw [← hB133]
 have iB133 : B133 = true ↔ (((x.e : Int) = 1) ∨ (((x.e : Int) = 2) ∧ ((x.v : Int) ≥ 0))) := by rw [hB133]; simp only [Bool.or_eq_true, Bool.and_eq_true, decide_eq_true_eq, iB115, iB124]
 clear hB133
 intro aC fr
 refine zpk 2 16 [109, 110] fr (news := [(109, (cond B133 (.slice (sM b4) n n) undef)), (110, (cond B133 (pT b20 3) undef))]) (by cases B133 <;> kernel_rfl) ?_
 intro aC fr
 refine From_either (B := B133) (d := (some 111)) (.int .i64 x.v) fr (by cases B133 <;> kernel_rfl) (fun hB hh => ?_) ?_
 cases B133 <;> first | (exact absurd hB (by decide)) | skip
 have c133 : (((x.e : Int) = 1) ∨ (((x.e : Int) = 2) ∧ ((x.v : Int) ≥ 0))) := iB133.1 rfl
 exact From_ld (some 111) ⟨b20, 3, none⟩ fr (by kernel_rfl) (.int .i64 x.v) (blk_cell (hM46.get 3 rfl) rfl) hh
 intro aC fr
 refine From_either (B := B133) (d := (some 112)) (.pointer (some ((⟨b4, 0, none⟩ : Addr).add ((x.v).toNat * 1)))) fr (by cases B133 <;> kernel_rfl) (fun hB hh => ?_) ?_
 cases B133 <;> first | (exact absurd hB (by decide)) | skip
 have c133 : (((x.e : Int) = 1) ∨ (((x.e : Int) = 2) ∧ ((x.v : Int) ≥ 0))) := iB133.1 rfl
 exact From_ix (some 112) ⟨b4, 0, none⟩ n 1 x.v fr (by kernel_rfl) (by omega) (by omega) hh
 intro aC fr
 refine From_either (B := B133) (d := (some 113)) (.bool (l2.getD (x.v).toNat false)) fr (by cases B133 <;> kernel_rfl) (fun hB hh => ?_) ?_
 cases B133 <;> first | (exact absurd hB (by decide)) | skip
 have c133 : (((x.e : Int) = 1) ∨ (((x.e : Int) = 2) ∧ ((x.v : Int) ≥ 0))) := iB133.1 rfl
 exact From_ld (some 113) ((⟨b4, 0, none⟩ : Addr).add ((x.v).toNat * 1)) fr (by kernel_rfl) (.bool (l2.getD (x.v).toNat false)) (rd_get1 (row_rd (hM46.get 1 rfl)) rfl (bools_get (by omega))) hh
 intro aC fr
 refine zpk 2 21 [115] fr (news := [(115, (.bool (B133 && (!(l2.getD (x.v).toNat false)))))]) (by cases B133 <;> kernel_rfl) ?_
 intro aC fr
 revert aC
 refine zfe <| zcP (B133 && (!(l2.getD (x.v).toNat false))) ((((x.e : Int) = 1) ∨ (((x.e : Int) = 2) ∧ ((x.v : Int) ≥ 0))) ∧ (¬ ((l2.getD (x.v).toNat false) = true))) (by simp only [Bool.and_eq_true, notT, iB133]) (fun c146 => ?_) (fun c146 => ?_)
 have hfe : x.e = 1 ∨ x.e = 2 ∧ 0 ≤ x.v := by omega
 obtain ⟨hv0, hv1⟩ := hvf hfe
 obtain ⟨vn, hvn⟩ := Int.eq_ofNat_of_zero_le hv0
 refine zrg <| zpn 2 <| zld ⟨b20, 3, none⟩ (.int .i64 (vn : Int)) (by rw [← hvn]; exact blk_cell (hM46.get 3 rfl) rfl) <| zix ⟨b11, 0, none⟩ n 1 (vn : Int) <| zsw hM46 2 ((⟨b11, 0, none⟩ : Addr).add (((vn : Int)).toNat * 1)) (((vn : Int)).toNat * 1) (.bool true) rfl rfl (by omega) fun w147 hM148 => ?_
 replace hM148 := hM148.nf
 refine zfe <| zsp <| zre <| zo2 (.slice (sM b4) n n) (.slice (sM b11) n n) ?_
 have hM149 : Mem noS w w147 [.blk b1 24 (fV nm wk pa va (some ad19) c fs), .row 4 1 (sM b4) n n (bools l2), .row 4 1 (sM b11) n n (bools (lu.set vn true)), .blk b20 44 (xV x)] := hM148.cast (by simp only [bools_set, Int.toNat_natCast, Nat.mul_one])
 have hM150 := hM149.od [2, 2] 2
 have hMv : M2 (vn : Int) = false := by have h9 := (c146).2; rw [hvn, Int.toNat_natCast, hl2.2 vn (by omega)] at h9; exact Bool.eq_false_iff.2 h9
 exact ⟨(sM b4), n, (sM b11), n, l2, (lu.set vn true), rfl, hM2.made hx hjl hl2, hU.use_end hM2 hx hjl (by unfold finS; omega) hvn hMv (hlu.put (by omega)), hM150⟩
 refine zsk <| zsp <| zre <| zo2 (.slice (sM b4) n n) (.slice (sM b11) n n) ?_
 have hM151 := hM46.od [2, 2] 2
 have hMv : finS x → ∃ a : Nat, x.v = (a : Int) ∧ M2 (a : Int) = true := fun hf => by have h8 := hv.fin hf; obtain ⟨a, ha⟩ := Int.eq_ofNat_of_zero_le h8.1; refine ⟨a, ha, ?_⟩; rw [← hl2.2 a (by omega)]; apply Classical.byContradiction; intro h9; exact c146 ⟨by unfold finS at hf; omega, by rw [ha, Int.toNat_natCast]; exact h9⟩
 exact ⟨(sM b4), n, (sM b11), n, l2, lu, rfl, hM2.made hx hjl hl2, hU.use hM2 hx hjl hMv hlu, hM151⟩
end Go.Proofs.YtlfbloadopeamaaDoor
namespace Go.Proofs.YtlfbloadopeamaaDoor
open Go.Mor
set_option maxRecDepth 10000 in
theorem grow_c (n b : Nat) (nm : ByteArray) (wk : Bool) (pa va : Int) (A : Option Addr) (c : Nat) (fs : List FBlk) (AI AO AM : Option Addr) (cI cO cM : Nat) (rI rO rM : List RowV) (SI SO : Int → Int → Bool) (w : World) (hN : fs.length ≤ 1000) (_hok : FOk fs) (hA : RO ((Res.fam 4 rI).and (Res.fam 4 rO)).fp w (.fn A fs)) (hva : va = (n : Int)) (hn2 : n ≤ 20000) (hb : b < fs.length) (hok0 : GOk n fs SI SO) (hRI : BoolR n fs.length rI SI) (hRO : BoolR n fs.length rO SO) (hRM : BoolR n fs.length rM (madeF fs)) (hI : RO ((Res.fam 4 rI).and (Res.fam 4 rO)).fp w (.rd AI (slv rI))) (hO : RO ((Res.fam 4 rI).and (Res.fam 4 rO)).fp w (.rd AO (slv rO))) (hMk : RO ((Res.fam 4 rI).and (Res.fam 4 rO)).fp w (.rd AM (slv rM))) (hMF : RO ((Res.fam 4 rI).and (Res.fam 4 rO)).fp w (.fam 4 rM)) (hfam : (Res.fam 4 rI).holds w) (hfam2 : (Res.fam 4 rO).holds w) (hfar : ∀ g, (Res.fam 4 rI).fp g → ¬ (Res.fam 4 rO).fp g) :
    Calls Tryd.prog 32 #[(fA nm wk pa va A c fs), (nV b), (.slice AI fs.length cI), (.slice AO fs.length cO), (.slice AM fs.length cM)] w (Ret fun v w' => ∃ mb rI2 rO2 SI2 SO2, v = .bool mb ∧ BoolR n fs.length rI2 SI2 ∧ BoolR n fs.length rO2 SO2 ∧ GTo n fs SI SO SI2 SO2 b n mb ∧ slv rI2 = slv rI ∧ slv rO2 = slv rO ∧ Mem ((Res.fam 4 rI).and (Res.fam 4 rO)).fp w w' [.fam 4 rI2, .fam 4 rO2]) := by
 have hbl := bsOf_len fs
 have hm : (bsOf fs).length ≤ 1000000 := by omega
 have hB := hA.bs
 obtain ⟨xb, hxb⟩ := get_of (l := fs) (i := b) hb
 refine zen 90 [(fA nm wk pa va A c fs), (nV b), (.slice AI fs.length cI), (.slice AO fs.length cO), (.slice AM fs.length cM)] Tryd.func32 ?_
 have hM := Mem.init2 hfam hfam2 hfar
 refine zsr <| zbx hM 24 (fA nm wk pa va A c fs) (fV nm wk pa va A c fs) fun b1 w2 hb1 hM3 => ?_
 replace hM3 := hM3.nf
 clear hM
 refine zpn 1 <| zfe <| zsr ?_
 obtain ⟨adO, hadO⟩ := rd_some (hM3.ro hO) (by rw [slv_len, hRO.len]; omega)
 subst hadO
 obtain ⟨adI, hadI⟩ := rd_some (hM3.ro hI) (by rw [slv_len, hRI.len]; omega)
 subst hadI
 obtain ⟨adM, hadM⟩ := rd_some (hM3.ro hMk) (by rw [slv_len, hRM.len]; omega)
 subst hadM
 obtain ⟨Am, cm, lm, hrm, hlm⟩ := hRM.at_ b hb
 have hlml := hlm.1
 refine zpn 1 <| zfe <| zsr <| zls ⟨b1, 0, none⟩ (fV nm wk pa va A c fs) (blk_cells (hM3.get 2 rfl)) <| zpn 1 <| zcl (vs := #[(fA nm wk pa va A c fs), (nV b)]) (rtargets_c _ _ _ _ A c (bsOf fs) (b : Int) w2 hm (hB.at_ hM3)) ?_
 rintro _ w6 ⟨A4, c5, rfl, hM7x⟩
 have hM7 := hM3.cl hM7x
 refine zpn 1 <| zfe <| zsq <| zsp <| zbk 0 ?_
 have htl := tg_len (bsOf fs) (b : Int)
 intro aC fr
 refine zlp (fun n_ a_ w_ => ∃ (m : Nat) (mb : Bool) (rI2 : List RowV) (rO2 : List RowV) (SI2 : Int → Int → Bool) (SO2 : Int → Int → Bool), n_ = n - m ∧ Fr a_ 90 [(1, (nV b)), (2, (.slice (some adI) fs.length cI)), (3, (.slice (some adO) fs.length cO)), (4, (.slice (some adM) fs.length cM)), (5, (pT b1 0)), (11, (.bool mb)), (12, (.slice A4 ((tg (bsOf fs) (b : Int)).length) c5)), (13, (nV m))] ∧ Mem ((Res.fam 4 rI).and (Res.fam 4 rO)).fp w w_ [.fam 4 rI2, .fam 4 rO2, .blk b1 24 (fV nm wk pa va A c fs), .row 3 1 A4 ((tg (bsOf fs) (b : Int)).length) c5 (ints (tg (bsOf fs) (b : Int)))] ∧ (m ≤ n) ∧ (BoolR n fs.length rI2 SI2) ∧ (BoolR n fs.length rO2 SO2) ∧ (GTo n fs SI SO SI2 SO2 b m mb) ∧ (slv rI2 = slv rI) ∧ (slv rO2 = slv rO)) (n := _) ⟨0, false, rI, rO, SI, SO, rfl, fr.kp [1, 2, 3, 4, 5, 11, 12, 13], hM7, by omega, hRI, hRO, GTo.start hok0, rfl, rfl⟩ ?_
 clear fr aC hM7; rintro n aC w10 ⟨m, mb, rI2, rO2, SI2, SO2, rfl, fr, hM11, hm2, hRI2, hRO2, hG, hsI, hsO⟩
 revert aC
 refine zsq <| zsr <| zpn 2 <| zld ⟨b1, 3, none⟩ (.int .i64 va) (blk_cell (hM11.get 2 rfl) rfl) <| zpn 1 <| zfe <| zcD (((m : Int) : Int) < va) (fun c14 => ?_) (fun c14 => ?_)
 refine zsk <| zsq <| zbk 1 <| zsq <| zsp <| zbk 2 ?_
 intro aC fr
 refine zlp (fun n_ a_ w_ => ∃ (q : Nat) (mb3 : Bool) (rO3 : List RowV) (SO3 : Int → Int → Bool), n_ = (tg (bsOf fs) (b : Int)).length - q ∧ Fr a_ 90 [(1, (nV b)), (2, (.slice (some adI) fs.length cI)), (3, (.slice (some adO) fs.length cO)), (4, (.slice (some adM) fs.length cM)), (5, (pT b1 0)), (11, (.bool mb3)), (12, (.slice A4 ((tg (bsOf fs) (b : Int)).length) c5)), (13, (nV m)), (14, (nV q))] ∧ Mem ((Res.fam 4 rI).and (Res.fam 4 rO)).fp w w_ [.fam 4 rI2, .fam 4 rO3, .blk b1 24 (fV nm wk pa va A c fs), .row 3 1 A4 ((tg (bsOf fs) (b : Int)).length) c5 (ints (tg (bsOf fs) (b : Int)))] ∧ (q ≤ (tg (bsOf fs) (b : Int)).length) ∧ (BoolR n fs.length rO3 SO3) ∧ (GMid n fs SI SO SI2 SO3 b m q mb3) ∧ (slv rO3 = slv rO)) (n := _) ⟨0, mb, rO2, SO2, rfl, fr.kp [1, 2, 3, 4, 5, 11, 12, 13, 14], hM11, by omega, hRO2, hG.mid, hsO⟩ ?_
 clear fr aC hM11; rintro n aC w17 ⟨q, mb3, rO3, SO3, rfl, fr, hM18, hq, hRO3, hG3, hsO3⟩
 revert aC
 refine zsq <| zsp <| zcD (((q : Int) : Int) < (((tg (bsOf fs) (b : Int)).length : Nat) : Int)) (fun c21 => ?_) (fun c21 => ?_)
 refine zsk <| zsq <| zbk 3 <| zsr ?_
 obtain ⟨ti, hti, htn⟩ := tg_at (bs := bsOf fs) (b := (b : Int)) (k := q) (by omega)
 obtain ⟨At, ct, lt, hrt, hlt⟩ := hRI2.at_ ti (by omega)
 obtain ⟨Ab, cb, lb, hrb, hlb⟩ := hRO3.at_ b hb
 have hltl := hlt.1
 have hlbl := hlb.1
 obtain ⟨adb, rfl⟩ := rd_some (fam_rd (hM18.get 1 rfl) hrb) (by rw [bools_len]; omega)
 refine zpn 3 ?_
 obtain ⟨g23, rfl⟩ := row_some (hM18.get 3 rfl) (by omega)
 refine zix ⟨g23, 0, none⟩ ((tg (bsOf fs) (b : Int)).length) 1 (q : Int) <| zld ((⟨g23, 0, none⟩ : Addr).add (((q : Int)).toNat * 1)) (nV ti) (rd_at (row_rd (hM18.get 3 rfl)) rfl hti) <| zix adI fs.length 1 (ti : Int) <| zld ((adI : Addr).add (((ti : Int)).toNat * 1)) (.slice At n ct) (rd_get1 (hM18.ro hI) rfl (hsI ▸ slv_get hrt)) <| zpn 1 ?_
 obtain ⟨ad24, rfl⟩ := rd_some (fam_rd (hM18.get 0 rfl) hrt) (by rw [bools_len]; omega)
 refine zix ad24 n 1 (m : Int) <| zld ((ad24 : Addr).add (((m : Int)).toNat * 1)) (.bool (lt.getD m false)) (rd_get1 (fam_rd (hM18.get 0 rfl) hrt) rfl (bools_get (by omega))) <| zpn 1 ?_
 obtain ⟨B25, hB25⟩ : ∃ B : Bool, B = (lt.getD m false) := ⟨_, rfl⟩
 refine zkp [(1, (nV b)), (2, (.slice (some adI) fs.length cI)), (3, (.slice (some adO) fs.length cO)), (4, (.slice (some adM) fs.length cM)), (5, (pT b1 0)), (11, (.bool mb3)), (12, (.slice (sM g23) ((tg (bsOf fs) (b : Int)).length) c5)), (13, (nV m)), (14, (nV q)), (40, (.bool (lt.getD m false)))] ?_
 rw [← hB25]
 have iB25 : B25 = true ↔ ((lt.getD m false) = true) := by rw [hB25]
 clear hB25
 intro aC fr
 refine zpk 2 13 [41, 42] fr (news := [(41, (cond B25 (.slice (some adO) fs.length cO) undef)), (42, (cond B25 (nV b) undef))]) (by cases B25 <;> kernel_rfl) ?_
 intro aC fr
 refine From_either (B := B25) (d := (some 43)) (.pointer (some ((adO : Addr).add (((b : Int)).toNat * 1)))) fr (by cases B25 <;> kernel_rfl) (fun hB hh => ?_) ?_
 cases B25 <;> first | (exact absurd hB (by decide)) | skip
 have c25 : ((lt.getD m false) = true) := iB25.1 rfl
 exact From_ix (some 43) adO fs.length 1 (b : Int) fr (by kernel_rfl) (by omega) (by omega) hh
 intro aC fr
 refine From_either (B := B25) (d := (some 44)) (.slice (some adb) n cb) fr (by cases B25 <;> kernel_rfl) (fun hB hh => ?_) ?_
 cases B25 <;> first | (exact absurd hB (by decide)) | skip
 have c25 : ((lt.getD m false) = true) := iB25.1 rfl
 exact From_ld (some 44) ((adO : Addr).add (((b : Int)).toNat * 1)) fr (by kernel_rfl) (.slice (some adb) n cb) (rd_get1 (hM18.ro hO) rfl (hsO3 ▸ slv_get hrb)) hh
 intro aC fr
 refine zpk 1 16 [45] fr (news := [(45, (cond B25 (nV m) undef))]) (by cases B25 <;> kernel_rfl) ?_
 intro aC fr
 refine From_either (B := B25) (d := (some 46)) (.pointer (some ((adb : Addr).add (((m : Int)).toNat * 1)))) fr (by cases B25 <;> kernel_rfl) (fun hB hh => ?_) ?_
 cases B25 <;> first | (exact absurd hB (by decide)) | skip
 have c25 : ((lt.getD m false) = true) := iB25.1 rfl
 exact From_ix (some 46) adb n 1 (m : Int) fr (by kernel_rfl) (by omega) (by omega) hh
 intro aC fr
 refine From_either (B := B25) (d := (some 47)) (.bool (lb.getD m false)) fr (by cases B25 <;> kernel_rfl) (fun hB hh => ?_) ?_
 cases B25 <;> first | (exact absurd hB (by decide)) | skip
 have c25 : ((lt.getD m false) = true) := iB25.1 rfl
 exact From_ld (some 47) ((adb : Addr).add (((m : Int)).toNat * 1)) fr (by kernel_rfl) (.bool (lb.getD m false)) (rd_get1 (fam_rd (hM18.get 1 rfl) hrb) rfl (bools_get (by omega))) hh
 intro aC fr
 refine zpk 2 20 [49] fr (news := [(49, (.bool (B25 && (!(lb.getD m false)))))]) (by cases B25 <;> kernel_rfl) ?_
 intro aC fr
 revert aC
 refine zfe <| zcP (B25 && (!(lb.getD m false))) (((lt.getD m false) = true) ∧ (¬ ((lb.getD m false) = true))) (by simp only [Bool.and_eq_true, notT, iB25]) (fun c42 => ?_) (fun c42 => ?_)
 refine zsr ?_
 have hM43 := hM18.od [3, 3, 2, 3] 4
 have hM44 : Mem ((Res.fam 4 rI).and (Res.fam 4 rO)).fp w w17 [.fam 4 (rO3.set b nilV), .row 4 1 (some adb) n cb (bools lb), .fam 4 rI2, .blk b1 24 (fV nm wk pa va A c fs), .row 3 1 (sM g23) ((tg (bsOf fs) (b : Int)).length) c5 (ints (tg (bsOf fs) (b : Int)))] := hM43.focus b hrb
 refine zpn 2 <| zix adO fs.length 1 (b : Int) <| zld ((adO : Addr).add (((b : Int)).toNat * 1)) (.slice (some adb) n cb) (rd_get1 (hM44.ro hO) rfl (hsO3 ▸ slv_get hrb)) <| zpn 1 <| zix adb n 1 (m : Int) <| zkp [(1, (nV b)), (2, (.slice (some adI) fs.length cI)), (3, (.slice (some adO) fs.length cO)), (4, (.slice (some adM) fs.length cM)), (5, (pT b1 0)), (12, (.slice (sM g23) ((tg (bsOf fs) (b : Int)).length) c5)), (13, (nV m)), (14, (nV q)), (55, (.pointer (some ((adb : Addr).add (((m : Int)).toNat * 1)))))] <| zsw hM44 1 ((adb : Addr).add (((m : Int)).toNat * 1)) (((m : Int)).toNat * 1) (.bool true) rfl rfl (by omega) fun w45 hM46 => ?_
 replace hM46 := hM46.nf
 refine zfe <| zrp <| zrg <| zpn 1 <| zar ((q : Int) + 1) <| zpn 1 <| zfe ?_
 have hM47 := hM46.od [4, 4, 4, 4, 4] 5
 have hrl : b < rO3.length := (List.getElem?_eq_some_iff.1 hrb).1
 have hM48 : Mem ((Res.fam 4 rI).and (Res.fam 4 rO)).fp w w45 [.fam 4 (rO3.set b nilV), .row 4 1 (some adb) n cb (bools (lb.set m true)), .fam 4 rI2, .blk b1 24 (fV nm wk pa va A c fs), .row 3 1 (sM g23) ((tg (bsOf fs) (b : Int)).length) c5 (ints (tg (bsOf fs) (b : Int)))] := hM47.cast (by simp only [bools_set, Int.toNat_natCast, Nat.mul_one])
 have hM49 : Mem ((Res.fam 4 rI).and (Res.fam 4 rO)).fp w w45 [.fam 4 (rO3.set b ⟨(some adb), n, cb, bools (lb.set m true)⟩), .fam 4 rI2, .blk b1 24 (fV nm wk pa va A c fs), .row 3 1 (sM g23) ((tg (bsOf fs) (b : Int)).length) c5 (ints (tg (bsOf fs) (b : Int)))] := (hM48.unfocus b (List.getElem?_set_self hrl)).cast (by rw [set_twice])
 have hM50 := hM49.od [3, 3, 2, 3] 4
 intro aC fr
 exact ⟨(tg (bsOf fs) (b : Int)).length - (q + 1), by omega, q + 1, true, (rO3.set b ⟨(some adb), n, cb, bools (lb.set m true)⟩), (updS SO3 (b : Int) (addS (SO3 (b : Int)) (m : Int))), rfl, fr.kp [1, 2, 3, 4, 5, 11, 12, 13, 14], hM50, by omega, hRO3.set (hlb.put (by omega)), hG3.put hb (by omega) hti (by rw [← hlt.2 m (by omega)]; exact c42.1) (by rw [← hlb.2 m (by omega)]; exact Bool.eq_false_iff.2 c42.2), by rw [← slv_same hrb]; exact hsO3⟩
 refine zsk <| zrg <| zpn 1 <| zar ((q : Int) + 1) <| zpn 1 <| zfe ?_
 intro aC fr
 exact ⟨(tg (bsOf fs) (b : Int)).length - (q + 1), by omega, q + 1, mb3, rO3, SO3, rfl, fr.kp [1, 2, 3, 4, 5, 11, 12, 13, 14], hM18, by omega, hRO3, hG3.skip hti (fun h => by rw [← hlt.2 m (by omega)] at h; rw [← hlb.2 m (by omega)]; exact Classical.byContradiction (fun h9 => c42 ⟨h, h9⟩)), hsO3⟩
 refine zex 2 <| zbh <| zsr ?_
 obtain ⟨Ab, cb, lb, hrb, hlb⟩ := hRO3.at_ b hb
 obtain ⟨Ai, ci, li, hri, hli⟩ := hRI2.at_ b hb
 have hlil := hli.1
 have hlbl := hlb.1
 have hqe : (tg (bsOf fs) (b : Int)).length ≤ q := by omega
 obtain ⟨adm, rfl⟩ := rd_some (fam_rd (hM18.ro hMF) hrm) (by rw [bools_len]; omega)
 obtain ⟨adi, rfl⟩ := rd_some (fam_rd (hM18.get 0 rfl) hri) (by rw [bools_len]; omega)
 refine zpn 2 <| zix adO fs.length 1 (b : Int) <| zld ((adO : Addr).add (((b : Int)).toNat * 1)) (.slice Ab n cb) (rd_get1 (hM18.ro hO) rfl (hsO3 ▸ slv_get hrb)) <| zpn 1 ?_
 obtain ⟨ad55, rfl⟩ := rd_some (fam_rd (hM18.get 1 rfl) hrb) (by rw [bools_len]; omega)
 refine zix ad55 n 1 (m : Int) <| zld ((ad55 : Addr).add (((m : Int)).toNat * 1)) (.bool (lb.getD m false)) (rd_get1 (fam_rd (hM18.get 1 rfl) hrb) rfl (bools_get (by omega))) <| zpn 1 ?_
 obtain ⟨B56, hB56⟩ : ∃ B : Bool, B = (lb.getD m false) := ⟨_, rfl⟩
 refine zkp [(1, (nV b)), (2, (.slice (some adI) fs.length cI)), (3, (.slice (some adO) fs.length cO)), (4, (.slice (some adM) fs.length cM)), (5, (pT b1 0)), (11, (.bool mb3)), (12, (.slice A4 ((tg (bsOf fs) (b : Int)).length) c5)), (13, (nV m)), (63, (.bool (lb.getD m false)))] ?_
 rw [← hB56]
 have iB56 : B56 = true ↔ ((lb.getD m false) = true) := by rw [hB56]
 clear hB56
 intro aC fr
 refine zpk 2 10 [64, 65] fr (news := [(64, (cond B56 (.slice (some adM) fs.length cM) undef)), (65, (cond B56 (nV b) undef))]) (by cases B56 <;> kernel_rfl) ?_
 intro aC fr
 refine From_either (B := B56) (d := (some 66)) (.pointer (some ((adM : Addr).add (((b : Int)).toNat * 1)))) fr (by cases B56 <;> kernel_rfl) (fun hB hh => ?_) ?_
 cases B56 <;> first | (exact absurd hB (by decide)) | skip
 have c56 : ((lb.getD m false) = true) := iB56.1 rfl
 exact From_ix (some 66) adM fs.length 1 (b : Int) fr (by kernel_rfl) (by omega) (by omega) hh
 intro aC fr
 refine From_either (B := B56) (d := (some 67)) (.slice (some adm) n cm) fr (by cases B56 <;> kernel_rfl) (fun hB hh => ?_) ?_
 cases B56 <;> first | (exact absurd hB (by decide)) | skip
 have c56 : ((lb.getD m false) = true) := iB56.1 rfl
 exact From_ld (some 67) ((adM : Addr).add (((b : Int)).toNat * 1)) fr (by kernel_rfl) (.slice (some adm) n cm) (rd_get1 (hM18.ro hMk) rfl (slv_get hrm)) hh
 intro aC fr
 refine zpk 1 13 [68] fr (news := [(68, (cond B56 (nV m) undef))]) (by cases B56 <;> kernel_rfl) ?_
 intro aC fr
 refine From_either (B := B56) (d := (some 69)) (.pointer (some ((adm : Addr).add (((m : Int)).toNat * 1)))) fr (by cases B56 <;> kernel_rfl) (fun hB hh => ?_) ?_
 cases B56 <;> first | (exact absurd hB (by decide)) | skip
 have c56 : ((lb.getD m false) = true) := iB56.1 rfl
 exact From_ix (some 69) adm n 1 (m : Int) fr (by kernel_rfl) (by omega) (by omega) hh
 intro aC fr
 refine From_either (B := B56) (d := (some 70)) (.bool (lm.getD m false)) fr (by cases B56 <;> kernel_rfl) (fun hB hh => ?_) ?_
 cases B56 <;> first | (exact absurd hB (by decide)) | skip
 have c56 : ((lb.getD m false) = true) := iB56.1 rfl
 exact From_ld (some 70) ((adm : Addr).add (((m : Int)).toNat * 1)) fr (by kernel_rfl) (.bool (lm.getD m false)) (rd_get1 (fam_rd (hM18.ro hMF) hrm) rfl (bools_get (by omega))) hh
 intro aC fr
 refine zpk 3 18 [72, 73] fr (news := [(72, (.bool (B56 && (!(lm.getD m false))))), (73, (.bool (B56 && (!(lm.getD m false)))))]) (by cases B56 <;> kernel_rfl) ?_
 intro aC fr
 obtain ⟨B73, hB73⟩ : ∃ B : Bool, B = (B56 && (!(lm.getD m false))) := ⟨_, rfl⟩
 revert aC
 refine zkp [(1, (nV b)), (2, (.slice (some adI) fs.length cI)), (3, (.slice (some adO) fs.length cO)), (4, (.slice (some adM) fs.length cM)), (5, (pT b1 0)), (11, (.bool mb3)), (12, (.slice A4 ((tg (bsOf fs) (b : Int)).length) c5)), (13, (nV m)), (73, (.bool (B56 && (!(lm.getD m false)))))] ?_
 rw [← hB73]
 have iB73 : B73 = true ↔ (((lb.getD m false) = true) ∧ (¬ ((lm.getD m false) = true))) := by rw [hB73]; simp only [Bool.and_eq_true, notT, iB56]
 clear hB73
 intro aC fr
 refine zpk 2 20 [74, 75] fr (news := [(74, (cond B73 (.slice (some adI) fs.length cI) undef)), (75, (cond B73 (nV b) undef))]) (by cases B73 <;> kernel_rfl) ?_
 intro aC fr
 refine From_either (B := B73) (d := (some 76)) (.pointer (some ((adI : Addr).add (((b : Int)).toNat * 1)))) fr (by cases B73 <;> kernel_rfl) (fun hB hh => ?_) ?_
 cases B73 <;> first | (exact absurd hB (by decide)) | skip
 have c73 : (((lb.getD m false) = true) ∧ (¬ ((lm.getD m false) = true))) := iB73.1 rfl
 exact From_ix (some 76) adI fs.length 1 (b : Int) fr (by kernel_rfl) (by omega) (by omega) hh
 intro aC fr
 refine From_either (B := B73) (d := (some 77)) (.slice (some adi) n ci) fr (by cases B73 <;> kernel_rfl) (fun hB hh => ?_) ?_
 cases B73 <;> first | (exact absurd hB (by decide)) | skip
 have c73 : (((lb.getD m false) = true) ∧ (¬ ((lm.getD m false) = true))) := iB73.1 rfl
 exact From_ld (some 77) ((adI : Addr).add (((b : Int)).toNat * 1)) fr (by kernel_rfl) (.slice (some adi) n ci) (rd_get1 (hM18.ro hI) rfl (hsI ▸ slv_get hri)) hh
 intro aC fr
 refine zpk 1 23 [78] fr (news := [(78, (cond B73 (nV m) undef))]) (by cases B73 <;> kernel_rfl) ?_
 intro aC fr
 refine From_either (B := B73) (d := (some 79)) (.pointer (some ((adi : Addr).add (((m : Int)).toNat * 1)))) fr (by cases B73 <;> kernel_rfl) (fun hB hh => ?_) ?_
 cases B73 <;> first | (exact absurd hB (by decide)) | skip
 have c73 : (((lb.getD m false) = true) ∧ (¬ ((lm.getD m false) = true))) := iB73.1 rfl
 exact From_ix (some 79) adi n 1 (m : Int) fr (by kernel_rfl) (by omega) (by omega) hh
 intro aC fr
 refine From_either (B := B73) (d := (some 80)) (.bool (li.getD m false)) fr (by cases B73 <;> kernel_rfl) (fun hB hh => ?_) ?_
 cases B73 <;> first | (exact absurd hB (by decide)) | skip
 have c73 : (((lb.getD m false) = true) ∧ (¬ ((lm.getD m false) = true))) := iB73.1 rfl
 exact From_ld (some 80) ((adi : Addr).add (((m : Int)).toNat * 1)) fr (by kernel_rfl) (.bool (li.getD m false)) (rd_get1 (fam_rd (hM18.get 0 rfl) hri) rfl (bools_get (by omega))) hh
 intro aC fr
 refine zpk 2 27 [82] fr (news := [(82, (.bool (B73 && (!(li.getD m false)))))]) (by cases B73 <;> kernel_rfl) ?_
 intro aC fr
 revert aC
 refine zfe <| zcP (B73 && (!(li.getD m false))) ((((lb.getD m false) = true) ∧ (¬ ((lm.getD m false) = true))) ∧ (¬ ((li.getD m false) = true))) (by simp only [Bool.and_eq_true, notT, iB73]) (fun c90 => ?_) (fun c90 => ?_)
 refine zsr ?_
 have hM91 := hM18.od [3, 3, 3, 3] 4
 have hM92 : Mem ((Res.fam 4 rI).and (Res.fam 4 rO)).fp w w17 [.fam 4 (rI2.set b nilV), .row 4 1 (some adi) n ci (bools li), .fam 4 rO3, .blk b1 24 (fV nm wk pa va A c fs), .row 3 1 A4 ((tg (bsOf fs) (b : Int)).length) c5 (ints (tg (bsOf fs) (b : Int)))] := hM91.focus b hri
 refine zpn 2 <| zix adI fs.length 1 (b : Int) <| zld ((adI : Addr).add (((b : Int)).toNat * 1)) (.slice (some adi) n ci) (rd_get1 (hM92.ro hI) rfl (hsI ▸ slv_get hri)) <| zpn 1 <| zix adi n 1 (m : Int) <| zkp [(1, (nV b)), (2, (.slice (some adI) fs.length cI)), (3, (.slice (some adO) fs.length cO)), (4, (.slice (some adM) fs.length cM)), (5, (pT b1 0)), (12, (.slice A4 ((tg (bsOf fs) (b : Int)).length) c5)), (13, (nV m)), (88, (.pointer (some ((adi : Addr).add (((m : Int)).toNat * 1)))))] <| zsw hM92 1 ((adi : Addr).add (((m : Int)).toNat * 1)) (((m : Int)).toNat * 1) (.bool true) rfl rfl (by omega) fun w93 hM94 => ?_
 replace hM94 := hM94.nf
 refine zfe <| zrp <| zrg <| zpn 1 <| zar ((m : Int) + 1) <| zpn 1 <| zfe ?_
 have hM95 := hM94.od [4, 4, 4, 4, 4] 5
 have hrl : b < rI2.length := (List.getElem?_eq_some_iff.1 hri).1
 have hM96 : Mem ((Res.fam 4 rI).and (Res.fam 4 rO)).fp w w93 [.fam 4 (rI2.set b nilV), .row 4 1 (some adi) n ci (bools (li.set m true)), .fam 4 rO3, .blk b1 24 (fV nm wk pa va A c fs), .row 3 1 A4 ((tg (bsOf fs) (b : Int)).length) c5 (ints (tg (bsOf fs) (b : Int)))] := hM95.cast (by simp only [bools_set, Int.toNat_natCast, Nat.mul_one])
 have hM97 : Mem ((Res.fam 4 rI).and (Res.fam 4 rO)).fp w w93 [.fam 4 (rI2.set b ⟨(some adi), n, ci, bools (li.set m true)⟩), .fam 4 rO3, .blk b1 24 (fV nm wk pa va A c fs), .row 3 1 A4 ((tg (bsOf fs) (b : Int)).length) c5 (ints (tg (bsOf fs) (b : Int)))] := (hM96.unfocus b (List.getElem?_set_self hrl)).cast (by rw [set_twice])
 have hM98 := hM97.od [3, 3, 3, 3] 4
 intro aC fr
 exact ⟨n - (m + 1), by omega, m + 1, true, (rI2.set b ⟨(some adi), n, ci, bools (li.set m true)⟩), rO3, (updS SI2 (b : Int) (addS (SI2 (b : Int)) (m : Int))), SO3, rfl, fr.kp [1, 2, 3, 4, 5, 11, 12, 13], hM98, by omega, hRI2.set (hli.put (by omega)), hRO3, hG3.putI (by omega) hxb (by rw [← hlb.2 m (by omega)]; exact c90.1.1) (by rw [← hlm.2 m (by omega)]; exact Bool.eq_false_iff.2 c90.1.2) (by rw [← hli.2 m (by omega)]; exact Bool.eq_false_iff.2 c90.2), by rw [← slv_same hri]; exact hsI, hsO3⟩
 refine zsk <| zrg <| zpn 1 <| zar ((m : Int) + 1) <| zpn 1 <| zfe ?_
 intro aC fr
 exact ⟨n - (m + 1), by omega, m + 1, mb3, rI2, rO3, SI2, SO3, rfl, fr.kp [1, 2, 3, 4, 5, 11, 12, 13], hM18, by omega, hRI2, hRO3, hG3.same hqe (fun h1 h2 => by rw [← hlb.2 m (by omega)] at h1; rw [← hlm.2 m (by omega)] at h2; rw [← hli.2 m (by omega)]; exact Classical.byContradiction (fun h9 => c90 ⟨⟨h1, Bool.eq_false_iff.1 h2⟩, h9⟩)), hsI, hsO3⟩
 refine zex 0 <| zbh <| zsp <| zre <| zo1 (.bool mb) ?_
 have hM103 := hM11.od [1, 1] 2
 exact ⟨mb, rI2, rO2, SI2, SO2, rfl, hRI2, hRO2, (show m = n by omega) ▸ hG, hsI, hsO, hM103⟩
end Go.Proofs.YtlfbloadopeamaaDoor
namespace Go.Proofs.YtlfbloadopeamaaDoor
open Go.Mor
set_option maxRecDepth 10000 in
theorem rlist_c (l : List Bool) (n : Nat) (A : Option Addr) (c : Nat) (w : World) (hn : n = l.length) (hn2 : n ≤ 1000000) (hA : RO noS w (.rd A (bools l))) :
    Calls Tryd.prog 34 #[(.slice A n c)] w (Ret fun v w' => ∃ A' c', v = .slice A' (listTo l l.length).length c' ∧ Mem noS w w' [.row 3 1 A' (listTo l l.length).length c' (ints (listTo l l.length))]) := by
 refine zen 20 [(.slice A n c)] Tryd.func34 ?_
 have hM := Mem.init w
 refine zsp <| zsp <| zsq <| zsp <| zbk 0 ?_
 intro aC fr
 refine zlp (fun n_ a_ w_ => ∃ (k : Nat) (A3 : Option Addr) (n3 : Nat) (c3 : Nat), n_ = n - k ∧ Fr a_ 20 [(0, (.slice A n c)), (3, (.slice A3 n3 c3)), (4, (nV k))] ∧ Mem noS w w_ [.row 3 1 A3 n3 c3 (ints (listTo l k))] ∧ (k ≤ n) ∧ (n3 = (listTo l k).length)) (n := _) ⟨0, none, 0, 0, rfl, fr.kp [0, 3, 4], (hM.call (Mem.nilrow _ 3 1)), by omega, rfl⟩ ?_
 clear fr aC hM; rintro n aC w3 ⟨k, A3, n3, c3, rfl, fr, hM4, hk, hn3⟩
 revert aC
 refine zsq <| zsp <| zcD (((k : Int) : Int) < ((n : Nat) : Int)) (fun c7 => ?_) (fun c7 => ?_)
 refine zsk <| zsq <| zbk 1 <| zsr ?_
 have hll := listTo_len l k
 refine zpn 2 ?_
 obtain ⟨ad8, rfl⟩ := rd_some (hM4.ro hA) (by rw [bools_len]; omega)
 refine zix ad8 n 1 (k : Int) <| zld ((ad8 : Addr).add (((k : Int)).toNat * 1)) (.bool (l.getD k false)) (rd_get1 (hM4.ro hA) rfl (bools_get (by omega))) <| zfe <| zcP (l.getD k false) ((l.getD k false) = true) Iff.rfl (fun c9 => ?_) (fun c9 => ?_)
 refine zrg <| zpn 2 ?_
 intro aC fr
 refine From_buildSlice (by kernel_rfl : coreAt _ 2 = some (some 17, (.buildSlice 36 1 #[(0, (.tmp 16))]), 36, none)) fr (by kernel_rfl) (by kernel_rfl) (k' := 3) rfl (e := 3) (size := 1) (zs := [(.int .i64 0)]) (vs := [(0, (nV k))]) (cs := [(nV k)]) (by kernel_rfl) (by kernel_rfl) (by kernel_rfl) (by kernel_rfl) (by kernel_rfl) (by kernel_rfl) hM4 ?_
 intro b10 w11 hb10 _ hM12 _ aC ea fr; clear ea
 replace hM12 := hM12.nf
 refine From_append (by kernel_rfl : coreAt _ 3 = some (some 18, (.call { callee := (.builtin .append), args := #[(.tmp 15), (.tmp 17)], argTypes := #[36, 36] }), 36, none)) fr (by kernel_rfl) (by kernel_rfl) (k' := 4) rfl (e := 3) (size := 1) (bytes := 8) (z := (.int .i64 0)) (by kernel_rfl) (by kernel_rfl) (by kernel_rfl) (by kernel_rfl) (A := A3) (B := (sM b10)) (n := n3) (cap := c3) (m := 1) (cap' := 1) (xs := (ints (listTo l k))) (news := [(nV k)]) (by kernel_rfl) (by kernel_rfl) hM12 0 rfl (row_rd (hM12.get 1 rfl)) rfl (by simp [Value.oneCell']) (by omega) (by simp only [maxLen]; omega) ?_
 intro A17 c18 w19 hM20 _ aC ea fr; clear ea
 replace hM20 := hM20.nf
 have hM23 := hM20.od [] 1
 revert aC
 refine zpn 1 <| zfe <| zrg <| zpn 1 <| zar ((k : Int) + 1) <| zpn 1 <| zfe ?_
 intro aC fr
 exact ⟨n - (k + 1), by omega, k + 1, A17, (n3 + 1), c18, rfl, fr.kp [0, 3, 4], ((hM23.pick [true] rfl).cast (by rw [listTo_yes c9, ints_append]; rfl)), by omega, by rw [listTo_yes c9, List.length_append, hn3]; rfl⟩
 replace c9 : (l.getD k false) = false := Bool.eq_false_iff.2 c9
 refine zsk <| zrg <| zpn 1 <| zar ((k : Int) + 1) <| zpn 1 <| zfe ?_
 intro aC fr
 exact ⟨n - (k + 1), by omega, k + 1, A3, n3, c3, rfl, fr.kp [0, 3, 4], ((hM4.pick [true] rfl).cast (by rw [listTo_no c9]; rfl)), by omega, by rw [listTo_no c9]; exact hn3⟩
 refine zex 0 <| zbh <| zsp <| zre <| zo1 (.slice A3 n3 c3) ?_
 have hM28 := hM4.od [] 1
 have hke : k = l.length := by omega
 exact row_ret hM28 (by rw [hke]) hn3
set_option maxRecDepth 10000 in
theorem rlists_c (n nb : Nat) (SS : Int → Int → Bool) (rows : List RowV) (A : Option Addr) (c : Nat) (w : World) (hn : n ≤ 20000) (hnb : nb ≤ 1000000) (hR : BoolR n nb rows SS) (hA : RO noS w (.rd A (slv rows))) (hF : RO noS w (.fam 4 rows)) :
    Calls Tryd.prog 14 #[(.slice A nb c)] w (Ret fun v w' => ∃ A' c' rows', v = .slice A' nb c' ∧ FamOf (Value.int .i64) rows' (liveL n nb SS) ∧ Mem noS w w' [.fam 3 rows', .row 36 1 A' nb c' (slv rows')]) := by
 refine zen 20 [(.slice A nb c)] Tryd.func14 ?_
 have hM := Mem.init w
 refine zsp <| zsp <| zsq <| zsp <| zbk 0 ?_
 intro aC fr
 refine zlp (fun n_ a_ w_ => ∃ (k : Nat) (rows2 : List RowV) (A2 : Option Addr) (c2 : Nat), n_ = nb - k ∧ Fr a_ 20 [(0, (.slice A nb c)), (3, (.slice A2 k c2)), (4, (nV k))] ∧ Mem noS w w_ [.fam 3 rows2, .row 36 1 A2 k c2 (slv rows2)] ∧ (k ≤ nb) ∧ (FamOf (Value.int .i64) rows2 ((liveL n nb SS).take k))) (n := _) ⟨0, [], none, 0, rfl, fr.kp [0, 3, 4], ((hM.call (Mem.nilfam _ 3 0)).call (Mem.nilrow _ 36 1)), by omega, rfl⟩ ?_
 clear fr aC hM; rintro n aC w3 ⟨k, rows2, A2, c2, rfl, fr, hM4, hk, hf2⟩
 revert aC
 refine zsq <| zsp <| zcD (((k : Int) : Int) < ((nb : Nat) : Int)) (fun c7 => ?_) (fun c7 => ?_)
 refine zsk <| zsq <| zbk 1 <| zrg ?_
 obtain ⟨Ak, ck, lk, hrk, hlk⟩ := hR.at_ k (by omega)
 have hll := hlk.1
 refine zpn 3 ?_
 obtain ⟨ad8, rfl⟩ := rd_some (hM4.ro hA) (by rw [slv_len, hR.len]; omega)
 refine zix ad8 nb 1 (k : Int) <| zld ((ad8 : Addr).add (((k : Int)).toNat * 1)) (.slice Ak n ck) (rd_get1 (hM4.ro hA) rfl (slv_get hrk)) <| zcl (rlist_c lk n Ak ck w3 hll.symm (by omega) (RO.row_rd (RO.fam_rd (hF.at_ hM4) hrk))) ?_
 rintro _ w11 ⟨A9, c10, rfl, hM12x⟩
 have hM12 := hM4.cl hM12x
 intro aC fr
 refine From_buildSlice (by kernel_rfl : coreAt _ 6 = some (some 17, (.buildSlice 27 1 #[(0, (.tmp 16))]), 27, none)) fr (by kernel_rfl) (by kernel_rfl) (k' := 7) rfl (e := 36) (size := 1) (zs := [(.slice none 0 0)]) (vs := [(0, (.slice A9 ((listTo lk lk.length).length) c10))]) (cs := [(.slice A9 ((listTo lk lk.length).length) c10)]) (by kernel_rfl) (by kernel_rfl) (by kernel_rfl) (by kernel_rfl) (by kernel_rfl) (by kernel_rfl) hM12 ?_
 intro b13 w14 hb13 _ hM15 _ aC ea fr; clear ea
 replace hM15 := hM15.nf
 refine From_append (by kernel_rfl : coreAt _ 7 = some (some 18, (.call { callee := (.builtin .append), args := #[(.tmp 11), (.tmp 17)], argTypes := #[27, 27] }), 27, none)) fr (by kernel_rfl) (by kernel_rfl) (k' := 8) rfl (e := 36) (size := 1) (bytes := 24) (z := (.slice none 0 0)) (by kernel_rfl) (by kernel_rfl) (by kernel_rfl) (by kernel_rfl) (A := A2) (B := (sM b13)) (n := k) (cap := c2) (m := 1) (cap' := 1) (xs := (slv rows2)) (news := [(.slice A9 ((listTo lk lk.length).length) c10)]) (by kernel_rfl) (by kernel_rfl) hM15 1 rfl (row_rd (hM15.get 3 rfl)) rfl (by simp [Value.oneCell']) (by omega) (by simp only [maxLen]; omega) ?_
 intro A20 c21 w22 hM23 _ aC ea fr; clear ea
 replace hM23 := hM23.nf
 have hM26 := hM23.od [2, 2, 2] 3
 revert aC
 refine zpn 1 <| zfe <| zrg <| zpn 1 <| zar ((k : Int) + 1) <| zpn 1 <| zfe ?_
 have hM27 := hM26.od [1, 2, 2] 3
 have hM28 : Mem noS w w22 [.fam 3 (rows2 ++ [⟨A9, (listTo lk lk.length).length, c10, ints (listTo lk lk.length)⟩]), .row 36 1 A20 (k + 1) c21 ((slv rows2) ++ [(.slice A9 ((listTo lk lk.length).length) c10)])] := hM27.push
 have hM29 : Mem noS w w22 [.fam 3 (rows2 ++ [⟨A9, (listTo lk lk.length).length, c10, ints (listTo lk lk.length)⟩]), .row 36 1 A20 (k + 1) c21 (slv (rows2 ++ [⟨A9, (listTo lk lk.length).length, c10, ints (listTo lk lk.length)⟩]))] := hM28.cast (by rw [slv_append])
 intro aC fr
 exact ⟨nb - (k + 1), by omega, k + 1, (rows2 ++ [⟨A9, (listTo lk lk.length).length, c10, ints (listTo lk lk.length)⟩]), A20, c21, rfl, fr.kp [0, 3, 4], hM29, by omega, hf2.next (liveL_get (by omega)) (by rw [hll, listTo_all hlk]) (by rw [hll, listTo_all hlk]; rfl)⟩
 refine zex 0 <| zbh <| zsp <| zre <| zo1 (.slice A2 k c2) ?_
 have hM32 := hM4.od [1, 1] 2
 obtain rfl : nb = k := by omega
 exact ⟨_, _, rows2, rfl, hf2.all (by rw [liveL_len]; exact Nat.le_refl _), hM32⟩
end Go.Proofs.YtlfbloadopeamaaDoor
namespace Go.Proofs.YtlfbloadopeamaaDoor
open Go.Mor
set_option maxRecDepth 10000 in
theorem rlive_c (n : Nat) (nm : ByteArray) (wk : Bool) (pa va : Int) (A : Option Addr) (c : Nat) (fs : List FBlk) (w : World) (hN : fs.length ≤ 1000) (hok : FOk fs) (hA : RO noS w (.fn A fs)) (hva : va = (n : Int)) (hn2 : n ≤ 20000) (hgood : GoodQ nm pa va fs) :
    Calls Tryd.prog 12 #[(fA nm wk pa va A c fs)] w (Ret fun v w' => ∃ A1 c1 A2 c2 rI rO SI SO, v = .tuple #[.slice A1 fs.length c1, .slice A2 fs.length c2] ∧ BoolR n fs.length rI SI ∧ BoolR n fs.length rO SO ∧ LiveS n fs SI SO ∧ Mem noS w w' [.fam 4 rI, .row 58 1 A1 fs.length c1 (slv rI), .fam 4 rO, .row 58 1 A2 fs.length c2 (slv rO)]) := by
 have hbl := bsOf_len fs
 have hm : (bsOf fs).length ≤ 1000000 := by omega
 have hB := hA.bs
 have hvr := good_vr hgood hva
 have hpos := hgood.pos
 refine zen 111 [(fA nm wk pa va A c fs)] Tryd.func12 ?_
 have hM := Mem.init w
 refine zsr <| zbx hM 24 (fA nm wk pa va A c fs) (fV nm wk pa va A c fs) fun b1 w2 hb1 hM3 => ?_
 replace hM3 := hM3.nf
 clear hM
 refine zpn 2 <| zfe <| zsp <| zsq <| zsp <| zbk 0 ?_
 intro aC fr
 refine zlp (fun n_ a_ w_ => ∃ (k : Nat) (rM : List RowV) (rI : List RowV) (rO : List RowV) (AM : Option Addr) (cM : Nat) (AI : Option Addr) (cI : Nat) (AO : Option Addr) (cO : Nat), n_ = fs.length - k ∧ Fr a_ 111 [(1, (pT b1 0)), (4, (.slice AI k cI)), (5, (.slice AO k cO)), (6, (.slice AM k cM)), (7, (nV k))] ∧ Mem noS w w_ [.blk b1 24 (fV nm wk pa va A c fs), .fam 4 rM, .fam 4 rI, .fam 4 rO, .row 58 1 AM k cM (slv rM), .row 58 1 AI k cI (slv rI), .row 58 1 AO k cO (slv rO)] ∧ (k ≤ fs.length) ∧ (BoolR n k rM (madeF fs)) ∧ (BoolR n k rI (useF fs)) ∧ (BoolR n k rO (fun _ _ => false))) (n := _) ⟨0, [], [], [], none, 0, none, 0, none, 0, rfl, fr.kp [1, 4, 5, 6, 7], ((((((hM3.call (Mem.nilfam _ 4 0)).call (Mem.nilfam _ 4 0)).call (Mem.nilfam _ 4 0)).call (Mem.nilrow _ 58 1)).call (Mem.nilrow _ 58 1)).call (Mem.nilrow _ 58 1)), by omega, BoolR.nil, BoolR.nil, BoolR.nil⟩ ?_
 clear fr aC hM3; rintro n aC w6 ⟨k, rM, rI, rO, AM, cM, AI, cI, AO, cO, rfl, fr, hM7, hk, hRM, hRI, hRO⟩
 revert aC
 refine zsq <| zsr <| zpn 2 <| zld ⟨b1, 4, none⟩ (.slice A ((bsOf fs).length) c) (blk_cell (hM7.get 0 rfl) rfl) <| zpn 2 <| zfe <| zcD (((k : Int) : Int) < (((bsOf fs).length : Nat) : Int)) (fun c10 => ?_) (fun c10 => ?_)
 refine zsk <| zsq <| zbk 1 <| zsr <| zls ⟨b1, 0, none⟩ (fV nm wk pa va A c fs) (blk_cells (hM7.get 0 rfl)) <| zpn 1 <| zcl (local_c n k nm wk pa va A c fs w6 hN hok (hA.at_ hM7) hva hn2 (by omega) hvr) ?_
 rintro _ w15 ⟨A11, c12, A13, c14, lm, lu, rfl, hlm, hlu, hM16x⟩
 have hM16 := hM7.cl hM16x
 refine zpn 5 <| zfe <| zsr <| zpn 2 ?_
 intro aC fr
 refine From_buildSlice (by kernel_rfl : coreAt _ 2 = some (some 31, (.buildSlice 31 1 #[(0, (.tmp 30))]), 31, none)) fr (by kernel_rfl) (by kernel_rfl) (k' := 3) rfl (e := 58) (size := 1) (zs := [(.slice none 0 0)]) (vs := [(0, (.slice A11 n c12))]) (cs := [(.slice A11 n c12)]) (by kernel_rfl) (by kernel_rfl) (by kernel_rfl) (by kernel_rfl) (by kernel_rfl) (by kernel_rfl) hM16 ?_
 intro b17 w18 hb17 _ hM19 _ aC ea fr; clear ea
 replace hM19 := hM19.nf
 refine From_append (by kernel_rfl : coreAt _ 3 = some (some 32, (.call { callee := (.builtin .append), args := #[(.tmp 29), (.tmp 31)], argTypes := #[31, 31] }), 31, none)) fr (by kernel_rfl) (by kernel_rfl) (k' := 4) rfl (e := 58) (size := 1) (bytes := 24) (z := (.slice none 0 0)) (by kernel_rfl) (by kernel_rfl) (by kernel_rfl) (by kernel_rfl) (A := AM) (B := (sM b17)) (n := k) (cap := cM) (m := 1) (cap' := 1) (xs := (slv rM)) (news := [(.slice A11 n c12)]) (by kernel_rfl) (by kernel_rfl) hM19 4 rfl (row_rd (hM19.get 9 rfl)) rfl (by simp [Value.oneCell']) (by omega) (by simp only [maxLen]; omega) ?_
 intro A24 c25 w26 hM27 _ aC ea fr; clear ea
 replace hM27 := hM27.nf
 have hM30 := hM27.od [8, 8, 8, 8, 8, 8, 8, 8, 8] 9
 revert aC
 refine zpn 1 <| zfe <| zsr <| zpn 2 ?_
 intro aC fr
 refine From_buildSlice (by kernel_rfl : coreAt _ 2 = some (some 35, (.buildSlice 31 1 #[(0, (.tmp 34))]), 31, none)) fr (by kernel_rfl) (by kernel_rfl) (k' := 3) rfl (e := 58) (size := 1) (zs := [(.slice none 0 0)]) (vs := [(0, (.slice A13 n c14))]) (cs := [(.slice A13 n c14)]) (by kernel_rfl) (by kernel_rfl) (by kernel_rfl) (by kernel_rfl) (by kernel_rfl) (by kernel_rfl) hM30 ?_
 intro b31 w32 hb31 _ hM33 _ aC ea fr; clear ea
 replace hM33 := hM33.nf
 revert aC
 refine zkp [(1, (pT b1 0)), (5, (.slice AO k cO)), (6, (.slice A24 (k + 1) c25)), (7, (nV k)), (33, (.slice AI k cI)), (35, (.slice (sM b31) 1 1))] ?_
 intro aC fr
 refine From_append (by kernel_rfl : coreAt _ 3 = some (some 36, (.call { callee := (.builtin .append), args := #[(.tmp 33), (.tmp 35)], argTypes := #[31, 31] }), 31, none)) fr (by kernel_rfl) (by kernel_rfl) (k' := 4) rfl (e := 58) (size := 1) (bytes := 24) (z := (.slice none 0 0)) (by kernel_rfl) (by kernel_rfl) (by kernel_rfl) (by kernel_rfl) (A := AI) (B := (sM b31)) (n := k) (cap := cI) (m := 1) (cap' := 1) (xs := (slv rI)) (news := [(.slice A13 n c14)]) (by kernel_rfl) (by kernel_rfl) hM33 5 rfl (row_rd (hM33.get 9 rfl)) rfl (by simp [Value.oneCell']) (by omega) (by simp only [maxLen]; omega) ?_
 intro A38 c39 w40 hM41 _ aC ea fr; clear ea
 replace hM41 := hM41.nf
 have hM46 := hM41.od [8, 8, 8, 8, 8, 8, 8, 8, 8] 9
 revert aC
 refine zpn 1 <| zfe <| zrg <| zpn 2 <| zld ⟨b1, 3, none⟩ (.int .i64 va) (blk_cell (hM46.get 0 rfl) rfl) ?_
 intro aC fr
 refine From_make1 (by kernel_rfl : coreAt _ 3 = some (some 40, (.makeSlice 58 (.tmp 39) (.tmp 39)), 58, none)) fr (by kernel_rfl) (by kernel_rfl) (k' := 4) rfl (e := 4) (bytes := 1) (z := (.bool false)) (n := n) (i := va) (by kernel_rfl) (by kernel_rfl) hva (by kernel_rfl) (by kernel_rfl) rfl (by omega) (by simp only [maxLen]; omega) hM46 ?_
 intro b47 w48 hb47 _ hM49 _ aC ea fr; clear ea
 replace hM49 := hM49.nf
 refine From_buildSlice (by kernel_rfl : coreAt _ 4 = some (some 41, (.buildSlice 31 1 #[(0, (.tmp 40))]), 31, none)) fr (by kernel_rfl) (by kernel_rfl) (k' := 5) rfl (e := 58) (size := 1) (zs := [(.slice none 0 0)]) (vs := [(0, (.slice (sM b47) n n))]) (cs := [(.slice (sM b47) n n)]) (by kernel_rfl) (by kernel_rfl) (by kernel_rfl) (by kernel_rfl) (by kernel_rfl) (by kernel_rfl) hM49 ?_
 intro b54 w55 hb54 _ hM56 _ aC ea fr; clear ea
 replace hM56 := hM56.nf
 refine From_append (by kernel_rfl : coreAt _ 5 = some (some 42, (.call { callee := (.builtin .append), args := #[(.tmp 37), (.tmp 41)], argTypes := #[31, 31] }), 31, none)) fr (by kernel_rfl) (by kernel_rfl) (k' := 6) rfl (e := 58) (size := 1) (bytes := 24) (z := (.slice none 0 0)) (by kernel_rfl) (by kernel_rfl) (by kernel_rfl) (by kernel_rfl) (A := AO) (B := (sM b54)) (n := k) (cap := cO) (m := 1) (cap' := 1) (xs := (slv rO)) (news := [(.slice (sM b47) n n)]) (by kernel_rfl) (by kernel_rfl) hM56 6 rfl (row_rd (hM56.get 10 rfl)) rfl (by simp [Value.oneCell']) (by omega) (by simp only [maxLen]; omega) ?_
 intro A59 c60 w61 hM62 _ aC ea fr; clear ea
 replace hM62 := hM62.nf
 have hM65 := hM62.od [9, 9, 9, 9, 9, 9, 9, 9, 9, 9] 10
 revert aC
 refine zpn 1 <| zfe <| zrg <| zpn 1 <| zar ((k : Int) + 1) <| zpn 1 <| zfe ?_
 have hM66 : Mem noS w w61 [.blk b1 24 (fV nm wk pa va A c fs), .fam 4 rM, .fam 4 rI, .fam 4 rO, .row 58 1 A24 (k + 1) c25 ((slv rM) ++ [(.slice A11 n c12)]), .row 58 1 A38 (k + 1) c39 ((slv rI) ++ [(.slice A13 n c14)]), .row 58 1 A59 (k + 1) c60 ((slv rO) ++ [(.slice (sM b47) n n)]), .row 4 1 A11 n c12 (bools lm), .row 4 1 A13 n c14 (bools lu), .row 4 1 (sM b47) n n (bools (List.replicate n false))] := hM65.cast (by simp only [bools, List.map_replicate])
 have hM67 := hM66.od [9, 9, 8, 8, 7, 7, 6, 8, 9, 9] 10
 have hM68 : Mem noS w w61 [.fam 4 (rM ++ [⟨A11, n, c12, bools lm⟩]), .row 58 1 A24 (k + 1) c25 ((slv rM) ++ [(.slice A11 n c12)]), .blk b1 24 (fV nm wk pa va A c fs), .fam 4 rI, .fam 4 rO, .row 58 1 A38 (k + 1) c39 ((slv rI) ++ [(.slice A13 n c14)]), .row 58 1 A59 (k + 1) c60 ((slv rO) ++ [(.slice (sM b47) n n)]), .row 4 1 A13 n c14 (bools lu), .row 4 1 (sM b47) n n (bools (List.replicate n false))] := hM67.push
 have hM69 : Mem noS w w61 [.fam 4 (rM ++ [⟨A11, n, c12, bools lm⟩]), .row 58 1 A24 (k + 1) c25 (slv (rM ++ [⟨A11, n, c12, bools lm⟩])), .blk b1 24 (fV nm wk pa va A c fs), .fam 4 rI, .fam 4 rO, .row 58 1 A38 (k + 1) c39 ((slv rI) ++ [(.slice A13 n c14)]), .row 58 1 A59 (k + 1) c60 ((slv rO) ++ [(.slice (sM b47) n n)]), .row 4 1 A13 n c14 (bools lu), .row 4 1 (sM b47) n n (bools (List.replicate n false))] := hM68.cast (by simp only [slv_append])
 have hM70 := hM69.od [8, 7, 6, 5, 5, 5, 7, 8, 8] 9
 have hM71 : Mem noS w w61 [.fam 4 (rI ++ [⟨A13, n, c14, bools lu⟩]), .row 58 1 A38 (k + 1) c39 ((slv rI) ++ [(.slice A13 n c14)]), .fam 4 (rM ++ [⟨A11, n, c12, bools lm⟩]), .row 58 1 A24 (k + 1) c25 (slv (rM ++ [⟨A11, n, c12, bools lm⟩])), .blk b1 24 (fV nm wk pa va A c fs), .fam 4 rO, .row 58 1 A59 (k + 1) c60 ((slv rO) ++ [(.slice (sM b47) n n)]), .row 4 1 (sM b47) n n (bools (List.replicate n false))] := hM70.push
 have hM72 : Mem noS w w61 [.fam 4 (rI ++ [⟨A13, n, c14, bools lu⟩]), .row 58 1 A38 (k + 1) c39 (slv (rI ++ [⟨A13, n, c14, bools lu⟩])), .fam 4 (rM ++ [⟨A11, n, c12, bools lm⟩]), .row 58 1 A24 (k + 1) c25 (slv (rM ++ [⟨A11, n, c12, bools lm⟩])), .blk b1 24 (fV nm wk pa va A c fs), .fam 4 rO, .row 58 1 A59 (k + 1) c60 ((slv rO) ++ [(.slice (sM b47) n n)]), .row 4 1 (sM b47) n n (bools (List.replicate n false))] := hM71.cast (by simp only [slv_append])
 have hM73 := hM72.od [4, 4, 4, 4, 4, 6, 7, 7] 8
 have hM74 : Mem noS w w61 [.fam 4 (rO ++ [⟨(sM b47), n, n, bools (List.replicate n false)⟩]), .row 58 1 A59 (k + 1) c60 ((slv rO) ++ [(.slice (sM b47) n n)]), .fam 4 (rI ++ [⟨A13, n, c14, bools lu⟩]), .row 58 1 A38 (k + 1) c39 (slv (rI ++ [⟨A13, n, c14, bools lu⟩])), .fam 4 (rM ++ [⟨A11, n, c12, bools lm⟩]), .row 58 1 A24 (k + 1) c25 (slv (rM ++ [⟨A11, n, c12, bools lm⟩])), .blk b1 24 (fV nm wk pa va A c fs)] := hM73.push
 have hM75 : Mem noS w w61 [.fam 4 (rO ++ [⟨(sM b47), n, n, bools (List.replicate n false)⟩]), .row 58 1 A59 (k + 1) c60 (slv (rO ++ [⟨(sM b47), n, n, bools (List.replicate n false)⟩])), .fam 4 (rI ++ [⟨A13, n, c14, bools lu⟩]), .row 58 1 A38 (k + 1) c39 (slv (rI ++ [⟨A13, n, c14, bools lu⟩])), .fam 4 (rM ++ [⟨A11, n, c12, bools lm⟩]), .row 58 1 A24 (k + 1) c25 (slv (rM ++ [⟨A11, n, c12, bools lm⟩])), .blk b1 24 (fV nm wk pa va A c fs)] := hM74.cast (by simp only [slv_append])
 have hM76 := hM75.od [1, 3, 5, 3, 4, 5, 6] 7
 intro aC fr
 exact ⟨fs.length - (k + 1), by omega, k + 1, (rM ++ [⟨A11, n, c12, bools lm⟩]), (rI ++ [⟨A13, n, c14, bools lu⟩]), (rO ++ [⟨(sM b47), n, n, bools (List.replicate n false)⟩]), A24, c25, A38, c39, A59, c60, rfl, fr.kp [1, 4, 5, 6, 7], hM76, by omega, hRM.push hlm, hRI.push hlu, hRO.push (BoolsOf.start n)⟩
 refine zex 0 <| zbh <| zsq <| zsr ?_
 have hke : k = fs.length := by omega
 subst hke
 refine zpn 1 <| zfe <| zbk 2 ?_
 intro aC fr
 refine zlp (fun n_ a_ w_ => ∃ (m : Nat) (rP : List RowV) (SP : Int → Int → Bool), n_ = fs.length - m ∧ Fr a_ 111 [(1, (pT b1 0)), (4, (.slice AI fs.length cI)), (5, (.slice AO fs.length cO)), (6, (.slice AM fs.length cM)), (10, (nV m))] ∧ Mem noS w w_ [.blk b1 24 (fV nm wk pa va A c fs), .fam 4 rM, .fam 4 rI, .fam 4 rP, .row 58 1 AM fs.length cM (slv rM), .row 58 1 AI fs.length cI (slv rI), .row 58 1 AO fs.length cO (slv rP)] ∧ (m ≤ fs.length) ∧ (BoolR n fs.length rP SP) ∧ (PhiDone fs m 0 0 SP)) (n := _) ⟨0, rO, (fun _ _ => false), rfl, fr.kp [1, 4, 5, 6, 10], hM7, by omega, hRO, PhiDone.start⟩ ?_
 clear fr aC hM7; rintro n aC w81 ⟨m, rP, SP, rfl, fr, hM82, hlem, hRP, hPD⟩
 revert aC
 refine zsq <| zsr <| zpn 2 <| zld ⟨b1, 4, none⟩ (.slice A ((bsOf fs).length) c) (blk_cell (hM82.get 0 rfl) rfl) <| zpn 2 <| zfe <| zcD (((m : Int) : Int) < (((bsOf fs).length : Nat) : Int)) (fun c85 => ?_) (fun c85 => ?_)
 refine zsk <| zsq <| zbk 3 <| zsr ?_
 obtain ⟨x, hx⟩ := get_of (l := fs) (i := m) (by omega)
 have hl1 : x.phis.length ≤ 281474976710656 := (hok.get hx).lp
 have hl2 : x.insts.length ≤ 281474976710656 := (hok.get hx).li
 refine zls ⟨b1, 0, none⟩ (fV nm wk pa va A c fs) (blk_cells (hM82.get 0 rfl)) <| zpn 1 <| zcl (vs := #[(fA nm wk pa va A c fs), (nV m)]) (rsources_c _ _ _ _ A c (bsOf fs) (m : Int) w81 hm (hB.at_ hM82)) ?_
 rintro _ w88 ⟨A86, c87, rfl, hM89x⟩
 have hM89 := hM82.cl hM89x
 refine zpn 1 <| zfe <| zsp <| zbk 4 ?_
 intro aC fr
 refine zlp (fun n_ a_ w_ => ∃ (j : Nat) (rQ : List RowV) (SQ : Int → Int → Bool), n_ = x.phis.length - j ∧ Fr a_ 111 [(1, (pT b1 0)), (4, (.slice AI fs.length cI)), (5, (.slice AO fs.length cO)), (6, (.slice AM fs.length cM)), (10, (nV m)), (11, (.slice A86 ((srcs (bsOf fs) (m : Int)).length) c87)), (12, (nV j))] ∧ Mem noS w w_ [.blk b1 24 (fV nm wk pa va A c fs), .fam 4 rM, .fam 4 rI, .fam 4 rQ, .row 58 1 AM fs.length cM (slv rM), .row 58 1 AI fs.length cI (slv rI), .row 58 1 AO fs.length cO (slv rQ), .row 3 1 A86 ((srcs (bsOf fs) (m : Int)).length) c87 (ints (srcs (bsOf fs) (m : Int)))] ∧ (j ≤ x.phis.length) ∧ (BoolR n fs.length rQ SQ) ∧ (PhiDone fs m j 0 SQ)) (n := _) ⟨0, rP, SP, rfl, fr.kp [1, 4, 5, 6, 10, 11, 12], hM89, by omega, hRP, hPD⟩ ?_
 clear fr aC hM89; rintro n aC w92 ⟨j, rQ, SQ, rfl, fr, hM93, hlej, hRQ, hPQ⟩
 revert aC
 refine zsq <| zsr <| zpn 2 <| zld ⟨b1, 4, none⟩ (.slice A ((bsOf fs).length) c) (blk_cell (hM93.get 0 rfl) rfl) <| zpn 1 ?_
 obtain ⟨ad96, rfl⟩ := blocks_some (hM93.ro hB) (bsOf_get hx)
 refine zix ad96 ((bsOf fs).length) 6 (m : Int) <| zpn 1 <| zld ((ad96 : Addr).add (((m : Int)).toNat * 6)) (.slice x.pA x.phis.length x.pc) (fblk_get (hM93.ro hB) rfl hx 0 _ rfl) <| zpn 2 <| zfe <| zcD (((j : Int) : Int) < ((x.phis.length : Nat) : Int)) (fun c97 => ?_) (fun c97 => ?_)
 refine zsk <| zsq <| zbk 5 <| zsr ?_
 obtain ⟨p, hph⟩ := get_of (l := x.phis) (i := j) (by omega)
 have hpl : p.args.length ≤ 281474976710656 := ((hok.get hx).phis p (List.mem_of_getElem? hph)).len
 obtain ⟨xq, hxq, hrq⟩ := hgood.reads m (by omega)
 rw [hx] at hxq
 injection hxq with hxq
 subst hxq
 have hpa := hrq.phis j p hph
 have hslk := srcsTo_len (bsOf fs) (m : Int) (bsOf fs).length
 refine zpn 1 <| zfe <| zbk 6 ?_
 intro aC fr
 refine zlp (fun n_ a_ w_ => ∃ (i : Nat) (rT : List RowV) (ST : Int → Int → Bool), n_ = (srcs (bsOf fs) (m : Int)).length - i ∧ Fr a_ 111 [(1, (pT b1 0)), (4, (.slice AI fs.length cI)), (5, (.slice AO fs.length cO)), (6, (.slice AM fs.length cM)), (10, (nV m)), (11, (.slice A86 ((srcs (bsOf fs) (m : Int)).length) c87)), (12, (nV j)), (13, (nV i))] ∧ Mem noS w w_ [.blk b1 24 (fV nm wk pa va (some ad96) c fs), .fam 4 rM, .fam 4 rI, .fam 4 rT, .row 58 1 AM fs.length cM (slv rM), .row 58 1 AI fs.length cI (slv rI), .row 58 1 AO fs.length cO (slv rT), .row 3 1 A86 ((srcs (bsOf fs) (m : Int)).length) c87 (ints (srcs (bsOf fs) (m : Int)))] ∧ (i ≤ (srcs (bsOf fs) (m : Int)).length) ∧ (BoolR n fs.length rT ST) ∧ (PhiDone fs m j i ST)) (n := _) ⟨0, rQ, SQ, rfl, fr.kp [1, 4, 5, 6, 10, 11, 12, 13], hM93, by omega, hRQ, hPQ⟩ ?_
 clear fr aC hM93; rintro n aC w100 ⟨i, rT, ST, rfl, fr, hM101, hlei, hRT, hPT⟩
 revert aC
 refine zsq <| zsp <| zcD (((i : Int) : Int) < (((srcs (bsOf fs) (m : Int)).length : Nat) : Int)) (fun c104 => ?_) (fun c104 => ?_)
 refine zsk <| zsq <| zbk 7 ?_
 obtain ⟨si, hsi, hsn⟩ := srcs_at (bs := bsOf fs) (b := (m : Int)) (q := i) (by omega)
 obtain ⟨a0, ha⟩ := get_of (l := p.args) (i := i) (by omega)
 obtain ⟨ha0, ha1, _⟩ := hpa.2 i a0 (si : Int) ha hsi
 obtain ⟨an, rfl⟩ := Int.eq_ofNat_of_zero_le ha0
 obtain ⟨Ab, cb, lb, hrb, hlb⟩ := hRT.at_ si (by omega)
 have hlbl := hlb.1
 obtain ⟨adx, hadx⟩ := rds_some (hM101.ro (hA.phis hx)) (cs := p.cells) (i := j) (by simp [hph])
 obtain ⟨adp, hadp⟩ := rd_some (hM101.ro (hA.phi hx hph)) (by simp [ints]; omega)
 obtain ⟨adb, hadb⟩ := rd_some (fam_rd (hM101.get 3 rfl) hrb) (by rw [bools_len]; omega)
 subst hadb
 have hM105 := hM101.od [7, 7, 7, 7, 6, 6, 6, 7] 8
 have hM106 : Mem noS w w100 [.fam 4 (rT.set si nilV), .row 4 1 (some adb) n cb (bools lb), .blk b1 24 (fV nm wk pa va (some ad96) c fs), .fam 4 rM, .fam 4 rI, .row 58 1 AM fs.length cM (slv rM), .row 58 1 AI fs.length cI (slv rI), .row 58 1 AO fs.length cO (slv rT), .row 3 1 A86 ((srcs (bsOf fs) (m : Int)).length) c87 (ints (srcs (bsOf fs) (m : Int)))] := hM105.focus si hrb
 obtain ⟨g107, rfl⟩ := row_some (hM106.get 8 rfl) (by omega)
 obtain ⟨g108, rfl⟩ := row_some (hM106.get 7 rfl) (by omega)
 refine zkp [(1, (pT b1 0)), (4, (.slice AI fs.length cI)), (5, (.slice (sM g108) fs.length cO)), (6, (.slice AM fs.length cM)), (10, (nV m)), (11, (.slice (sM g107) ((srcs (bsOf fs) (m : Int)).length) c87)), (12, (nV j)), (13, (nV i))] ?_
 intro aC fr
 refine zdj (N := 111) (env0 := [(1, (pT b1 0)), (4, (.slice AI fs.length cI)), (5, (.slice (sM g108) fs.length cO)), (6, (.slice AM fs.length cM)), (10, (nV m)), (11, (.slice (sM g107) ((srcs (bsOf fs) (m : Int)).length) c87)), (12, (nV j)), (13, (nV i))]) (specAt [.det (.slice (sM g108) fs.length cO), .det (.slice (sM g107) ((srcs (bsOf fs) (m : Int)).length) c87), .det (nV i), .det (.pointer (some ((⟨g107, 0, none⟩ : Addr).add (((i : Int)).toNat * 1)))), .det (nV si), .det (.pointer (some ((⟨g108, 0, none⟩ : Addr).add (((si : Int)).toNat * 1)))), .det (.slice (some adb) n cb), .det (pT b1 4), .det (.slice (some ad96) ((bsOf fs).length) c), .det (nV m), .det (.pointer (some ((ad96 : Addr).add (((m : Int)).toNat * 6)))), .det (.pointer (some ((ad96 : Addr).add (((m : Int)).toNat * 6)))), .det (.slice (some adx) x.phis.length x.pc), .det (nV j), .det (.pointer (some ((adx : Addr).add (((j : Int)).toNat * 2)))), .det (.pointer (some (((adx : Addr).add (((j : Int)).toNat * 2)).add 1))), .det (.slice (some adp) p.args.length p.c), .det (nV i), .det (.pointer (some ((adp : Addr).add (((i : Int)).toNat * 1)))), .det (nV an), .det (.pointer (some ((adb : Addr).add (((an : Int)).toNat * 1)))), .det undef]) (fun ls vs w_ => match ls 21 with | true => (Mem noS w w_ [.fam 4 (rT.set si nilV), .row 4 1 (some adb) n cb ((bools lb).set (((an : Int)).toNat * 1) (.bool true)), .blk b1 24 (fV nm wk pa va (some ad96) c fs), .fam 4 rM, .fam 4 rI, .row 58 1 AM fs.length cM (slv rM), .row 58 1 AI fs.length cI (slv rI), .row 58 1 (sM g108) fs.length cO (slv rT), .row 3 1 (sM g107) ((srcs (bsOf fs) (m : Int)).length) c87 (ints (srcs (bsOf fs) (m : Int)))]) | false => (Mem noS w w_ [.fam 4 (rT.set si nilV), .row 4 1 (some adb) n cb (bools lb), .blk b1 24 (fV nm wk pa va (some ad96) c fs), .fam 4 rM, .fam 4 rI, .row 58 1 AM fs.length cM (slv rM), .row 58 1 AI fs.length cI (slv rI), .row 58 1 (sM g108) fs.length cO (slv rT), .row 3 1 (sM g107) ((srcs (bsOf fs) (m : Int)).length) c87 (ints (srcs (bsOf fs) (m : Int)))])) fr (plain_ok (.det (.det (.det (.det (.det (.det (.det (.det (.det (.det (.det (.det (.det (.det (.det (.det (.det (.det (.det (.det (.det (.det .nil))))))))))))))))))))))) (hM106.then_ (Mem.drew _)) (la (la (la (la (la (la (la (la (la (la (la (la (la (la (la (la (la (la (la (la (la (la lz (dPJ fun _ _ _ _ h => h)) (dPJ fun _ _ _ _ h => h)) (dPJ fun _ _ _ _ h => h)) (dIJ ⟨g107, 0, none⟩ ((srcs (bsOf fs) (m : Int)).length) 1 (i : Int) fun _ _ _ _ h => h)) (dLJ ((⟨g107, 0, none⟩ : Addr).add (((i : Int)).toNat * 1)) (nV si) (fun _ _ _ _ h => h) ?_)) (dIJ ⟨g108, 0, none⟩ fs.length 1 (si : Int) fun _ _ _ _ h => h)) (dLJ ((⟨g108, 0, none⟩ : Addr).add (((si : Int)).toNat * 1)) (.slice (some adb) n cb) (fun _ _ _ _ h => h) ?_)) (dPJ fun _ _ _ _ h => h)) (dLJ ⟨b1, 4, none⟩ (.slice (some ad96) ((bsOf fs).length) c) (fun _ _ _ _ h => h) ?_)) (dPJ fun _ _ _ _ h => h)) (dIJ ad96 ((bsOf fs).length) 6 (m : Int) fun _ _ _ _ h => h)) (dPJ fun _ _ _ _ h => h)) (dLJ ((ad96 : Addr).add (((m : Int)).toNat * 6)) (.slice (some adx) x.phis.length x.pc) (fun _ _ _ _ h => h) ?_)) (dPJ fun _ _ _ _ h => h)) (dIJ adx x.phis.length 2 (j : Int) fun _ _ _ _ h => h)) (dPJ fun _ _ _ _ h => h)) (dLJ (((adx : Addr).add (((j : Int)).toNat * 2)).add 1) (.slice (some adp) p.args.length p.c) (fun _ _ _ _ h => h) ?_)) (dPJ fun _ _ _ _ h => h)) (dIJ adp p.args.length 1 (i : Int) fun _ _ _ _ h => h)) (dLJ ((adp : Addr).add (((i : Int)).toNat * 1)) (nV an) (fun _ _ _ _ h => h) ?_)) (dIJ adb n 1 (an : Int) fun _ _ _ _ h => h)) ?_) ?_
 intro w_ ls vs hJ hi_ hc_ hp
 have f21 : ls 21 = false := notyet hc_ hi_ (n := 22) (by kernel_rfl)
 have hM_ := hJ
 simp only [f21] at hM_
 exact (rd_at (row_rd (hM_.get 8 rfl)) rfl hsi)
 intro w_ ls vs hJ hi_ hc_ hp
 have f21 : ls 21 = false := notyet hc_ hi_ (n := 22) (by kernel_rfl)
 have hM_ := hJ
 simp only [f21] at hM_
 exact (rd_get1 (row_rd (hM_.get 7 rfl)) rfl (slv_get hrb))
 intro w_ ls vs hJ hi_ hc_ hp
 have f21 : ls 21 = false := notyet hc_ hi_ (n := 22) (by kernel_rfl)
 have hM_ := hJ
 simp only [f21] at hM_
 exact (blk_cell (hM_.get 2 rfl) rfl)
 intro w_ ls vs hJ hi_ hc_ hp
 have f21 : ls 21 = false := notyet hc_ hi_ (n := 22) (by kernel_rfl)
 have hM_ := hJ
 simp only [f21] at hM_
 exact (by rw [← hadx]; exact fblk_get (hM_.ro hB) rfl hx 0 _ rfl)
 intro w_ ls vs hJ hi_ hc_ hp
 have f21 : ls 21 = false := notyet hc_ hi_ (n := 22) (by kernel_rfl)
 have hM_ := hJ
 simp only [f21] at hM_
 exact (by rw [← hadp]; exact phi_get (hM_.ro (hA.phis hx)) hadx hph 1 _ rfl)
 intro w_ ls vs hJ hi_ hc_ hp
 have f21 : ls 21 = false := notyet hc_ hi_ (n := 22) (by kernel_rfl)
 have hM_ := hJ
 simp only [f21] at hM_
 exact (rd_at (hadp ▸ hM_.ro (hA.phi hx hph)) rfl ha)
 intro aa_ w_ ls vs rest_ hJ hi_ hc_ hp hF
 refine ⟨true, opok_guard (g0 := none) (by kernel_rfl) (by kernel_rfl), fun _ => ?_, fun h => Bool.noConfusion h⟩
 replace hF : Fr aa_ 111 [(90, (.pointer (some ((adb : Addr).add (((an : Int)).toNat * 1)))))] := hF.kp [90]
 have f21 : ls 21 = false := hi_
 have hM_ := hJ
 simp only [f21] at hM_
 refine From_store_row (by kernel_rfl : coreAt _ 0 = some (none, (.store 4 (.tmp 90) (.const (.bool true))), 0, none)) hF (by kernel_rfl) (by kernel_rfl) (k' := 1) rfl (ad := (adb : Addr)) (j := (((an : Int)).toNat * 1)) (e := 4) (size := 1) (n := n) (cap := cb) (v := (.bool true)) (xs := (bools lb)) (ad' := ((adb : Addr).add (((an : Int)).toNat * 1))) (by kernel_rfl) rfl (by kernel_rfl) (by kernel_rfl) rfl hM_ 1 rfl (by omega) ?_
 intro w2 hm2 _ a2 ea _
 refine From_end (by kernel_rfl) ?_; refine op_doneJ (d := none) (by kernel_rfl) ea rfl ?_
 show _
 exact hm2
 intro aC w113 ls vs hall hM114 hv fr
 simp only [show ls 21 = true from hall 21 (by decide)] at hM114
 revert aC; refine zkp [(1, (pT b1 0)), (4, (.slice AI fs.length cI)), (5, (.slice (sM g108) fs.length cO)), (6, (.slice AM fs.length cM)), (10, (nV m)), (11, (.slice (sM g107) ((srcs (bsOf fs) (m : Int)).length) c87)), (12, (nV j)), (13, (nV i))] ?_
 clear hall hv fr aC hM106; clear vs ls
 refine zrg <| zpn 1 <| zar ((i : Int) + 1) <| zpn 1 <| zfe ?_
 have hM115 := hM114.od [8, 8, 8, 8, 8, 8, 8, 8, 8] 9
 have hM116 : Mem noS w w113 [.fam 4 (rT.set si nilV), .row 4 1 (some adb) n cb (bools (lb.set an true)), .blk b1 24 (fV nm wk pa va (some ad96) c fs), .fam 4 rM, .fam 4 rI, .row 58 1 AM fs.length cM (slv rM), .row 58 1 AI fs.length cI (slv rI), .row 58 1 (sM g108) fs.length cO (slv rT), .row 3 1 (sM g107) ((srcs (bsOf fs) (m : Int)).length) c87 (ints (srcs (bsOf fs) (m : Int)))] := hM115.cast (by simp only [bools_set, Int.toNat_natCast, Nat.mul_one])
 have hrl : si < rT.length := (List.getElem?_eq_some_iff.1 hrb).1
 have hM117 : Mem noS w w113 [.fam 4 (rT.set si ⟨(some adb), n, cb, bools (lb.set an true)⟩), .blk b1 24 (fV nm wk pa va (some ad96) c fs), .fam 4 rM, .fam 4 rI, .row 58 1 AM fs.length cM (slv rM), .row 58 1 AI fs.length cI (slv rI), .row 58 1 (sM g108) fs.length cO (slv rT), .row 3 1 (sM g107) ((srcs (bsOf fs) (m : Int)).length) c87 (ints (srcs (bsOf fs) (m : Int)))] := (hM116.unfocus si (List.getElem?_set_self hrl)).cast (by rw [set_twice])
 have hM118 : Mem noS w w113 [.fam 4 (rT.set si ⟨(some adb), n, cb, bools (lb.set an true)⟩), .blk b1 24 (fV nm wk pa va (some ad96) c fs), .fam 4 rM, .fam 4 rI, .row 58 1 AM fs.length cM (slv rM), .row 58 1 AI fs.length cI (slv rI), .row 58 1 (sM g108) fs.length cO (slv (rT.set si ⟨(some adb), n, cb, bools (lb.set an true)⟩)), .row 3 1 (sM g107) ((srcs (bsOf fs) (m : Int)).length) c87 (ints (srcs (bsOf fs) (m : Int)))] := hM117.cast (by rw [slv_same hrb (bools (lb.set an true))])
 have hM119 := hM118.od [7, 7, 7, 7, 4, 7, 7, 7] 8
 intro aC fr
 exact ⟨(srcs (bsOf fs) (m : Int)).length - (i + 1), by omega, i + 1, (rT.set si ⟨(some adb), n, cb, bools (lb.set an true)⟩), (updS ST (si : Int) (addS (ST (si : Int)) (an : Int))), rfl, fr.kp [1, 4, 5, 6, 10, 11, 12, 13], hM119, by omega, hRT.set (hlb.put (by omega)), hPT.arg hx hph hsi ha⟩
 refine zex 6 <| zbh <| zrg <| zpn 1 <| zar ((j : Int) + 1) <| zpn 1 <| zfe ?_
 have hM122 := hM101.od [7, 7, 7, 7, 7, 7, 7, 7] 8
 intro aC fr
 exact ⟨x.phis.length - (j + 1), by omega, j + 1, rT, ST, rfl, fr.kp [1, 4, 5, 6, 10, 11, 12], hM122, by omega, hRT, hPT.phi hx (by omega)⟩
 refine zex 4 <| zbh <| zrg <| zpn 1 <| zar ((m : Int) + 1) <| zpn 1 <| zfe ?_
 have hM125 := hM93.od [7, 7, 7, 7, 7, 7, 7, 7] 8
 intro aC fr
 exact ⟨fs.length - (m + 1), by omega, m + 1, rQ, SQ, rfl, fr.kp [1, 4, 5, 6, 10], (hM125.pick [true, true, true, true, true, true, true, false] rfl), by omega, hRQ, hPQ.blk hx (by omega)⟩
 refine zex 2 <| zbh <| zsq <| zsr ?_
 have hG0 : GOk n fs (useF fs) SP := GOk.start hPD (by omega)
 refine zpn 1 <| zfe <| zbk 8 ?_
 have hM128 := hM82.od [6, 6, 6, 4, 4, 6, 6] 7
 intro aC fr
 refine zlp (fun n_ a_ w_ => ∃ (tb : Bool) (r1 : List RowV) (o1 : List RowV) (SI1 : Int → Int → Bool) (SO1 : Int → Int → Bool), n_ = 2 * (unmetA n fs.length SI1 + unmetA n fs.length SO1) + cond tb 1 0 ∧ Fr a_ 111 [(1, (pT b1 0)), (4, (.slice AI fs.length cI)), (5, (.slice AO fs.length cO)), (6, (.slice AM fs.length cM)), (14, (.bool tb))] ∧ Mem noS w w_ [.fam 4 r1, .fam 4 o1, .blk b1 24 (fV nm wk pa va A c fs), .fam 4 rM, .row 58 1 AM fs.length cM (slv rM), .row 58 1 AI fs.length cI (slv r1), .row 58 1 AO fs.length cO (slv o1)] ∧ (BoolR n fs.length r1 SI1) ∧ (BoolR n fs.length o1 SO1) ∧ (GOk n fs SI1 SO1) ∧ (tb = false → ∀ b : Nat, b < fs.length → ∀ v : Nat, v < n → GAt fs SI1 SO1 b (v : Int))) (n := _) ⟨true, rI, rP, (useF fs), SP, rfl, fr.kp [1, 4, 5, 6, 14], hM128, hRI, hRP, hG0, fun h => Bool.noConfusion h⟩ ?_
 clear fr aC hM128; rintro n aC w131 ⟨tb, r1, o1, SI1, SO1, rfl, fr, hM132, hR1, hO1, hG1, hcl⟩
 revert aC
 refine zsq <| zsp <| zcP tb (tb = true) Iff.rfl (fun c135 => ?_) (fun c135 => ?_)
 have hbt : tb = true := c135
 refine zsk <| zbk 9 <| zsp <| zsr <| zpn 1 <| zld ⟨b1, 4, none⟩ (.slice A ((bsOf fs).length) c) (blk_cell (hM132.get 2 rfl) rfl) <| zpn 1 <| zar (((bsOf fs).length : Int) - 1) <| zpn 1 <| zfe ?_
 refine zbk 10 ?_
 have hM136 := hM132.od [6, 6, 6, 6, 6, 6, 6] 7
 intro aC fr
 refine zlp (fun n_ a_ w_ => ∃ (j : Nat) (iv : Int) (tb2 : Bool) (r2 : List RowV) (o2 : List RowV) (SI2 : Int → Int → Bool) (SO2 : Int → Int → Bool), n_ = 2 * j ∧ Fr a_ 111 [(1, (pT b1 0)), (4, (.slice AI fs.length cI)), (5, (.slice AO fs.length cO)), (6, (.slice AM fs.length cM)), (14, (.bool tb2)), (15, (.int .i64 iv))] ∧ Mem noS w w_ [.fam 4 r2, .fam 4 o2, .blk b1 24 (fV nm wk pa va A c fs), .fam 4 rM, .row 58 1 AM fs.length cM (slv rM), .row 58 1 AI fs.length cI (slv r2), .row 58 1 AO fs.length cO (slv o2)] ∧ (j ≤ fs.length) ∧ (iv = (j : Int) - 1) ∧ (BoolR n fs.length r2 SI2) ∧ (BoolR n fs.length o2 SO2) ∧ (GOk n fs SI2 SO2) ∧ (unmetA n fs.length SI2 + unmetA n fs.length SO2 ≤ unmetA n fs.length SI1 + unmetA n fs.length SO1 ∧ (tb2 = true → unmetA n fs.length SI2 + unmetA n fs.length SO2 < unmetA n fs.length SI1 + unmetA n fs.length SO1)) ∧ (tb2 = false → ∀ b : Nat, j ≤ b → b < fs.length → ∀ v : Nat, v < n → GAt fs SI2 SO2 b (v : Int))) (n := _) ⟨fs.length, (((bsOf fs).length : Int) - 1), false, r1, o1, SI1, SO1, rfl, fr.kp [1, 4, 5, 6, 14, 15], hM136, by omega, by omega, hR1, hO1, hG1, ⟨Nat.le_refl _, fun h => Bool.noConfusion h⟩, fun _ b h1 h2 => absurd h2 (by omega)⟩ ?_
 clear fr aC hM136; rintro n aC w139 ⟨j, iv, tb2, r2, o2, SI2, SO2, rfl, fr, hM140, hj, hiv, hR2, hO2, hG2, hU, hcl2⟩
 revert aC
 refine zsq <| zsp <| zcD ((iv : Int) ≥ 0) (fun c143 => ?_) (fun c143 => ?_)
 refine zsk <| zsq <| zbk 11 <| zrg ?_
 obtain ⟨j0, rfl⟩ : ∃ j0, j = j0 + 1 := ⟨j - 1, by omega⟩
 obtain rfl : iv = (j0 : Int) := by omega
 refine zls ⟨b1, 0, none⟩ (fV nm wk pa va A c fs) (blk_cells (hM140.get 2 rfl)) <| zpn 4 <| zcl (grow_c n j0 nm wk pa va A c fs AI AO AM cI cO cM r2 o2 rM SI2 SO2 w139 hN hok (hA.but hM140.join 0 rfl) hva hn2 (by omega) hG2 hR2 hO2 hRM (RO.row_rd (hM140.join.own_but 4 0 rfl rfl (by decide))) (RO.row_rd (hM140.join.own_but 5 0 rfl rfl (by decide))) (RO.row_rd (hM140.join.own_but 3 0 rfl rfl (by decide))) (hM140.join.own_but 2 0 rfl rfl (by decide)) (hM140.get 0 rfl) (hM140.get 1 rfl) (hM140.far (i := 0) (j := 1) rfl rfl (by decide))) ?_
 rintro _ w144 ⟨mb, r3, o3, SI3, SO3, rfl, hR3, hO3, hG3, hs3, ht3, hM145x⟩
 have hM145 := hM140.md2 hM145x
 refine zpn 1 ?_
 obtain ⟨B146, hB146⟩ : ∃ B : Bool, B = mb := ⟨_, rfl⟩
 refine zkp [(1, (pT b1 0)), (4, (.slice AI fs.length cI)), (5, (.slice AO fs.length cO)), (6, (.slice AM fs.length cM)), (14, (.bool tb2)), (15, (nV j0)), (106, (.bool mb))] ?_
 rw [← hB146]
 have iB146 : B146 = true ↔ (mb = true) := by rw [hB146]
 clear hB146
 intro aC fr
 refine zpk 3 10 [14, 108] fr (news := [(14, (.bool (B146 || tb2))), (108, (.bool (B146 || tb2)))]) (by cases B146 <;> kernel_rfl) ?_
 intro aC fr
 revert aC
 refine zfe <| zrg <| zpn 1 <| zar ((j0 : Int) - 1) <| zpn 1 <| zfe ?_
 have hM151 : Mem noS w w144 [.fam 4 r3, .fam 4 o3, .blk b1 24 (fV nm wk pa va A c fs), .fam 4 rM, .row 58 1 AM fs.length cM (slv rM), .row 58 1 AI fs.length cI (slv r3), .row 58 1 AO fs.length cO (slv o3)] := hM145.cast (by rw [hs3, ht3])
 have hbb : B146 = mb := Bool.eq_iff_iff.2 iB146
 rw [← hbb] at hG3
 intro aC fr
 exact ⟨2 * j0, by omega, j0, ((j0 : Int) - 1), (B146 || tb2), r3, o3, SI3, SO3, rfl, fr.kp [1, 4, 5, 6, 14, 15], hM151, by omega, by omega, hR3, hO3, hG3.ok, grow_sum hU hG3, grow_all hcl2 hG3⟩
 refine zex 10 <| zbh ?_
 intro aC fr
 exact ⟨2 * (unmetA n fs.length SI2 + unmetA n fs.length SO2) + cond tb2 1 0, by rw [hbt]; have h1 := hU.1; have h2 := hU.2; cases tb2 with | false => (simp only [cond_true, cond_false]; omega) | true => (have := h2 rfl; simp only [cond_true]; omega), tb2, r2, o2, SI2, SO2, rfl, fr.kp [1, 4, 5, 6, 14], hM140, hR2, hO2, hG2, fun h b hb v hv => hcl2 h b (by omega) hb v hv⟩
 replace c135 : tb = false := Bool.eq_false_iff.2 c135
 have hbt : tb = false := c135
 refine zex 8 <| zbh <| zsp <| zre <| zo2 (.slice AI fs.length cI) (.slice AO fs.length cO) ?_
 have hlive := grow_done hgood hva hG1 (hcl hbt)
 have hM156 := hM132.od [6, 2, 6, 3] 4
 exact ⟨AI, cI, AO, cO, r1, o1, SI1, SO1, rfl, hR1, hO1, hlive, hM156⟩
end Go.Proofs.YtlfbloadopeamaaDoor
namespace Go.Mor
open Go.RowKit
theorem From_max {P : Program} {c : Code} {K : Act → World → Prop} {Q : Exit → Act → World → Prop} {a : Act} {w : World} {k k' N : Nat} {env : Env} {d : Option Nat} {ty : Nat} {g : Option (Nat × Bool)}
    {ts : Array TypeId} {x y : Operand} (hk : coreAt c k = some (d, .call { callee := .builtin .max, args := #[x, y], argTypes := ts }, ty, g)) (hF : Fr a N env) (hg : guardE c g env = some true) (hd : okd d N = true) (hk' : k + 1 = k')
    {kd : IntKind} {i j : Int} (hx : ev env x = some (.int kd i)) (hy : ev env y = some (.int kd j)) (z : Int) (hz : z = if i < j then j else i)
    (h : ∀ a', a' = a.put d (.int kd z) → Fr a' N (putE env d (.int kd z)) → From P c K Q k' a' w) : From P c K Q k a w := by
  refine From_same hk hF hg hd hk' (fun o ho => ?_) h
  unfold execOp
  rw [ho]
  simp only [resolve, invoke, builtin, Sem.run_bind, Sem.run_pure, Result.andThen_ok, List.map_toArray, List.map_cons, List.map_nil, hF.ev hx, hF.ev hy, Builtin.max_, List.foldlM]
  subst hz
  simp [Builtin.max2]
  try (split <;> simp_all <;> omega)
section
variable {P : Program} {c : Code} {Q : Exit → Act → World → Prop} {N : Nat} {env0 : Env} {wr : World} {sp : Nat → Spec} {i : Nat}
theorem dMN (kd : IntKind) (i1 j1 z : Int) (x y : Operand) (ts : Array TypeId) (ty : Nat) (g : Option (Nat × Bool)) (hz : z = if j1 < i1 then j1 else i1) (hv : sp i = .det (.int kd z) := by rfl)
    (h0 : coreAt (one c i) 0 = some (dstAt c i, .call { callee := .builtin .min, args := #[x, y], argTypes := ts }, ty, g) := by kernel_rfl) (hg : ∀ vs, gtE c i (predE c i sp vs env0) = some true := by intro _; kernel_rfl)
    (h1 : ∀ vs, guardE (one c i) g (predE c i sp vs env0) = some true := by intro _; kernel_rfl) (h2 : okd (dstAt c i) N = true := by kernel_rfl)
    (hx : ∀ vs, ev (predE c i sp vs env0) x = some (.int kd i1) := by intro _; kernel_rfl) (hy : ∀ vs, ev (predE c i sp vs env0) y = some (.int kd j1) := by intro _; kernel_rfl) (he : coreAt (one c i) 1 = none := by kernel_rfl) : OpOK P c Q N env0 wr sp i := by
  refine op_of hg (fun w vs hK hp a hF => ?_)
  exact From_min h0 hF (h1 vs) h2 rfl (hx vs) (hy vs) z hz (fun a' ea _ => From_end he ⟨_, ea, Kp.refl w, by rw [hv]; rfl⟩)
end
end Go.Mor
namespace Go.Proofs.YtlfbloadopeamaaDoor
open Go.Mor
set_option maxRecDepth 10000 in
theorem begin0_c (q : Nat) (c : Int) (w : World) (hq : (Res.blk q 3 [.int .i64 c]).holds w) :
    Calls Tryd.prog 36 #[(pT q 0)] w (Ret fun u w' => u = .tuple #[] ∧ Mem (Res.blk q 3 [.int .i64 c]).fp w w' [.blk q 3 [.int .i64 0]]) := by
 refine zen 1 [(pT q 0)] Tryd.func36 ?_
 have hM := Mem.initS hq
 refine zrg <| zsb (ho := (Nat.zero_lt_succ _)) hM 0 0 (.int .i64 0) rfl fun w1 hM2 => ?_
 replace hM2 := hM2.nf
 clear hM
 refine zfe <| zo0 ?_
 exact ⟨rfl, hM2⟩
set_option maxRecDepth 10000 in
theorem up_c (v : Value) (q : Nat) (c : Int) (w : World) (hc : -1000000 ≤ c ∧ c ≤ 1000000) (hq : (Res.blk q 3 [.int .i64 c]).holds w) :
    Calls Tryd.prog 37 #[v, (pT q 0)] w (Ret fun u w' => u = .tuple #[] ∧ Mem (Res.blk q 3 [.int .i64 c]).fp w w' [.blk q 3 [.int .i64 (c + 1)]]) := by
 refine zen 5 [v, (pT q 0)] Tryd.func37 ?_
 have hM := Mem.initS hq
 refine zrg <| zld ⟨q, 0, none⟩ (.int .i64 c) (blk_cell (hM.get 0 rfl) rfl) <| zar (c + 1) <| zsb (ho := (Nat.zero_lt_succ _)) hM 0 0 (.int .i64 (c + 1)) rfl fun w1 hM2 => ?_
 replace hM2 := hM2.nf
 clear hM
 refine zfe <| zo0 ?_
 exact ⟨rfl, hM2⟩
set_option maxRecDepth 10000 in
theorem down_c (v : Value) (q : Nat) (c : Int) (w : World) (hc : -1000000 ≤ c ∧ c ≤ 1000000) (hq : (Res.blk q 3 [.int .i64 c]).holds w) :
    Calls Tryd.prog 38 #[v, (pT q 0)] w (Ret fun u w' => u = .tuple #[] ∧ Mem (Res.blk q 3 [.int .i64 c]).fp w w' [.blk q 3 [.int .i64 (c - 1)]]) := by
 refine zen 5 [v, (pT q 0)] Tryd.func38 ?_
 have hM := Mem.initS hq
 refine zrg <| zld ⟨q, 0, none⟩ (.int .i64 c) (blk_cell (hM.get 0 rfl) rfl) <| zar (c - 1) <| zsb (ho := (Nat.zero_lt_succ _)) hM 0 0 (.int .i64 (c - 1)) rfl fun w1 hM2 => ?_
 replace hM2 := hM2.nf
 clear hM
 refine zfe <| zo0 ?_
 exact ⟨rfl, hM2⟩
set_option maxRecDepth 10000 in
theorem mplace_c (p q : Nat) (m c : Int) (w : World) (hp : (Res.blk p 3 [.int .i64 m]).holds w) (hq : RO (Res.blk p 3 [.int .i64 m]).fp w (.blk q 3 [.int .i64 c])) :
    Calls Tryd.prog 39 #[(pT p 0), (pT q 0)] w (Ret fun u w' => u = .tuple #[] ∧ Mem (Res.blk p 3 [.int .i64 m]).fp w w' [.blk p 3 [.int .i64 (max m c)]]) := by
 refine zen 5 [(pT p 0), (pT q 0)] Tryd.func39 ?_
 have hM := Mem.initS hp
 refine zrg <| zld ⟨p, 0, none⟩ (.int .i64 m) (blk_cell (hM.get 0 rfl) rfl) <| zld ⟨q, 0, none⟩ (.int .i64 c) (blk_cell (hM.ro hq) rfl) ?_
 intro aC fr
 refine From_max (by kernel_rfl : coreAt _ 2 = some (some 4, (.call { callee := (.builtin .max), args := #[(.tmp 2), (.tmp 3)], argTypes := #[3, 3] }), 3, none)) fr (by kernel_rfl) (by kernel_rfl) (k' := 3) rfl (kd := .i64) (i := m) (j := c) (by kernel_rfl) (by kernel_rfl) (max m c) (by split <;> omega) ?_
 intro aC ea fr; clear ea
 revert aC
 refine zsb (ho := (Nat.zero_lt_succ _)) hM 0 0 (.int .i64 (max m c)) rfl fun w5 hM6 => ?_
 replace hM6 := hM6.nf
 clear hM
 refine zfe <| zo0 ?_
 exact ⟨rfl, hM6⟩
end Go.Proofs.YtlfbloadopeamaaDoor
namespace Go.Mor
open Go.RowKit
def Spec.ptr (xs : List Value) : Spec := .any (fun v w => ∃ ad, v = .pointer (some ad) ∧ (Res.rd (some ad) xs).holds w)
  (fun _ _ _ hK ⟨ad, hv, h⟩ => ⟨ad, hv, (Res.rd (some ad) xs).stable (fun g hg => hK.kept g ((Res.rd (some ad) xs).lt h hg) (fun h => h)) h⟩)
def s2aE (P : Program) (c : Code) (N : Nat) (env : Env) (k : Nat) : Option (Option Nat × Nat × Value) := match coreAt c k with
  | some (d, .sliceToArrayPointer t x, _, g) => match guardE c g env, okd d N, ev env x, P.underlying t with
    | some true, true, some v, some (.array m _) => some (d, m, v)
    | _, _, _, _ => none
  | _ => none
def lvE (P : Program) (c : Code) (N : Nat) (env : Env) (k : Nat) : Option (Option Nat × Value × Option Nat) := match coreAt c k with
  | some (d, .load t x, _, g) => match guardE c g env, okd d N, ev env x with
    | some true, true, some v => some (d, v, aggT P t)
    | _, _, _ => none
  | _ => none
def bnE (c : Code) (N : Nat) (env : Env) (k : Nat) : Option (Option Nat × BinOp × TypeId × Value × Value) := match coreAt c k with
  | some (d, .binOp op t x y _, _, g) => match guardE c g env, okd d N, ev env x, ev env y with
    | some true, true, some u, some v => some (d, op, t, u, v)
    | _, _, _, _ => none
  | _ => none
theorem blk_rd {w : World} {b t : Nat} {cs : List Value} (h : (Res.blk b t cs).holds w) : (Res.rd (some ⟨b, 0, none⟩) cs).holds w := by
  intro j v hj
  refine ⟨_, rfl, ?_⟩
  have e : (⟨b, 0, none⟩ : Addr).add j = ⟨b, j, none⟩ := by unfold Addr.add; split <;> simp_all
  rw [e]
  exact blk_cell h hj
section
variable {P : Program} {c : Code} {Q : Exit → Act → World → Prop} {N i : Nat} {env0 : Env} {wr : World} {sp : Nat → Spec}
theorem dA2 (j n : Nat) (xs : List Value) (hx : xs ≠ []) {m : Nat} (hmn : m ≤ n) (hj : memN (predsOf c i) j = true := by kernel_rfl) (hs : sp j = Spec.sl n xs := by rfl) (hsi : sp i = Spec.ptr xs := by rfl)
    (hg : ∀ vs, gtE c i (predE c i sp vs env0) = some true := by intro _; kernel_rfl) (hk : ∀ vs, s2aE P (one c i) N (predE c i sp vs env0) 0 = some (dstAt c i, m, vs j) := by intro _; kernel_rfl) (he : coreAt (one c i) 1 = none := by kernel_rfl) : OpOK P c Q N env0 wr sp i := by
  refine op_of hg (fun w vs hK hp a hF => ?_)
  have h0 := hp j (memN_iff.1 hj)
  rw [hs] at h0
  obtain ⟨A, cc, hv, hr⟩ := h0
  have hA : ∃ ad, A = some ad := by
    cases xs with
    | nil => exact absurd rfl hx
    | cons x r => obtain ⟨ad, h1, _⟩ := hr 0 x rfl; exact ⟨ad, h1⟩
  obtain ⟨ad, rfl⟩ := hA
  have h1 := hk vs
  unfold s2aE at h1
  split at h1
  · rename_i g0
    split at h1
    · rename_i v0 m0 e0 g1 g2 g3 g4
      simp only [Option.some.injEq, Prod.mk.injEq] at h1
      obtain ⟨rfl, rfl, rfl⟩ := h1
      refine From_same g0 hF g1 g2 rfl (fun o ho => ?_) (fun a' ea _ => From_end he ⟨_, ea, Kp.refl w, ?_⟩) (v := .pointer (some ad))
      · unfold execOp
        rw [ho]
        have hra := run_arrayAt (P := P) w _ e0 m0 (some ad) n cc g4 hmn
        simp only [hF.ev g3, hv, Sem.run_bind, hra, Result.andThen_ok]
        rfl
      · rw [hsi]; exact ⟨ad, rfl, hr⟩
    · cases h1
  · cases h1
theorem dLA (j : Nat) (xs : List Value) (hj : memN (predsOf c i) j = true := by kernel_rfl) (hs : sp j = Spec.ptr xs := by rfl) (hsi : sp i = .det (.agg xs.toArray) := by rfl)
    (hg : ∀ vs, gtE c i (predE c i sp vs env0) = some true := by intro _; kernel_rfl) (hk : ∀ vs, lvE P (one c i) N (predE c i sp vs env0) 0 = some (dstAt c i, vs j, some xs.length) := by intro _; kernel_rfl) (he : coreAt (one c i) 1 = none := by kernel_rfl) : OpOK P c Q N env0 wr sp i := by
  refine op_of hg (fun w vs hK hp a hF => ?_)
  have h0 := hp j (memN_iff.1 hj)
  rw [hs] at h0
  obtain ⟨ad, hv, hr⟩ := h0
  have h1 := hk vs
  unfold lvE at h1
  split at h1
  · rename_i g0
    split at h1
    · rename_i v0 g1 g2 g3
      simp only [Option.some.injEq, Prod.mk.injEq] at h1
      obtain ⟨rfl, rfl, h4⟩ := h1
      refine From_loadS g0 hF g1 g2 rfl (by rw [g3, hv]) h4 (fun q v hq => ?_) (fun a' ea _ => From_end he ⟨_, ea, Kp.refl w, by rw [hsi]; rfl⟩)
      obtain ⟨a0, ha, hc⟩ := hr q v hq
      injection ha with ha
      subst ha
      exact hc
    · cases h1
  · cases h1
theorem dEA {t : TypeId} {xs ys : Array Value} {b B : Bool} (hr : ∀ w, (binOp .eql t (.agg xs) (.agg ys)).run P w = .ok (.bool b) w) (hb : B = b) (hu : P.eqGuardType P.depth t = false := by kernel_rfl) (hsi : sp i = .det (.bool B) := by rfl)
    (hg : ∀ vs, gtE c i (predE c i sp vs env0) = some true := by intro _; kernel_rfl) (hk : ∀ vs, bnE (one c i) N (predE c i sp vs env0) 0 = some (dstAt c i, .eql, t, .agg xs, .agg ys) := by intro _; kernel_rfl) (he : coreAt (one c i) 1 = none := by kernel_rfl) : OpOK P c Q N env0 wr sp i := by
  refine op_of hg (fun w vs hK hp a hF => ?_)
  have h1 := hk vs
  unfold bnE at h1
  split at h1
  · rename_i g0
    split at h1
    · rename_i g1 g2 g3 g4
      simp only [Option.some.injEq, Prod.mk.injEq] at h1
      obtain ⟨rfl, rfl, e3, e4, e5⟩ := h1
      refine From_same g0 hF g1 g2 rfl (fun o ho => ?_) (fun a' ea _ => From_end he ⟨_, ea, Kp.refl w, ?_⟩) (v := .bool b)
      · unfold execOp
        rw [ho, e3]
        have hq : ∀ x y, (eqGuard .eql t x y (.agg xs) (.agg ys)).run P w = .ok () w := by
          intro x y
          simp [eqGuard, run_program, hu]
        simp only [hF.ev g3, hF.ev g4, e4, e5, Sem.run_bind, hq, hr, Result.andThen_ok]
        rfl
      · rw [hsi, hb]; rfl
    · cases h1
  · cases h1
end
end Go.Mor
namespace Go.Mor
open Go.RowKit
def tabN : List Nat := (List.range 64).map (fun i => ((List.range 64).find? (fun k => Nat.beq (2 ^ k * 285870213051353865 % 2 ^ 64 / 2 ^ 58) i)).getD 0)
def tabL : List Value := tabN.map (fun x : Nat => Value.int .u8 (x : Int))
theorem tab_ok : ∀ k : Fin 64, tabN[2 ^ k.val * 285870213051353865 % 2 ^ 64 / 2 ^ 58]? = some k.val := by decide +kernel
theorem tab_get {k : Nat} (hk : k < 64) : tabL[((2 ^ k * 285870213051353865 % 2 ^ 64 / 2 ^ 58 : Nat) : Int).toNat]? = some (.int .u8 (k : Int)) := by
  rw [Int.toNat_natCast]
  have := tab_ok ⟨k, hk⟩
  simp only at this
  simp [tabL, this]
def pad4 (ws : List Nat) : List Nat := ws ++ List.replicate (4 - ws.length) 0
theorem pad4_len {ws : List Nat} (h : ws.length ≤ 4) : (pad4 ws).length = 4 := by simp [pad4]; omega
def eq4 (ws xs : List Nat) : Bool := (((pad4 ws).getD 0 0 : Int) == ((pad4 xs).getD 0 0 : Int)) && ((((pad4 ws).getD 1 0 : Int) == ((pad4 xs).getD 1 0 : Int)) && ((((pad4 ws).getD 2 0 : Int) == ((pad4 xs).getD 2 0 : Int)) && (((pad4 ws).getD 3 0 : Int) == ((pad4 xs).getD 3 0 : Int))))
theorem pad4_cells {ws : List Nat} (h : ws.length ≤ 4) : u64s (pad4 ws) = [.int .u64 ((pad4 ws).getD 0 0 : Int), .int .u64 ((pad4 ws).getD 1 0 : Int), .int .u64 ((pad4 ws).getD 2 0 : Int), .int .u64 ((pad4 ws).getD 3 0 : Int)] := by
  have hl := pad4_len h
  match hp : pad4 ws, hl with
  | [a, b, c, d], _ => rfl
theorem eq4_iff {ws xs : List Nat} (hw : ws.length ≤ 4) (hx : xs.length = ws.length) : eq4 ws xs = true ↔ ws = xs := by
  have h1 := pad4_len hw
  have h2 := pad4_len (ws := xs) (by omega)
  unfold eq4
  simp only [Bool.and_eq_true, beq_iff_eq, Int.natCast_inj]
  constructor
  · rintro ⟨e0, e1, e2, e3⟩
    have e : pad4 ws = pad4 xs := by
      match hp : pad4 ws, h1, hq : pad4 xs, h2 with
      | [a, b, c, d], _, [a', b', c', d'], _ =>
        rw [hp, hq] at e0 e1 e2 e3
        simp at e0 e1 e2 e3
        rw [e0, e1, e2, e3]
    unfold pad4 at e
    exact (List.append_inj e hx.symm).1
  · rintro rfl
    exact ⟨rfl, rfl, rfl, rfl⟩
theorem same_get {ws xs : List Nat} {k : Nat} (h : ws.take k = xs.take k) (hk : k < ws.length) (hx : xs.length = ws.length) (e : ws.getD k 0 = xs.getD k 0) : ws.take (k + 1) = xs.take (k + 1) := by
  have hk' : k < xs.length := by omega
  rw [List.take_succ_eq_append_getElem hk, List.take_succ_eq_append_getElem hk', h]
  congr 2
  simpa [List.getD, hk, hk'] using e
end Go.Mor
namespace Go.Mor
def caseQ (i : FIns) (lo mo : Int) (bn bm : Bool) : Prop :=
  (makesQ i.op ∨ i.dst = -1) ∧ (bn = true ∧ (bm = true ↔ i.name.size ≠ 0) ∧ (bm = true → nameQ i.name) ∧ lo ≤ (i.args.length : Int) ∧ (i.args.length : Int) ≤ mo)
section
variable {i : FIns} {lo mo : Int} {bn bm : Bool} {N : Prop}
theorem caseF (hn : bn = true ↔ N) : caseQ i lo mo bn false ↔ ((makesQ i.op ∨ i.dst = -1) ∧ N ∧ i.name.size = 0 ∧ lo ≤ (i.args.length : Int) ∧ (i.args.length : Int) ≤ mo) := by
  unfold caseQ
  rw [hn]
  simp only [Bool.false_eq_true, false_iff, ne_eq, Decidable.not_not, false_implies, true_and]
theorem caseT (hn : bn = true ↔ N) : caseQ i lo mo bn true ↔ ((makesQ i.op ∨ i.dst = -1) ∧ N ∧ nameQ i.name ∧ lo ≤ (i.args.length : Int) ∧ (i.args.length : Int) ≤ mo) := by
  unfold caseQ
  rw [hn]
  simp only [true_iff, ne_eq, true_implies]
  constructor
  · rintro ⟨h1, h2, h3, h4, h5⟩; exact ⟨h1, h2, h4, h5⟩
  · rintro ⟨h1, h2, h3, h4⟩; exact ⟨h1, h2, by unfold nameQ at h3; omega, h3, h4⟩
theorem rshape_fin {x : Bool} (hx : (x = true) = (i.name.size = 0)) (hs : shapeQ i ↔ caseQ i lo mo bn bm) (hc : ¬ (¬ makesQ i.op ∧ i.dst ≠ -1)) :
    (((((bn = true) ∧ (bm = (!x))) ∧ ((¬ (bm = true)) ∨ (nameQ i.name))) ∧ ((i.args.length : Int) ≥ lo)) ∧ ((i.args.length : Int) ≤ mo)) ↔ shapeQ i := by
  rw [hs]
  have hc' : makesQ i.op ∨ i.dst = -1 := by
    by_cases h : makesQ i.op
    · exact .inl h
    · exact .inr (Classical.not_not.1 (fun e => hc ⟨h, e⟩))
  cases bm with
  | false =>
    rw [caseF Iff.rfl, ← hx]
    cases x
    · simp
    · simp only [Bool.not_true, Bool.false_eq_true, not_false_eq_true, true_or, and_true, true_and, hc']
      constructor
      · rintro ⟨⟨h1, h2⟩, h3⟩; exact ⟨h1, h2, h3⟩
      · rintro ⟨h1, h2, h3⟩; exact ⟨⟨h1, h2⟩, h3⟩
  | true =>
    rw [caseT Iff.rfl]
    have hne : nameQ i.name → x = false := by
      intro h
      rw [Bool.eq_false_iff]
      intro e
      rw [hx] at e
      unfold nameQ at h
      omega
    constructor
    · rintro ⟨⟨⟨⟨h1, h2⟩, h3⟩, h4⟩, h5⟩
      rcases h3 with h3 | h3
      · exact absurd rfl h3
      · exact ⟨hc', h1, h3, h4, h5⟩
    · rintro ⟨_, h1, h3, h4, h5⟩
      exact ⟨⟨⟨⟨h1, by rw [hne h3]; rfl⟩, .inr h3⟩, h4⟩, h5⟩
theorem rshape_no (hc : ¬ makesQ i.op ∧ i.dst ≠ -1) : ¬ shapeQ i := fun h => h.1.elim hc.1 hc.2
theorem litT : (true = true) ↔ True := by simp
theorem litF : (false = true) ↔ False := by simp
end
end Go.Mor
namespace Go.Proofs.YtlfbloadopeamaaDoor
open Go.Mor
set_option maxRecDepth 10000 in
theorem size_c (nm : ByteArray) (wk : Bool) (pa va : Int) (A : Option Addr) (c : Nat) (fs : List FBlk) (w : World) (hN : fs.length ≤ 1000) (hok : FOk fs) (hA : RO noS w (.fn A fs)) :
    Calls Tryd.prog 42 #[(fA nm wk pa va A c fs)] w (Ret fun v w' => v = .int .i64 ((sizeF fs : Nat) : Int) ∧ Mem noS w w' []) := by
 have hbl := bsOf_len fs
 have hm : (bsOf fs).length ≤ 1000000 := by omega
 have hB := hA.bs
 refine zen 27 [(fA nm wk pa va A c fs)] Tryd.func42 ?_
 have hM := Mem.init w
 refine zsr <| zbx hM 24 (fA nm wk pa va A c fs) (fV nm wk pa va A c fs) fun b1 w2 hb1 hM3 => ?_
 replace hM3 := hM3.nf
 clear hM
 refine zpn 1 <| zfe <| zsr <| zpn 1 <| zld ⟨b1, 4, none⟩ (.slice A ((bsOf fs).length) c) (blk_cell (hM3.get 0 rfl) rfl) <| zpn 2 <| zfe <| zsq <| zsr <| zpn 1 ?_
 refine zld ⟨b1, 4, none⟩ (.slice A ((bsOf fs).length) c) (blk_cell (hM3.get 0 rfl) rfl) <| zpn 2 <| zfe <| zbk 0 ?_
 intro aC fr
 refine zlp (fun n_ a_ w_ => ∃ (k : Nat) (q : Nat), n_ = fs.length - k ∧ Fr a_ 27 [(3, (nV q)), (10, (.slice A ((bsOf fs).length) c)), (11, (.int .i64 (((bsOf fs).length : Nat) : Int))), (12, (nV k))] ∧ Mem noS w w_ [.blk b1 24 (fV nm wk pa va A c fs)] ∧ (k ≤ fs.length) ∧ (q = fs.length + sizeTo fs k)) (n := _) ⟨0, (bsOf fs).length, rfl, fr.kp [3, 10, 11, 12], hM3, by omega, by rw [hbl, sizeTo_zero]; rfl⟩ ?_
 clear fr aC hM3; rintro n aC w6 ⟨k, q, rfl, fr, hM7, hk, hq⟩
 revert aC
 refine zsp <| zsq <| zcD (((k : Int) : Int) < (((bsOf fs).length : Nat) : Int)) (fun c10 => ?_) (fun c10 => ?_)
 refine zsk <| zsq <| zbk 1 <| zsr ?_
 obtain ⟨x, hx⟩ := get_of (l := fs) (i := k) (by omega)
 have hl1 : x.phis.length ≤ 281474976710656 := (hok.get hx).lp
 have hl2 : x.insts.length ≤ 281474976710656 := (hok.get hx).li
 have hsl := sizeTo_le hok k hk
 obtain ⟨ad11, rfl⟩ := blocks_some (hM7.ro hB) (bsOf_get hx)
 refine zix ad11 ((bsOf fs).length) 6 (k : Int) <| zls ((ad11 : Addr).add (((k : Int)).toNat * 6)) (xV x) (fblk_get (hM7.ro hB) rfl hx) <| zal hM7 44 [(.slice none 0 0), (.slice none 0 0), (.int .i64 0), (.int .i64 0), (.int .i64 0), (.int .i64 0)] fun b12 w13 hb12 hM14 => ?_
 replace hM14 := hM14.nf
 refine zss hM14 1 (xV x) rfl fun w15 hM16 => ?_
 replace hM16 := hM16.nf
 refine zfe <| zrg <| zpn 2 <| zld ⟨b12, 0, none⟩ (.slice x.pA x.phis.length x.pc) (blk_cell (hM16.get 1 rfl) rfl) <| zpn 2 <| zld ⟨b12, 1, none⟩ (.slice x.iA x.insts.length x.ic) (blk_cell (hM16.get 1 rfl) rfl) <| zpn 1 <| zar (((x.phis.length : Nat) : Int) + ((x.insts.length : Nat) : Int)) <| zar ((q : Int) + (((x.phis.length : Nat) : Int) + ((x.insts.length : Nat) : Int))) <| zkp [(10, (.slice (some ad11) ((bsOf fs).length) c)), (11, (.int .i64 (((bsOf fs).length : Nat) : Int))), (12, (nV k)), (24, (.int .i64 ((q : Int) + (((x.phis.length : Nat) : Int) + ((x.insts.length : Nat) : Int)))))] ?_
 refine zpn 1 <| zfe <| zrg <| zar ((k : Int) + 1) <| zpn 1 <| zfe ?_
 intro aC fr
 exact ⟨fs.length - (k + 1), by omega, k + 1, q + (x.phis.length + x.insts.length), rfl, fr.kp [3, 10, 11, 12], (hM16.tk 1), by omega, by rw [hq, sizeTo_succ hx]; omega⟩
 refine zex 0 <| zbh <| zsp <| zre <| zo1 (nV q) ?_
 obtain rfl : k = fs.length := by omega
 have hM19 := hM7.od [] 0
 exact ⟨by rw [hq]; rfl, hM19⟩
set_option maxRecDepth 10000 in
theorem rsize_c (nm : ByteArray) (wk : Bool) (pa va : Int) (A : Option Addr) (c : Nat) (fs : List FBlk) (w : World) (hN : fs.length ≤ 1000) (hok : FOk fs) (hA : RO noS w (.fn A fs)) :
    Calls Tryd.prog 20 #[(fA nm wk pa va A c fs)] w (Ret fun v w' => v = .int .i64 ((sizeF fs : Nat) : Int) ∧ Mem noS w w' []) := by
 have hbl := bsOf_len fs
 have hm : (bsOf fs).length ≤ 1000000 := by omega
 have hB := hA.bs
 refine zen 33 [(fA nm wk pa va A c fs)] Tryd.func20 ?_
 have hM := Mem.init w
 refine zsr <| zbx hM 24 (fA nm wk pa va A c fs) (fV nm wk pa va A c fs) fun b1 w2 hb1 hM3 => ?_
 replace hM3 := hM3.nf
 clear hM
 refine zpn 1 <| zfe <| zsr <| zpn 1 <| zld ⟨b1, 4, none⟩ (.slice A ((bsOf fs).length) c) (blk_cell (hM3.get 0 rfl) rfl) <| zpn 2 <| zfe <| zsq <| zsp <| zbk 0 ?_
 intro aC fr
 refine zlp (fun n_ a_ w_ => ∃ (k : Nat) (q : Nat), n_ = fs.length - k ∧ Fr a_ 33 [(1, (pT b1 0)), (3, (nV q)), (4, (nV k))] ∧ Mem noS w w_ [.blk b1 24 (fV nm wk pa va A c fs)] ∧ (k ≤ fs.length) ∧ (q = fs.length + sizeTo fs k)) (n := _) ⟨0, (bsOf fs).length, rfl, fr.kp [1, 3, 4], hM3, by omega, by rw [hbl, sizeTo_zero]; rfl⟩ ?_
 clear fr aC hM3; rintro n aC w6 ⟨k, q, rfl, fr, hM7, hk, hq⟩
 revert aC
 refine zsq <| zsr <| zpn 2 <| zld ⟨b1, 4, none⟩ (.slice A ((bsOf fs).length) c) (blk_cell (hM7.get 0 rfl) rfl) <| zpn 2 <| zfe <| zcD (((k : Int) : Int) < (((bsOf fs).length : Nat) : Int)) (fun c10 => ?_) (fun c10 => ?_)
 refine zsk <| zsq <| zbk 1 ?_
 obtain ⟨x, hx⟩ := get_of (l := fs) (i := k) (by omega)
 have hl1 : x.phis.length ≤ 281474976710656 := (hok.get hx).lp
 have hl2 : x.insts.length ≤ 281474976710656 := (hok.get hx).li
 have hsl := sizeTo_le hok k hk
 obtain ⟨ad11, rfl⟩ := blocks_some (hM7.ro hB) (bsOf_get hx)
 obtain ⟨x, hx⟩ := get_of (l := fs) (i := k) (by omega)
 have hl1 : x.phis.length ≤ 281474976710656 := (hok.get hx).lp
 have hl2 : x.insts.length ≤ 281474976710656 := (hok.get hx).li
 have hsl := sizeTo_le hok k hk
 refine zkp [(1, (pT b1 0)), (3, (nV q)), (4, (nV k))] ?_
 intro aC fr
 refine zdr (N := 33) (env0 := [(1, (pT b1 0)), (3, (nV q)), (4, (nV k))]) (specAt [.det (nV q), .det (pT b1 4), .det (.slice (some ad11) ((bsOf fs).length) c), .det (nV k), .det (.pointer (some ((ad11 : Addr).add (((k : Int)).toNat * 6)))), .det (.pointer (some ((ad11 : Addr).add (((k : Int)).toNat * 6)))), .det (.slice x.pA x.phis.length x.pc), .det (.int .i64 ((x.phis.length : Nat) : Int)), .det (.int .i64 ((q : Int) + ((x.phis.length : Nat) : Int))), .det (pT b1 4), .det (.slice (some ad11) ((bsOf fs).length) c), .det (nV k), .det (.pointer (some ((ad11 : Addr).add (((k : Int)).toNat * 6)))), .det (.pointer (some (((ad11 : Addr).add (((k : Int)).toNat * 6)).add 1))), .det (.slice x.iA x.insts.length x.ic), .det (.int .i64 ((x.insts.length : Nat) : Int)), .det (.int .i64 ((((q + (x.phis.length + x.insts.length) : Nat)) : Int))), .det (.int .i64 ((((q + (x.phis.length + x.insts.length) : Nat)) : Int)))]) fr (la (la (la (la (la (la (la (la (la (la (la (la (la (la (la (la (la (la lz dP) dP) (dL ⟨b1, 4, none⟩ (.slice (some ad11) ((bsOf fs).length) c) fun w_ hK => (blk_cell ((hM7.then_ hK).get 0 rfl) rfl))) dP) (dI ad11 ((bsOf fs).length) 6 (k : Int))) dP) (dL ((ad11 : Addr).add (((k : Int)).toNat * 6)) (.slice x.pA x.phis.length x.pc) fun w_ hK => (fblk_get ((hM7.then_ hK).ro hB) rfl hx 0 _ rfl))) dP) (dA ((q : Int) + ((x.phis.length : Nat) : Int)))) dP) (dL ⟨b1, 4, none⟩ (.slice (some ad11) ((bsOf fs).length) c) fun w_ hK => (blk_cell ((hM7.then_ hK).get 0 rfl) rfl))) dP) (dI ad11 ((bsOf fs).length) 6 (k : Int))) dP) (dL (((ad11 : Addr).add (((k : Int)).toNat * 6)).add 1) (.slice x.iA x.insts.length x.ic) fun w_ hK => (fblk_get ((hM7.then_ hK).ro hB) rfl hx 1 _ rfl))) dP) ?_) dP) ?_
 intro aa_ w_ vs rest_ hK hp hF
 refine ⟨true, opok_guard (g0 := none) (by kernel_rfl) (by kernel_rfl), fun _ => ?_, fun h => Bool.noConfusion h⟩
 replace hF : Fr aa_ 33 [(23, (.int .i64 ((q : Int) + ((x.phis.length : Nat) : Int)))), (30, (.int .i64 ((x.insts.length : Nat) : Int)))] := hF.kp [23, 30]
 refine From_arith (by kernel_rfl : coreAt _ 0 = some (some 31, (.binOp .add 3 (.tmp 23) (.tmp 30) 3), 3, none)) hF (by kernel_rfl) (by kernel_rfl) (k' := 1) rfl (i := ((q : Int) + ((x.phis.length : Nat) : Int))) (j := ((x.insts.length : Nat) : Int)) (z := ((((q + (x.phis.length + x.insts.length) : Nat)) : Int))) (by kernel_rfl) (by kernel_rfl) (congrArg some (by omega)) (by omega) (by omega) ?_
 intro a2 ea _
 refine From_end (by kernel_rfl) ?_; exact op_done (d := some 31) (by kernel_rfl) ea (Kp.refl _) rfl
 intro aC w16 vs hK hv fr
 revert aC; refine zkp [(1, (pT b1 0)), (3, (.int .i64 ((((q + (x.phis.length + x.insts.length) : Nat)) : Int)))), (4, (nV k))] ?_
 have hM17 := hM7.then_ hK
 clear hK hv fr aC hM7; clear vs
 refine zrg <| zpn 1 <| zar ((k : Int) + 1) <| zpn 1 <| zfe ?_
 intro aC fr
 exact ⟨fs.length - (k + 1), by omega, k + 1, q + (x.phis.length + x.insts.length), rfl, fr.kp [1, 3, 4], hM17, by omega, by rw [hq, sizeTo_succ hx]; omega⟩
 refine zex 0 <| zbh <| zsp <| zre <| zo1 (nV q) ?_
 obtain rfl : k = fs.length := by omega
 have hM20 := hM7.od [] 0
 exact ⟨by rw [hq]; rfl, hM20⟩
end Go.Proofs.YtlfbloadopeamaaDoor
namespace Go.Proofs.YtlfbloadopeamaaDoor
open Go.Mor
set_option maxRecDepth 10000 in
theorem name_c (nm : ByteArray) (w : World) :
    Calls Tryd.prog 44 #[(.string nm)] w (Ret fun v w' => v = .bool (decide (nameQ nm)) ∧ Mem noS w w' []) := by
 refine zen 11 [(.string nm)] Tryd.func44 ?_
 have hM := Mem.init w
 refine zsp <| zsr <| zpn 4 ?_
 obtain ⟨B1, hB1⟩ : ∃ B : Bool, B = decide ((((nm).size : Int) : Int) ≥ 1) := ⟨_, rfl⟩
 refine zkp [(0, (.string nm)), (6, (.bool (decide ((((nm).size : Int) : Int) ≥ 1))))] ?_
 rw [← hB1]
 have iB1 : B1 = true ↔ ((((nm).size : Int) : Int) ≥ 1) := by rw [hB1]; simp only [decide_eq_true_eq]
 clear hB1
 intro aC fr
 refine zpk 5 9 [2, 10] fr (news := [(2, (.bool (B1 && decide ((((nm).size : Int) : Int) ≤ 60)))), (10, (.bool (B1 && decide ((((nm).size : Int) : Int) ≤ 60))))]) (by cases B1 <;> kernel_rfl) ?_
 intro aC fr
 revert aC
 refine zfe <| zre <| zo1 (.bool (B1 && decide ((((nm).size : Int) : Int) ≤ 60))) ?_
 have hR : (B1 && decide ((((nm).size : Int) : Int) ≤ 60)) = true ↔ (((((nm).size : Int) : Int) ≥ 1) ∧ ((((nm).size : Int) : Int) ≤ 60)) := by simp only [Bool.and_eq_true, decide_eq_true_eq, iB1]
 exact ⟨bool_dec hR (by unfold nameQ; omega), hM⟩
set_option maxRecDepth 10000 in
theorem rname_c (nm : ByteArray) (w : World) :
    Calls Tryd.prog 24 #[(.string nm)] w (Ret fun v w' => v = .bool (decide (nameQ nm)) ∧ Mem noS w w' []) := by
 refine zen 11 [(.string nm)] Tryd.func24 ?_
 have hM := Mem.init w
 refine zsp <| zsr <| zpn 4 ?_
 obtain ⟨B1, hB1⟩ : ∃ B : Bool, B = decide ((((nm).size : Int) : Int) ≥ 1) := ⟨_, rfl⟩
 refine zkp [(0, (.string nm)), (6, (.bool (decide ((((nm).size : Int) : Int) ≥ 1))))] ?_
 rw [← hB1]
 have iB1 : B1 = true ↔ ((((nm).size : Int) : Int) ≥ 1) := by rw [hB1]; simp only [decide_eq_true_eq]
 clear hB1
 intro aC fr
 refine zpk 5 9 [2, 10] fr (news := [(2, (.bool (B1 && decide ((((nm).size : Int) : Int) ≤ 60)))), (10, (.bool (B1 && decide ((((nm).size : Int) : Int) ≤ 60))))]) (by cases B1 <;> kernel_rfl) ?_
 intro aC fr
 revert aC
 refine zfe <| zre <| zo1 (.bool (B1 && decide ((((nm).size : Int) : Int) ≤ 60))) ?_
 have hR : (B1 && decide ((((nm).size : Int) : Int) ≤ 60)) = true ↔ (((((nm).size : Int) : Int) ≥ 1) ∧ ((((nm).size : Int) : Int) ≤ 60)) := by simp only [Bool.and_eq_true, decide_eq_true_eq, iB1]
 exact ⟨bool_dec hR (by unfold nameQ; omega), hM⟩
set_option maxRecDepth 10000 in
theorem makes_c (op : Int) (w : World) :
    Calls Tryd.prog 72 #[(.int .i64 op)] w (Ret fun v w' => v = .bool (decide (makesQ op)) ∧ Mem noS w w' []) := by
 refine zen 13 [(.int .i64 op)] Tryd.func72 ?_
 have hM := Mem.init w
 refine zsp <| zsr <| zpn 3 ?_
 obtain ⟨B1, hB1⟩ : ∃ B : Bool, B = ((op : Int) != 3) := ⟨_, rfl⟩
 refine zkp [(0, (.int .i64 op)), (5, (.bool ((op : Int) != 3)))] ?_
 rw [← hB1]
 have iB1 : B1 = true ↔ ((op : Int) ≠ 3) := by rw [hB1]; simp only [bne_iff_ne]
 clear hB1
 intro aC fr
 refine zpk 4 7 [8, 9] fr (news := [(8, (.bool (B1 && ((op : Int) != 10)))), (9, (.bool (B1 && ((op : Int) != 10))))]) (by cases B1 <;> kernel_rfl) ?_
 intro aC fr
 obtain ⟨B6, hB6⟩ : ∃ B : Bool, B = (B1 && ((op : Int) != 10)) := ⟨_, rfl⟩
 revert aC
 refine zkp [(0, (.int .i64 op)), (9, (.bool (B1 && ((op : Int) != 10))))] ?_
 rw [← hB6]
 have iB6 : B6 = true ↔ (((op : Int) ≠ 3) ∧ ((op : Int) ≠ 10)) := by rw [hB6]; simp only [Bool.and_eq_true, bne_iff_ne, iB1]
 clear hB6
 intro aC fr
 refine zpk 4 11 [2, 12] fr (news := [(2, (.bool (B6 && ((op : Int) != 11)))), (12, (.bool (B6 && ((op : Int) != 11))))]) (by cases B6 <;> kernel_rfl) ?_
 intro aC fr
 revert aC
 refine zfe <| zre <| zo1 (.bool (B6 && ((op : Int) != 11))) ?_
 have hR : (B6 && ((op : Int) != 11)) = true ↔ ((((op : Int) ≠ 3) ∧ ((op : Int) ≠ 10)) ∧ ((op : Int) ≠ 11)) := by simp only [Bool.and_eq_true, bne_iff_ne, iB6]
 exact ⟨bool_dec hR (by unfold makesQ; omega), hM⟩
set_option maxRecDepth 10000 in
theorem rmakes_c (op : Int) (w : World) :
    Calls Tryd.prog 56 #[(.int .i64 op)] w (Ret fun v w' => v = .bool (decide (makesQ op)) ∧ Mem noS w w' []) := by
 refine zen 13 [(.int .i64 op)] Tryd.func56 ?_
 have hM := Mem.init w
 refine zsp <| zsr <| zpn 3 ?_
 obtain ⟨B1, hB1⟩ : ∃ B : Bool, B = ((op : Int) != 3) := ⟨_, rfl⟩
 refine zkp [(0, (.int .i64 op)), (5, (.bool ((op : Int) != 3)))] ?_
 rw [← hB1]
 have iB1 : B1 = true ↔ ((op : Int) ≠ 3) := by rw [hB1]; simp only [bne_iff_ne]
 clear hB1
 intro aC fr
 refine zpk 4 7 [8, 9] fr (news := [(8, (.bool (B1 && ((op : Int) != 10)))), (9, (.bool (B1 && ((op : Int) != 10))))]) (by cases B1 <;> kernel_rfl) ?_
 intro aC fr
 obtain ⟨B6, hB6⟩ : ∃ B : Bool, B = (B1 && ((op : Int) != 10)) := ⟨_, rfl⟩
 revert aC
 refine zkp [(0, (.int .i64 op)), (9, (.bool (B1 && ((op : Int) != 10))))] ?_
 rw [← hB6]
 have iB6 : B6 = true ↔ (((op : Int) ≠ 3) ∧ ((op : Int) ≠ 10)) := by rw [hB6]; simp only [Bool.and_eq_true, bne_iff_ne, iB1]
 clear hB6
 intro aC fr
 refine zpk 4 11 [2, 12] fr (news := [(2, (.bool (B6 && ((op : Int) != 11)))), (12, (.bool (B6 && ((op : Int) != 11))))]) (by cases B6 <;> kernel_rfl) ?_
 intro aC fr
 revert aC
 refine zfe <| zre <| zo1 (.bool (B6 && ((op : Int) != 11))) ?_
 have hR : (B6 && ((op : Int) != 11)) = true ↔ ((((op : Int) ≠ 3) ∧ ((op : Int) ≠ 10)) ∧ ((op : Int) ≠ 11)) := by simp only [Bool.and_eq_true, bne_iff_ne, iB6]
 exact ⟨bool_dec hR (by unfold makesQ; omega), hM⟩
set_option maxRecDepth 10000 in
theorem code_c (n : Int) (w : World) :
    Calls Tryd.prog 69 #[(.int .i64 n)] w (Ret fun v w' => v = .bool (decide (codeQ n)) ∧ Mem noS w w' []) := by
 refine zen 9 [(.int .i64 n)] Tryd.func69 ?_
 have hM := Mem.init w
 refine zsp <| zsr <| zpn 3 ?_
 obtain ⟨B1, hB1⟩ : ∃ B : Bool, B = decide ((n : Int) ≥ 1) := ⟨_, rfl⟩
 refine zkp [(0, (.int .i64 n)), (5, (.bool (decide ((n : Int) ≥ 1))))] ?_
 rw [← hB1]
 have iB1 : B1 = true ↔ ((n : Int) ≥ 1) := by rw [hB1]; simp only [decide_eq_true_eq]
 clear hB1
 intro aC fr
 refine zpk 4 7 [2, 8] fr (news := [(2, (.bool (B1 && decide ((n : Int) ≤ 999)))), (8, (.bool (B1 && decide ((n : Int) ≤ 999))))]) (by cases B1 <;> kernel_rfl) ?_
 intro aC fr
 revert aC
 refine zfe <| zre <| zo1 (.bool (B1 && decide ((n : Int) ≤ 999))) ?_
 have hR : (B1 && decide ((n : Int) ≤ 999)) = true ↔ (((n : Int) ≥ 1) ∧ ((n : Int) ≤ 999)) := by simp only [Bool.and_eq_true, decide_eq_true_eq, iB1]
 exact ⟨bool_dec hR (by unfold codeQ; omega), hM⟩
set_option maxRecDepth 10000 in
theorem place_c (n : Int) (w : World) :
    Calls Tryd.prog 79 #[(.int .i64 n)] w (Ret fun v w' => v = .bool (decide (placeQ n)) ∧ Mem noS w w' []) := by
 refine zen 9 [(.int .i64 n)] Tryd.func79 ?_
 have hM := Mem.init w
 refine zsp <| zsr <| zpn 3 ?_
 obtain ⟨B1, hB1⟩ : ∃ B : Bool, B = decide ((n : Int) ≥ 0) := ⟨_, rfl⟩
 refine zkp [(0, (.int .i64 n)), (5, (.bool (decide ((n : Int) ≥ 0))))] ?_
 rw [← hB1]
 have iB1 : B1 = true ↔ ((n : Int) ≥ 0) := by rw [hB1]; simp only [decide_eq_true_eq]
 clear hB1
 intro aC fr
 refine zpk 4 7 [2, 8] fr (news := [(2, (.bool (B1 && decide ((n : Int) ≤ 2147483647)))), (8, (.bool (B1 && decide ((n : Int) ≤ 2147483647))))]) (by cases B1 <;> kernel_rfl) ?_
 intro aC fr
 revert aC
 refine zfe <| zre <| zo1 (.bool (B1 && decide ((n : Int) ≤ 2147483647))) ?_
 have hR : (B1 && decide ((n : Int) ≤ 2147483647)) = true ↔ (((n : Int) ≥ 0) ∧ ((n : Int) ≤ 2147483647)) := by simp only [Bool.and_eq_true, decide_eq_true_eq, iB1]
 exact ⟨bool_dec hR (by unfold placeQ; omega), hM⟩
end Go.Proofs.YtlfbloadopeamaaDoor
namespace Go.Proofs.YtlfbloadopeamaaDoor
open Go.Mor
set_option maxRecDepth 10000 in
theorem truth_c (b : Bool) (w : World) :
    Calls Tryd.prog 87 #[(.bool b)] w (Ret fun v w' => v = .int .i64 (truthI b) ∧ Mem noS w w' []) := by
 refine zen 4 [(.bool b)] Tryd.func87 ?_
 have hM := Mem.init w
 refine zsp <| zsq <| zsp ?_
 cases b
 refine zcF <| zsk <| zsp <| zre <| zo1 (.int .i64 0) ?_
 exact ⟨rfl, hM⟩
 refine zcT <| zsp <| zre <| zo1 (.int .i64 1) ?_
 exact ⟨rfl, hM⟩
set_option maxRecDepth 10000 in
theorem shift1_c (w : World) :
    Calls Tryd.prog 86 #[(.int .i64 1)] w (Ret fun v w' => v = .int .u64 1 ∧ Mem noS w w' []) := by
 refine zen 6 [(.int .i64 1)] Tryd.func86 ?_
 have hM := Mem.init w
 refine zsp <| zsr <| zpn 1 ?_
 intro aC fr
 refine From_conv (by kernel_rfl : coreAt _ 1 = some (some 4, (.convert 2 86 (.tmp 3)), 86, none)) fr (by kernel_rfl) (by kernel_rfl) (k' := 2) rfl (kd := .i64) (kd' := .u64) (i := 1) (z := 1) (by kernel_rfl) Tryd.underlying2 Tryd.underlying86 (IntWalk.u64_in _ (by omega)) ?_
 intro aC ea fr; clear ea
 refine From_binI (by kernel_rfl : coreAt _ 2 = some (some 5, (.binOp .and 86 (.tmp 4) (.const (.int .u64 63)) 86), 86, none)) fr (by kernel_rfl) (by kernel_rfl) (k' := 3) rfl (kd := .u64) (kd' := .u64) (i := 1) (j := 63) (z := .int .u64 1) (by kernel_rfl) (by kernel_rfl) (fun w => rfl) ?_
 intro aC ea fr; clear ea
 revert aC
 refine zpn 1 <| zfe <| zre <| zo1 (.int .u64 1) ?_
 exact ⟨rfl, hM⟩
set_option maxRecDepth 10000 in
theorem quot1_c (op : Int) (w : World) :
    Calls Tryd.prog 85 #[(.int .i64 op), (.int .i64 1), (.int .i64 1)] w (Ret fun v w' => ∃ z, v = .tuple #[.int .i64 z, .int .i64 0] ∧ Mem noS w w' []) := by
 refine zen 32 [(.int .i64 op), (.int .i64 1), (.int .i64 1)] Tryd.func85 ?_
 have hM := Mem.init w
 refine zsp <| zsq <| zbk 0 <| zsp <| zcF <| zsp <| zcF <| zsp <| zcF <| zsp <| zcP ((op : Int) == 4) ((op : Int) = 4) (by simp only [beq_iff_eq]) (fun c1 => ?_) (fun c1 => ?_)
 refine zsr <| zpn 2 ?_
 intro aC fr
 refine From_binI (by kernel_rfl : coreAt _ 2 = some (some 28, (.binOp .quo 2 (.tmp 26) (.tmp 27) 2), 2, none)) fr (by kernel_rfl) (by kernel_rfl) (k' := 3) rfl (kd := .i64) (kd' := .i64) (i := 1) (j := 1) (z := .int .i64 1) (by kernel_rfl) (by kernel_rfl) (fun w => rfl) ?_
 intro aC ea fr; clear ea
 revert aC
 refine zpn 2 <| zfe <| zre <| zbr <| zo2 (.int .i64 1) (.int .i64 0) ?_
 exact ⟨_, rfl, hM⟩
 refine zsk <| zsr <| zpn 2 ?_
 intro aC fr
 refine From_binI (by kernel_rfl : coreAt _ 2 = some (some 31, (.binOp .rem 2 (.tmp 29) (.tmp 30) 2), 2, none)) fr (by kernel_rfl) (by kernel_rfl) (k' := 3) rfl (kd := .i64) (kd' := .i64) (i := 1) (j := 1) (z := .int .i64 0) (by kernel_rfl) (by kernel_rfl) (fun w => rfl) ?_
 intro aC ea fr; clear ea
 revert aC
 refine zpn 2 <| zfe <| zre <| zo2 (.int .i64 0) (.int .i64 0) ?_
 exact ⟨_, rfl, hM⟩
set_option maxRecDepth 10000 in
theorem bin1_c (op : Int) (w : World) :
    Calls Tryd.prog 80 #[(.int .i64 op), (.int .i64 1), (.int .i64 1)] w (Ret fun v w' => ∃ z cd, v = .tuple #[.int .i64 z, .int .i64 cd] ∧ (cd = 0 ↔ 1 ≤ op ∧ op ≤ 16) ∧ Mem noS w w' []) := by
 refine zen 96 [(.int .i64 op), (.int .i64 1), (.int .i64 1)] Tryd.func80 ?_
 have hM := Mem.init w
 refine zsp <| zsq <| zsp <| zbk 0 <| zsp <| zcP ((op : Int) == 1) ((op : Int) = 1) (by simp only [beq_iff_eq]) (fun c1 => ?_) (fun c1 => ?_)
 refine zsr <| zpn 2 <| zar (1 + 1) <| zpn 2 <| zfe <| zre <| zbr <| zo2 (.int .i64 (1 + 1)) (.int .i64 0) ?_
 exact ⟨_, _, rfl, by omega, hM⟩
 refine zsp <| zcP ((op : Int) == 2) ((op : Int) = 2) (by simp only [beq_iff_eq]) (fun c2 => ?_) (fun c2 => ?_)
 refine zsr <| zpn 2 <| zar (1 - 1) <| zpn 2 <| zfe <| zre <| zbr <| zo2 (.int .i64 (1 - 1)) (.int .i64 0) ?_
 exact ⟨_, _, rfl, by omega, hM⟩
 refine zsp <| zcP ((op : Int) == 3) ((op : Int) = 3) (by simp only [beq_iff_eq]) (fun c3 => ?_) (fun c3 => ?_)
 refine zsr <| zpn 2 <| zar (1 * 1) <| zpn 2 <| zfe <| zre <| zbr <| zo2 (.int .i64 (1 * 1)) (.int .i64 0) ?_
 exact ⟨_, _, rfl, by omega, hM⟩
 refine zsq <| zsp ?_
 obtain ⟨B4, hB4⟩ : ∃ B : Bool, B = ((op : Int) == 4) := ⟨_, rfl⟩
 refine zkp [(0, (.int .i64 op)), (1, (.int .i64 1)), (2, (.int .i64 1)), (8, (.int .i64 op)), (24, (.bool ((op : Int) == 4)))] ?_
 rw [← hB4]
 have iB4 : B4 = true ↔ ((op : Int) = 4) := by rw [hB4]; simp only [beq_iff_eq]
 clear hB4
 cases B4
 have c4 : ¬ ((op : Int) = 4) := (fun h => Bool.noConfusion (iB4.2 h) : ¬ ((op : Int) = 4))
 refine zcF <| zrp <| zcP ((op : Int) == 5) ((op : Int) = 5) (by simp only [beq_iff_eq]) (fun c5 => ?_) (fun c5 => ?_)
 refine zsr <| zpn 3 <| zcl (quot1_c op w) ?_
 rintro _ w7 ⟨z6, rfl, hM8x⟩
 have hM8 := hM.cl hM8x
 clear hM8x hM
 refine zpn 4 <| zfe <| zre <| zbr <| zo2 (.int .i64 z6) (.int .i64 0) ?_
 exact ⟨_, _, rfl, by omega, hM8⟩
 refine zsp <| zcP ((op : Int) == 6) ((op : Int) = 6) (by simp only [beq_iff_eq]) (fun c9 => ?_) (fun c9 => ?_)
 refine zsr <| zpn 2 ?_
 intro aC fr
 refine From_binI (by kernel_rfl : coreAt _ 2 = some (some 37, (.binOp .and 2 (.tmp 35) (.tmp 36) 2), 2, none)) fr (by kernel_rfl) (by kernel_rfl) (k' := 3) rfl (kd := .i64) (kd' := .i64) (i := 1) (j := 1) (z := .int .i64 1) (by kernel_rfl) (by kernel_rfl) (fun w => rfl) ?_
 intro aC ea fr; clear ea
 revert aC
 refine zpn 2 <| zfe <| zre <| zbr <| zo2 (.int .i64 1) (.int .i64 0) ?_
 exact ⟨_, _, rfl, by omega, hM⟩
 refine zsp <| zcP ((op : Int) == 7) ((op : Int) = 7) (by simp only [beq_iff_eq]) (fun c14 => ?_) (fun c14 => ?_)
 refine zsr <| zpn 2 ?_
 intro aC fr
 refine From_binI (by kernel_rfl : coreAt _ 2 = some (some 42, (.binOp .or 2 (.tmp 40) (.tmp 41) 2), 2, none)) fr (by kernel_rfl) (by kernel_rfl) (k' := 3) rfl (kd := .i64) (kd' := .i64) (i := 1) (j := 1) (z := .int .i64 1) (by kernel_rfl) (by kernel_rfl) (fun w => rfl) ?_
 intro aC ea fr; clear ea
 revert aC
 refine zpn 2 <| zfe <| zre <| zbr <| zo2 (.int .i64 1) (.int .i64 0) ?_
 exact ⟨_, _, rfl, by omega, hM⟩
 refine zsp <| zcP ((op : Int) == 8) ((op : Int) = 8) (by simp only [beq_iff_eq]) (fun c19 => ?_) (fun c19 => ?_)
 refine zsr <| zpn 2 ?_
 intro aC fr
 refine From_binI (by kernel_rfl : coreAt _ 2 = some (some 47, (.binOp .xor 2 (.tmp 45) (.tmp 46) 2), 2, none)) fr (by kernel_rfl) (by kernel_rfl) (k' := 3) rfl (kd := .i64) (kd' := .i64) (i := 1) (j := 1) (z := .int .i64 0) (by kernel_rfl) (by kernel_rfl) (fun w => rfl) ?_
 intro aC ea fr; clear ea
 revert aC
 refine zpn 2 <| zfe <| zre <| zbr <| zo2 (.int .i64 0) (.int .i64 0) ?_
 exact ⟨_, _, rfl, by omega, hM⟩
 refine zsp <| zcP ((op : Int) == 9) ((op : Int) = 9) (by simp only [beq_iff_eq]) (fun c24 => ?_) (fun c24 => ?_)
 refine zsr <| zpn 2 <| zcl (shift1_c w) ?_
 rintro _ w25 ⟨rfl, hM26x⟩
 have hM26 := hM.cl hM26x
 clear hM26x hM
 intro aC fr
 refine From_binI (by kernel_rfl : coreAt _ 3 = some (some 53, (.binOp .shl 2 (.tmp 50) (.tmp 52) 86), 2, none)) fr (by kernel_rfl) (by kernel_rfl) (k' := 4) rfl (kd := .i64) (kd' := .u64) (i := 1) (j := 1) (z := .int .i64 2) (by kernel_rfl) (by kernel_rfl) (fun w => rfl) ?_
 intro aC ea fr; clear ea
 revert aC
 refine zpn 2 <| zfe <| zre <| zbr <| zo2 (.int .i64 2) (.int .i64 0) ?_
 exact ⟨_, _, rfl, by omega, hM26⟩
 refine zsp <| zcP ((op : Int) == 10) ((op : Int) = 10) (by simp only [beq_iff_eq]) (fun c31 => ?_) (fun c31 => ?_)
 refine zsr <| zpn 2 <| zcl (shift1_c w) ?_
 rintro _ w32 ⟨rfl, hM33x⟩
 have hM33 := hM.cl hM33x
 clear hM33x hM
 intro aC fr
 refine From_binI (by kernel_rfl : coreAt _ 3 = some (some 59, (.binOp .shr 2 (.tmp 56) (.tmp 58) 86), 2, none)) fr (by kernel_rfl) (by kernel_rfl) (k' := 4) rfl (kd := .i64) (kd' := .u64) (i := 1) (j := 1) (z := .int .i64 0) (by kernel_rfl) (by kernel_rfl) (fun w => rfl) ?_
 intro aC ea fr; clear ea
 revert aC
 refine zpn 2 <| zfe <| zre <| zbr <| zo2 (.int .i64 0) (.int .i64 0) ?_
 exact ⟨_, _, rfl, by omega, hM33⟩
 refine zsp <| zcP ((op : Int) == 11) ((op : Int) = 11) (by simp only [beq_iff_eq]) (fun c38 => ?_) (fun c38 => ?_)
 refine zsr <| zpn 3 <| zcl (truth_c true w) ?_
 rintro _ w39 ⟨rfl, hM40x⟩
 have hM40 := hM.cl hM40x
 clear hM40x hM
 refine zpn 2 <| zfe <| zre <| zbr <| zo2 (.int .i64 (truthI true)) (.int .i64 0) ?_
 exact ⟨_, _, rfl, by omega, hM40⟩
 refine zsp <| zcP ((op : Int) == 12) ((op : Int) = 12) (by simp only [beq_iff_eq]) (fun c41 => ?_) (fun c41 => ?_)
 refine zsr <| zpn 3 <| zcl (truth_c false w) ?_
 rintro _ w42 ⟨rfl, hM43x⟩
 have hM43 := hM.cl hM43x
 clear hM43x hM
 refine zpn 2 <| zfe <| zre <| zbr <| zo2 (.int .i64 (truthI false)) (.int .i64 0) ?_
 exact ⟨_, _, rfl, by omega, hM43⟩
 refine zsp <| zcP ((op : Int) == 13) ((op : Int) = 13) (by simp only [beq_iff_eq]) (fun c44 => ?_) (fun c44 => ?_)
 refine zsr <| zpn 3 <| zcl (truth_c false w) ?_
 rintro _ w45 ⟨rfl, hM46x⟩
 have hM46 := hM.cl hM46x
 clear hM46x hM
 refine zpn 2 <| zfe <| zre <| zbr <| zo2 (.int .i64 (truthI false)) (.int .i64 0) ?_
 exact ⟨_, _, rfl, by omega, hM46⟩
 refine zsp <| zcP ((op : Int) == 14) ((op : Int) = 14) (by simp only [beq_iff_eq]) (fun c47 => ?_) (fun c47 => ?_)
 refine zsr <| zpn 3 <| zcl (truth_c true w) ?_
 rintro _ w48 ⟨rfl, hM49x⟩
 have hM49 := hM.cl hM49x
 clear hM49x hM
 refine zkp [(83, (.int .i64 (truthI true)))] <| zpn 2 <| zfe <| zre <| zbr <| zo2 (.int .i64 (truthI true)) (.int .i64 0) ?_
 exact ⟨_, _, rfl, by omega, hM49⟩
 refine zsp <| zcP ((op : Int) == 15) ((op : Int) = 15) (by simp only [beq_iff_eq]) (fun c50 => ?_) (fun c50 => ?_)
 refine zsr <| zpn 3 <| zcl (truth_c false w) ?_
 rintro _ w51 ⟨rfl, hM52x⟩
 have hM52 := hM.cl hM52x
 clear hM52x hM
 refine zkp [(89, (.int .i64 (truthI false)))] <| zpn 2 <| zfe <| zre <| zbr <| zo2 (.int .i64 (truthI false)) (.int .i64 0) ?_
 exact ⟨_, _, rfl, by omega, hM52⟩
 refine zsp <| zcP ((op : Int) == 16) ((op : Int) = 16) (by simp only [beq_iff_eq]) (fun c53 => ?_) (fun c53 => ?_)
 refine zsr <| zpn 3 <| zcl (truth_c true w) ?_
 rintro _ w54 ⟨rfl, hM55x⟩
 have hM55 := hM.cl hM55x
 clear hM55x hM
 refine zkp [(95, (.int .i64 (truthI true)))] <| zpn 2 <| zfe <| zre <| zbr <| zo2 (.int .i64 (truthI true)) (.int .i64 0) ?_
 exact ⟨_, _, rfl, by omega, hM55⟩
 refine zsk <| zsp <| zre <| zo2 (.int .i64 0) (.int .i64 (-1)) ?_
 exact ⟨_, _, rfl, by omega, hM⟩
 have c4 : ((op : Int) = 4) := iB4.1 rfl
 refine zcT <| zsk <| zcT <| zsr <| zpn 3 <| zcl (quot1_c op w) ?_
 rintro _ w57 ⟨z56, rfl, hM58x⟩
 have hM58 := hM.cl hM58x
 clear hM58x hM
 refine zpn 4 <| zfe <| zre <| zbr <| zo2 (.int .i64 z56) (.int .i64 0) ?_
 exact ⟨_, _, rfl, by omega, hM58⟩
set_option maxRecDepth 10000 in
theorem un1_c (op : Int) (w : World) :
    Calls Tryd.prog 81 #[(.int .i64 op), (.int .i64 1)] w (Ret fun v w' => ∃ z cd, v = .tuple #[.int .i64 z, .int .i64 cd] ∧ (cd = 0 ↔ 1 ≤ op ∧ op ≤ 3) ∧ Mem noS w w' []) := by
 refine zen 20 [(.int .i64 op), (.int .i64 1)] Tryd.func81 ?_
 have hM := Mem.init w
 refine zsp <| zsq <| zsp <| zbk 0 <| zsp <| zcP ((op : Int) == 1) ((op : Int) = 1) (by simp only [beq_iff_eq]) (fun c1 => ?_) (fun c1 => ?_)
 refine zsr <| zpn 1 ?_
 intro aC fr
 refine From_unI (by kernel_rfl : coreAt _ 1 = some (some 10, (.unOp .neg 2 (.tmp 9)), 2, none)) fr (by kernel_rfl) (by kernel_rfl) (k' := 2) rfl (kd := .i64) (i := 1) (z := .int .i64 (-1)) (by kernel_rfl) (fun w => rfl) ?_
 intro aC ea fr; clear ea
 revert aC
 refine zpn 2 <| zfe <| zre <| zbr <| zo2 (.int .i64 (-1)) (.int .i64 0) ?_
 exact ⟨_, _, rfl, by omega, hM⟩
 refine zsp <| zcP ((op : Int) == 2) ((op : Int) = 2) (by simp only [beq_iff_eq]) (fun c6 => ?_) (fun c6 => ?_)
 refine zsr <| zpn 1 ?_
 intro aC fr
 refine From_unI (by kernel_rfl : coreAt _ 1 = some (some 14, (.unOp .xor 2 (.tmp 13)), 2, none)) fr (by kernel_rfl) (by kernel_rfl) (k' := 2) rfl (kd := .i64) (i := 1) (z := .int .i64 (-2)) (by kernel_rfl) (fun w => rfl) ?_
 intro aC ea fr; clear ea
 revert aC
 refine zpn 2 <| zfe <| zre <| zbr <| zo2 (.int .i64 (-2)) (.int .i64 0) ?_
 exact ⟨_, _, rfl, by omega, hM⟩
 refine zsp <| zcP ((op : Int) == 3) ((op : Int) = 3) (by simp only [beq_iff_eq]) (fun c11 => ?_) (fun c11 => ?_)
 refine zsr <| zpn 2 <| zcl (truth_c false w) ?_
 rintro _ w12 ⟨rfl, hM13x⟩
 have hM13 := hM.cl hM13x
 clear hM13x hM
 refine zpn 2 <| zfe <| zre <| zbr <| zo2 (.int .i64 (truthI false)) (.int .i64 0) ?_
 exact ⟨_, _, rfl, by omega, hM13⟩
 refine zsk <| zsp <| zre <| zo2 (.int .i64 0) (.int .i64 (-1)) ?_
 exact ⟨_, _, rfl, by omega, hM⟩
set_option maxRecDepth 10000 in
theorem shape_c (i : FIns) (w : World) (hi : i.Ok) :
    Calls Tryd.prog 71 #[(.agg #[(.int .i64 i.op), (.int .i64 i.dst), (.int .i64 i.n), (.string i.name), (.slice i.A i.args.length i.c)])] w (Ret fun v w' => v = .bool (decide (shapeQ i)) ∧ Mem noS w w' []) := by
 have ho : -9223372036854775808 ≤ i.op ∧ i.op ≤ 9223372036854775807 := hi.op
 refine zen 175 [(.agg #[(.int .i64 i.op), (.int .i64 i.dst), (.int .i64 i.n), (.string i.name), (.slice i.A i.args.length i.c)])] Tryd.func71 ?_
 have hM := Mem.init w
 refine zsr <| zbx hM 40 (.agg #[(.int .i64 i.op), (.int .i64 i.dst), (.int .i64 i.n), (.string i.name), (.slice i.A i.args.length i.c)]) (iV i) fun b1 w2 hb1 hM3 => ?_
 replace hM3 := hM3.nf
 clear hM
 refine zpn 1 <| zfe <| zsq ?_
 obtain ⟨B4, hB4⟩ : ∃ B : Bool, B = (i.n == 0) := ⟨_, rfl⟩
 refine zkp [(1, (pT b1 0))] ?_
 intro aC fr
 refine zdr (N := 175) (env0 := [(1, (pT b1 0))]) (specAt [.det (pT b1 2), .det (.int .i64 i.n), .det (.bool B4), .det (pT b1 4), .det (.slice i.A i.args.length i.c), .det (.int .i64 ((i.args.length : Nat) : Int)), .det (.bool B4), .det (.int .i64 ((i.args.length : Nat) : Int))]) fr (la (la (la (la (la (la (la (la lz dP) (dL ⟨b1, 2, none⟩ (.int .i64 i.n) fun w_ hK => (blk_cell ((hM3.then_ hK).get 0 rfl) rfl))) (dC (i.n == 0) hB4)) dP) (dL ⟨b1, 4, none⟩ (.slice i.A i.args.length i.c) fun w_ hK => (blk_cell ((hM3.then_ hK).get 0 rfl) rfl))) dP) dP) dP) ?_
 intro aC w9 vs hK hv fr
 revert aC; refine zkp [(1, (pT b1 0)), (3, (.bool B4)), (4, (.int .i64 ((i.args.length : Nat) : Int)))] ?_
 have hM10 := hM3.then_ hK
 clear hK hv fr aC hM3; clear vs
 have iB4 : B4 = true ↔ ((i.n : Int) = 0) := by rw [hB4]; simp only [beq_iff_eq]
 clear hB4
 refine zsr <| zpn 1 <| zld ⟨b1, 3, none⟩ (.string i.name) (blk_cell (hM10.get 0 rfl) rfl) <| zpn 2 <| zfe <| zsq <| zsr <| zpn 1 <| zld ⟨b1, 0, none⟩ (.int .i64 i.op) (blk_cell (hM10.get 0 rfl) rfl) <| zcl (makes_c i.op w9) ?_
 rintro _ w11 ⟨rfl, hM12x⟩
 have hM12 := hM10.cl hM12x
 refine zpn 2 ?_
 obtain ⟨B13, hB13⟩ : ∃ B : Bool, B = (!(decide (makesQ i.op))) := ⟨_, rfl⟩
 refine zkp [(1, (pT b1 0)), (3, (.bool B4)), (4, (.int .i64 ((i.args.length : Nat) : Int))), (5, (.bool ((i.name : ByteArray).toList == (⟨#[]⟩ : ByteArray).toList))), (23, (.bool (!(decide (makesQ i.op)))))] ?_
 rw [← hB13]
 have iB13 : B13 = true ↔ (¬ (makesQ i.op)) := by rw [hB13]; simp only [notT, decide_eq_true_eq]
 clear hB13
 intro aC fr
 refine zpk 1 6 [24] fr (news := [(24, (cond B13 (pT b1 1) undef))]) (by cases B13 <;> kernel_rfl) ?_
 intro aC fr
 refine From_either (B := B13) (d := (some 25)) (.int .i64 i.dst) fr (by cases B13 <;> kernel_rfl) (fun hB hh => ?_) ?_
 cases B13 <;> first | (exact absurd hB (by decide)) | skip
 have c13 : (¬ (makesQ i.op)) := iB13.1 rfl
 exact From_ld (some 25) ⟨b1, 1, none⟩ fr (by kernel_rfl) (.int .i64 i.dst) (blk_cell (hM12.get 0 rfl) rfl) hh
 intro aC fr
 refine zpk 2 9 [27] fr (news := [(27, (.bool (B13 && ((i.dst : Int) != (-1)))))]) (by cases B13 <;> kernel_rfl) ?_
 intro aC fr
 revert aC
 refine zfe <| zcP (B13 && ((i.dst : Int) != (-1))) ((¬ (makesQ i.op)) ∧ ((i.dst : Int) ≠ (-1))) (by simp only [Bool.and_eq_true, bne_iff_ne, iB13]) (fun c22 => ?_) (fun c22 => ?_)
 refine zsp <| zre <| zo1 (.bool false) ?_
 have hR : false = true ↔ False := by simp
 have hM23 := hM12.od [] 0
 exact ⟨bool_dec hR (shape_not c22), hM23⟩
 refine zsk <| zsq <| zsr <| zpn 1 <| zld ⟨b1, 0, none⟩ (.int .i64 i.op) (blk_cell (hM12.get 0 rfl) rfl) <| zfe <| zbk 0 <| zsp <| zcP ((i.op : Int) == 1) ((i.op : Int) = 1) (by simp only [beq_iff_eq]) (fun c24 => ?_) (fun c24 => ?_)
 refine zsr <| zpn 2 ?_
 obtain ⟨B25, hB25⟩ : ∃ B : Bool, B = ((i.name : ByteArray).toList == (⟨#[]⟩ : ByteArray).toList) := ⟨_, rfl⟩
 refine zkp [(4, (.int .i64 ((i.args.length : Nat) : Int))), (33, (.bool ((i.name : ByteArray).toList == (⟨#[]⟩ : ByteArray).toList)))] ?_
 rw [← hB25]
 have iB25 : B25 = true ↔ ((i.name).size = 0) := by rw [hB25]; simp only [seq_nil]
 clear hB25
 intro aC fr
 refine zpk 4 6 [2, 36] fr (news := [(2, (.bool (B25 && ((((i.args.length : Nat) : Int) : Int) == 0)))), (36, (.bool (B25 && ((((i.args.length : Nat) : Int) : Int) == 0))))]) (by cases B25 <;> kernel_rfl) ?_
 intro aC fr
 revert aC
 refine zfe <| zre <| zbr <| zo1 (.bool (B25 && ((((i.args.length : Nat) : Int) : Int) == 0))) ?_
 have hR : (B25 && ((((i.args.length : Nat) : Int) : Int) == 0)) = true ↔ (((i.name).size = 0) ∧ ((((i.args.length : Nat) : Int) : Int) = 0)) := by simp only [Bool.and_eq_true, beq_iff_eq, iB25]
 have hM30 := hM12.od [] 0
 exact ⟨bool_dec hR (by rw [shape_1 (by omega)]; simp only [makesQ, nameQ, codeQ, placeQ] at *; omega), hM30⟩
 refine zsq <| zsp ?_
 obtain ⟨B31, hB31⟩ : ∃ B : Bool, B = ((i.op : Int) == 12) := ⟨_, rfl⟩
 refine zkp [(1, (pT b1 0)), (3, (.bool B4)), (4, (.int .i64 ((i.args.length : Nat) : Int))), (5, (.bool ((i.name : ByteArray).toList == (⟨#[]⟩ : ByteArray).toList))), (29, (.int .i64 i.op)), (37, (.bool ((i.op : Int) == 12)))] ?_
 rw [← hB31]
 have iB31 : B31 = true ↔ ((i.op : Int) = 12) := by rw [hB31]; simp only [beq_iff_eq]
 clear hB31
 cases B31
 have c31 : ¬ ((i.op : Int) = 12) := (fun h => Bool.noConfusion (iB31.2 h) : ¬ ((i.op : Int) = 12))
 refine zcF <| zsp ?_
 obtain ⟨B32, hB32⟩ : ∃ B : Bool, B = ((i.op : Int) == 8) := ⟨_, rfl⟩
 refine zkp [(1, (pT b1 0)), (3, (.bool B4)), (4, (.int .i64 ((i.args.length : Nat) : Int))), (5, (.bool ((i.name : ByteArray).toList == (⟨#[]⟩ : ByteArray).toList))), (29, (.int .i64 i.op)), (37, (.bool ((i.op : Int) == 8)))] ?_
 rw [← hB32]
 have iB32 : B32 = true ↔ ((i.op : Int) = 8) := by rw [hB32]; simp only [beq_iff_eq]
 clear hB32
 cases B32
 have c32 : ¬ ((i.op : Int) = 8) := (fun h => Bool.noConfusion (iB32.2 h) : ¬ ((i.op : Int) = 8))
 refine zcF <| zrp <| zcP ((i.op : Int) == 10) ((i.op : Int) = 10) (by simp only [beq_iff_eq]) (fun c33 => ?_) (fun c33 => ?_)
 refine zsr ?_
 intro aC fr
 refine zpk 5 5 [41, 42, 44, 45] fr (news := [(41, (.bool B4)), (42, (.bool B4)), (44, (.bool (B4 && ((i.name : ByteArray).toList == (⟨#[]⟩ : ByteArray).toList)))), (45, (.bool (B4 && ((i.name : ByteArray).toList == (⟨#[]⟩ : ByteArray).toList))))]) (by cases B4 <;> kernel_rfl) ?_
 intro aC fr
 obtain ⟨B38, hB38⟩ : ∃ B : Bool, B = (B4 && ((i.name : ByteArray).toList == (⟨#[]⟩ : ByteArray).toList)) := ⟨_, rfl⟩
 revert aC
 refine zkp [(4, (.int .i64 ((i.args.length : Nat) : Int))), (45, (.bool (B4 && ((i.name : ByteArray).toList == (⟨#[]⟩ : ByteArray).toList))))] ?_
 rw [← hB38]
 have iB38 : B38 = true ↔ (((i.n : Int) = 0) ∧ ((i.name).size = 0)) := by rw [hB38]; simp only [Bool.and_eq_true, seq_nil, iB4]
 clear hB38
 intro aC fr
 refine zpk 4 9 [2, 48] fr (news := [(2, (.bool (B38 && ((((i.args.length : Nat) : Int) : Int) == 1)))), (48, (.bool (B38 && ((((i.args.length : Nat) : Int) : Int) == 1))))]) (by cases B38 <;> kernel_rfl) ?_
 intro aC fr
 revert aC
 refine zfe <| zre <| zbr <| zo1 (.bool (B38 && ((((i.args.length : Nat) : Int) : Int) == 1))) ?_
 have hR : (B38 && ((((i.args.length : Nat) : Int) : Int) == 1)) = true ↔ ((((i.n : Int) = 0) ∧ ((i.name).size = 0)) ∧ ((((i.args.length : Nat) : Int) : Int) = 1)) := by simp only [Bool.and_eq_true, beq_iff_eq, iB38]
 have hM43 := hM12.od [] 0
 exact ⟨bool_dec hR (by rw [shape_10 (by omega)]; simp only [makesQ, nameQ, codeQ, placeQ] at *; omega), hM43⟩
 refine zsp <| zcP ((i.op : Int) == 2) ((i.op : Int) = 2) (by simp only [beq_iff_eq]) (fun c44 => ?_) (fun c44 => ?_)
 refine zsr <| zpn 1 <| zld ⟨b1, 2, none⟩ (.int .i64 i.n) (blk_cell (hM12.get 0 rfl) rfl) <| zcl (place_c i.n w11) ?_
 rintro _ w45 ⟨rfl, hM46x⟩
 have hM46 := hM12.cl hM46x
 refine zpn 1 ?_
 obtain ⟨B47, hB47⟩ : ∃ B : Bool, B = decide (placeQ i.n) := ⟨_, rfl⟩
 refine zkp [(4, (.int .i64 ((i.args.length : Nat) : Int))), (5, (.bool ((i.name : ByteArray).toList == (⟨#[]⟩ : ByteArray).toList))), (54, (.bool (decide (placeQ i.n))))] ?_
 rw [← hB47]
 have iB47 : B47 = true ↔ (placeQ i.n) := by rw [hB47]; simp only [decide_eq_true_eq]
 clear hB47
 intro aC fr
 refine zpk 3 7 [56, 57] fr (news := [(56, (.bool (B47 && ((i.name : ByteArray).toList == (⟨#[]⟩ : ByteArray).toList)))), (57, (.bool (B47 && ((i.name : ByteArray).toList == (⟨#[]⟩ : ByteArray).toList))))]) (by cases B47 <;> kernel_rfl) ?_
 intro aC fr
 obtain ⟨B52, hB52⟩ : ∃ B : Bool, B = (B47 && ((i.name : ByteArray).toList == (⟨#[]⟩ : ByteArray).toList)) := ⟨_, rfl⟩
 revert aC
 refine zkp [(4, (.int .i64 ((i.args.length : Nat) : Int))), (57, (.bool (B47 && ((i.name : ByteArray).toList == (⟨#[]⟩ : ByteArray).toList))))] ?_
 rw [← hB52]
 have iB52 : B52 = true ↔ ((placeQ i.n) ∧ ((i.name).size = 0)) := by rw [hB52]; simp only [Bool.and_eq_true, seq_nil, iB47]
 clear hB52
 intro aC fr
 refine zpk 4 11 [2, 60] fr (news := [(2, (.bool (B52 && ((((i.args.length : Nat) : Int) : Int) == 1)))), (60, (.bool (B52 && ((((i.args.length : Nat) : Int) : Int) == 1))))]) (by cases B52 <;> kernel_rfl) ?_
 intro aC fr
 revert aC
 refine zfe <| zre <| zbr <| zo1 (.bool (B52 && ((((i.args.length : Nat) : Int) : Int) == 1))) ?_
 have hR : (B52 && ((((i.args.length : Nat) : Int) : Int) == 1)) = true ↔ (((placeQ i.n) ∧ ((i.name).size = 0)) ∧ ((((i.args.length : Nat) : Int) : Int) = 1)) := by simp only [Bool.and_eq_true, beq_iff_eq, iB52]
 have hM57 := hM46.od [] 0
 exact ⟨bool_dec hR (by rw [shape_2 (by omega)]; simp only [makesQ, nameQ, codeQ, placeQ] at *; omega), hM57⟩
 refine zsp <| zcP ((i.op : Int) == 3) ((i.op : Int) = 3) (by simp only [beq_iff_eq]) (fun c58 => ?_) (fun c58 => ?_)
 refine zsr <| zpn 1 <| zld ⟨b1, 2, none⟩ (.int .i64 i.n) (blk_cell (hM12.get 0 rfl) rfl) <| zcl (place_c i.n w11) ?_
 rintro _ w59 ⟨rfl, hM60x⟩
 have hM60 := hM12.cl hM60x
 refine zpn 1 ?_
 obtain ⟨B61, hB61⟩ : ∃ B : Bool, B = decide (placeQ i.n) := ⟨_, rfl⟩
 refine zkp [(4, (.int .i64 ((i.args.length : Nat) : Int))), (5, (.bool ((i.name : ByteArray).toList == (⟨#[]⟩ : ByteArray).toList))), (66, (.bool (decide (placeQ i.n))))] ?_
 rw [← hB61]
 have iB61 : B61 = true ↔ (placeQ i.n) := by rw [hB61]; simp only [decide_eq_true_eq]
 clear hB61
 intro aC fr
 refine zpk 3 7 [68, 69] fr (news := [(68, (.bool (B61 && ((i.name : ByteArray).toList == (⟨#[]⟩ : ByteArray).toList)))), (69, (.bool (B61 && ((i.name : ByteArray).toList == (⟨#[]⟩ : ByteArray).toList))))]) (by cases B61 <;> kernel_rfl) ?_
 intro aC fr
 obtain ⟨B66, hB66⟩ : ∃ B : Bool, B = (B61 && ((i.name : ByteArray).toList == (⟨#[]⟩ : ByteArray).toList)) := ⟨_, rfl⟩
 revert aC
 refine zkp [(4, (.int .i64 ((i.args.length : Nat) : Int))), (69, (.bool (B61 && ((i.name : ByteArray).toList == (⟨#[]⟩ : ByteArray).toList))))] ?_
 rw [← hB66]
 have iB66 : B66 = true ↔ ((placeQ i.n) ∧ ((i.name).size = 0)) := by rw [hB66]; simp only [Bool.and_eq_true, seq_nil, iB61]
 clear hB66
 intro aC fr
 refine zpk 4 11 [2, 72] fr (news := [(2, (.bool (B66 && ((((i.args.length : Nat) : Int) : Int) == 2)))), (72, (.bool (B66 && ((((i.args.length : Nat) : Int) : Int) == 2))))]) (by cases B66 <;> kernel_rfl) ?_
 intro aC fr
 revert aC
 refine zfe <| zre <| zbr <| zo1 (.bool (B66 && ((((i.args.length : Nat) : Int) : Int) == 2))) ?_
 have hR : (B66 && ((((i.args.length : Nat) : Int) : Int) == 2)) = true ↔ (((placeQ i.n) ∧ ((i.name).size = 0)) ∧ ((((i.args.length : Nat) : Int) : Int) = 2)) := by simp only [Bool.and_eq_true, beq_iff_eq, iB66]
 have hM71 := hM60.od [] 0
 exact ⟨bool_dec hR (by rw [shape_3 (by omega)]; simp only [makesQ, nameQ, codeQ, placeQ] at *; omega), hM71⟩
 refine zsp <| zcP ((i.op : Int) == 4) ((i.op : Int) = 4) (by simp only [beq_iff_eq]) (fun c72 => ?_) (fun c72 => ?_)
 refine zsr ?_
 intro aC fr
 refine zpk 3 3 [75, 76, 77] fr (news := [(75, (.bool B4)), (76, (.bool B4)), (77, (cond B4 (pT b1 3) undef))]) (by cases B4 <;> kernel_rfl) ?_
 intro aC fr
 refine From_either (B := B4) (d := (some 78)) (.string i.name) fr (by cases B4 <;> kernel_rfl) (fun hB hh => ?_) ?_
 cases B4 <;> first | (exact absurd hB (by decide)) | skip
 have c4 : ((i.n : Int) = 0) := iB4.1 rfl
 exact From_ld (some 78) ⟨b1, 3, none⟩ fr (by kernel_rfl) (.string i.name) (blk_cell (hM12.get 0 rfl) rfl) hh
 intro aC fr
 refine From_eitherC (B := B4) (d := (some 79)) (.bool (decide (nameQ i.name))) fr (by cases B4 <;> kernel_rfl) (fun hB hh => ?_) ?_
 cases B4 <;> first | (exact absurd hB (by decide)) | skip
 have c4 : ((i.n : Int) = 0) := iB4.1 rfl
 refine From_cl (some 79) 44 [(.string i.name)] fr (by kernel_rfl) (name_c i.name w11) ?_
 rintro _ w2 ⟨rfl, hm2⟩ a2 hF2; exact hh a2 w2 hm2 hF2
 intro aC w79 hM80x fr
 have hM80 := hM12.cl hM80x
 refine zpk 2 7 [80, 81] fr (news := [(80, (.bool (B4 && decide (nameQ i.name)))), (81, (.bool (B4 && decide (nameQ i.name))))]) (by cases B4 <;> kernel_rfl) ?_
 intro aC fr
 obtain ⟨B85, hB85⟩ : ∃ B : Bool, B = (B4 && decide (nameQ i.name)) := ⟨_, rfl⟩
 revert aC
 refine zkp [(4, (.int .i64 ((i.args.length : Nat) : Int))), (81, (.bool (B4 && decide (nameQ i.name))))] ?_
 rw [← hB85]
 have iB85 : B85 = true ↔ (((i.n : Int) = 0) ∧ (nameQ i.name)) := by rw [hB85]; simp only [Bool.and_eq_true, decide_eq_true_eq, iB4]
 clear hB85
 intro aC fr
 refine zpk 4 11 [2, 84] fr (news := [(2, (.bool (B85 && decide ((((i.args.length : Nat) : Int) : Int) ≤ 16)))), (84, (.bool (B85 && decide ((((i.args.length : Nat) : Int) : Int) ≤ 16))))]) (by cases B85 <;> kernel_rfl) ?_
 intro aC fr
 revert aC
 refine zfe <| zre <| zbr <| zo1 (.bool (B85 && decide ((((i.args.length : Nat) : Int) : Int) ≤ 16))) ?_
 have hR : (B85 && decide ((((i.args.length : Nat) : Int) : Int) ≤ 16)) = true ↔ ((((i.n : Int) = 0) ∧ (nameQ i.name)) ∧ ((((i.args.length : Nat) : Int) : Int) ≤ 16)) := by simp only [Bool.and_eq_true, decide_eq_true_eq, iB85]
 have hM90 := hM80.od [] 0
 exact ⟨bool_dec hR (by rw [shape_4 (by omega)]; simp only [makesQ, nameQ, codeQ, placeQ] at *; omega), hM90⟩
 refine zsp <| zcP ((i.op : Int) == 5) ((i.op : Int) = 5) (by simp only [beq_iff_eq]) (fun c91 => ?_) (fun c91 => ?_)
 refine zsr ?_
 intro aC fr
 refine zpk 5 5 [87, 88, 90, 91] fr (news := [(87, (.bool B4)), (88, (.bool B4)), (90, (.bool (B4 && ((i.name : ByteArray).toList == (⟨#[]⟩ : ByteArray).toList)))), (91, (.bool (B4 && ((i.name : ByteArray).toList == (⟨#[]⟩ : ByteArray).toList))))]) (by cases B4 <;> kernel_rfl) ?_
 intro aC fr
 obtain ⟨B96, hB96⟩ : ∃ B : Bool, B = (B4 && ((i.name : ByteArray).toList == (⟨#[]⟩ : ByteArray).toList)) := ⟨_, rfl⟩
 revert aC
 refine zkp [(4, (.int .i64 ((i.args.length : Nat) : Int))), (91, (.bool (B4 && ((i.name : ByteArray).toList == (⟨#[]⟩ : ByteArray).toList))))] ?_
 rw [← hB96]
 have iB96 : B96 = true ↔ (((i.n : Int) = 0) ∧ ((i.name).size = 0)) := by rw [hB96]; simp only [Bool.and_eq_true, seq_nil, iB4]
 clear hB96
 intro aC fr
 refine zpk 4 9 [94, 95] fr (news := [(94, (.bool (B96 && decide ((((i.args.length : Nat) : Int) : Int) ≥ 1)))), (95, (.bool (B96 && decide ((((i.args.length : Nat) : Int) : Int) ≥ 1))))]) (by cases B96 <;> kernel_rfl) ?_
 intro aC fr
 obtain ⟨B101, hB101⟩ : ∃ B : Bool, B = (B96 && decide ((((i.args.length : Nat) : Int) : Int) ≥ 1)) := ⟨_, rfl⟩
 revert aC
 refine zkp [(4, (.int .i64 ((i.args.length : Nat) : Int))), (95, (.bool (B96 && decide ((((i.args.length : Nat) : Int) : Int) ≥ 1))))] ?_
 rw [← hB101]
 have iB101 : B101 = true ↔ ((((i.n : Int) = 0) ∧ ((i.name).size = 0)) ∧ ((((i.args.length : Nat) : Int) : Int) ≥ 1)) := by rw [hB101]; simp only [Bool.and_eq_true, decide_eq_true_eq, iB96]
 clear hB101
 intro aC fr
 refine zpk 4 13 [2, 98] fr (news := [(2, (.bool (B101 && decide ((((i.args.length : Nat) : Int) : Int) ≤ 17)))), (98, (.bool (B101 && decide ((((i.args.length : Nat) : Int) : Int) ≤ 17))))]) (by cases B101 <;> kernel_rfl) ?_
 intro aC fr
 revert aC
 refine zfe <| zre <| zbr <| zo1 (.bool (B101 && decide ((((i.args.length : Nat) : Int) : Int) ≤ 17))) ?_
 have hR : (B101 && decide ((((i.args.length : Nat) : Int) : Int) ≤ 17)) = true ↔ (((((i.n : Int) = 0) ∧ ((i.name).size = 0)) ∧ ((((i.args.length : Nat) : Int) : Int) ≥ 1)) ∧ ((((i.args.length : Nat) : Int) : Int) ≤ 17)) := by simp only [Bool.and_eq_true, decide_eq_true_eq, iB101]
 have hM106 := hM12.od [] 0
 exact ⟨bool_dec hR (by rw [shape_5 (by omega)]; simp only [makesQ, nameQ, codeQ, placeQ] at *; omega), hM106⟩
 refine zsq <| zsp ?_
 obtain ⟨B107, hB107⟩ : ∃ B : Bool, B = ((i.op : Int) == 6) := ⟨_, rfl⟩
 refine zkp [(1, (pT b1 0)), (3, (.bool B4)), (4, (.int .i64 ((i.args.length : Nat) : Int))), (5, (.bool ((i.name : ByteArray).toList == (⟨#[]⟩ : ByteArray).toList))), (29, (.int .i64 i.op)), (99, (.bool ((i.op : Int) == 6)))] ?_
 rw [← hB107]
 have iB107 : B107 = true ↔ ((i.op : Int) = 6) := by rw [hB107]; simp only [beq_iff_eq]
 clear hB107
 cases B107
 have c107 : ¬ ((i.op : Int) = 6) := (fun h => Bool.noConfusion (iB107.2 h) : ¬ ((i.op : Int) = 6))
 refine zcF <| zrp <| zcP ((i.op : Int) == 7) ((i.op : Int) = 7) (by simp only [beq_iff_eq]) (fun c108 => ?_) (fun c108 => ?_)
 refine zsr ?_
 intro aC fr
 refine zpk 3 3 [102, 103, 104] fr (news := [(102, (.bool B4)), (103, (.bool B4)), (104, (cond B4 (pT b1 3) undef))]) (by cases B4 <;> kernel_rfl) ?_
 intro aC fr
 refine From_either (B := B4) (d := (some 105)) (.string i.name) fr (by cases B4 <;> kernel_rfl) (fun hB hh => ?_) ?_
 cases B4 <;> first | (exact absurd hB (by decide)) | skip
 have c4 : ((i.n : Int) = 0) := iB4.1 rfl
 exact From_ld (some 105) ⟨b1, 3, none⟩ fr (by kernel_rfl) (.string i.name) (blk_cell (hM12.get 0 rfl) rfl) hh
 intro aC fr
 refine From_eitherC (B := B4) (d := (some 106)) (.bool (decide (nameQ i.name))) fr (by cases B4 <;> kernel_rfl) (fun hB hh => ?_) ?_
 cases B4 <;> first | (exact absurd hB (by decide)) | skip
 have c4 : ((i.n : Int) = 0) := iB4.1 rfl
 refine From_cl (some 106) 44 [(.string i.name)] fr (by kernel_rfl) (name_c i.name w11) ?_
 rintro _ w2 ⟨rfl, hm2⟩ a2 hF2; exact hh a2 w2 hm2 hF2
 intro aC w115 hM116x fr
 have hM116 := hM12.cl hM116x
 refine zpk 2 7 [107, 108] fr (news := [(107, (.bool (B4 && decide (nameQ i.name)))), (108, (.bool (B4 && decide (nameQ i.name))))]) (by cases B4 <;> kernel_rfl) ?_
 intro aC fr
 obtain ⟨B121, hB121⟩ : ∃ B : Bool, B = (B4 && decide (nameQ i.name)) := ⟨_, rfl⟩
 revert aC
 refine zkp [(4, (.int .i64 ((i.args.length : Nat) : Int))), (108, (.bool (B4 && decide (nameQ i.name))))] ?_
 rw [← hB121]
 have iB121 : B121 = true ↔ (((i.n : Int) = 0) ∧ (nameQ i.name)) := by rw [hB121]; simp only [Bool.and_eq_true, decide_eq_true_eq, iB4]
 clear hB121
 intro aC fr
 refine zpk 4 11 [2, 111] fr (news := [(2, (.bool (B121 && ((((i.args.length : Nat) : Int) : Int) == 0)))), (111, (.bool (B121 && ((((i.args.length : Nat) : Int) : Int) == 0))))]) (by cases B121 <;> kernel_rfl) ?_
 intro aC fr
 revert aC
 refine zfe <| zre <| zbr <| zo1 (.bool (B121 && ((((i.args.length : Nat) : Int) : Int) == 0))) ?_
 have hR : (B121 && ((((i.args.length : Nat) : Int) : Int) == 0)) = true ↔ ((((i.n : Int) = 0) ∧ (nameQ i.name)) ∧ ((((i.args.length : Nat) : Int) : Int) = 0)) := by simp only [Bool.and_eq_true, beq_iff_eq, iB121]
 have hM126 := hM116.od [] 0
 exact ⟨bool_dec hR (by rw [shape_7 (by omega)]; simp only [makesQ, nameQ, codeQ, placeQ] at *; omega), hM126⟩
 refine zsp <| zcP ((i.op : Int) == 9) ((i.op : Int) = 9) (by simp only [beq_iff_eq]) (fun c127 => ?_) (fun c127 => ?_)
 refine zsr ?_
 intro aC fr
 refine zpk 5 5 [114, 115, 117, 118] fr (news := [(114, (.bool B4)), (115, (.bool B4)), (117, (.bool (B4 && ((i.name : ByteArray).toList == (⟨#[]⟩ : ByteArray).toList)))), (118, (.bool (B4 && ((i.name : ByteArray).toList == (⟨#[]⟩ : ByteArray).toList))))]) (by cases B4 <;> kernel_rfl) ?_
 intro aC fr
 obtain ⟨B132, hB132⟩ : ∃ B : Bool, B = (B4 && ((i.name : ByteArray).toList == (⟨#[]⟩ : ByteArray).toList)) := ⟨_, rfl⟩
 revert aC
 refine zkp [(4, (.int .i64 ((i.args.length : Nat) : Int))), (118, (.bool (B4 && ((i.name : ByteArray).toList == (⟨#[]⟩ : ByteArray).toList))))] ?_
 rw [← hB132]
 have iB132 : B132 = true ↔ (((i.n : Int) = 0) ∧ ((i.name).size = 0)) := by rw [hB132]; simp only [Bool.and_eq_true, seq_nil, iB4]
 clear hB132
 intro aC fr
 refine zpk 4 9 [2, 121] fr (news := [(2, (.bool (B132 && ((((i.args.length : Nat) : Int) : Int) == 0)))), (121, (.bool (B132 && ((((i.args.length : Nat) : Int) : Int) == 0))))]) (by cases B132 <;> kernel_rfl) ?_
 intro aC fr
 revert aC
 refine zfe <| zre <| zbr <| zo1 (.bool (B132 && ((((i.args.length : Nat) : Int) : Int) == 0))) ?_
 have hR : (B132 && ((((i.args.length : Nat) : Int) : Int) == 0)) = true ↔ ((((i.n : Int) = 0) ∧ ((i.name).size = 0)) ∧ ((((i.args.length : Nat) : Int) : Int) = 0)) := by simp only [Bool.and_eq_true, beq_iff_eq, iB132]
 have hM137 := hM12.od [] 0
 exact ⟨bool_dec hR (by rw [shape_9 (by omega)]; simp only [makesQ, nameQ, codeQ, placeQ] at *; omega), hM137⟩
 refine zsp <| zcP ((i.op : Int) == 11) ((i.op : Int) = 11) (by simp only [beq_iff_eq]) (fun c138 => ?_) (fun c138 => ?_)
 refine zsr <| zpn 1 <| zld ⟨b1, 2, none⟩ (.int .i64 i.n) (blk_cell (hM12.get 0 rfl) rfl) <| zcl (code_c i.n w11) ?_
 rintro _ w139 ⟨rfl, hM140x⟩
 have hM140 := hM12.cl hM140x
 refine zpn 1 ?_
 obtain ⟨B141, hB141⟩ : ∃ B : Bool, B = decide (codeQ i.n) := ⟨_, rfl⟩
 refine zkp [(4, (.int .i64 ((i.args.length : Nat) : Int))), (5, (.bool ((i.name : ByteArray).toList == (⟨#[]⟩ : ByteArray).toList))), (127, (.bool (decide (codeQ i.n))))] ?_
 rw [← hB141]
 have iB141 : B141 = true ↔ (codeQ i.n) := by rw [hB141]; simp only [decide_eq_true_eq]
 clear hB141
 intro aC fr
 refine zpk 3 7 [129, 130] fr (news := [(129, (.bool (B141 && ((i.name : ByteArray).toList == (⟨#[]⟩ : ByteArray).toList)))), (130, (.bool (B141 && ((i.name : ByteArray).toList == (⟨#[]⟩ : ByteArray).toList))))]) (by cases B141 <;> kernel_rfl) ?_
 intro aC fr
 obtain ⟨B146, hB146⟩ : ∃ B : Bool, B = (B141 && ((i.name : ByteArray).toList == (⟨#[]⟩ : ByteArray).toList)) := ⟨_, rfl⟩
 revert aC
 refine zkp [(4, (.int .i64 ((i.args.length : Nat) : Int))), (130, (.bool (B141 && ((i.name : ByteArray).toList == (⟨#[]⟩ : ByteArray).toList))))] ?_
 rw [← hB146]
 have iB146 : B146 = true ↔ ((codeQ i.n) ∧ ((i.name).size = 0)) := by rw [hB146]; simp only [Bool.and_eq_true, seq_nil, iB141]
 clear hB146
 intro aC fr
 refine zpk 4 11 [2, 133] fr (news := [(2, (.bool (B146 && ((((i.args.length : Nat) : Int) : Int) == 1)))), (133, (.bool (B146 && ((((i.args.length : Nat) : Int) : Int) == 1))))]) (by cases B146 <;> kernel_rfl) ?_
 intro aC fr
 revert aC
 refine zfe <| zre <| zbr <| zo1 (.bool (B146 && ((((i.args.length : Nat) : Int) : Int) == 1))) ?_
 have hR : (B146 && ((((i.args.length : Nat) : Int) : Int) == 1)) = true ↔ (((codeQ i.n) ∧ ((i.name).size = 0)) ∧ ((((i.args.length : Nat) : Int) : Int) = 1)) := by simp only [Bool.and_eq_true, beq_iff_eq, iB146]
 have hM151 := hM140.od [] 0
 exact ⟨bool_dec hR (by rw [shape_11 (by omega)]; simp only [makesQ, nameQ, codeQ, placeQ] at *; omega), hM151⟩
 refine zsk <| zsq <| zsr <| zpn 1 <| zld ⟨b1, 0, none⟩ (.int .i64 i.op) (blk_cell (hM12.get 0 rfl) rfl) <| zpn 1 <| zfe <| zcD ((i.op : Int) < 40) (fun c152 => ?_) (fun c152 => ?_)
 refine zsr <| zpn 1 <| zld ⟨b1, 0, none⟩ (.int .i64 i.op) (blk_cell (hM12.get 0 rfl) rfl) ?_
 intro aC fr
 refine From_binI (by kernel_rfl : coreAt _ 2 = some (some 140, (.binOp .sub 3 (.tmp 139) (.const (.int .i64 16)) 3), 3, none)) fr (by kernel_rfl) (by kernel_rfl) (k' := 3) rfl (kd := .i64) (kd' := .i64) (i := i.op) (j := 16) (z := .int .i64 (IntKind.i64.wrap (i.op - 16))) (by kernel_rfl) (by kernel_rfl) (fun w => bin_sub_w _ _ w) ?_
 intro aC ea fr; clear ea
 revert aC
 refine zcl (bin1_c (IntKind.i64.wrap (i.op - 16)) w11) ?_
 rintro _ w159 ⟨z157, cd158, rfl, hcd, hM160x⟩
 have hM160 := hM12.cl hM160x
 refine zpn 5 <| zfe <| zsr ?_
 have hwr := IntKind.wrap_i64 (i.op - 16)
 refine zpn 3 ?_
 obtain ⟨B161, hB161⟩ : ∃ B : Bool, B = ((cd158 : Int) == 0) := ⟨_, rfl⟩
 refine zkp [(3, (.bool B4)), (4, (.int .i64 ((i.args.length : Nat) : Int))), (5, (.bool ((i.name : ByteArray).toList == (⟨#[]⟩ : ByteArray).toList))), (146, (.bool ((cd158 : Int) == 0)))] ?_
 rw [← hB161]
 have iB161 : B161 = true ↔ ((cd158 : Int) = 0) := by rw [hB161]; simp only [beq_iff_eq]
 clear hB161
 intro aC fr
 refine zpk 3 6 [148, 149] fr (news := [(148, (.bool (B161 && B4))), (149, (.bool (B161 && B4)))]) (by cases B161 <;> kernel_rfl) ?_
 intro aC fr
 obtain ⟨B166, hB166⟩ : ∃ B : Bool, B = (B161 && B4) := ⟨_, rfl⟩
 revert aC
 refine zkp [(4, (.int .i64 ((i.args.length : Nat) : Int))), (5, (.bool ((i.name : ByteArray).toList == (⟨#[]⟩ : ByteArray).toList))), (149, (.bool (B161 && B4)))] ?_
 rw [← hB166]
 have iB166 : B166 = true ↔ (((cd158 : Int) = 0) ∧ ((i.n : Int) = 0)) := by rw [hB166]; simp only [Bool.and_eq_true, iB161, iB4]
 clear hB166
 intro aC fr
 refine zpk 3 9 [151, 152] fr (news := [(151, (.bool (B166 && ((i.name : ByteArray).toList == (⟨#[]⟩ : ByteArray).toList)))), (152, (.bool (B166 && ((i.name : ByteArray).toList == (⟨#[]⟩ : ByteArray).toList))))]) (by cases B166 <;> kernel_rfl) ?_
 intro aC fr
 obtain ⟨B171, hB171⟩ : ∃ B : Bool, B = (B166 && ((i.name : ByteArray).toList == (⟨#[]⟩ : ByteArray).toList)) := ⟨_, rfl⟩
 revert aC
 refine zkp [(4, (.int .i64 ((i.args.length : Nat) : Int))), (152, (.bool (B166 && ((i.name : ByteArray).toList == (⟨#[]⟩ : ByteArray).toList))))] ?_
 rw [← hB171]
 have iB171 : B171 = true ↔ ((((cd158 : Int) = 0) ∧ ((i.n : Int) = 0)) ∧ ((i.name).size = 0)) := by rw [hB171]; simp only [Bool.and_eq_true, seq_nil, iB166]
 clear hB171
 intro aC fr
 refine zpk 4 13 [2, 155] fr (news := [(2, (.bool (B171 && ((((i.args.length : Nat) : Int) : Int) == 2)))), (155, (.bool (B171 && ((((i.args.length : Nat) : Int) : Int) == 2))))]) (by cases B171 <;> kernel_rfl) ?_
 intro aC fr
 revert aC
 refine zfe <| zre <| zo1 (.bool (B171 && ((((i.args.length : Nat) : Int) : Int) == 2))) ?_
 have hR : (B171 && ((((i.args.length : Nat) : Int) : Int) == 2)) = true ↔ (((((cd158 : Int) = 0) ∧ ((i.n : Int) = 0)) ∧ ((i.name).size = 0)) ∧ ((((i.args.length : Nat) : Int) : Int) = 2)) := by simp only [Bool.and_eq_true, beq_iff_eq, iB171]
 have hM176 := hM160.od [] 0
 exact ⟨bool_dec hR (shape_lt (not12 c24 c31 c32 c33 c44 c58 c72 c91 c107 c108 c127 c138) c152 ho hcd), hM176⟩
 refine zsk <| zsr <| zpn 1 <| zld ⟨b1, 0, none⟩ (.int .i64 i.op) (blk_cell (hM12.get 0 rfl) rfl) <| zar (i.op - 40) <| zcl (un1_c (i.op - 40) w11) ?_
 rintro _ w179 ⟨z177, cd178, rfl, hcd, hM180x⟩
 have hM180 := hM12.cl hM180x
 refine zpn 5 <| zfe <| zsr <| zpn 3 ?_
 obtain ⟨B181, hB181⟩ : ∃ B : Bool, B = ((cd178 : Int) == 0) := ⟨_, rfl⟩
 refine zkp [(3, (.bool B4)), (4, (.int .i64 ((i.args.length : Nat) : Int))), (5, (.bool ((i.name : ByteArray).toList == (⟨#[]⟩ : ByteArray).toList))), (165, (.bool ((cd178 : Int) == 0)))] ?_
 rw [← hB181]
 have iB181 : B181 = true ↔ ((cd178 : Int) = 0) := by rw [hB181]; simp only [beq_iff_eq]
 clear hB181
 intro aC fr
 refine zpk 3 6 [167, 168] fr (news := [(167, (.bool (B181 && B4))), (168, (.bool (B181 && B4)))]) (by cases B181 <;> kernel_rfl) ?_
 intro aC fr
 obtain ⟨B186, hB186⟩ : ∃ B : Bool, B = (B181 && B4) := ⟨_, rfl⟩
 revert aC
 refine zkp [(4, (.int .i64 ((i.args.length : Nat) : Int))), (5, (.bool ((i.name : ByteArray).toList == (⟨#[]⟩ : ByteArray).toList))), (168, (.bool (B181 && B4)))] ?_
 rw [← hB186]
 have iB186 : B186 = true ↔ (((cd178 : Int) = 0) ∧ ((i.n : Int) = 0)) := by rw [hB186]; simp only [Bool.and_eq_true, iB181, iB4]
 clear hB186
 intro aC fr
 refine zpk 3 9 [170, 171] fr (news := [(170, (.bool (B186 && ((i.name : ByteArray).toList == (⟨#[]⟩ : ByteArray).toList)))), (171, (.bool (B186 && ((i.name : ByteArray).toList == (⟨#[]⟩ : ByteArray).toList))))]) (by cases B186 <;> kernel_rfl) ?_
 intro aC fr
 obtain ⟨B191, hB191⟩ : ∃ B : Bool, B = (B186 && ((i.name : ByteArray).toList == (⟨#[]⟩ : ByteArray).toList)) := ⟨_, rfl⟩
 revert aC
 refine zkp [(4, (.int .i64 ((i.args.length : Nat) : Int))), (171, (.bool (B186 && ((i.name : ByteArray).toList == (⟨#[]⟩ : ByteArray).toList))))] ?_
 rw [← hB191]
 have iB191 : B191 = true ↔ ((((cd178 : Int) = 0) ∧ ((i.n : Int) = 0)) ∧ ((i.name).size = 0)) := by rw [hB191]; simp only [Bool.and_eq_true, seq_nil, iB186]
 clear hB191
 intro aC fr
 refine zpk 4 13 [2, 174] fr (news := [(2, (.bool (B191 && ((((i.args.length : Nat) : Int) : Int) == 1)))), (174, (.bool (B191 && ((((i.args.length : Nat) : Int) : Int) == 1))))]) (by cases B191 <;> kernel_rfl) ?_
 intro aC fr
 revert aC
 refine zfe <| zre <| zo1 (.bool (B191 && ((((i.args.length : Nat) : Int) : Int) == 1))) ?_
 have hR : (B191 && ((((i.args.length : Nat) : Int) : Int) == 1)) = true ↔ (((((cd178 : Int) = 0) ∧ ((i.n : Int) = 0)) ∧ ((i.name).size = 0)) ∧ ((((i.args.length : Nat) : Int) : Int) = 1)) := by simp only [Bool.and_eq_true, beq_iff_eq, iB191]
 have hM196 := hM180.od [] 0
 exact ⟨bool_dec hR (shape_ge c152 hcd), hM196⟩
 have c107 : ((i.op : Int) = 6) := iB107.1 rfl
 refine zcT <| zsk <| zcT <| zsr ?_
 intro aC fr
 refine zpk 3 3 [102, 103, 104] fr (news := [(102, (.bool B4)), (103, (.bool B4)), (104, (cond B4 (pT b1 3) undef))]) (by cases B4 <;> kernel_rfl) ?_
 intro aC fr
 refine From_either (B := B4) (d := (some 105)) (.string i.name) fr (by cases B4 <;> kernel_rfl) (fun hB hh => ?_) ?_
 cases B4 <;> first | (exact absurd hB (by decide)) | skip
 have c4 : ((i.n : Int) = 0) := iB4.1 rfl
 exact From_ld (some 105) ⟨b1, 3, none⟩ fr (by kernel_rfl) (.string i.name) (blk_cell (hM12.get 0 rfl) rfl) hh
 intro aC fr
 refine From_eitherC (B := B4) (d := (some 106)) (.bool (decide (nameQ i.name))) fr (by cases B4 <;> kernel_rfl) (fun hB hh => ?_) ?_
 cases B4 <;> first | (exact absurd hB (by decide)) | skip
 have c4 : ((i.n : Int) = 0) := iB4.1 rfl
 refine From_cl (some 106) 44 [(.string i.name)] fr (by kernel_rfl) (name_c i.name w11) ?_
 rintro _ w2 ⟨rfl, hm2⟩ a2 hF2; exact hh a2 w2 hm2 hF2
 intro aC w203 hM204x fr
 have hM204 := hM12.cl hM204x
 refine zpk 2 7 [107, 108] fr (news := [(107, (.bool (B4 && decide (nameQ i.name)))), (108, (.bool (B4 && decide (nameQ i.name))))]) (by cases B4 <;> kernel_rfl) ?_
 intro aC fr
 obtain ⟨B209, hB209⟩ : ∃ B : Bool, B = (B4 && decide (nameQ i.name)) := ⟨_, rfl⟩
 revert aC
 refine zkp [(4, (.int .i64 ((i.args.length : Nat) : Int))), (108, (.bool (B4 && decide (nameQ i.name))))] ?_
 rw [← hB209]
 have iB209 : B209 = true ↔ (((i.n : Int) = 0) ∧ (nameQ i.name)) := by rw [hB209]; simp only [Bool.and_eq_true, decide_eq_true_eq, iB4]
 clear hB209
 intro aC fr
 refine zpk 4 11 [2, 111] fr (news := [(2, (.bool (B209 && ((((i.args.length : Nat) : Int) : Int) == 0)))), (111, (.bool (B209 && ((((i.args.length : Nat) : Int) : Int) == 0))))]) (by cases B209 <;> kernel_rfl) ?_
 intro aC fr
 revert aC
 refine zfe <| zre <| zbr <| zo1 (.bool (B209 && ((((i.args.length : Nat) : Int) : Int) == 0))) ?_
 have hR : (B209 && ((((i.args.length : Nat) : Int) : Int) == 0)) = true ↔ ((((i.n : Int) = 0) ∧ (nameQ i.name)) ∧ ((((i.args.length : Nat) : Int) : Int) = 0)) := by simp only [Bool.and_eq_true, beq_iff_eq, iB209]
 have hM214 := hM204.od [] 0
 exact ⟨bool_dec hR (by rw [shape_6 (by omega)]; simp only [makesQ, nameQ, codeQ, placeQ] at *; omega), hM214⟩
 have c32 : ((i.op : Int) = 8) := iB32.1 rfl
 refine zcT <| zsk <| zcT <| zsr ?_
 intro aC fr
 refine zpk 5 5 [41, 42, 44, 45] fr (news := [(41, (.bool B4)), (42, (.bool B4)), (44, (.bool (B4 && ((i.name : ByteArray).toList == (⟨#[]⟩ : ByteArray).toList)))), (45, (.bool (B4 && ((i.name : ByteArray).toList == (⟨#[]⟩ : ByteArray).toList))))]) (by cases B4 <;> kernel_rfl) ?_
 intro aC fr
 obtain ⟨B219, hB219⟩ : ∃ B : Bool, B = (B4 && ((i.name : ByteArray).toList == (⟨#[]⟩ : ByteArray).toList)) := ⟨_, rfl⟩
 revert aC
 refine zkp [(4, (.int .i64 ((i.args.length : Nat) : Int))), (45, (.bool (B4 && ((i.name : ByteArray).toList == (⟨#[]⟩ : ByteArray).toList))))] ?_
 rw [← hB219]
 have iB219 : B219 = true ↔ (((i.n : Int) = 0) ∧ ((i.name).size = 0)) := by rw [hB219]; simp only [Bool.and_eq_true, seq_nil, iB4]
 clear hB219
 intro aC fr
 refine zpk 4 9 [2, 48] fr (news := [(2, (.bool (B219 && ((((i.args.length : Nat) : Int) : Int) == 1)))), (48, (.bool (B219 && ((((i.args.length : Nat) : Int) : Int) == 1))))]) (by cases B219 <;> kernel_rfl) ?_
 intro aC fr
 revert aC
 refine zfe <| zre <| zbr <| zo1 (.bool (B219 && ((((i.args.length : Nat) : Int) : Int) == 1))) ?_
 have hR : (B219 && ((((i.args.length : Nat) : Int) : Int) == 1)) = true ↔ ((((i.n : Int) = 0) ∧ ((i.name).size = 0)) ∧ ((((i.args.length : Nat) : Int) : Int) = 1)) := by simp only [Bool.and_eq_true, beq_iff_eq, iB219]
 have hM224 := hM12.od [] 0
 exact ⟨bool_dec hR (by rw [shape_8 (by omega)]; simp only [makesQ, nameQ, codeQ, placeQ] at *; omega), hM224⟩
 have c31 : ((i.op : Int) = 12) := iB31.1 rfl
 refine zcT <| zsk <| zcT <| zsr ?_
 intro aC fr
 refine zpk 5 5 [41, 42, 44, 45] fr (news := [(41, (.bool B4)), (42, (.bool B4)), (44, (.bool (B4 && ((i.name : ByteArray).toList == (⟨#[]⟩ : ByteArray).toList)))), (45, (.bool (B4 && ((i.name : ByteArray).toList == (⟨#[]⟩ : ByteArray).toList))))]) (by cases B4 <;> kernel_rfl) ?_
 intro aC fr
 obtain ⟨B229, hB229⟩ : ∃ B : Bool, B = (B4 && ((i.name : ByteArray).toList == (⟨#[]⟩ : ByteArray).toList)) := ⟨_, rfl⟩
 revert aC
 refine zkp [(4, (.int .i64 ((i.args.length : Nat) : Int))), (45, (.bool (B4 && ((i.name : ByteArray).toList == (⟨#[]⟩ : ByteArray).toList))))] ?_
 rw [← hB229]
 have iB229 : B229 = true ↔ (((i.n : Int) = 0) ∧ ((i.name).size = 0)) := by rw [hB229]; simp only [Bool.and_eq_true, seq_nil, iB4]
 clear hB229
 intro aC fr
 refine zpk 4 9 [2, 48] fr (news := [(2, (.bool (B229 && ((((i.args.length : Nat) : Int) : Int) == 1)))), (48, (.bool (B229 && ((((i.args.length : Nat) : Int) : Int) == 1))))]) (by cases B229 <;> kernel_rfl) ?_
 intro aC fr
 revert aC
 refine zfe <| zre <| zbr <| zo1 (.bool (B229 && ((((i.args.length : Nat) : Int) : Int) == 1))) ?_
 have hR : (B229 && ((((i.args.length : Nat) : Int) : Int) == 1)) = true ↔ ((((i.n : Int) = 0) ∧ ((i.name).size = 0)) ∧ ((((i.args.length : Nat) : Int) : Int) = 1)) := by simp only [Bool.and_eq_true, beq_iff_eq, iB229]
 have hM234 := hM12.od [] 0
 exact ⟨bool_dec hR (by rw [shape_12 (by omega)]; simp only [makesQ, nameQ, codeQ, placeQ] at *; omega), hM234⟩
end Go.Proofs.YtlfbloadopeamaaDoor
namespace Go.Proofs.YtlfbloadopeamaaDoor
open Go.Mor
set_option maxRecDepth 10000 in
theorem makes2_c (q gm n : Nat) (nm wk : Value) (pa va : Int) (fb so tp : Value) (l : List (Int × Int)) (v b k : Int) (w : World) (hn : n = l.length) (hva : va = (n : Int)) (hpa : 0 ≤ pa) (hq : RO (Res.row 103 2 (sM gm) n n (mdc l)).fp w (.blk q 77 [nm, wk, (.int .i64 pa), (.int .i64 va), fb, so, tp, (.slice (sM gm) n n)])) (hrow : (Res.row 103 2 (sM gm) n n (mdc l)).holds w) :
    Calls Tryd.prog 70 #[(pT q 0), (.int .i64 v), (.int .i64 b), (.int .i64 k)] w (Ret fun u w' => ∃ l2, l2 = (if putQ pa va l v then l.set v.toNat (b, k) else l) ∧ u = .bool (decide (putQ pa va l v)) ∧ Mem (Res.row 103 2 (sM gm) n n (mdc l)).fp w w' [.row 103 2 (sM gm) n n (mdc l2)]) := by
 refine zen 45 [(pT q 0), (.int .i64 v), (.int .i64 b), (.int .i64 k)] Tryd.func70 ?_
 have hM := Mem.initS hrow
 refine zsp <| zsq <| zsr <| zpn 5 <| zld ⟨q, 2, none⟩ (.int .i64 pa) (blk_cell (hM.ro hq) rfl) <| zpn 2 ?_
 obtain ⟨B1, hB1⟩ : ∃ B : Bool, B = decide ((v : Int) < pa) := ⟨_, rfl⟩
 refine zkp [(0, (pT q 0)), (1, (.int .i64 v)), (2, (.int .i64 b)), (3, (.int .i64 k)), (16, (.bool (decide ((v : Int) < pa))))] ?_
 rw [← hB1]
 have iB1 : B1 = true ↔ ((v : Int) < pa) := by rw [hB1]; simp only [decide_eq_true_eq]
 clear hB1
 intro aC fr
 refine zpk 5 13 [17, 21] fr (news := [(17, (cond (!B1) (.int .i64 v) undef)), (21, (cond (!B1) (pT q 3) undef))]) (by cases B1 <;> kernel_rfl) ?_
 intro aC fr
 refine From_either (B := (!B1)) (d := (some 22)) (.int .i64 va) fr (by cases B1 <;> kernel_rfl) (fun hB hh => ?_) ?_
 cases B1 <;> first | (exact absurd hB (by decide)) | skip
 have c1 : ¬ ((v : Int) < pa) := (fun h => Bool.noConfusion (iB1.2 h) : ¬ ((v : Int) < pa))
 exact From_ld (some 22) ⟨q, 3, none⟩ fr (by kernel_rfl) (.int .i64 va) (blk_cell (hM.ro hq) rfl) hh
 intro aC fr
 refine zpk 3 17 [24, 25] fr (news := [(24, (.bool (B1 || decide ((v : Int) ≥ va)))), (25, (.bool (B1 || decide ((v : Int) ≥ va))))]) (by cases B1 <;> kernel_rfl) ?_
 intro aC fr
 obtain ⟨B10, hB10⟩ : ∃ B : Bool, B = (B1 || decide ((v : Int) ≥ va)) := ⟨_, rfl⟩
 revert aC
 refine zkp [(0, (pT q 0)), (1, (.int .i64 v)), (2, (.int .i64 b)), (3, (.int .i64 k)), (25, (.bool (B1 || decide ((v : Int) ≥ va))))] ?_
 rw [← hB10]
 have iB10 : B10 = true ↔ (((v : Int) < pa) ∨ ((v : Int) ≥ va)) := by rw [hB10]; simp only [Bool.or_eq_true, decide_eq_true_eq, iB1]
 clear hB10
 intro aC fr
 refine zpk 3 20 [28] fr (news := [(28, (cond (!B10) (pT q 7) undef))]) (by cases B10 <;> kernel_rfl) ?_
 intro aC fr
 refine From_either (B := (!B10)) (d := (some 29)) (.slice (sM gm) n n) fr (by cases B10 <;> kernel_rfl) (fun hB hh => ?_) ?_
 cases B10 <;> first | (exact absurd hB (by decide)) | skip
 have c10 : ¬ (((v : Int) < pa) ∨ ((v : Int) ≥ va)) := (fun h => Bool.noConfusion (iB10.2 h) : ¬ (((v : Int) < pa) ∨ ((v : Int) ≥ va)))
 exact From_ld (some 29) ⟨q, 7, none⟩ fr (by kernel_rfl) (.slice (sM gm) n n) (blk_cell (hM.ro hq) rfl) hh
 intro aC fr
 refine zpk 1 22 [30] fr (news := [(30, (cond (!B10) (.int .i64 v) undef))]) (by cases B10 <;> kernel_rfl) ?_
 intro aC fr
 refine From_either (B := (!B10)) (d := (some 31)) (.pointer (some ((⟨gm, 0, none⟩ : Addr).add ((v).toNat * 2)))) fr (by cases B10 <;> kernel_rfl) (fun hB hh => ?_) ?_
 cases B10 <;> first | (exact absurd hB (by decide)) | skip
 have c10 : ¬ (((v : Int) < pa) ∨ ((v : Int) ≥ va)) := (fun h => Bool.noConfusion (iB10.2 h) : ¬ (((v : Int) < pa) ∨ ((v : Int) ≥ va)))
 exact From_ix (some 31) ⟨gm, 0, none⟩ n 2 v fr (by kernel_rfl) (by omega) (by omega) hh
 intro aC fr
 refine zpk 1 24 [32] fr (news := [(32, (cond (!B10) (.pointer (some ((⟨gm, 0, none⟩ : Addr).add ((v).toNat * 2)))) undef))]) (by cases B10 <;> kernel_rfl) ?_
 intro aC fr
 refine From_either (B := (!B10)) (d := (some 33)) (.int .i64 ((l.getD v.toNat (0, 0)).1)) fr (by cases B10 <;> kernel_rfl) (fun hB hh => ?_) ?_
 cases B10 <;> first | (exact absurd hB (by decide)) | skip
 have c10 : ¬ (((v : Int) < pa) ∨ ((v : Int) ≥ va)) := (fun h => Bool.noConfusion (iB10.2 h) : ¬ (((v : Int) < pa) ∨ ((v : Int) ≥ va)))
 exact From_ld (some 33) ((⟨gm, 0, none⟩ : Addr).add ((v).toNat * 2)) fr (by kernel_rfl) (.int .i64 ((l.getD v.toNat (0, 0)).1)) (md_rd0 (row_rd (hM.get 0 rfl)) rfl (get_getD _ (by omega))) hh
 intro aC fr
 refine zpk 2 27 [35] fr (news := [(35, (.bool (B10 || decide (((l.getD v.toNat (0, 0)).1 : Int) ≥ 0))))]) (by cases B10 <;> kernel_rfl) ?_
 intro aC fr
 revert aC
 refine zfe <| zcP (B10 || decide (((l.getD v.toNat (0, 0)).1 : Int) ≥ 0)) ((((v : Int) < pa) ∨ ((v : Int) ≥ va)) ∨ (((l.getD v.toNat (0, 0)).1 : Int) ≥ 0)) (by simp only [Bool.or_eq_true, decide_eq_true_eq, iB10]) (fun c27 => ?_) (fun c27 => ?_)
 have hQ : ¬ putQ pa va l v := by unfold putQ; omega
 refine zsp <| zre <| zo1 (.bool false) ?_
 exact ⟨l, (if_neg hQ).symm, by rw [decide_eq_false hQ], hM⟩
 have hQ : putQ pa va l v := by unfold putQ; omega
 refine zsk <| zsr <| zpn 3 <| zld ⟨q, 7, none⟩ (.slice (sM gm) n n) (blk_cell (hM.ro hq) rfl) <| zpn 4 <| zix ⟨gm, 0, none⟩ n 2 v ?_
 intro aC fr
 refine From_storeS_row (by kernel_rfl : coreAt _ 9 = some (none, (.store 103 (.tmp 44) (.tmp 43)), 0, none)) fr (by kernel_rfl) (by kernel_rfl) (k' := 10) rfl (ad := (⟨gm, 0, none⟩ : Addr)) (j := ((v).toNat * 2)) (e := 103) (size := 2) (n := n) (cap := n) (vs := [(.int .i64 b), (.int .i64 k)]) (xs := (mdc l)) (ad' := ((⟨gm, 0, none⟩ : Addr).add ((v).toNat * 2))) (by kernel_rfl) rfl (by kernel_rfl) (by kernel_rfl) (by simp only [List.mem_cons, List.not_mem_nil, or_false]; intro v hv; rcases hv with rfl | rfl <;> rfl) hM 0 rfl (by simp only [List.length_cons, List.length_nil]; omega) ?_
 intro w28 hM29 _ aC ea fr; clear ea
 replace hM29 := hM29.nf
 clear hM
 have hM34 : Mem (Res.row 103 2 (sM gm) n n (mdc l)).fp w w28 [.row 103 2 (sM gm) n n (mdc (l.set v.toNat (b, k)))] := hM29.cast (by rw [mdc_set _ _ (by omega)])
 revert aC
 refine zkp [] <| zfe <| zsp <| zre <| zo1 (.bool true) ?_
 exact ⟨_, (if_pos hQ).symm, by rw [decide_eq_true hQ], hM34⟩
set_option maxRecDepth 10000 in
theorem rput_c (gm n : Nat) (l : List (Int × Int)) (v b k : Int) (w : World) (hn : n = l.length) (hrow : (Res.row 90 2 (sM gm) n n (mdc l)).holds w) :
    Calls Tryd.prog 57 #[(.slice (sM gm) n n), (.int .i64 v), (.agg #[(.int .i64 b), (.int .i64 k)])] w (Ret fun u w' => ∃ l2, l2 = (if putQ 0 n l v then l.set v.toNat (b, k) else l) ∧ u = .bool (decide (putQ 0 n l v)) ∧ Mem (Res.row 90 2 (sM gm) n n (mdc l)).fp w w' [.row 90 2 (sM gm) n n (mdc l2)]) := by
 refine zen 27 [(.slice (sM gm) n n), (.int .i64 v), (.agg #[(.int .i64 b), (.int .i64 k)])] Tryd.func57 ?_
 have hM := Mem.initS hrow
 refine zsr <| zbx hM 90 (.agg #[(.int .i64 b), (.int .i64 k)]) [(.int .i64 b), (.int .i64 k)] fun b1 w2 hb1 hM3 => ?_
 replace hM3 := hM3.nf
 clear hM
 refine zpn 1 <| zfe <| zsq <| zsr <| zpn 3 ?_
 obtain ⟨B4, hB4⟩ : ∃ B : Bool, B = decide ((v : Int) < 0) := ⟨_, rfl⟩
 refine zkp [(0, (.slice (sM gm) n n)), (1, (.int .i64 v)), (5, (pT b1 0)), (9, (.bool (decide ((v : Int) < 0))))] ?_
 rw [← hB4]
 have iB4 : B4 = true ↔ ((v : Int) < 0) := by rw [hB4]; simp only [decide_eq_true_eq]
 clear hB4
 intro aC fr
 refine zpk 6 9 [14, 15] fr (news := [(14, (.bool (B4 || decide ((v : Int) ≥ ((n : Nat) : Int))))), (15, (.bool (B4 || decide ((v : Int) ≥ ((n : Nat) : Int)))))]) (by cases B4 <;> kernel_rfl) ?_
 intro aC fr
 obtain ⟨B9, hB9⟩ : ∃ B : Bool, B = (B4 || decide ((v : Int) ≥ ((n : Nat) : Int))) := ⟨_, rfl⟩
 revert aC
 refine zkp [(0, (.slice (sM gm) n n)), (1, (.int .i64 v)), (5, (pT b1 0)), (15, (.bool (B4 || decide ((v : Int) ≥ ((n : Nat) : Int)))))] ?_
 rw [← hB9]
 have iB9 : B9 = true ↔ (((v : Int) < 0) ∨ ((v : Int) ≥ ((n : Nat) : Int))) := by rw [hB9]; simp only [Bool.or_eq_true, decide_eq_true_eq, iB4]
 clear hB9
 intro aC fr
 refine zpk 2 11 [16, 17] fr (news := [(16, (cond (!B9) (.slice (sM gm) n n) undef)), (17, (cond (!B9) (.int .i64 v) undef))]) (by cases B9 <;> kernel_rfl) ?_
 intro aC fr
 refine From_either (B := (!B9)) (d := (some 18)) (.pointer (some ((⟨gm, 0, none⟩ : Addr).add ((v).toNat * 2)))) fr (by cases B9 <;> kernel_rfl) (fun hB hh => ?_) ?_
 cases B9 <;> first | (exact absurd hB (by decide)) | skip
 have c9 : ¬ (((v : Int) < 0) ∨ ((v : Int) ≥ ((n : Nat) : Int))) := (fun h => Bool.noConfusion (iB9.2 h) : ¬ (((v : Int) < 0) ∨ ((v : Int) ≥ ((n : Nat) : Int))))
 exact From_ix (some 18) ⟨gm, 0, none⟩ n 2 v fr (by kernel_rfl) (by omega) (by omega) hh
 intro aC fr
 refine zpk 1 13 [19] fr (news := [(19, (cond (!B9) (.pointer (some ((⟨gm, 0, none⟩ : Addr).add ((v).toNat * 2)))) undef))]) (by cases B9 <;> kernel_rfl) ?_
 intro aC fr
 refine From_either (B := (!B9)) (d := (some 20)) (.int .i64 ((l.getD v.toNat (0, 0)).1)) fr (by cases B9 <;> kernel_rfl) (fun hB hh => ?_) ?_
 cases B9 <;> first | (exact absurd hB (by decide)) | skip
 have c9 : ¬ (((v : Int) < 0) ∨ ((v : Int) ≥ ((n : Nat) : Int))) := (fun h => Bool.noConfusion (iB9.2 h) : ¬ (((v : Int) < 0) ∨ ((v : Int) ≥ ((n : Nat) : Int))))
 exact From_ld (some 20) ((⟨gm, 0, none⟩ : Addr).add ((v).toNat * 2)) fr (by kernel_rfl) (.int .i64 ((l.getD v.toNat (0, 0)).1)) (md_rd0 (row_rd (hM3.get 0 rfl)) rfl (get_getD _ (by omega))) hh
 intro aC fr
 refine zpk 2 16 [22] fr (news := [(22, (.bool (B9 || decide (((l.getD v.toNat (0, 0)).1 : Int) ≥ 0))))]) (by cases B9 <;> kernel_rfl) ?_
 intro aC fr
 revert aC
 refine zfe <| zcP (B9 || decide (((l.getD v.toNat (0, 0)).1 : Int) ≥ 0)) ((((v : Int) < 0) ∨ ((v : Int) ≥ ((n : Nat) : Int))) ∨ (((l.getD v.toNat (0, 0)).1 : Int) ≥ 0)) (by simp only [Bool.or_eq_true, decide_eq_true_eq, iB9]) (fun c22 => ?_) (fun c22 => ?_)
 have hQ : ¬ putQ 0 n l v := by unfold putQ; omega
 refine zsp <| zre <| zo1 (.bool false) ?_
 have hM23 := hM3.od [] 1
 exact ⟨l, (if_neg hQ).symm, by rw [decide_eq_false hQ], hM23⟩
 have hQ : putQ 0 n l v := by unfold putQ; omega
 refine zsk <| zsr <| zpn 2 <| zls ⟨b1, 0, none⟩ [(.int .i64 b), (.int .i64 k)] (blk_cells (hM3.get 1 rfl)) <| zix ⟨gm, 0, none⟩ n 2 v ?_
 intro aC fr
 refine From_storeS_row (by kernel_rfl : coreAt _ 4 = some (none, (.store 90 (.tmp 26) (.tmp 25)), 0, none)) fr (by kernel_rfl) (by kernel_rfl) (k' := 5) rfl (ad := (⟨gm, 0, none⟩ : Addr)) (j := ((v).toNat * 2)) (e := 90) (size := 2) (n := n) (cap := n) (vs := [(.int .i64 b), (.int .i64 k)]) (xs := (mdc l)) (ad' := ((⟨gm, 0, none⟩ : Addr).add ((v).toNat * 2))) (by kernel_rfl) rfl (by kernel_rfl) (by kernel_rfl) (by simp only [List.mem_cons, List.not_mem_nil, or_false]; intro v hv; rcases hv with rfl | rfl <;> rfl) hM3 0 rfl (by simp only [List.length_cons, List.length_nil]; omega) ?_
 intro w24 hM25 _ aC ea fr; clear ea
 replace hM25 := hM25.nf
 have hM30 : Mem (Res.row 90 2 (sM gm) n n (mdc l)).fp w w24 [.row 90 2 (sM gm) n n (mdc (l.set v.toNat (b, k))), .blk b1 90 [(.int .i64 b), (.int .i64 k)]] := hM25.cast (by rw [mdc_set _ _ (by omega)])
 revert aC
 refine zfe <| zsp <| zre <| zo1 (.bool true) ?_
 have hM31 := hM30.od [] 1
 exact ⟨_, (if_pos hQ).symm, by rw [decide_eq_true hQ], hM31⟩
end Go.Proofs.YtlfbloadopeamaaDoor
