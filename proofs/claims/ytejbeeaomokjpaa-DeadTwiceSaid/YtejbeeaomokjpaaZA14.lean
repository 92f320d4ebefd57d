/-
  Texts of the proof, part 14.
-/
import Derived.Test.YtejbeeaomokjpaaZA13
set_option maxRecDepth 10000
namespace Go.Proofs.Ytejbeeaomokjpaa
open Go.Mor
theorem reads_c (q gm qt gi go gs n k cs : Nat) (nm wk : Value) (pa va : Int) (ad0 : Addr) (c : Nat) (fs : List FBlk) (l : List (Int × Int)) (insL outL : List Int) (f g : Int → Int) (rowsS : List RowV) (w : World) (hN : fs.length ≤ 1000) (hk : k < fs.length) (hok : FOk fs) (hA : RO noS w (.fn (some ad0) fs)) (hq : RO noS w (.blk q 103 [nm, wk, (.int .i64 pa), (.int .i64 va), (.slice (some ad0) ((bsOf fs).length) c), (.slice (sM gs) ((bsOf fs).length) cs), (pT qt 0), (.slice (sM gm) n n)])) (hmd : RO noS w (.row 141 2 (sM gm) n n (mdc l))) (hqt : RO noS w (.blk qt 146 [(.slice (sM gi) (bsOf fs).length (bsOf fs).length), (.slice (sM go) (bsOf fs).length (bsOf fs).length)])) (hgi : RO noS w (.row 3 1 (sM gi) (bsOf fs).length (bsOf fs).length (ints insL))) (hgo : RO noS w (.row 3 1 (sM go) (bsOf fs).length (bsOf fs).length (ints outL))) (hin : IntsOf (bsOf fs).length insL f) (hout : IntsOf (bsOf fs).length outL g) (hFs : RO noS w (.fam 3 rowsS)) (hRs : RO noS w (.row 37 1 (sM gs) (bsOf fs).length cs (slv rowsS))) (hfs : FamOf (Value.int .i64) rowsS (allL (bsOf fs))) (hva : va = (n : Int)) (htb : TabS n (defsF fs) l) :
    Calls Try.prog 84 #[(pT q 0), (nV k)] w (Ret fun v w' => v = .bool (decide (readsQ (standQ f g) (endS fs) finS pa va fs k)) ∧ Mem noS w w' []) := by
 have hbl := bsOf_len fs
 have hm : (bsOf fs).length ≤ 1000000 := by omega
 have hB := hA.bs
 have hds : ∀ d, d ∈ defsF fs → 0 ≤ d.2.1 ∧ d.2.1 < ((bsOf fs).length : Int) ∧ -1 ≤ d.2.2 := fun d hd => by rw [hbl]; exact defs_mem hd
 refine zen 121 [(pT q 0), (nV k)] Try.func84 ?_
 have hM := Mem.init w
 refine zsp <| zsr ?_
 obtain ⟨x, hx⟩ := get_of (l := fs) (i := k) (by omega)
 have hl1 : x.phis.length ≤ 281474976710656 := (hok.get hx).lp
 have hl2 : x.insts.length ≤ 281474976710656 := (hok.get hx).li
 refine zpn 4 <| zld ⟨q, 4, none⟩ (.slice (some ad0) ((bsOf fs).length) c) (blk_cell (hM.ro hq) rfl) <| zpn 1 <| zix ad0 ((bsOf fs).length) 6 (k : Int) <| zls ((ad0 : Addr).add (((k : Int)).toNat * 6)) (xV x) (fblk_get (hM.ro hB) rfl hx) <| zal hM 36 [(.slice none 0 0), (.slice none 0 0), (.int .i64 0), (.int .i64 0), (.int .i64 0), (.int .i64 0)] fun b1 w2 hb1 M3 => ?_
 replace M3 := M3.nf
 clear hM
 refine zss M3 0 (xV x) rfl fun w4 M5 => ?_
 replace M5 := M5.nf
 refine zfe <| zsq <| zsr <| zpn 1 <| zld ⟨b1, 0, none⟩ (.slice x.pA x.phis.length x.pc) (blk_cell (M5.get 0 rfl) rfl) <| zpn 2 <| zfe <| zbk 0 ?_
 intro aC fr
 refine zlp (fun n_ a_ w_ => ∃ (j : Nat), n_ = x.phis.length - j ∧ Fr a_ 121 [(0, (pT q 0)), (1, (nV k)), (5, (pT b1 0)), (24, (.slice x.pA x.phis.length x.pc)), (25, (.int .i64 ((x.phis.length : Nat) : Int))), (26, (nV j))] ∧ Mem noS w w_ [.blk b1 36 (xV x)] ∧ (j ≤ x.phis.length) ∧ (PhiTo (standQ f g) (endS fs) pa va fs k x j)) (n := _) ⟨0, rfl, fr.kp [0, 1, 5, 24, 25, 26], M5, by omega, fun _ _ h => absurd h (Nat.not_lt_zero _)⟩ ?_
 clear fr aC M5; rintro n aC w8 ⟨j, rfl, fr, M9, hj, hph⟩
 revert aC
 refine zsp <| zsq <| zcD (((j : Int) : Int) < ((x.phis.length : Nat) : Int)) (fun c12 => ?_) (fun c12 => ?_)
 refine zsk <| zsq <| zbk 1 <| zsr ?_
 obtain ⟨p, hp⟩ := get_of (l := x.phis) (i := j) (by omega)
 have hpl : p.args.length ≤ 281474976710656 := ((hok.get hx).phis p (List.mem_of_getElem? hp)).len
 obtain ⟨ad13, had14⟩ := rds_some (M9.ro (hA.phis hx)) (cs := p.cells) (i := j) (by simp [hp])
 intro aC fr
 refine From_ixA (some 28) x.pA ad13 x.phis.length 2 (j : Int) fr (by kernel_rfl) had14 (by omega) (by omega) ?_
 intro aC fr
 revert aC
 refine zls ((ad13 : Addr).add (((j : Int)).toNat * 2)) (pV p) (phi_get (M9.ro (hA.phis hx)) had14 hp) <| zal M9 79 [(.int .i64 0), (.slice none 0 0)] fun b19 w20 hb19 M21 => ?_
 replace M21 := M21.nf
 refine zss M21 1 (pV p) rfl fun w22 M23 => ?_
 replace M23 := M23.nf
 refine zfe <| zsq <| zsq ?_
 obtain ⟨Ak, ck, hrk⟩ := hfs.get (allL_get (bs := bsOf fs) (t := k) (by omega))
 obtain ⟨Bln, hBln⟩ : ∃ B : Bool, B = (((p.args.length : Nat) : Int) != (((srcs (bsOf fs) (k : Int)).length : Nat) : Int)) := ⟨_, rfl⟩
 refine zkp [(0, (pT q 0)), (1, (nV k)), (5, (pT b1 0)), (7, (pT b19 0)), (24, (.slice x.pA x.phis.length x.pc)), (25, (.int .i64 ((x.phis.length : Nat) : Int))), (26, (nV j))] ?_
 intro aC fr
 refine zdr (N := 121) (env0 := [(0, (pT q 0)), (1, (nV k)), (5, (pT b1 0)), (7, (pT b19 0)), (24, (.slice x.pA x.phis.length x.pc)), (25, (.int .i64 ((x.phis.length : Nat) : Int))), (26, (nV j))]) (specAt [.det (pT b19 1), .det (.slice p.A p.args.length p.c), .det (.int .i64 ((p.args.length : Nat) : Int)), .det (pT q 0), .det (pT q 0), .det (pT q 5), .det (.slice (sM gs) ((bsOf fs).length) cs), .det (nV k), .det (.pointer (some ((⟨gs, 0, none⟩ : Addr).add (((k : Int)).toNat * 1)))), .det (.slice Ak ((srcs (bsOf fs) (k : Int)).length) ck), .det (.int .i64 (((srcs (bsOf fs) (k : Int)).length : Nat) : Int)), .det (.bool Bln)]) fr (la (la (la (la (la (la (la (la (la (la (la (la lz dP) (dL ⟨b19, 1, none⟩ (.slice p.A p.args.length p.c) fun w_ hK => (blk_cell ((M23.then_ hK).get 1 rfl) rfl))) dP) dP) dP) dP) (dL ⟨q, 5, none⟩ (.slice (sM gs) ((bsOf fs).length) cs) fun w_ hK => (blk_cell ((M23.then_ hK).ro hq) rfl))) dP) (dI ⟨gs, 0, none⟩ ((bsOf fs).length) 1 (k : Int))) (dL ((⟨gs, 0, none⟩ : Addr).add (((k : Int)).toNat * 1)) (.slice Ak ((srcs (bsOf fs) (k : Int)).length) ck) fun w_ hK => (rd_get1 (row_rd ((M23.then_ hK).ro hRs)) rfl (slv_get hrk)))) dP) (dC (((p.args.length : Nat) : Int) != (((srcs (bsOf fs) (k : Int)).length : Nat) : Int)) hBln)) ?_
 intro aC w28 vs hK hv fr
 revert aC; refine zkp [(0, (pT q 0)), (1, (nV k)), (5, (pT b1 0)), (7, (pT b19 0)), (24, (.slice x.pA x.phis.length x.pc)), (25, (.int .i64 ((x.phis.length : Nat) : Int))), (26, (nV j)), (41, (.bool Bln))] ?_
 have M29 := M23.then_ hK
 clear hK hv fr aC M23; clear vs
 have iBln : Bln = true ↔ ((((p.args.length : Nat) : Int) : Int) ≠ (((srcs (bsOf fs) (k : Int)).length : Nat) : Int)) := by rw [hBln]; simp only [bne_iff_ne]
 clear hBln
 refine zcP Bln ((((p.args.length : Nat) : Int) : Int) ≠ (((srcs (bsOf fs) (k : Int)).length : Nat) : Int)) iBln (fun c30 => ?_) (fun c30 => ?_)
 refine zsp <| zre <| zbr <| zbr <| zo1 (.bool false) ?_
 have hR : false = true ↔ False := by simp
 have M31 := M29.od [] 0
 exact ⟨bool_dec hR (⟨False.elim, fun h => reads_len hx hp (by omega) h⟩), M31⟩
 refine zsk <| zsr <| zpn 1 <| zld ⟨b19, 1, none⟩ (.slice p.A p.args.length p.c) (blk_cell (M29.get 1 rfl) rfl) <| zpn 2 <| zfe <| zbk 2 ?_
 intro aC fr
 refine zlp (fun n_ a_ w_ => ∃ (i : Nat), n_ = p.args.length - i ∧ Fr a_ 121 [(0, (pT q 0)), (1, (nV k)), (5, (pT b1 0)), (24, (.slice x.pA x.phis.length x.pc)), (25, (.int .i64 ((x.phis.length : Nat) : Int))), (26, (nV j)), (43, (.slice p.A p.args.length p.c)), (44, (.int .i64 ((p.args.length : Nat) : Int))), (45, (nV i))] ∧ Mem noS w w_ [.blk b1 36 (xV x), .blk b19 79 (pV p)] ∧ (i ≤ p.args.length) ∧ (ArgTo (standQ f g) (endS fs) pa va fs k p i)) (n := _) ⟨0, rfl, fr.kp [0, 1, 5, 24, 25, 26, 43, 44, 45], M29, by omega, fun _ _ _ h => absurd h (Nat.not_lt_zero _)⟩ ?_
 clear fr aC M29; rintro n aC w34 ⟨i, rfl, fr, M35, hi, hag⟩
 revert aC
 refine zsp <| zsq <| zcD (((i : Int) : Int) < ((p.args.length : Nat) : Int)) (fun c38 => ?_) (fun c38 => ?_)
 refine zsk <| zsq <| zbk 3 <| zsr ?_
 obtain ⟨a, ha⟩ := get_of (l := p.args) (i := i) (by omega)
 obtain ⟨si, hsi, hsn⟩ := srcs_at (bs := bsOf fs) (b := (k : Int)) (q := i) (by omega)
 obtain ⟨y, hy⟩ := get_of (l := fs) (i := si) (by omega)
 refine zpn 1 ?_
 obtain ⟨ad39, had40⟩ := rd_some (M35.ro (hA.phi hx hp)) (by simp [ints]; omega)
 intro aC fr
 refine From_ixA (some 48) p.A ad39 p.args.length 1 (i : Int) fr (by kernel_rfl) had40 (by omega) (by omega) ?_
 intro aC fr
 revert aC
 refine zld ((ad39 : Addr).add (((i : Int)).toNat * 1)) (.int .i64 a) (rd_at (M35.ro (hA.phi hx hp)) had40 ha) <| zpn 2 <| zfe <| zsr <| zpn 3 <| zld ⟨q, 5, none⟩ (.slice (sM gs) ((bsOf fs).length) cs) (blk_cell (M35.ro hq) rfl) <| zpn 1 <| zix ⟨gs, 0, none⟩ ((bsOf fs).length) 1 (k : Int) <| zld ((⟨gs, 0, none⟩ : Addr).add (((k : Int)).toNat * 1)) (.slice Ak ((srcs (bsOf fs) (k : Int)).length) ck) (rd_get1 (row_rd (M35.ro hRs)) rfl (slv_get hrk)) <| zpn 1 ?_
 obtain ⟨ad45, rfl⟩ := rd_some (fam_rd (M35.ro hFs) hrk) (by simp; omega)
 refine zix ad45 ((srcs (bsOf fs) (k : Int)).length) 1 (i : Int) <| zkp [(0, (pT q 0)), (1, (nV k)), (5, (pT b1 0)), (9, (.int .i64 a)), (24, (.slice x.pA x.phis.length x.pc)), (25, (.int .i64 ((x.phis.length : Nat) : Int))), (26, (nV j)), (43, (.slice p.A p.args.length p.c)), (44, (.int .i64 ((p.args.length : Nat) : Int))), (45, (nV i)), (58, (.pointer (some ((ad45 : Addr).add (((i : Int)).toNat * 1)))))] <| zld ((ad45 : Addr).add (((i : Int)).toNat * 1)) (nV si) (rd_at (fam_rd (M35.ro hFs) hrk) rfl hsi) <| zpn 1 <| zfe <| zsr <| zpn 7 <| zld ⟨q, 4, none⟩ (.slice (some ad0) ((bsOf fs).length) c) (blk_cell (M35.ro hq) rfl) <| zpn 1 <| zix ad0 ((bsOf fs).length) 6 (si : Int) ?_
 refine zpn 1 <| zld (((ad0 : Addr).add (((si : Int)).toNat * 6)).add 1) (.slice y.iA y.insts.length y.ic) (fblk_get (M35.ro hB) rfl hy 1 _ rfl) <| zpn 1 <| zcl (there_c q gm qt gi go n (bsOf fs).length nm wk (.slice (sM gs) (bsOf fs).length cs) pa va (some ad0) c l insL outL f g (defsF fs) a (si : Int) ((y.insts.length : Nat) : Int) w34 (hq.at_ M35) (hmd.at_ M35) (hqt.at_ M35) (hgi.at_ M35) (hgo.at_ M35) hin hout hva htb hds (by omega) (by omega)) ?_
 rintro _ w46 ⟨rfl, M47x⟩
 have M47 := M35.cl M47x
 refine zpn 1 <| zfe <| zcP (!(decide (thereQ (standQ f g) pa va (defsF fs) a (si : Int) ((y.insts.length : Nat) : Int)))) (¬ (thereQ (standQ f g) pa va (defsF fs) a (si : Int) ((y.insts.length : Nat) : Int))) (by simp only [notT, decide_eq_true_eq]) (fun c48 => ?_) (fun c48 => ?_)
 refine zsp <| zre <| zbr <| zbr <| zbr <| zbr <| zo1 (.bool false) ?_
 have hR : false = true ↔ False := by simp
 have M49 := M47.od [] 0
 exact ⟨bool_dec hR (⟨False.elim, fun h => reads_arg hx hp ha hsi (by rw [endS_at hy]; exact c48) h⟩), M49⟩
 have htq := Classical.not_not.1 c48
 refine zsk <| zrg <| zar ((i : Int) + 1) <| zkp [(0, (pT q 0)), (1, (nV k)), (5, (pT b1 0)), (24, (.slice x.pA x.phis.length x.pc)), (25, (.int .i64 ((x.phis.length : Nat) : Int))), (26, (nV j)), (43, (.slice p.A p.args.length p.c)), (44, (.int .i64 ((p.args.length : Nat) : Int))), (75, (.int .i64 ((i : Int) + 1)))] <| zpn 1 <| zfe ?_
 intro aC fr
 exact ⟨p.args.length - (i + 1), by omega, i + 1, rfl, fr.kp [0, 1, 5, 24, 25, 26, 43, 44, 45], M47, by omega, hag.next ha hsi (by rw [endS_at hy]; exact htq)⟩
 refine zex 2 <| zbh <| zrg <| zar ((j : Int) + 1) <| zpn 1 <| zfe ?_
 intro aC fr
 exact ⟨x.phis.length - (j + 1), by omega, j + 1, rfl, fr.kp [0, 1, 5, 24, 25, 26], (M35.tk 1), by omega, hph.next hp (by omega) ((show i = p.args.length by omega) ▸ hag)⟩
 refine zex 0 <| zbh <| zsq <| zsr ?_
 have hphe : PhiTo (standQ f g) (endS fs) pa va fs k x x.phis.length := (show j = x.phis.length by omega) ▸ hph
 refine zpn 1 <| zld ⟨b1, 1, none⟩ (.slice x.iA x.insts.length x.ic) (blk_cell (M9.get 0 rfl) rfl) <| zpn 2 <| zfe <| zbk 4 ?_
 intro aC fr
 refine zlp (fun n_ a_ w_ => ∃ (j3 : Nat), n_ = x.insts.length - j3 ∧ Fr a_ 121 [(0, (pT q 0)), (1, (nV k)), (5, (pT b1 0)), (78, (.slice x.iA x.insts.length x.ic)), (79, (.int .i64 ((x.insts.length : Nat) : Int))), (80, (nV j3))] ∧ Mem noS w w_ [.blk b1 36 (xV x)] ∧ (j3 ≤ x.insts.length) ∧ (InsTo (standQ f g) pa va fs k x j3)) (n := _) ⟨0, rfl, fr.kp [0, 1, 5, 78, 79, 80], M9, by omega, fun _ _ h => absurd h (Nat.not_lt_zero _)⟩ ?_
 clear fr aC M9; rintro n aC w56 ⟨j3, rfl, fr, M57, hj3, hit⟩
 revert aC
 refine zsp <| zsq <| zcD (((j3 : Int) : Int) < ((x.insts.length : Nat) : Int)) (fun c60 => ?_) (fun c60 => ?_)
 refine zsk <| zsq <| zbk 5 <| zsr ?_
 obtain ⟨p3, hp3⟩ := get_of (l := x.insts) (i := j3) (by omega)
 have hpl3 : p3.args.length ≤ 281474976710656 := ((hok.get hx).insts p3 (List.mem_of_getElem? hp3)).len
 refine zpn 1 ?_
 obtain ⟨ad61, had62⟩ := rds_some (M57.ro (hA.insts hx)) (cs := p3.cells) (i := j3) (by simp [hp3])
 intro aC fr
 refine From_ixA (some 83) x.iA ad61 x.insts.length 5 (j3 : Int) fr (by kernel_rfl) had62 (by omega) (by omega) ?_
 intro aC fr
 revert aC
 refine zls ((ad61 : Addr).add (((j3 : Int)).toNat * 5)) (iV p3) (ins_get (M57.ro (hA.insts hx)) had62 hp3) <| zal M57 39 [(.int .i64 0), (.int .i64 0), (.int .i64 0), (.string ⟨#[]⟩), (.slice none 0 0)] fun b67 w68 hb67 M69 => ?_
 replace M69 := M69.nf
 refine zpn 1 <| zss M69 1 (iV p3) rfl fun w70 M71 => ?_
 replace M71 := M71.nf
 refine zfe <| zsr <| zpn 1 <| zld ⟨b67, 4, none⟩ (.slice p3.A p3.args.length p3.c) (blk_cell (M71.get 1 rfl) rfl) <| zpn 2 <| zfe <| zbk 6 ?_
 intro aC fr
 refine zlp (fun n_ a_ w_ => ∃ (i3 : Nat), n_ = p3.args.length - i3 ∧ Fr a_ 121 [(0, (pT q 0)), (1, (nV k)), (5, (pT b1 0)), (11, (nV j3)), (78, (.slice x.iA x.insts.length x.ic)), (79, (.int .i64 ((x.insts.length : Nat) : Int))), (80, (nV j3)), (86, (.slice p3.A p3.args.length p3.c)), (87, (.int .i64 ((p3.args.length : Nat) : Int))), (88, (nV i3))] ∧ Mem noS w w_ [.blk b1 36 (xV x), .blk b67 39 (iV p3)] ∧ (i3 ≤ p3.args.length) ∧ (OpTo (standQ f g) pa va fs k j3 p3 i3)) (n := _) ⟨0, rfl, fr.kp [0, 1, 5, 11, 78, 79, 80, 86, 87, 88], M71, by omega, fun _ _ h => absurd h (Nat.not_lt_zero _)⟩ ?_
 clear fr aC M71; rintro n aC w74 ⟨i3, rfl, fr, M75, hi3, hop⟩
 revert aC
 refine zsp <| zsq <| zcD (((i3 : Int) : Int) < ((p3.args.length : Nat) : Int)) (fun c78 => ?_) (fun c78 => ?_)
 refine zsk <| zsq <| zbk 7 <| zsr ?_
 obtain ⟨a, ha⟩ := get_of (l := p3.args) (i := i3) (by omega)
 obtain ⟨ad79, had80⟩ := rd_some (M75.ro (hA.inst hx hp3)) (by simp [ints]; omega)
 intro aC fr
 refine From_ixA (some 90) p3.A ad79 p3.args.length 1 (i3 : Int) fr (by kernel_rfl) had80 (by omega) (by omega) ?_
 intro aC fr
 revert aC
 refine zld ((ad79 : Addr).add (((i3 : Int)).toNat * 1)) (.int .i64 a) (rd_at (M75.ro (hA.inst hx hp3)) had80 ha) <| zpn 1 <| zfe <| zsr <| zpn 4 <| zcl (there_c q gm qt gi go n (bsOf fs).length nm wk (.slice (sM gs) (bsOf fs).length cs) pa va (some ad0) c l insL outL f g (defsF fs) a (k : Int) (j3 : Int) w74 (hq.at_ M75) (hmd.at_ M75) (hqt.at_ M75) (hgi.at_ M75) (hgo.at_ M75) hin hout hva htb hds (by omega) (by omega)) ?_
 rintro _ w85 ⟨rfl, M86x⟩
 have M86 := M75.cl M86x
 refine zpn 1 <| zfe <| zcP (!(decide (thereQ (standQ f g) pa va (defsF fs) a (k : Int) (j3 : Int)))) (¬ (thereQ (standQ f g) pa va (defsF fs) a (k : Int) (j3 : Int))) (by simp only [notT, decide_eq_true_eq]) (fun c87 => ?_) (fun c87 => ?_)
 refine zsp <| zre <| zbr <| zbr <| zbr <| zbr <| zo1 (.bool false) ?_
 have hR : false = true ↔ False := by simp
 have M88 := M86.od [] 0
 exact ⟨bool_dec hR (⟨False.elim, fun h => reads_op hx hp3 ha c87 h⟩), M88⟩
 have htq := Classical.not_not.1 c87
 refine zsk <| zrg <| zar ((i3 : Int) + 1) <| zpn 1 <| zfe ?_
 intro aC fr
 exact ⟨p3.args.length - (i3 + 1), by omega, i3 + 1, rfl, fr.kp [0, 1, 5, 11, 78, 79, 80, 86, 87, 88], M86, by omega, hop.next ha htq⟩
 refine zex 6 <| zbh <| zrg <| zar ((j3 : Int) + 1) <| zpn 1 <| zfe ?_
 intro aC fr
 exact ⟨x.insts.length - (j3 + 1), by omega, j3 + 1, rfl, fr.kp [0, 1, 5, 78, 79, 80], (M75.tk 1), by omega, hit.next hp3 ((show i3 = p3.args.length by omega) ▸ hop)⟩
 refine zex 4 <| zbh <| zsq <| zsr ?_
 have hite : InsTo (standQ f g) pa va fs k x x.insts.length := (show j3 = x.insts.length by omega) ▸ hit
 refine zpn 1 <| zld ⟨b1, 2, none⟩ (.int .i64 x.e) (blk_cell (M57.get 0 rfl) rfl) <| zpn 2 ?_
 obtain ⟨B93, hB93⟩ : ∃ B : Bool, B = ((x.e : Int) == 1) := ⟨_, rfl⟩
 refine zkp [(0, (pT q 0)), (1, (nV k)), (5, (pT b1 0)), (103, (.bool ((x.e : Int) == 1)))] ?_
 rw [← hB93]
 have iB93 : B93 = true ↔ ((x.e : Int) = 1) := by rw [hB93]; simp only [beq_iff_eq]
 clear hB93
 intro aC fr
 refine zpk 1 5 [104] fr (news := [(104, (cond (!B93) (pT b1 2) undef))]) (by cases B93 <;> kernel_rfl) ?_
 intro aC fr
 refine From_either (B := (!B93)) (d := (some 105)) (.int .i64 x.e) fr (by cases B93 <;> kernel_rfl) (fun hB hh => ?_) ?_
 cases B93 <;> first | (exact absurd hB (by decide)) | skip
 have c93 : ¬ ((x.e : Int) = 1) := (fun h => Bool.noConfusion (iB93.2 h) : ¬ ((x.e : Int) = 1))
 exact From_ld (some 105) ⟨b1, 2, none⟩ fr (by kernel_rfl) (.int .i64 x.e) (blk_cell (M57.get 0 rfl) rfl) hh
 intro aC fr
 refine zpk 2 8 [107] fr (news := [(107, (cond (!B93) (.bool ((x.e : Int) == 2)) undef))]) (by cases B93 <;> kernel_rfl) ?_
 intro aC fr
 obtain ⟨B102, hB102⟩ : ∃ B : Bool, B = ((x.e : Int) == 2) := ⟨_, rfl⟩
 revert aC
 refine zkp [(0, (pT q 0)), (1, (nV k)), (5, (pT b1 0)), (103, (.bool B93)), (107, (cond (!B93) (.bool ((x.e : Int) == 2)) undef))] ?_
 rw [← hB102]
 have iB102 : B102 = true ↔ ((x.e : Int) = 2) := by rw [hB102]; simp only [beq_iff_eq]
 clear hB102
 intro aC fr
 refine zpk 1 9 [108] fr (news := [(108, (cond (!B93 && B102) (pT b1 3) undef))]) (by cases B102 <;> cases B93 <;> kernel_rfl) ?_
 intro aC fr
 refine From_either (B := (!B93 && B102)) (d := (some 109)) (.int .i64 x.v) fr (by cases B93 <;> cases B102 <;> kernel_rfl) (fun hB hh => ?_) ?_
 cases B93 <;> cases B102 <;> first | (exact absurd hB (by decide)) | skip
 have c93 : ¬ ((x.e : Int) = 1) := (fun h => Bool.noConfusion (iB93.2 h) : ¬ ((x.e : Int) = 1))
 have c102 : ((x.e : Int) = 2) := iB102.1 rfl
 exact From_ld (some 109) ⟨b1, 3, none⟩ fr (by kernel_rfl) (.int .i64 x.v) (blk_cell (M57.get 0 rfl) rfl) hh
 intro aC fr
 refine zpk 3 13 [112] fr (news := [(112, (.bool (B93 || (B102 && decide ((x.v : Int) ≥ 0)))))]) (by cases B102 <;> cases B93 <;> kernel_rfl) ?_
 intro aC fr
 revert aC
 refine zfe <| zcP (B93 || (B102 && decide ((x.v : Int) ≥ 0))) (((x.e : Int) = 1) ∨ (((x.e : Int) = 2) ∧ ((x.v : Int) ≥ 0))) (by simp only [Bool.or_eq_true, Bool.and_eq_true, decide_eq_true_eq, iB102, iB93]) (fun c111 => ?_) (fun c111 => ?_)
 refine zsr <| zpn 2 <| zld ⟨b1, 3, none⟩ (.int .i64 x.v) (blk_cell (M57.get 0 rfl) rfl) <| zpn 2 <| zld ⟨b1, 1, none⟩ (.slice x.iA x.insts.length x.ic) (blk_cell (M57.get 0 rfl) rfl) <| zpn 1 <| zcl (there_c q gm qt gi go n (bsOf fs).length nm wk (.slice (sM gs) (bsOf fs).length cs) pa va (some ad0) c l insL outL f g (defsF fs) x.v (k : Int) ((x.insts.length : Nat) : Int) w56 (hq.at_ M57) (hmd.at_ M57) (hqt.at_ M57) (hgi.at_ M57) (hgo.at_ M57) hin hout hva htb hds (by omega) (by omega)) ?_
 rintro _ w112 ⟨rfl, M113x⟩
 have M113 := M57.cl M113x
 refine zpn 1 <| zfe <| zre <| zo1 (.bool (decide (thereQ (standQ f g) pa va (defsF fs) x.v (k : Int) ((x.insts.length : Nat) : Int)))) ?_
 have hR : decide (thereQ (standQ f g) pa va (defsF fs) x.v (k : Int) ((x.insts.length : Nat) : Int)) = true ↔ (thereQ (standQ f g) pa va (defsF fs) x.v (k : Int) ((x.insts.length : Nat) : Int)) := by simp only [decide_eq_true_eq]
 have M114 := M113.od [] 0
 exact ⟨bool_dec hR (⟨fun h => reads_yes hx hphe hite (fun _ => by rw [endS_at hx]; exact h), fun h => by have := (reads_of hx h).fin (by unfold finS; omega); rwa [endS_at hx] at this⟩), M114⟩
 refine zsk <| zsp <| zre <| zo1 (.bool true) ?_
 have hR : true = true ↔ True := by simp
 have M115 := M57.od [] 0
 exact ⟨bool_dec hR (⟨fun _ => reads_yes hx hphe hite (fun hr => absurd hr (by unfold finS; omega)), fun _ => trivial⟩), M115⟩
end Go.Proofs.Ytejbeeaomokjpaa
namespace Go.Proofs.Ytejbeeaomokjpaa
open Go.Mor
theorem rreads_c (nm : ByteArray) (wk : Bool) (gm n co k : Nat) (Ao : Option Addr) (pa va : Int) (A : Option Addr) (c : Nat) (fs : List FBlk) (l : List (Int × Int)) (rows : List RowV) (w : World) (hN : fs.length ≤ 1000) (hk : k < fs.length) (hok : FOk fs) (hA : RO noS w (.fn A fs)) (hmd : RO noS w (.row 94 2 (sM gm) n n (mdc l))) (hF0 : RO noS w (.fam 4 rows)) (hR : RO noS w (.row 46 1 Ao (bsOf fs).length co (slv rows))) (hfo : FamOf Value.bool rows (overL (bsOf fs))) (hva : va = (n : Int)) (htb : TabR pa n (defsF fs) l) (hpd : ∀ d, d ∈ defsF fs → pa ≤ d.1) :
    Calls Try.prog 44 #[(fA nm wk pa va A c fs), (.slice (sM gm) n n), (.slice Ao ((bsOf fs).length) co), (nV k)] w (Ret fun v w' => v = .bool (decide (readsQ (overD (bsOf fs)) (fun _ => 20000) finR pa va fs k)) ∧ Mem noS w w' []) := by
 have hbl := bsOf_len fs
 have hm : (bsOf fs).length ≤ 1000000 := by omega
 have hB := hA.bs
 have hds : ∀ d, d ∈ defsF fs → 0 ≤ d.2.1 ∧ d.2.1 < ((bsOf fs).length : Int) ∧ -1 ≤ d.2.2 := fun d hd => by rw [hbl]; exact defs_mem hd
 refine zen 115 [(fA nm wk pa va A c fs), (.slice (sM gm) n n), (.slice Ao ((bsOf fs).length) co), (nV k)] Try.func44 ?_
 have hM := Mem.init w
 refine zsr <| zbx hM 24 (fA nm wk pa va A c fs) (fV nm wk pa va A c fs) fun b1 w2 hb1 M3 => ?_
 replace M3 := M3.nf
 clear hM
 refine zpn 1 <| zfe <| zsr ?_
 obtain ⟨x, hx⟩ := get_of (l := fs) (i := k) (by omega)
 have hl1 : x.phis.length ≤ 281474976710656 := (hok.get hx).lp
 have hl2 : x.insts.length ≤ 281474976710656 := (hok.get hx).li
 refine zpn 1 <| zld ⟨b1, 4, none⟩ (.slice A ((bsOf fs).length) c) (blk_cell (M3.get 0 rfl) rfl) <| zpn 1 ?_
 obtain ⟨ad4, rfl⟩ := blocks_some (M3.ro hB) (bsOf_get hx)
 refine zix ad4 ((bsOf fs).length) 6 (k : Int) <| zls ((ad4 : Addr).add (((k : Int)).toNat * 6)) (xV x) (fblk_get (M3.ro hB) rfl hx) <| zal M3 36 [(.slice none 0 0), (.slice none 0 0), (.int .i64 0), (.int .i64 0), (.int .i64 0), (.int .i64 0)] fun b5 w6 hb5 M7 => ?_
 replace M7 := M7.nf
 refine zss M7 1 (xV x) rfl fun w8 M9 => ?_
 replace M9 := M9.nf
 refine zfe <| zsr <| zls ⟨b1, 0, none⟩ (fV nm wk pa va (some ad4) c fs) (blk_cells (M9.get 0 rfl)) <| zpn 1 <| zcl (vs := #[(fA nm wk pa va (some ad4) c fs), (nV k)]) (rsources_c _ _ _ _ (some ad4) c (bsOf fs) (k : Int) w8 hm (hB.at_ M9)) ?_
 rintro _ w12 ⟨A10, c11, rfl, M13x⟩
 have M13 := M9.cl M13x
 refine zkp [(1, (.slice (sM gm) n n)), (2, (.slice Ao ((bsOf fs).length) co)), (3, (nV k)), (9, (pT b5 0)), (22, (.slice A10 ((srcs (bsOf fs) (k : Int)).length) c11))] <| zpn 1 <| zfe <| zsq <| zsp <| zbk 0 ?_
 have hsl := srcsTo_len (bsOf fs) (k : Int) (bsOf fs).length
 intro aC fr
 refine zlp (fun n_ a_ w_ => ∃ (j : Nat), n_ = x.phis.length - j ∧ Fr a_ 115 [(1, (.slice (sM gm) n n)), (2, (.slice Ao ((bsOf fs).length) co)), (3, (nV k)), (9, (pT b5 0)), (10, (.slice A10 ((srcs (bsOf fs) (k : Int)).length) c11)), (11, (nV j))] ∧ Mem noS w w_ [.blk b1 24 (fV nm wk pa va (some ad4) c fs), .blk b5 36 (xV x), .row 3 1 A10 ((srcs (bsOf fs) (k : Int)).length) c11 (ints (srcs (bsOf fs) (k : Int)))] ∧ (j ≤ x.phis.length) ∧ (PhiTo (overD (bsOf fs)) (fun _ => 20000) pa va fs k x j)) (n := _) ⟨0, rfl, fr.kp [1, 2, 3, 9, 10, 11], M13, by omega, fun _ _ h => absurd h (Nat.not_lt_zero _)⟩ ?_
 clear fr aC M13; rintro n aC w16 ⟨j, rfl, fr, M17, hj, hph⟩
 revert aC
 refine zsq <| zsr <| zpn 2 <| zld ⟨b5, 0, none⟩ (.slice x.pA x.phis.length x.pc) (blk_cell (M17.get 1 rfl) rfl) <| zpn 2 <| zfe <| zcD (((j : Int) : Int) < ((x.phis.length : Nat) : Int)) (fun c20 => ?_) (fun c20 => ?_)
 refine zsk <| zsq <| zbk 1 <| zsq <| zsr ?_
 obtain ⟨p, hp⟩ := get_of (l := x.phis) (i := j) (by omega)
 have hpl : p.args.length ≤ 281474976710656 := ((hok.get hx).phis p (List.mem_of_getElem? hp)).len
 refine zpn 1 <| zld ⟨b5, 0, none⟩ (.slice x.pA x.phis.length x.pc) (blk_cell (M17.get 1 rfl) rfl) <| zpn 1 ?_
 obtain ⟨ad21, had22⟩ := rds_some (M17.ro (hA.phis hx)) (cs := p.cells) (i := j) (by simp [hp])
 intro aC fr
 refine From_ixA (some 33) x.pA ad21 x.phis.length 2 (j : Int) fr (by kernel_rfl) had22 (by omega) (by omega) ?_
 intro aC fr
 revert aC
 refine zpn 1 <| zld (((ad21 : Addr).add (((j : Int)).toNat * 2)).add 1) (.slice p.A p.args.length p.c) (phi_get (M17.ro (hA.phis hx)) had22 hp 1 _ rfl) <| zpn 4 <| zfe <| zcP ((((p.args.length : Nat) : Int) : Int) != (((srcs (bsOf fs) (k : Int)).length : Nat) : Int)) ((((p.args.length : Nat) : Int) : Int) ≠ (((srcs (bsOf fs) (k : Int)).length : Nat) : Int)) (by simp only [bne_iff_ne]) (fun c27 => ?_) (fun c27 => ?_)
 refine zsp <| zre <| zbr <| zbr <| zo1 (.bool false) ?_
 have hR : false = true ↔ False := by simp
 have M28 := M17.od [] 0
 exact ⟨bool_dec hR (⟨False.elim, fun h => reads_len hx hp (by omega) h⟩), M28⟩
 refine zsk <| zsp <| zbk 2 ?_
 intro aC fr
 refine zlp (fun n_ a_ w_ => ∃ (i : Nat), n_ = p.args.length - i ∧ Fr a_ 115 [(1, (.slice (sM gm) n n)), (2, (.slice Ao ((bsOf fs).length) co)), (3, (nV k)), (9, (pT b5 0)), (10, (.slice A10 ((srcs (bsOf fs) (k : Int)).length) c11)), (11, (nV j)), (12, (nV i))] ∧ Mem noS w w_ [.blk b1 24 (fV nm wk pa va (some ad4) c fs), .blk b5 36 (xV x), .row 3 1 A10 ((srcs (bsOf fs) (k : Int)).length) c11 (ints (srcs (bsOf fs) (k : Int)))] ∧ (i ≤ p.args.length) ∧ (ArgTo (overD (bsOf fs)) (fun _ => 20000) pa va fs k p i)) (n := _) ⟨0, rfl, fr.kp [1, 2, 3, 9, 10, 11, 12], M17, by omega, fun _ _ _ h => absurd h (Nat.not_lt_zero _)⟩ ?_
 clear fr aC M17; rintro n aC w31 ⟨i, rfl, fr, M32, hi, hag⟩
 revert aC
 refine zsq <| zsp <| zcD (((i : Int) : Int) < (((srcs (bsOf fs) (k : Int)).length : Nat) : Int)) (fun c35 => ?_) (fun c35 => ?_)
 refine zsk <| zsq <| zbk 3 <| zsq ?_
 obtain ⟨a, ha⟩ := get_of (l := p.args) (i := i) (by omega)
 obtain ⟨si, hsi, hsn⟩ := srcs_at (bs := bsOf fs) (b := (k : Int)) (q := i) (by omega)
 obtain ⟨ad36, had37⟩ := rds_some (M32.ro (hA.phis hx)) (cs := p.cells) (i := j) (by simp [hp])
 obtain ⟨ad38, had39⟩ := rd_some (M32.ro (hA.phi hx hp)) (by simp [ints]; omega)
 obtain ⟨g40, rfl⟩ := row_some (M32.get 2 rfl) (by omega)
 obtain ⟨Bth, hBth⟩ : ∃ B : Bool, B = decide (thereQ (overD (bsOf fs)) pa va (defsF fs) a (si : Int) 20000) := ⟨_, rfl⟩
 refine zkp [(1, (.slice (sM gm) n n)), (2, (.slice Ao ((bsOf fs).length) co)), (3, (nV k)), (9, (pT b5 0)), (10, (.slice (sM g40) ((srcs (bsOf fs) (k : Int)).length) c11)), (11, (nV j)), (12, (nV i))] ?_
 intro aC fr
 refine zdr (N := 115) (env0 := [(1, (.slice (sM gm) n n)), (2, (.slice Ao ((bsOf fs).length) co)), (3, (nV k)), (9, (pT b5 0)), (10, (.slice (sM g40) ((srcs (bsOf fs) (k : Int)).length) c11)), (11, (nV j)), (12, (nV i))]) (specAt [.det (.slice (sM gm) n n), .det (.slice Ao ((bsOf fs).length) co), .det (pT b5 0), .det (.slice x.pA x.phis.length x.pc), .det (nV j), .det (.pointer (some ((ad36 : Addr).add (((j : Int)).toNat * 2)))), .det (.pointer (some (((ad36 : Addr).add (((j : Int)).toNat * 2)).add 1))), .det (.slice p.A p.args.length p.c), .det (nV i), .det (.pointer (some ((ad38 : Addr).add (((i : Int)).toNat * 1)))), .det (.int .i64 a), .det (.slice (sM g40) ((srcs (bsOf fs) (k : Int)).length) c11), .det (nV i), .det (.pointer (some ((⟨g40, 0, none⟩ : Addr).add (((i : Int)).toNat * 1)))), .det (nV si), .det (.bool Bth), .det (.bool (!Bth))]) fr (la (la (la (la (la (la (la (la (la (la (la (la (la (la (la (la (la lz dP) dP) dP) (dL ⟨b5, 0, none⟩ (.slice x.pA x.phis.length x.pc) fun w_ hK => (blk_cell ((M32.then_ hK).get 1 rfl) rfl))) dP) (dIA x.pA ad36 x.phis.length 2 (j : Int) had37)) dP) (dL (((ad36 : Addr).add (((j : Int)).toNat * 2)).add 1) (.slice p.A p.args.length p.c) fun w_ hK => (phi_get ((M32.then_ hK).ro (hA.phis hx)) had37 hp 1 _ rfl))) dP) (dIA p.A ad38 p.args.length 1 (i : Int) had39)) (dL ((ad38 : Addr).add (((i : Int)).toNat * 1)) (.int .i64 a) fun w_ hK => (rd_at ((M32.then_ hK).ro (hA.phi hx hp)) had39 ha))) dP) dP) (dI ⟨g40, 0, none⟩ ((srcs (bsOf fs) (k : Int)).length) 1 (i : Int))) (dL ((⟨g40, 0, none⟩ : Addr).add (((i : Int)).toNat * 1)) (nV si) fun w_ hK => (rd_at (row_rd ((M32.then_ hK).get 2 rfl)) rfl hsi))) (dD (fun w_ hK => rthere_c gm n co Ao pa va l (defsF fs) (bsOf fs) rows a (si : Int) 20000 w_ (by omega) (hmd.at_ (M32.then_ hK)) (hF0.at_ (M32.then_ hK)) (hR.at_ (M32.then_ hK)) hfo hva htb hpd hds (by omega) (by omega)) (congrArg Value.bool hBth.symm))) dP) ?_
 intro aC w45 vs hK hv fr
 revert aC; refine zkp [(1, (.slice (sM gm) n n)), (2, (.slice Ao ((bsOf fs).length) co)), (3, (nV k)), (9, (pT b5 0)), (10, (.slice (sM g40) ((srcs (bsOf fs) (k : Int)).length) c11)), (11, (nV j)), (12, (nV i)), (62, (.bool (!Bth)))] ?_
 have M46 := M32.then_ hK
 clear hK hv fr aC M32; clear vs
 cases Bth
 have cth : (decide (thereQ (overD (bsOf fs)) pa va (defsF fs) a (si : Int) 20000)) = false := hBth.symm
 refine zcT <| zsp <| zre <| zbr <| zbr <| zbr <| zbr <| zo1 (.bool false) ?_
 have hR : false = true ↔ False := by simp
 have M47 := M46.od [] 0
 exact ⟨bool_dec hR (⟨False.elim, fun h => reads_arg hx hp ha hsi (of_decide_eq_false cth) h⟩), M47⟩
 have cth : (decide (thereQ (overD (bsOf fs)) pa va (defsF fs) a (si : Int) 20000)) = true := hBth.symm
 have htq := of_decide_eq_true cth
 refine zcF <| zsk <| zrg <| zpn 1 <| zar ((i : Int) + 1) <| zpn 1 <| zfe ?_
 intro aC fr
 exact ⟨p.args.length - (i + 1), by omega, i + 1, rfl, fr.kp [1, 2, 3, 9, 10, 11, 12], M46, by omega, hag.next ha hsi htq⟩
 refine zex 2 <| zbh <| zrg <| zpn 1 <| zar ((j : Int) + 1) <| zpn 1 <| zfe ?_
 intro aC fr
 exact ⟨x.phis.length - (j + 1), by omega, j + 1, rfl, fr.kp [1, 2, 3, 9, 10, 11], M32, by omega, hph.next hp (by omega) ((show i = p.args.length by omega) ▸ hag)⟩
 refine zex 0 <| zbh <| zsq <| zsr ?_
 have hphe : PhiTo (overD (bsOf fs)) (fun _ => 20000) pa va fs k x x.phis.length := (show j = x.phis.length by omega) ▸ hph
 refine zpn 1 <| zfe <| zbk 4 ?_
 intro aC fr
 refine zlp (fun n_ a_ w_ => ∃ (j3 : Nat), n_ = x.insts.length - j3 ∧ Fr a_ 115 [(1, (.slice (sM gm) n n)), (2, (.slice Ao ((bsOf fs).length) co)), (3, (nV k)), (9, (pT b5 0)), (13, (nV j3))] ∧ Mem noS w w_ [.blk b1 24 (fV nm wk pa va (some ad4) c fs), .blk b5 36 (xV x), .row 3 1 A10 ((srcs (bsOf fs) (k : Int)).length) c11 (ints (srcs (bsOf fs) (k : Int)))] ∧ (j3 ≤ x.insts.length) ∧ (InsTo (overD (bsOf fs)) pa va fs k x j3)) (n := _) ⟨0, rfl, fr.kp [1, 2, 3, 9, 13], M17, by omega, fun _ _ h => absurd h (Nat.not_lt_zero _)⟩ ?_
 clear fr aC M17; rintro n aC w54 ⟨j3, rfl, fr, M55, hj3, hit⟩
 revert aC
 refine zsq <| zsr <| zpn 2 <| zld ⟨b5, 1, none⟩ (.slice x.iA x.insts.length x.ic) (blk_cell (M55.get 1 rfl) rfl) <| zpn 2 <| zfe <| zcD (((j3 : Int) : Int) < ((x.insts.length : Nat) : Int)) (fun c58 => ?_) (fun c58 => ?_)
 refine zsk <| zsq <| zbk 5 <| zsr ?_
 obtain ⟨p3, hp3⟩ := get_of (l := x.insts) (i := j3) (by omega)
 have hpl3 : p3.args.length ≤ 281474976710656 := ((hok.get hx).insts p3 (List.mem_of_getElem? hp3)).len
 refine zpn 1 <| zfe <| zbk 6 ?_
 intro aC fr
 refine zlp (fun n_ a_ w_ => ∃ (i3 : Nat), n_ = p3.args.length - i3 ∧ Fr a_ 115 [(1, (.slice (sM gm) n n)), (2, (.slice Ao ((bsOf fs).length) co)), (3, (nV k)), (9, (pT b5 0)), (13, (nV j3)), (14, (nV i3))] ∧ Mem noS w w_ [.blk b1 24 (fV nm wk pa va (some ad4) c fs), .blk b5 36 (xV x), .row 3 1 A10 ((srcs (bsOf fs) (k : Int)).length) c11 (ints (srcs (bsOf fs) (k : Int)))] ∧ (i3 ≤ p3.args.length) ∧ (OpTo (overD (bsOf fs)) pa va fs k j3 p3 i3)) (n := _) ⟨0, rfl, fr.kp [1, 2, 3, 9, 13, 14], M55, by omega, fun _ _ h => absurd h (Nat.not_lt_zero _)⟩ ?_
 clear fr aC M55; rintro n aC w61 ⟨i3, rfl, fr, M62, hi3, hop⟩
 revert aC
 refine zsq <| zsr <| zpn 2 <| zld ⟨b5, 1, none⟩ (.slice x.iA x.insts.length x.ic) (blk_cell (M62.get 1 rfl) rfl) <| zpn 1 ?_
 obtain ⟨ad65, had66⟩ := rds_some (M62.ro (hA.insts hx)) (cs := p3.cells) (i := j3) (by simp [hp3])
 intro aC fr
 refine From_ixA (some 74) x.iA ad65 x.insts.length 5 (j3 : Int) fr (by kernel_rfl) had66 (by omega) (by omega) ?_
 intro aC fr
 revert aC
 refine zpn 1 <| zld (((ad65 : Addr).add (((j3 : Int)).toNat * 5)).add 4) (.slice p3.A p3.args.length p3.c) (ins_get (M62.ro (hA.insts hx)) had66 hp3 4 _ rfl) <| zpn 2 <| zfe <| zcD (((i3 : Int) : Int) < ((p3.args.length : Nat) : Int)) (fun c71 => ?_) (fun c71 => ?_)
 refine zsk <| zsq <| zbk 7 <| zsr ?_
 obtain ⟨a, ha⟩ := get_of (l := p3.args) (i := i3) (by omega)
 refine zpn 3 <| zld ⟨b5, 1, none⟩ (.slice x.iA x.insts.length x.ic) (blk_cell (M62.get 1 rfl) rfl) <| zpn 1 ?_
 obtain ⟨ad72, had73⟩ := rds_some (M62.ro (hA.insts hx)) (cs := p3.cells) (i := j3) (by simp [hp3])
 intro aC fr
 refine From_ixA (some 86) x.iA ad72 x.insts.length 5 (j3 : Int) fr (by kernel_rfl) had73 (by omega) (by omega) ?_
 intro aC fr
 revert aC
 refine zpn 1 <| zld (((ad72 : Addr).add (((j3 : Int)).toNat * 5)).add 4) (.slice p3.A p3.args.length p3.c) (ins_get (M62.ro (hA.insts hx)) had73 hp3 4 _ rfl) <| zkp [(1, (.slice (sM gm) n n)), (2, (.slice Ao ((bsOf fs).length) co)), (3, (nV k)), (9, (pT b5 0)), (13, (nV j3)), (14, (nV i3)), (81, (.slice (sM gm) n n)), (82, (.slice Ao ((bsOf fs).length) co)), (88, (.slice p3.A p3.args.length p3.c))] <| zpn 1 ?_
 obtain ⟨ad78, had79⟩ := rd_some (M62.ro (hA.inst hx hp3)) (by simp [ints]; omega)
 intro aC fr
 refine From_ixA (some 90) p3.A ad78 p3.args.length 1 (i3 : Int) fr (by kernel_rfl) had79 (by omega) (by omega) ?_
 intro aC fr
 revert aC
 refine zld ((ad78 : Addr).add (((i3 : Int)).toNat * 1)) (.int .i64 a) (rd_at (M62.ro (hA.inst hx hp3)) had79 ha) <| zpn 2 <| zcl (rthere_c gm n co Ao pa va l (defsF fs) (bsOf fs) rows a (k : Int) (j3 : Int) w61 (by omega) (hmd.at_ M62) (hF0.at_ M62) (hR.at_ M62) hfo hva htb hpd hds (by omega) (by omega)) ?_
 rintro _ w84 ⟨rfl, M85x⟩
 have M85 := M62.cl M85x
 refine zpn 1 <| zfe <| zcP (!(decide (thereQ (overD (bsOf fs)) pa va (defsF fs) a (k : Int) (j3 : Int)))) (¬ (thereQ (overD (bsOf fs)) pa va (defsF fs) a (k : Int) (j3 : Int))) (by simp only [notT, decide_eq_true_eq]) (fun c86 => ?_) (fun c86 => ?_)
 refine zsp <| zre <| zbr <| zbr <| zbr <| zbr <| zo1 (.bool false) ?_
 have hR : false = true ↔ False := by simp
 have M87 := M85.od [] 0
 exact ⟨bool_dec hR (⟨False.elim, fun h => reads_op hx hp3 ha c86 h⟩), M87⟩
 have htq := Classical.not_not.1 c86
 refine zsk <| zrg <| zpn 1 <| zar ((i3 : Int) + 1) <| zpn 1 <| zfe ?_
 intro aC fr
 exact ⟨p3.args.length - (i3 + 1), by omega, i3 + 1, rfl, fr.kp [1, 2, 3, 9, 13, 14], M85, by omega, hop.next ha htq⟩
 refine zex 6 <| zbh <| zrg <| zpn 1 <| zar ((j3 : Int) + 1) <| zpn 1 <| zfe ?_
 intro aC fr
 exact ⟨x.insts.length - (j3 + 1), by omega, j3 + 1, rfl, fr.kp [1, 2, 3, 9, 13], M62, by omega, hit.next hp3 ((show i3 = p3.args.length by omega) ▸ hop)⟩
 refine zex 4 <| zbh <| zsq <| zsr ?_
 have hite : InsTo (overD (bsOf fs)) pa va fs k x x.insts.length := (show j3 = x.insts.length by omega) ▸ hit
 refine zpn 1 <| zld ⟨b5, 2, none⟩ (.int .i64 x.e) (blk_cell (M55.get 1 rfl) rfl) <| zpn 2 ?_
 obtain ⟨B92, hB92⟩ : ∃ B : Bool, B = ((x.e : Int) == 1) := ⟨_, rfl⟩
 refine zkp [(1, (.slice (sM gm) n n)), (2, (.slice Ao ((bsOf fs).length) co)), (3, (nV k)), (9, (pT b5 0)), (99, (.bool ((x.e : Int) == 1)))] ?_
 rw [← hB92]
 have iB92 : B92 = true ↔ ((x.e : Int) = 1) := by rw [hB92]; simp only [beq_iff_eq]
 clear hB92
 intro aC fr
 refine zpk 1 5 [100] fr (news := [(100, (cond (!B92) (pT b5 2) undef))]) (by cases B92 <;> kernel_rfl) ?_
 intro aC fr
 refine From_either (B := (!B92)) (d := (some 101)) (.int .i64 x.e) fr (by cases B92 <;> kernel_rfl) (fun hB hh => ?_) ?_
 cases B92 <;> first | (exact absurd hB (by decide)) | skip
 have c92 : ¬ ((x.e : Int) = 1) := (fun h => Bool.noConfusion (iB92.2 h) : ¬ ((x.e : Int) = 1))
 exact From_ld (some 101) ⟨b5, 2, none⟩ fr (by kernel_rfl) (.int .i64 x.e) (blk_cell (M55.get 1 rfl) rfl) hh
 intro aC fr
 refine zpk 2 8 [103] fr (news := [(103, (cond (!B92) (.bool ((x.e : Int) == 2)) undef))]) (by cases B92 <;> kernel_rfl) ?_
 intro aC fr
 obtain ⟨B101, hB101⟩ : ∃ B : Bool, B = ((x.e : Int) == 2) := ⟨_, rfl⟩
 revert aC
 refine zkp [(1, (.slice (sM gm) n n)), (2, (.slice Ao ((bsOf fs).length) co)), (3, (nV k)), (9, (pT b5 0)), (99, (.bool B92)), (103, (cond (!B92) (.bool ((x.e : Int) == 2)) undef))] ?_
 rw [← hB101]
 have iB101 : B101 = true ↔ ((x.e : Int) = 2) := by rw [hB101]; simp only [beq_iff_eq]
 clear hB101
 intro aC fr
 refine zpk 1 9 [104] fr (news := [(104, (cond (!B92 && B101) (pT b5 3) undef))]) (by cases B101 <;> cases B92 <;> kernel_rfl) ?_
 intro aC fr
 refine From_either (B := (!B92 && B101)) (d := (some 105)) (.int .i64 x.v) fr (by cases B92 <;> cases B101 <;> kernel_rfl) (fun hB hh => ?_) ?_
 cases B92 <;> cases B101 <;> first | (exact absurd hB (by decide)) | skip
 have c92 : ¬ ((x.e : Int) = 1) := (fun h => Bool.noConfusion (iB92.2 h) : ¬ ((x.e : Int) = 1))
 have c101 : ((x.e : Int) = 2) := iB101.1 rfl
 exact From_ld (some 105) ⟨b5, 3, none⟩ fr (by kernel_rfl) (.int .i64 x.v) (blk_cell (M55.get 1 rfl) rfl) hh
 intro aC fr
 refine zpk 3 13 [108] fr (news := [(108, (.bool (B92 || (B101 && ((x.v : Int) != (-1))))))]) (by cases B101 <;> cases B92 <;> kernel_rfl) ?_
 intro aC fr
 revert aC
 refine zfe <| zcP (B92 || (B101 && ((x.v : Int) != (-1)))) (((x.e : Int) = 1) ∨ (((x.e : Int) = 2) ∧ ((x.v : Int) ≠ (-1)))) (by simp only [Bool.or_eq_true, Bool.and_eq_true, bne_iff_ne, iB101, iB92]) (fun c110 => ?_) (fun c110 => ?_)
 refine zsr <| zpn 3 <| zld ⟨b5, 3, none⟩ (.int .i64 x.v) (blk_cell (M55.get 1 rfl) rfl) <| zpn 1 <| zcl (rthere_c gm n co Ao pa va l (defsF fs) (bsOf fs) rows x.v (k : Int) 20000 w54 (by omega) (hmd.at_ M55) (hF0.at_ M55) (hR.at_ M55) hfo hva htb hpd hds (by omega) (by omega)) ?_
 rintro _ w111 ⟨rfl, M112x⟩
 have M112 := M55.cl M112x
 refine zpn 1 <| zfe <| zre <| zo1 (.bool (decide (thereQ (overD (bsOf fs)) pa va (defsF fs) x.v (k : Int) 20000))) ?_
 have hR : decide (thereQ (overD (bsOf fs)) pa va (defsF fs) x.v (k : Int) 20000) = true ↔ (thereQ (overD (bsOf fs)) pa va (defsF fs) x.v (k : Int) 20000) := by simp only [decide_eq_true_eq]
 have M113 := M112.od [] 0
 exact ⟨bool_dec hR (⟨fun h => reads_yes hx hphe hite (fun _ => h), fun h => (reads_of hx h).fin (by unfold finR; omega)⟩), M113⟩
 refine zsk <| zsp <| zre <| zo1 (.bool true) ?_
 have hR : true = true ↔ True := by simp
 have M114 := M55.od [] 0
 exact ⟨bool_dec hR (⟨fun _ => reads_yes hx hphe hite (fun hr => absurd hr (by unfold finR; omega)), fun _ => trivial⟩), M114⟩
end Go.Proofs.Ytejbeeaomokjpaa
namespace Go.Proofs.Ytejbeeaomokjpaa
open Go.Mor
theorem size_c (nm : ByteArray) (wk : Bool) (pa va : Int) (A : Option Addr) (c : Nat) (fs : List FBlk) (w : World) (hN : fs.length ≤ 1000) (hok : FOk fs) (hA : RO noS w (.fn A fs)) :
    Calls Try.prog 77 #[(fA nm wk pa va A c fs)] w (Ret fun v w' => v = .int .i64 ((sizeF fs : Nat) : Int) ∧ Mem noS w w' []) := by
 have hbl := bsOf_len fs
 have hm : (bsOf fs).length ≤ 1000000 := by omega
 have hB := hA.bs
 refine zen 27 [(fA nm wk pa va A c fs)] Try.func77 ?_
 have hM := Mem.init w
 refine zsr <| zbx hM 24 (fA nm wk pa va A c fs) (fV nm wk pa va A c fs) fun b1 w2 hb1 M3 => ?_
 replace M3 := M3.nf
 clear hM
 refine zpn 1 <| zfe <| zsr <| zpn 1 <| zld ⟨b1, 4, none⟩ (.slice A ((bsOf fs).length) c) (blk_cell (M3.get 0 rfl) rfl) <| zpn 2 <| zfe <| zsq <| zsr <| zpn 1 ?_
 refine zld ⟨b1, 4, none⟩ (.slice A ((bsOf fs).length) c) (blk_cell (M3.get 0 rfl) rfl) <| zpn 2 <| zfe <| zbk 0 ?_
 intro aC fr
 refine zlp (fun n_ a_ w_ => ∃ (k : Nat) (q : Nat), n_ = fs.length - k ∧ Fr a_ 27 [(3, (nV q)), (10, (.slice A ((bsOf fs).length) c)), (11, (.int .i64 (((bsOf fs).length : Nat) : Int))), (12, (nV k))] ∧ Mem noS w w_ [.blk b1 24 (fV nm wk pa va A c fs)] ∧ (k ≤ fs.length) ∧ (q = fs.length + sizeTo fs k)) (n := _) ⟨0, (bsOf fs).length, rfl, fr.kp [3, 10, 11, 12], M3, by omega, by rw [hbl, sizeTo_zero]; rfl⟩ ?_
 clear fr aC M3; rintro n aC w6 ⟨k, q, rfl, fr, M7, hk, hq⟩
 revert aC
 refine zsp <| zsq <| zcD (((k : Int) : Int) < (((bsOf fs).length : Nat) : Int)) (fun c10 => ?_) (fun c10 => ?_)
 refine zsk <| zsq <| zbk 1 <| zsr ?_
 obtain ⟨x, hx⟩ := get_of (l := fs) (i := k) (by omega)
 have hl1 : x.phis.length ≤ 281474976710656 := (hok.get hx).lp
 have hl2 : x.insts.length ≤ 281474976710656 := (hok.get hx).li
 have hsl := sizeTo_le hok k hk
 obtain ⟨ad11, rfl⟩ := blocks_some (M7.ro hB) (bsOf_get hx)
 refine zix ad11 ((bsOf fs).length) 6 (k : Int) <| zls ((ad11 : Addr).add (((k : Int)).toNat * 6)) (xV x) (fblk_get (M7.ro hB) rfl hx) <| zal M7 36 [(.slice none 0 0), (.slice none 0 0), (.int .i64 0), (.int .i64 0), (.int .i64 0), (.int .i64 0)] fun b12 w13 hb12 M14 => ?_
 replace M14 := M14.nf
 refine zss M14 1 (xV x) rfl fun w15 M16 => ?_
 replace M16 := M16.nf
 refine zfe <| zrg <| zpn 2 <| zld ⟨b12, 0, none⟩ (.slice x.pA x.phis.length x.pc) (blk_cell (M16.get 1 rfl) rfl) <| zpn 2 <| zld ⟨b12, 1, none⟩ (.slice x.iA x.insts.length x.ic) (blk_cell (M16.get 1 rfl) rfl) <| zpn 1 <| zar (((x.phis.length : Nat) : Int) + ((x.insts.length : Nat) : Int)) <| zar ((q : Int) + (((x.phis.length : Nat) : Int) + ((x.insts.length : Nat) : Int))) <| zkp [(10, (.slice (some ad11) ((bsOf fs).length) c)), (11, (.int .i64 (((bsOf fs).length : Nat) : Int))), (12, (nV k)), (24, (.int .i64 ((q : Int) + (((x.phis.length : Nat) : Int) + ((x.insts.length : Nat) : Int)))))] ?_
 refine zpn 1 <| zfe <| zrg <| zar ((k : Int) + 1) <| zpn 1 <| zfe ?_
 intro aC fr
 exact ⟨fs.length - (k + 1), by omega, k + 1, q + (x.phis.length + x.insts.length), rfl, fr.kp [3, 10, 11, 12], (M16.tk 1), by omega, by rw [hq, sizeTo_succ hx]; omega⟩
 refine zex 0 <| zbh <| zsp <| zre <| zo1 (nV q) ?_
 obtain rfl : k = fs.length := by omega
 have M19 := M7.od [] 0
 exact ⟨by rw [hq]; rfl, M19⟩
theorem rsize_c (nm : ByteArray) (wk : Bool) (pa va : Int) (A : Option Addr) (c : Nat) (fs : List FBlk) (w : World) (hN : fs.length ≤ 1000) (hok : FOk fs) (hA : RO noS w (.fn A fs)) :
    Calls Try.prog 19 #[(fA nm wk pa va A c fs)] w (Ret fun v w' => v = .int .i64 ((sizeF fs : Nat) : Int) ∧ Mem noS w w' []) := by
 have hbl := bsOf_len fs
 have hm : (bsOf fs).length ≤ 1000000 := by omega
 have hB := hA.bs
 refine zen 33 [(fA nm wk pa va A c fs)] Try.func19 ?_
 have hM := Mem.init w
 refine zsr <| zbx hM 24 (fA nm wk pa va A c fs) (fV nm wk pa va A c fs) fun b1 w2 hb1 M3 => ?_
 replace M3 := M3.nf
 clear hM
 refine zpn 1 <| zfe <| zsr <| zpn 1 <| zld ⟨b1, 4, none⟩ (.slice A ((bsOf fs).length) c) (blk_cell (M3.get 0 rfl) rfl) <| zpn 2 <| zfe <| zsq <| zsp <| zbk 0 ?_
 intro aC fr
 refine zlp (fun n_ a_ w_ => ∃ (k : Nat) (q : Nat), n_ = fs.length - k ∧ Fr a_ 33 [(1, (pT b1 0)), (3, (nV q)), (4, (nV k))] ∧ Mem noS w w_ [.blk b1 24 (fV nm wk pa va A c fs)] ∧ (k ≤ fs.length) ∧ (q = fs.length + sizeTo fs k)) (n := _) ⟨0, (bsOf fs).length, rfl, fr.kp [1, 3, 4], M3, by omega, by rw [hbl, sizeTo_zero]; rfl⟩ ?_
 clear fr aC M3; rintro n aC w6 ⟨k, q, rfl, fr, M7, hk, hq⟩
 revert aC
 refine zsq <| zsr <| zpn 2 <| zld ⟨b1, 4, none⟩ (.slice A ((bsOf fs).length) c) (blk_cell (M7.get 0 rfl) rfl) <| zpn 2 <| zfe <| zcD (((k : Int) : Int) < (((bsOf fs).length : Nat) : Int)) (fun c10 => ?_) (fun c10 => ?_)
 refine zsk <| zsq <| zbk 1 ?_
 obtain ⟨x, hx⟩ := get_of (l := fs) (i := k) (by omega)
 have hl1 : x.phis.length ≤ 281474976710656 := (hok.get hx).lp
 have hl2 : x.insts.length ≤ 281474976710656 := (hok.get hx).li
 have hsl := sizeTo_le hok k hk
 obtain ⟨ad11, rfl⟩ := blocks_some (M7.ro hB) (bsOf_get hx)
 obtain ⟨x, hx⟩ := get_of (l := fs) (i := k) (by omega)
 have hl1 : x.phis.length ≤ 281474976710656 := (hok.get hx).lp
 have hl2 : x.insts.length ≤ 281474976710656 := (hok.get hx).li
 have hsl := sizeTo_le hok k hk
 refine zkp [(1, (pT b1 0)), (3, (nV q)), (4, (nV k))] ?_
 intro aC fr
 refine zdr (N := 33) (env0 := [(1, (pT b1 0)), (3, (nV q)), (4, (nV k))]) (specAt [.det (nV q), .det (pT b1 4), .det (.slice (some ad11) ((bsOf fs).length) c), .det (nV k), .det (.pointer (some ((ad11 : Addr).add (((k : Int)).toNat * 6)))), .det (.pointer (some ((ad11 : Addr).add (((k : Int)).toNat * 6)))), .det (.slice x.pA x.phis.length x.pc), .det (.int .i64 ((x.phis.length : Nat) : Int)), .det (.int .i64 ((q : Int) + ((x.phis.length : Nat) : Int))), .det (pT b1 4), .det (.slice (some ad11) ((bsOf fs).length) c), .det (nV k), .det (.pointer (some ((ad11 : Addr).add (((k : Int)).toNat * 6)))), .det (.pointer (some (((ad11 : Addr).add (((k : Int)).toNat * 6)).add 1))), .det (.slice x.iA x.insts.length x.ic), .det (.int .i64 ((x.insts.length : Nat) : Int)), .det (.int .i64 ((((q + (x.phis.length + x.insts.length) : Nat)) : Int))), .det (.int .i64 ((((q + (x.phis.length + x.insts.length) : Nat)) : Int)))]) fr (la (la (la (la (la (la (la (la (la (la (la (la (la (la (la (la (la (la lz dP) dP) (dL ⟨b1, 4, none⟩ (.slice (some ad11) ((bsOf fs).length) c) fun w_ hK => (blk_cell ((M7.then_ hK).get 0 rfl) rfl))) dP) (dI ad11 ((bsOf fs).length) 6 (k : Int))) dP) (dL ((ad11 : Addr).add (((k : Int)).toNat * 6)) (.slice x.pA x.phis.length x.pc) fun w_ hK => (fblk_get ((M7.then_ hK).ro hB) rfl hx 0 _ rfl))) dP) (dA ((q : Int) + ((x.phis.length : Nat) : Int)))) dP) (dL ⟨b1, 4, none⟩ (.slice (some ad11) ((bsOf fs).length) c) fun w_ hK => (blk_cell ((M7.then_ hK).get 0 rfl) rfl))) dP) (dI ad11 ((bsOf fs).length) 6 (k : Int))) dP) (dL (((ad11 : Addr).add (((k : Int)).toNat * 6)).add 1) (.slice x.iA x.insts.length x.ic) fun w_ hK => (fblk_get ((M7.then_ hK).ro hB) rfl hx 1 _ rfl))) dP) ?_) dP) ?_
 intro aa_ w_ vs rest_ hK hp hF
 refine okG (g0 := none) ?_
 replace hF : Fr aa_ 33 [(23, (.int .i64 ((q : Int) + ((x.phis.length : Nat) : Int)))), (30, (.int .i64 ((x.insts.length : Nat) : Int)))] := hF.kp [23, 30]
 refine From_arith (by kernel_rfl : coreAt _ 0 = some (some 31, (.binOp .add 3 (.tmp 23) (.tmp 30) 3), 3, none)) hF (by kernel_rfl) (by kernel_rfl) (k' := 1) rfl (i := ((q : Int) + ((x.phis.length : Nat) : Int))) (j := ((x.insts.length : Nat) : Int)) (z := ((((q + (x.phis.length + x.insts.length) : Nat)) : Int))) (by kernel_rfl) (by kernel_rfl) (congrArg some (by omega)) (by omega) (by omega) ?_
 intro a2 ea _
 refine From_end (by kernel_rfl) ?_; exact op_done (d := some 31) (by kernel_rfl) ea (Kp.refl _) rfl
 intro aC w16 vs hK hv fr
 revert aC; refine zkp [(1, (pT b1 0)), (3, (.int .i64 ((((q + (x.phis.length + x.insts.length) : Nat)) : Int)))), (4, (nV k))] ?_
 have M17 := M7.then_ hK
 clear hK hv fr aC M7; clear vs
 refine zrg <| zpn 1 <| zar ((k : Int) + 1) <| zpn 1 <| zfe ?_
 intro aC fr
 exact ⟨fs.length - (k + 1), by omega, k + 1, q + (x.phis.length + x.insts.length), rfl, fr.kp [1, 3, 4], M17, by omega, by rw [hq, sizeTo_succ hx]; omega⟩
 refine zex 0 <| zbh <| zsp <| zre <| zo1 (nV q) ?_
 obtain rfl : k = fs.length := by omega
 have M20 := M7.od [] 0
 exact ⟨by rw [hq]; rfl, M20⟩
end Go.Proofs.Ytejbeeaomokjpaa
namespace Go.Proofs.Ytejbeeaomokjpaa
open Go.Mor
theorem name_c (nm : ByteArray) (w : World) :
    Calls Try.prog 79 #[(.string nm)] w (Ret fun v w' => v = .bool (decide (nameQ nm)) ∧ Mem noS w w' []) := by
 refine zen 11 [(.string nm)] Try.func79 ?_
 have hM := Mem.init w
 refine zsp <| zsr <| zpn 4 ?_
 obtain ⟨B1, hB1⟩ : ∃ B : Bool, B = decide ((((nm).size : Int) : Int) ≥ 1) := ⟨_, rfl⟩
 refine zkp [(0, (.string nm)), (6, (.bool (decide ((((nm).size : Int) : Int) ≥ 1))))] ?_
 rw [← hB1]
 have iB1 : B1 = true ↔ ((((nm).size : Int) : Int) ≥ 1) := by rw [hB1]; simp only [decide_eq_true_eq]
 clear hB1
 intro aC fr
 refine zpk 5 9 [2, 10] fr (news := [(2, (.bool (B1 && decide ((((nm).size : Int) : Int) ≤ 60)))), (10, (.bool (B1 && decide ((((nm).size : Int) : Int) ≤ 60))))]) (by cases B1 <;> kernel_rfl) ?_
 intro aC fr
 revert aC
 refine zfe <| zre <| zo1 (.bool (B1 && decide ((((nm).size : Int) : Int) ≤ 60))) ?_
 have hR : (B1 && decide ((((nm).size : Int) : Int) ≤ 60)) = true ↔ (((((nm).size : Int) : Int) ≥ 1) ∧ ((((nm).size : Int) : Int) ≤ 60)) := by simp only [Bool.and_eq_true, decide_eq_true_eq, iB1]
 exact ⟨bool_dec hR (by unfold nameQ; omega), hM⟩
theorem rname_c (nm : ByteArray) (w : World) :
    Calls Try.prog 37 #[(.string nm)] w (Ret fun v w' => v = .bool (decide (nameQ nm)) ∧ Mem noS w w' []) := by
 refine zen 11 [(.string nm)] Try.func37 ?_
 have hM := Mem.init w
 refine zsp <| zsr <| zpn 4 ?_
 obtain ⟨B1, hB1⟩ : ∃ B : Bool, B = decide ((((nm).size : Int) : Int) ≥ 1) := ⟨_, rfl⟩
 refine zkp [(0, (.string nm)), (6, (.bool (decide ((((nm).size : Int) : Int) ≥ 1))))] ?_
 rw [← hB1]
 have iB1 : B1 = true ↔ ((((nm).size : Int) : Int) ≥ 1) := by rw [hB1]; simp only [decide_eq_true_eq]
 clear hB1
 intro aC fr
 refine zpk 5 9 [2, 10] fr (news := [(2, (.bool (B1 && decide ((((nm).size : Int) : Int) ≤ 60)))), (10, (.bool (B1 && decide ((((nm).size : Int) : Int) ≤ 60))))]) (by cases B1 <;> kernel_rfl) ?_
 intro aC fr
 revert aC
 refine zfe <| zre <| zo1 (.bool (B1 && decide ((((nm).size : Int) : Int) ≤ 60))) ?_
 have hR : (B1 && decide ((((nm).size : Int) : Int) ≤ 60)) = true ↔ (((((nm).size : Int) : Int) ≥ 1) ∧ ((((nm).size : Int) : Int) ≤ 60)) := by simp only [Bool.and_eq_true, decide_eq_true_eq, iB1]
 exact ⟨bool_dec hR (by unfold nameQ; omega), hM⟩
theorem makes_c (op : Int) (w : World) :
    Calls Try.prog 117 #[(.int .i64 op)] w (Ret fun v w' => v = .bool (decide (makesQ op)) ∧ Mem noS w w' []) := by
 refine zen 13 [(.int .i64 op)] Try.func117 ?_
 have hM := Mem.init w
 refine zsp <| zsr <| zpn 3 ?_
 obtain ⟨B1, hB1⟩ : ∃ B : Bool, B = ((op : Int) != 3) := ⟨_, rfl⟩
 refine zkp [(0, (.int .i64 op)), (5, (.bool ((op : Int) != 3)))] ?_
 rw [← hB1]
 have iB1 : B1 = true ↔ ((op : Int) ≠ 3) := by rw [hB1]; simp only [bne_iff_ne]
 clear hB1
 intro aC fr
 refine zpk 4 7 [8, 9] fr (news := [(8, (.bool (B1 && ((op : Int) != 10)))), (9, (.bool (B1 && ((op : Int) != 10))))]) (by cases B1 <;> kernel_rfl) ?_
 intro aC fr
 obtain ⟨B6, hB6⟩ : ∃ B : Bool, B = (B1 && ((op : Int) != 10)) := ⟨_, rfl⟩
 revert aC
 refine zkp [(0, (.int .i64 op)), (9, (.bool (B1 && ((op : Int) != 10))))] ?_
 rw [← hB6]
 have iB6 : B6 = true ↔ (((op : Int) ≠ 3) ∧ ((op : Int) ≠ 10)) := by rw [hB6]; simp only [Bool.and_eq_true, bne_iff_ne, iB1]
 clear hB6
 intro aC fr
 refine zpk 4 11 [2, 12] fr (news := [(2, (.bool (B6 && ((op : Int) != 11)))), (12, (.bool (B6 && ((op : Int) != 11))))]) (by cases B6 <;> kernel_rfl) ?_
 intro aC fr
 revert aC
 refine zfe <| zre <| zo1 (.bool (B6 && ((op : Int) != 11))) ?_
 have hR : (B6 && ((op : Int) != 11)) = true ↔ ((((op : Int) ≠ 3) ∧ ((op : Int) ≠ 10)) ∧ ((op : Int) ≠ 11)) := by simp only [Bool.and_eq_true, bne_iff_ne, iB6]
 exact ⟨bool_dec hR (by unfold makesQ; omega), hM⟩
theorem rmakes_c (op : Int) (w : World) :
    Calls Try.prog 72 #[(.int .i64 op)] w (Ret fun v w' => v = .bool (decide (makesQ op)) ∧ Mem noS w w' []) := by
 refine zen 13 [(.int .i64 op)] Try.func72 ?_
 have hM := Mem.init w
 refine zsp <| zsr <| zpn 3 ?_
 obtain ⟨B1, hB1⟩ : ∃ B : Bool, B = ((op : Int) != 3) := ⟨_, rfl⟩
 refine zkp [(0, (.int .i64 op)), (5, (.bool ((op : Int) != 3)))] ?_
 rw [← hB1]
 have iB1 : B1 = true ↔ ((op : Int) ≠ 3) := by rw [hB1]; simp only [bne_iff_ne]
 clear hB1
 intro aC fr
 refine zpk 4 7 [8, 9] fr (news := [(8, (.bool (B1 && ((op : Int) != 10)))), (9, (.bool (B1 && ((op : Int) != 10))))]) (by cases B1 <;> kernel_rfl) ?_
 intro aC fr
 obtain ⟨B6, hB6⟩ : ∃ B : Bool, B = (B1 && ((op : Int) != 10)) := ⟨_, rfl⟩
 revert aC
 refine zkp [(0, (.int .i64 op)), (9, (.bool (B1 && ((op : Int) != 10))))] ?_
 rw [← hB6]
 have iB6 : B6 = true ↔ (((op : Int) ≠ 3) ∧ ((op : Int) ≠ 10)) := by rw [hB6]; simp only [Bool.and_eq_true, bne_iff_ne, iB1]
 clear hB6
 intro aC fr
 refine zpk 4 11 [2, 12] fr (news := [(2, (.bool (B6 && ((op : Int) != 11)))), (12, (.bool (B6 && ((op : Int) != 11))))]) (by cases B6 <;> kernel_rfl) ?_
 intro aC fr
 revert aC
 refine zfe <| zre <| zo1 (.bool (B6 && ((op : Int) != 11))) ?_
 have hR : (B6 && ((op : Int) != 11)) = true ↔ ((((op : Int) ≠ 3) ∧ ((op : Int) ≠ 10)) ∧ ((op : Int) ≠ 11)) := by simp only [Bool.and_eq_true, bne_iff_ne, iB6]
 exact ⟨bool_dec hR (by unfold makesQ; omega), hM⟩
theorem code_c (n : Int) (w : World) :
    Calls Try.prog 114 #[(.int .i64 n)] w (Ret fun v w' => v = .bool (decide (codeQ n)) ∧ Mem noS w w' []) := by
 refine zen 9 [(.int .i64 n)] Try.func114 ?_
 have hM := Mem.init w
 refine zsp <| zsr <| zpn 3 ?_
 obtain ⟨B1, hB1⟩ : ∃ B : Bool, B = decide ((n : Int) ≥ 1) := ⟨_, rfl⟩
 refine zkp [(0, (.int .i64 n)), (5, (.bool (decide ((n : Int) ≥ 1))))] ?_
 rw [← hB1]
 have iB1 : B1 = true ↔ ((n : Int) ≥ 1) := by rw [hB1]; simp only [decide_eq_true_eq]
 clear hB1
 intro aC fr
 refine zpk 4 7 [2, 8] fr (news := [(2, (.bool (B1 && decide ((n : Int) ≤ 999)))), (8, (.bool (B1 && decide ((n : Int) ≤ 999))))]) (by cases B1 <;> kernel_rfl) ?_
 intro aC fr
 revert aC
 refine zfe <| zre <| zo1 (.bool (B1 && decide ((n : Int) ≤ 999))) ?_
 have hR : (B1 && decide ((n : Int) ≤ 999)) = true ↔ (((n : Int) ≥ 1) ∧ ((n : Int) ≤ 999)) := by simp only [Bool.and_eq_true, decide_eq_true_eq, iB1]
 exact ⟨bool_dec hR (by unfold codeQ; omega), hM⟩
theorem place_c (n : Int) (w : World) :
    Calls Try.prog 130 #[(.int .i64 n)] w (Ret fun v w' => v = .bool (decide (placeQ n)) ∧ Mem noS w w' []) := by
 refine zen 9 [(.int .i64 n)] Try.func130 ?_
 have hM := Mem.init w
 refine zsp <| zsr <| zpn 3 ?_
 obtain ⟨B1, hB1⟩ : ∃ B : Bool, B = decide ((n : Int) ≥ 0) := ⟨_, rfl⟩
 refine zkp [(0, (.int .i64 n)), (5, (.bool (decide ((n : Int) ≥ 0))))] ?_
 rw [← hB1]
 have iB1 : B1 = true ↔ ((n : Int) ≥ 0) := by rw [hB1]; simp only [decide_eq_true_eq]
 clear hB1
 intro aC fr
 refine zpk 4 7 [2, 8] fr (news := [(2, (.bool (B1 && decide ((n : Int) ≤ 2147483647)))), (8, (.bool (B1 && decide ((n : Int) ≤ 2147483647))))]) (by cases B1 <;> kernel_rfl) ?_
 intro aC fr
 revert aC
 refine zfe <| zre <| zo1 (.bool (B1 && decide ((n : Int) ≤ 2147483647))) ?_
 have hR : (B1 && decide ((n : Int) ≤ 2147483647)) = true ↔ (((n : Int) ≥ 0) ∧ ((n : Int) ≤ 2147483647)) := by simp only [Bool.and_eq_true, decide_eq_true_eq, iB1]
 exact ⟨bool_dec hR (by unfold placeQ; omega), hM⟩
end Go.Proofs.Ytejbeeaomokjpaa
namespace Go.Proofs.Ytejbeeaomokjpaa
open Go.Mor
theorem truth_c (b : Bool) (w : World) :
    Calls Try.prog 136 #[(.bool b)] w (Ret fun v w' => v = .int .i64 (truthI b) ∧ Mem noS w w' []) := by
 refine zen 4 [(.bool b)] Try.func136 ?_
 have hM := Mem.init w
 refine zsp <| zsq <| zsp ?_
 cases b
 refine zcF <| zsk <| zsp <| zre <| zo1 (.int .i64 0) ?_
 exact ⟨rfl, hM⟩
 refine zcT <| zsp <| zre <| zo1 (.int .i64 1) ?_
 exact ⟨rfl, hM⟩
theorem shift1_c (w : World) :
    Calls Try.prog 135 #[(.int .i64 1)] w (Ret fun v w' => v = .int .u64 1 ∧ Mem noS w w' []) := by
 refine zen 6 [(.int .i64 1)] Try.func135 ?_
 have hM := Mem.init w
 refine zsp <| zsr <| zpn 1 ?_
 intro aC fr
 refine From_conv (by kernel_rfl : coreAt _ 1 = some (some 4, (.convert 2 160 (.tmp 3)), 160, none)) fr (by kernel_rfl) (by kernel_rfl) (k' := 2) rfl (kd := .i64) (kd' := .u64) (i := 1) (z := 1) (by kernel_rfl) Try.underlying2 Try.underlying160 (IntWalk.u64_in _ (by omega)) ?_
 intro aC ea fr; clear ea
 refine From_binI (by kernel_rfl : coreAt _ 2 = some (some 5, (.binOp .and 160 (.tmp 4) (.const (.int .u64 63)) 160), 160, none)) fr (by kernel_rfl) (by kernel_rfl) (k' := 3) rfl (kd := .u64) (kd' := .u64) (i := 1) (j := 63) (z := .int .u64 1) (by kernel_rfl) (by kernel_rfl) (fun w => rfl) ?_
 intro aC ea fr; clear ea
 revert aC
 refine zpn 1 <| zfe <| zre <| zo1 (.int .u64 1) ?_
 exact ⟨rfl, hM⟩
theorem quot1_c (op : Int) (w : World) :
    Calls Try.prog 134 #[(.int .i64 op), (.int .i64 1), (.int .i64 1)] w (Ret fun v w' => ∃ z, v = .tuple #[.int .i64 z, .int .i64 0] ∧ Mem noS w w' []) := by
 refine zen 32 [(.int .i64 op), (.int .i64 1), (.int .i64 1)] Try.func134 ?_
 have hM := Mem.init w
 refine zsp <| zsq <| zbk 0 <| zsp <| zcF <| zsp <| zcF <| zsp <| zcF <| zsp <| zcP ((op : Int) == 4) ((op : Int) = 4) (by simp only [beq_iff_eq]) (fun c1 => ?_) (fun c1 => ?_)
 refine zsr <| zpn 2 ?_
 intro aC fr
 refine From_binI (by kernel_rfl : coreAt _ 2 = some (some 28, (.binOp .quo 2 (.tmp 26) (.tmp 27) 2), 2, none)) fr (by kernel_rfl) (by kernel_rfl) (k' := 3) rfl (kd := .i64) (kd' := .i64) (i := 1) (j := 1) (z := .int .i64 1) (by kernel_rfl) (by kernel_rfl) (fun w => rfl) ?_
 intro aC ea fr; clear ea
 revert aC
 refine zpn 2 <| zfe <| zre <| zbr <| zo2 (.int .i64 1) (.int .i64 0) ?_
 exact ⟨_, rfl, hM⟩
 refine zsk <| zsr <| zpn 2 ?_
 intro aC fr
 refine From_binI (by kernel_rfl : coreAt _ 2 = some (some 31, (.binOp .rem 2 (.tmp 29) (.tmp 30) 2), 2, none)) fr (by kernel_rfl) (by kernel_rfl) (k' := 3) rfl (kd := .i64) (kd' := .i64) (i := 1) (j := 1) (z := .int .i64 0) (by kernel_rfl) (by kernel_rfl) (fun w => rfl) ?_
 intro aC ea fr; clear ea
 revert aC
 refine zpn 2 <| zfe <| zre <| zo2 (.int .i64 0) (.int .i64 0) ?_
 exact ⟨_, rfl, hM⟩
theorem bin1_c (op : Int) (w : World) :
    Calls Try.prog 125 #[(.int .i64 op), (.int .i64 1), (.int .i64 1)] w (Ret fun v w' => ∃ z cd, v = .tuple #[.int .i64 z, .int .i64 cd] ∧ (cd = 0 ↔ 1 ≤ op ∧ op ≤ 16) ∧ Mem noS w w' []) := by
 refine zen 96 [(.int .i64 op), (.int .i64 1), (.int .i64 1)] Try.func125 ?_
 have hM := Mem.init w
 refine zsp <| zsq <| zsp <| zbk 0 <| zsp <| zcP ((op : Int) == 1) ((op : Int) = 1) (by simp only [beq_iff_eq]) (fun c1 => ?_) (fun c1 => ?_)
 refine zsr <| zpn 2 <| zar (1 + 1) <| zpn 2 <| zfe <| zre <| zbr <| zo2 (.int .i64 (1 + 1)) (.int .i64 0) ?_
 exact ⟨_, _, rfl, by omega, hM⟩
 refine zsp <| zcP ((op : Int) == 2) ((op : Int) = 2) (by simp only [beq_iff_eq]) (fun c2 => ?_) (fun c2 => ?_)
 refine zsr <| zpn 2 <| zar (1 - 1) <| zpn 2 <| zfe <| zre <| zbr <| zo2 (.int .i64 (1 - 1)) (.int .i64 0) ?_
 exact ⟨_, _, rfl, by omega, hM⟩
 refine zsp <| zcP ((op : Int) == 3) ((op : Int) = 3) (by simp only [beq_iff_eq]) (fun c3 => ?_) (fun c3 => ?_)
 refine zsr <| zpn 2 <| zar (1 * 1) <| zpn 2 <| zfe <| zre <| zbr <| zo2 (.int .i64 (1 * 1)) (.int .i64 0) ?_
 exact ⟨_, _, rfl, by omega, hM⟩
 refine zsq <| zsp ?_
 obtain ⟨B4, hB4⟩ : ∃ B : Bool, B = ((op : Int) == 4) := ⟨_, rfl⟩
 refine zkp [(0, (.int .i64 op)), (1, (.int .i64 1)), (2, (.int .i64 1)), (8, (.int .i64 op)), (24, (.bool ((op : Int) == 4)))] ?_
 rw [← hB4]
 have iB4 : B4 = true ↔ ((op : Int) = 4) := by rw [hB4]; simp only [beq_iff_eq]
 clear hB4
 cases B4
 have c4 : ¬ ((op : Int) = 4) := (fun h => Bool.noConfusion (iB4.2 h) : ¬ ((op : Int) = 4))
 refine zcF <| zrp <| zcP ((op : Int) == 5) ((op : Int) = 5) (by simp only [beq_iff_eq]) (fun c5 => ?_) (fun c5 => ?_)
 refine zsr <| zpn 3 <| zcl (quot1_c op w) ?_
 rintro _ w7 ⟨z6, rfl, M8x⟩
 have M8 := hM.cl M8x
 clear M8x hM
 refine zpn 4 <| zfe <| zre <| zbr <| zo2 (.int .i64 z6) (.int .i64 0) ?_
 exact ⟨_, _, rfl, by omega, M8⟩
 refine zsp <| zcP ((op : Int) == 6) ((op : Int) = 6) (by simp only [beq_iff_eq]) (fun c9 => ?_) (fun c9 => ?_)
 refine zsr <| zpn 2 ?_
 intro aC fr
 refine From_binI (by kernel_rfl : coreAt _ 2 = some (some 37, (.binOp .and 2 (.tmp 35) (.tmp 36) 2), 2, none)) fr (by kernel_rfl) (by kernel_rfl) (k' := 3) rfl (kd := .i64) (kd' := .i64) (i := 1) (j := 1) (z := .int .i64 1) (by kernel_rfl) (by kernel_rfl) (fun w => rfl) ?_
 intro aC ea fr; clear ea
 revert aC
 refine zpn 2 <| zfe <| zre <| zbr <| zo2 (.int .i64 1) (.int .i64 0) ?_
 exact ⟨_, _, rfl, by omega, hM⟩
 refine zsp <| zcP ((op : Int) == 7) ((op : Int) = 7) (by simp only [beq_iff_eq]) (fun c14 => ?_) (fun c14 => ?_)
 refine zsr <| zpn 2 ?_
 intro aC fr
 refine From_binI (by kernel_rfl : coreAt _ 2 = some (some 42, (.binOp .or 2 (.tmp 40) (.tmp 41) 2), 2, none)) fr (by kernel_rfl) (by kernel_rfl) (k' := 3) rfl (kd := .i64) (kd' := .i64) (i := 1) (j := 1) (z := .int .i64 1) (by kernel_rfl) (by kernel_rfl) (fun w => rfl) ?_
 intro aC ea fr; clear ea
 revert aC
 refine zpn 2 <| zfe <| zre <| zbr <| zo2 (.int .i64 1) (.int .i64 0) ?_
 exact ⟨_, _, rfl, by omega, hM⟩
 refine zsp <| zcP ((op : Int) == 8) ((op : Int) = 8) (by simp only [beq_iff_eq]) (fun c19 => ?_) (fun c19 => ?_)
 refine zsr <| zpn 2 ?_
 intro aC fr
 refine From_binI (by kernel_rfl : coreAt _ 2 = some (some 47, (.binOp .xor 2 (.tmp 45) (.tmp 46) 2), 2, none)) fr (by kernel_rfl) (by kernel_rfl) (k' := 3) rfl (kd := .i64) (kd' := .i64) (i := 1) (j := 1) (z := .int .i64 0) (by kernel_rfl) (by kernel_rfl) (fun w => rfl) ?_
 intro aC ea fr; clear ea
 revert aC
 refine zpn 2 <| zfe <| zre <| zbr <| zo2 (.int .i64 0) (.int .i64 0) ?_
 exact ⟨_, _, rfl, by omega, hM⟩
 refine zsp <| zcP ((op : Int) == 9) ((op : Int) = 9) (by simp only [beq_iff_eq]) (fun c24 => ?_) (fun c24 => ?_)
 refine zsr <| zpn 2 <| zcl (shift1_c w) ?_
 rintro _ w25 ⟨rfl, M26x⟩
 have M26 := hM.cl M26x
 clear M26x hM
 intro aC fr
 refine From_binI (by kernel_rfl : coreAt _ 3 = some (some 53, (.binOp .shl 2 (.tmp 50) (.tmp 52) 160), 2, none)) fr (by kernel_rfl) (by kernel_rfl) (k' := 4) rfl (kd := .i64) (kd' := .u64) (i := 1) (j := 1) (z := .int .i64 2) (by kernel_rfl) (by kernel_rfl) (fun w => rfl) ?_
 intro aC ea fr; clear ea
 revert aC
 refine zpn 2 <| zfe <| zre <| zbr <| zo2 (.int .i64 2) (.int .i64 0) ?_
 exact ⟨_, _, rfl, by omega, M26⟩
 refine zsp <| zcP ((op : Int) == 10) ((op : Int) = 10) (by simp only [beq_iff_eq]) (fun c31 => ?_) (fun c31 => ?_)
 refine zsr <| zpn 2 <| zcl (shift1_c w) ?_
 rintro _ w32 ⟨rfl, M33x⟩
 have M33 := hM.cl M33x
 clear M33x hM
 intro aC fr
 refine From_binI (by kernel_rfl : coreAt _ 3 = some (some 59, (.binOp .shr 2 (.tmp 56) (.tmp 58) 160), 2, none)) fr (by kernel_rfl) (by kernel_rfl) (k' := 4) rfl (kd := .i64) (kd' := .u64) (i := 1) (j := 1) (z := .int .i64 0) (by kernel_rfl) (by kernel_rfl) (fun w => rfl) ?_
 intro aC ea fr; clear ea
 revert aC
 refine zpn 2 <| zfe <| zre <| zbr <| zo2 (.int .i64 0) (.int .i64 0) ?_
 exact ⟨_, _, rfl, by omega, M33⟩
 refine zsp <| zcP ((op : Int) == 11) ((op : Int) = 11) (by simp only [beq_iff_eq]) (fun c38 => ?_) (fun c38 => ?_)
 refine zsr <| zpn 3 <| zcl (truth_c true w) ?_
 rintro _ w39 ⟨rfl, M40x⟩
 have M40 := hM.cl M40x
 clear M40x hM
 refine zpn 2 <| zfe <| zre <| zbr <| zo2 (.int .i64 (truthI true)) (.int .i64 0) ?_
 exact ⟨_, _, rfl, by omega, M40⟩
 refine zsp <| zcP ((op : Int) == 12) ((op : Int) = 12) (by simp only [beq_iff_eq]) (fun c41 => ?_) (fun c41 => ?_)
 refine zsr <| zpn 3 <| zcl (truth_c false w) ?_
 rintro _ w42 ⟨rfl, M43x⟩
 have M43 := hM.cl M43x
 clear M43x hM
 refine zpn 2 <| zfe <| zre <| zbr <| zo2 (.int .i64 (truthI false)) (.int .i64 0) ?_
 exact ⟨_, _, rfl, by omega, M43⟩
 refine zsp <| zcP ((op : Int) == 13) ((op : Int) = 13) (by simp only [beq_iff_eq]) (fun c44 => ?_) (fun c44 => ?_)
 refine zsr <| zpn 3 <| zcl (truth_c false w) ?_
 rintro _ w45 ⟨rfl, M46x⟩
 have M46 := hM.cl M46x
 clear M46x hM
 refine zpn 2 <| zfe <| zre <| zbr <| zo2 (.int .i64 (truthI false)) (.int .i64 0) ?_
 exact ⟨_, _, rfl, by omega, M46⟩
 refine zsp <| zcP ((op : Int) == 14) ((op : Int) = 14) (by simp only [beq_iff_eq]) (fun c47 => ?_) (fun c47 => ?_)
 refine zsr <| zpn 3 <| zcl (truth_c true w) ?_
 rintro _ w48 ⟨rfl, M49x⟩
 have M49 := hM.cl M49x
 clear M49x hM
 refine zkp [(83, (.int .i64 (truthI true)))] <| zpn 2 <| zfe <| zre <| zbr <| zo2 (.int .i64 (truthI true)) (.int .i64 0) ?_
 exact ⟨_, _, rfl, by omega, M49⟩
 refine zsp <| zcP ((op : Int) == 15) ((op : Int) = 15) (by simp only [beq_iff_eq]) (fun c50 => ?_) (fun c50 => ?_)
 refine zsr <| zpn 3 <| zcl (truth_c false w) ?_
 rintro _ w51 ⟨rfl, M52x⟩
 have M52 := hM.cl M52x
 clear M52x hM
 refine zkp [(89, (.int .i64 (truthI false)))] <| zpn 2 <| zfe <| zre <| zbr <| zo2 (.int .i64 (truthI false)) (.int .i64 0) ?_
 exact ⟨_, _, rfl, by omega, M52⟩
 refine zsp <| zcP ((op : Int) == 16) ((op : Int) = 16) (by simp only [beq_iff_eq]) (fun c53 => ?_) (fun c53 => ?_)
 refine zsr <| zpn 3 <| zcl (truth_c true w) ?_
 rintro _ w54 ⟨rfl, M55x⟩
 have M55 := hM.cl M55x
 clear M55x hM
 refine zkp [(95, (.int .i64 (truthI true)))] <| zpn 2 <| zfe <| zre <| zbr <| zo2 (.int .i64 (truthI true)) (.int .i64 0) ?_
 exact ⟨_, _, rfl, by omega, M55⟩
 refine zsk <| zsp <| zre <| zo2 (.int .i64 0) (.int .i64 (-1)) ?_
 exact ⟨_, _, rfl, by omega, hM⟩
 have c4 : ((op : Int) = 4) := iB4.1 rfl
 refine zcT <| zsk <| zcT <| zsr <| zpn 3 <| zcl (quot1_c op w) ?_
 rintro _ w57 ⟨z56, rfl, M58x⟩
 have M58 := hM.cl M58x
 clear M58x hM
 refine zpn 4 <| zfe <| zre <| zbr <| zo2 (.int .i64 z56) (.int .i64 0) ?_
 exact ⟨_, _, rfl, by omega, M58⟩
theorem un1_c (op : Int) (w : World) :
    Calls Try.prog 127 #[(.int .i64 op), (.int .i64 1)] w (Ret fun v w' => ∃ z cd, v = .tuple #[.int .i64 z, .int .i64 cd] ∧ (cd = 0 ↔ 1 ≤ op ∧ op ≤ 3) ∧ Mem noS w w' []) := by
 refine zen 20 [(.int .i64 op), (.int .i64 1)] Try.func127 ?_
 have hM := Mem.init w
 refine zsp <| zsq <| zsp <| zbk 0 <| zsp <| zcP ((op : Int) == 1) ((op : Int) = 1) (by simp only [beq_iff_eq]) (fun c1 => ?_) (fun c1 => ?_)
 refine zsr <| zpn 1 ?_
 intro aC fr
 refine From_unI (by kernel_rfl : coreAt _ 1 = some (some 10, (.unOp .neg 2 (.tmp 9)), 2, none)) fr (by kernel_rfl) (by kernel_rfl) (k' := 2) rfl (kd := .i64) (i := 1) (z := .int .i64 (-1)) (by kernel_rfl) (fun w => rfl) ?_
 intro aC ea fr; clear ea
 revert aC
 refine zpn 2 <| zfe <| zre <| zbr <| zo2 (.int .i64 (-1)) (.int .i64 0) ?_
 exact ⟨_, _, rfl, by omega, hM⟩
 refine zsp <| zcP ((op : Int) == 2) ((op : Int) = 2) (by simp only [beq_iff_eq]) (fun c6 => ?_) (fun c6 => ?_)
 refine zsr <| zpn 1 ?_
 intro aC fr
 refine From_unI (by kernel_rfl : coreAt _ 1 = some (some 14, (.unOp .xor 2 (.tmp 13)), 2, none)) fr (by kernel_rfl) (by kernel_rfl) (k' := 2) rfl (kd := .i64) (i := 1) (z := .int .i64 (-2)) (by kernel_rfl) (fun w => rfl) ?_
 intro aC ea fr; clear ea
 revert aC
 refine zpn 2 <| zfe <| zre <| zbr <| zo2 (.int .i64 (-2)) (.int .i64 0) ?_
 exact ⟨_, _, rfl, by omega, hM⟩
 refine zsp <| zcP ((op : Int) == 3) ((op : Int) = 3) (by simp only [beq_iff_eq]) (fun c11 => ?_) (fun c11 => ?_)
 refine zsr <| zpn 2 <| zcl (truth_c false w) ?_
 rintro _ w12 ⟨rfl, M13x⟩
 have M13 := hM.cl M13x
 clear M13x hM
 refine zpn 2 <| zfe <| zre <| zbr <| zo2 (.int .i64 (truthI false)) (.int .i64 0) ?_
 exact ⟨_, _, rfl, by omega, M13⟩
 refine zsk <| zsp <| zre <| zo2 (.int .i64 0) (.int .i64 (-1)) ?_
 exact ⟨_, _, rfl, by omega, hM⟩
theorem shape_c (i : FIns) (w : World) (hi : i.Ok) :
    Calls Try.prog 116 #[(iG i)] w (Ret fun v w' => v = .bool (decide (shapeQ i)) ∧ Mem noS w w' []) := by
 have ho : -9223372036854775808 ≤ i.op ∧ i.op ≤ 9223372036854775807 := hi.op
 refine zen 175 [(iG i)] Try.func116 ?_
 have hM := Mem.init w
 refine zsr <| zbx hM 39 (iG i) (iV i) fun b1 w2 hb1 M3 => ?_
 replace M3 := M3.nf
 clear hM
 refine zpn 1 <| zfe <| zsq ?_
 obtain ⟨B4, hB4⟩ : ∃ B : Bool, B = (i.n == 0) := ⟨_, rfl⟩
 refine zkp [(1, (pT b1 0))] ?_
 intro aC fr
 refine zdr (N := 175) (env0 := [(1, (pT b1 0))]) (specAt [.det (pT b1 2), .det (.int .i64 i.n), .det (.bool B4), .det (pT b1 4), .det (.slice i.A i.args.length i.c), .det (.int .i64 ((i.args.length : Nat) : Int)), .det (.bool B4), .det (.int .i64 ((i.args.length : Nat) : Int))]) fr (la (la (la (la (la (la (la (la lz dP) (dL ⟨b1, 2, none⟩ (.int .i64 i.n) fun w_ hK => (blk_cell ((M3.then_ hK).get 0 rfl) rfl))) (dC (i.n == 0) hB4)) dP) (dL ⟨b1, 4, none⟩ (.slice i.A i.args.length i.c) fun w_ hK => (blk_cell ((M3.then_ hK).get 0 rfl) rfl))) dP) dP) dP) ?_
 intro aC w9 vs hK hv fr
 revert aC; refine zkp [(1, (pT b1 0)), (3, (.bool B4)), (4, (.int .i64 ((i.args.length : Nat) : Int)))] ?_
 have M10 := M3.then_ hK
 clear hK hv fr aC M3; clear vs
 have iB4 : B4 = true ↔ ((i.n : Int) = 0) := by rw [hB4]; simp only [beq_iff_eq]
 clear hB4
 refine zsr <| zpn 1 <| zld ⟨b1, 3, none⟩ (.string i.name) (blk_cell (M10.get 0 rfl) rfl) <| zpn 2 <| zfe <| zsq <| zsr <| zpn 1 <| zld ⟨b1, 0, none⟩ (.int .i64 i.op) (blk_cell (M10.get 0 rfl) rfl) <| zcl (makes_c i.op w9) ?_
 rintro _ w11 ⟨rfl, M12x⟩
 have M12 := M10.cl M12x
 refine zpn 2 ?_
 obtain ⟨B13, hB13⟩ : ∃ B : Bool, B = (!(decide (makesQ i.op))) := ⟨_, rfl⟩
 refine zkp [(1, (pT b1 0)), (3, (.bool B4)), (4, (.int .i64 ((i.args.length : Nat) : Int))), (5, (.bool ((i.name : ByteArray).toList == (⟨#[]⟩ : ByteArray).toList))), (23, (.bool (!(decide (makesQ i.op)))))] ?_
 rw [← hB13]
 have iB13 : B13 = true ↔ (¬ (makesQ i.op)) := by rw [hB13]; simp only [notT, decide_eq_true_eq]
 clear hB13
 intro aC fr
 refine zpk 1 6 [24] fr (news := [(24, (cond B13 (pT b1 1) undef))]) (by cases B13 <;> kernel_rfl) ?_
 intro aC fr
 refine From_either (B := B13) (d := (some 25)) (.int .i64 i.dst) fr (by cases B13 <;> kernel_rfl) (fun hB hh => ?_) ?_
 cases B13 <;> first | (exact absurd hB (by decide)) | skip
 have c13 : (¬ (makesQ i.op)) := iB13.1 rfl
 exact From_ld (some 25) ⟨b1, 1, none⟩ fr (by kernel_rfl) (.int .i64 i.dst) (blk_cell (M12.get 0 rfl) rfl) hh
 intro aC fr
 refine zpk 2 9 [27] fr (news := [(27, (.bool (B13 && ((i.dst : Int) != (-1)))))]) (by cases B13 <;> kernel_rfl) ?_
 intro aC fr
 revert aC
 refine zfe <| zcP (B13 && ((i.dst : Int) != (-1))) ((¬ (makesQ i.op)) ∧ ((i.dst : Int) ≠ (-1))) (by simp only [Bool.and_eq_true, bne_iff_ne, iB13]) (fun c22 => ?_) (fun c22 => ?_)
 refine zsp <| zre <| zo1 (.bool false) ?_
 have hR : false = true ↔ False := by simp
 have M23 := M12.od [] 0
 exact ⟨bool_dec hR (shape_not c22), M23⟩
 refine zsk <| zsq <| zsr <| zpn 1 <| zld ⟨b1, 0, none⟩ (.int .i64 i.op) (blk_cell (M12.get 0 rfl) rfl) <| zfe <| zbk 0 <| zsp <| zcP ((i.op : Int) == 1) ((i.op : Int) = 1) (by simp only [beq_iff_eq]) (fun c24 => ?_) (fun c24 => ?_)
 refine zsr <| zpn 2 ?_
 obtain ⟨B25, hB25⟩ : ∃ B : Bool, B = ((i.name : ByteArray).toList == (⟨#[]⟩ : ByteArray).toList) := ⟨_, rfl⟩
 refine zkp [(4, (.int .i64 ((i.args.length : Nat) : Int))), (33, (.bool ((i.name : ByteArray).toList == (⟨#[]⟩ : ByteArray).toList)))] ?_
 rw [← hB25]
 have iB25 : B25 = true ↔ ((i.name).size = 0) := by rw [hB25]; simp only [seq_nil]
 clear hB25
 intro aC fr
 refine zpk 4 6 [2, 36] fr (news := [(2, (.bool (B25 && ((((i.args.length : Nat) : Int) : Int) == 0)))), (36, (.bool (B25 && ((((i.args.length : Nat) : Int) : Int) == 0))))]) (by cases B25 <;> kernel_rfl) ?_
 intro aC fr
 revert aC
 refine zfe <| zre <| zbr <| zo1 (.bool (B25 && ((((i.args.length : Nat) : Int) : Int) == 0))) ?_
 have hR : (B25 && ((((i.args.length : Nat) : Int) : Int) == 0)) = true ↔ (((i.name).size = 0) ∧ ((((i.args.length : Nat) : Int) : Int) = 0)) := by simp only [Bool.and_eq_true, beq_iff_eq, iB25]
 have M30 := M12.od [] 0
 exact ⟨bool_dec hR (by rw [shape_1 (by omega)]; simp only [makesQ, nameQ, codeQ, placeQ] at *; omega), M30⟩
 refine zsq <| zsp ?_
 obtain ⟨B31, hB31⟩ : ∃ B : Bool, B = ((i.op : Int) == 12) := ⟨_, rfl⟩
 refine zkp [(1, (pT b1 0)), (3, (.bool B4)), (4, (.int .i64 ((i.args.length : Nat) : Int))), (5, (.bool ((i.name : ByteArray).toList == (⟨#[]⟩ : ByteArray).toList))), (29, (.int .i64 i.op)), (37, (.bool ((i.op : Int) == 12)))] ?_
 rw [← hB31]
 have iB31 : B31 = true ↔ ((i.op : Int) = 12) := by rw [hB31]; simp only [beq_iff_eq]
 clear hB31
 cases B31
 have c31 : ¬ ((i.op : Int) = 12) := (fun h => Bool.noConfusion (iB31.2 h) : ¬ ((i.op : Int) = 12))
 refine zcF <| zsp ?_
 obtain ⟨B32, hB32⟩ : ∃ B : Bool, B = ((i.op : Int) == 8) := ⟨_, rfl⟩
 refine zkp [(1, (pT b1 0)), (3, (.bool B4)), (4, (.int .i64 ((i.args.length : Nat) : Int))), (5, (.bool ((i.name : ByteArray).toList == (⟨#[]⟩ : ByteArray).toList))), (29, (.int .i64 i.op)), (37, (.bool ((i.op : Int) == 8)))] ?_
 rw [← hB32]
 have iB32 : B32 = true ↔ ((i.op : Int) = 8) := by rw [hB32]; simp only [beq_iff_eq]
 clear hB32
 cases B32
 have c32 : ¬ ((i.op : Int) = 8) := (fun h => Bool.noConfusion (iB32.2 h) : ¬ ((i.op : Int) = 8))
 refine zcF <| zrp <| zcP ((i.op : Int) == 10) ((i.op : Int) = 10) (by simp only [beq_iff_eq]) (fun c33 => ?_) (fun c33 => ?_)
 refine zsr ?_
 intro aC fr
 refine zpk 5 5 [41, 42, 44, 45] fr (news := [(41, (.bool B4)), (42, (.bool B4)), (44, (.bool (B4 && ((i.name : ByteArray).toList == (⟨#[]⟩ : ByteArray).toList)))), (45, (.bool (B4 && ((i.name : ByteArray).toList == (⟨#[]⟩ : ByteArray).toList))))]) (by cases B4 <;> kernel_rfl) ?_
 intro aC fr
 obtain ⟨B38, hB38⟩ : ∃ B : Bool, B = (B4 && ((i.name : ByteArray).toList == (⟨#[]⟩ : ByteArray).toList)) := ⟨_, rfl⟩
 revert aC
 refine zkp [(4, (.int .i64 ((i.args.length : Nat) : Int))), (45, (.bool (B4 && ((i.name : ByteArray).toList == (⟨#[]⟩ : ByteArray).toList))))] ?_
 rw [← hB38]
 have iB38 : B38 = true ↔ (((i.n : Int) = 0) ∧ ((i.name).size = 0)) := by rw [hB38]; simp only [Bool.and_eq_true, seq_nil, iB4]
 clear hB38
 intro aC fr
 refine zpk 4 9 [2, 48] fr (news := [(2, (.bool (B38 && ((((i.args.length : Nat) : Int) : Int) == 1)))), (48, (.bool (B38 && ((((i.args.length : Nat) : Int) : Int) == 1))))]) (by cases B38 <;> kernel_rfl) ?_
 intro aC fr
 revert aC
 refine zfe <| zre <| zbr <| zo1 (.bool (B38 && ((((i.args.length : Nat) : Int) : Int) == 1))) ?_
 have hR : (B38 && ((((i.args.length : Nat) : Int) : Int) == 1)) = true ↔ ((((i.n : Int) = 0) ∧ ((i.name).size = 0)) ∧ ((((i.args.length : Nat) : Int) : Int) = 1)) := by simp only [Bool.and_eq_true, beq_iff_eq, iB38]
 have M43 := M12.od [] 0
 exact ⟨bool_dec hR (by rw [shape_10 (by omega)]; simp only [makesQ, nameQ, codeQ, placeQ] at *; omega), M43⟩
 refine zsp <| zcP ((i.op : Int) == 2) ((i.op : Int) = 2) (by simp only [beq_iff_eq]) (fun c44 => ?_) (fun c44 => ?_)
 refine zsr <| zpn 1 <| zld ⟨b1, 2, none⟩ (.int .i64 i.n) (blk_cell (M12.get 0 rfl) rfl) <| zcl (place_c i.n w11) ?_
 rintro _ w45 ⟨rfl, M46x⟩
 have M46 := M12.cl M46x
 refine zpn 1 ?_
 obtain ⟨B47, hB47⟩ : ∃ B : Bool, B = decide (placeQ i.n) := ⟨_, rfl⟩
 refine zkp [(4, (.int .i64 ((i.args.length : Nat) : Int))), (5, (.bool ((i.name : ByteArray).toList == (⟨#[]⟩ : ByteArray).toList))), (54, (.bool (decide (placeQ i.n))))] ?_
 rw [← hB47]
 have iB47 : B47 = true ↔ (placeQ i.n) := by rw [hB47]; simp only [decide_eq_true_eq]
 clear hB47
 intro aC fr
 refine zpk 3 7 [56, 57] fr (news := [(56, (.bool (B47 && ((i.name : ByteArray).toList == (⟨#[]⟩ : ByteArray).toList)))), (57, (.bool (B47 && ((i.name : ByteArray).toList == (⟨#[]⟩ : ByteArray).toList))))]) (by cases B47 <;> kernel_rfl) ?_
 intro aC fr
 obtain ⟨B52, hB52⟩ : ∃ B : Bool, B = (B47 && ((i.name : ByteArray).toList == (⟨#[]⟩ : ByteArray).toList)) := ⟨_, rfl⟩
 revert aC
 refine zkp [(4, (.int .i64 ((i.args.length : Nat) : Int))), (57, (.bool (B47 && ((i.name : ByteArray).toList == (⟨#[]⟩ : ByteArray).toList))))] ?_
 rw [← hB52]
 have iB52 : B52 = true ↔ ((placeQ i.n) ∧ ((i.name).size = 0)) := by rw [hB52]; simp only [Bool.and_eq_true, seq_nil, iB47]
 clear hB52
 intro aC fr
 refine zpk 4 11 [2, 60] fr (news := [(2, (.bool (B52 && ((((i.args.length : Nat) : Int) : Int) == 1)))), (60, (.bool (B52 && ((((i.args.length : Nat) : Int) : Int) == 1))))]) (by cases B52 <;> kernel_rfl) ?_
 intro aC fr
 revert aC
 refine zfe <| zre <| zbr <| zo1 (.bool (B52 && ((((i.args.length : Nat) : Int) : Int) == 1))) ?_
 have hR : (B52 && ((((i.args.length : Nat) : Int) : Int) == 1)) = true ↔ (((placeQ i.n) ∧ ((i.name).size = 0)) ∧ ((((i.args.length : Nat) : Int) : Int) = 1)) := by simp only [Bool.and_eq_true, beq_iff_eq, iB52]
 have M57 := M46.od [] 0
 exact ⟨bool_dec hR (by rw [shape_2 (by omega)]; simp only [makesQ, nameQ, codeQ, placeQ] at *; omega), M57⟩
 refine zsp <| zcP ((i.op : Int) == 3) ((i.op : Int) = 3) (by simp only [beq_iff_eq]) (fun c58 => ?_) (fun c58 => ?_)
 refine zsr <| zpn 1 <| zld ⟨b1, 2, none⟩ (.int .i64 i.n) (blk_cell (M12.get 0 rfl) rfl) <| zcl (place_c i.n w11) ?_
 rintro _ w59 ⟨rfl, M60x⟩
 have M60 := M12.cl M60x
 refine zpn 1 ?_
 obtain ⟨B61, hB61⟩ : ∃ B : Bool, B = decide (placeQ i.n) := ⟨_, rfl⟩
 refine zkp [(4, (.int .i64 ((i.args.length : Nat) : Int))), (5, (.bool ((i.name : ByteArray).toList == (⟨#[]⟩ : ByteArray).toList))), (66, (.bool (decide (placeQ i.n))))] ?_
 rw [← hB61]
 have iB61 : B61 = true ↔ (placeQ i.n) := by rw [hB61]; simp only [decide_eq_true_eq]
 clear hB61
 intro aC fr
 refine zpk 3 7 [68, 69] fr (news := [(68, (.bool (B61 && ((i.name : ByteArray).toList == (⟨#[]⟩ : ByteArray).toList)))), (69, (.bool (B61 && ((i.name : ByteArray).toList == (⟨#[]⟩ : ByteArray).toList))))]) (by cases B61 <;> kernel_rfl) ?_
 intro aC fr
 obtain ⟨B66, hB66⟩ : ∃ B : Bool, B = (B61 && ((i.name : ByteArray).toList == (⟨#[]⟩ : ByteArray).toList)) := ⟨_, rfl⟩
 revert aC
 refine zkp [(4, (.int .i64 ((i.args.length : Nat) : Int))), (69, (.bool (B61 && ((i.name : ByteArray).toList == (⟨#[]⟩ : ByteArray).toList))))] ?_
 rw [← hB66]
 have iB66 : B66 = true ↔ ((placeQ i.n) ∧ ((i.name).size = 0)) := by rw [hB66]; simp only [Bool.and_eq_true, seq_nil, iB61]
 clear hB66
 intro aC fr
 refine zpk 4 11 [2, 72] fr (news := [(2, (.bool (B66 && ((((i.args.length : Nat) : Int) : Int) == 2)))), (72, (.bool (B66 && ((((i.args.length : Nat) : Int) : Int) == 2))))]) (by cases B66 <;> kernel_rfl) ?_
 intro aC fr
 revert aC
 refine zfe <| zre <| zbr <| zo1 (.bool (B66 && ((((i.args.length : Nat) : Int) : Int) == 2))) ?_
 have hR : (B66 && ((((i.args.length : Nat) : Int) : Int) == 2)) = true ↔ (((placeQ i.n) ∧ ((i.name).size = 0)) ∧ ((((i.args.length : Nat) : Int) : Int) = 2)) := by simp only [Bool.and_eq_true, beq_iff_eq, iB66]
 have M71 := M60.od [] 0
 exact ⟨bool_dec hR (by rw [shape_3 (by omega)]; simp only [makesQ, nameQ, codeQ, placeQ] at *; omega), M71⟩
 refine zsp <| zcP ((i.op : Int) == 4) ((i.op : Int) = 4) (by simp only [beq_iff_eq]) (fun c72 => ?_) (fun c72 => ?_)
 refine zsr ?_
 intro aC fr
 refine zpk 3 3 [75, 76, 77] fr (news := [(75, (.bool B4)), (76, (.bool B4)), (77, (cond B4 (pT b1 3) undef))]) (by cases B4 <;> kernel_rfl) ?_
 intro aC fr
 refine From_either (B := B4) (d := (some 78)) (.string i.name) fr (by cases B4 <;> kernel_rfl) (fun hB hh => ?_) ?_
 cases B4 <;> first | (exact absurd hB (by decide)) | skip
 have c4 : ((i.n : Int) = 0) := iB4.1 rfl
 exact From_ld (some 78) ⟨b1, 3, none⟩ fr (by kernel_rfl) (.string i.name) (blk_cell (M12.get 0 rfl) rfl) hh
 intro aC fr
 refine From_eitherC (B := B4) (d := (some 79)) (.bool (decide (nameQ i.name))) fr (by cases B4 <;> kernel_rfl) (fun hB hh => ?_) ?_
 cases B4 <;> first | (exact absurd hB (by decide)) | skip
 have c4 : ((i.n : Int) = 0) := iB4.1 rfl
 refine From_cl (some 79) 79 [(.string i.name)] fr (by kernel_rfl) (name_c i.name w11) ?_
 rintro _ w2 ⟨rfl, hm2⟩ a2 hF2; exact hh a2 w2 hm2 hF2
 intro aC w79 M80x fr
 have M80 := M12.cl M80x
 refine zpk 2 7 [80, 81] fr (news := [(80, (.bool (B4 && decide (nameQ i.name)))), (81, (.bool (B4 && decide (nameQ i.name))))]) (by cases B4 <;> kernel_rfl) ?_
 intro aC fr
 obtain ⟨B85, hB85⟩ : ∃ B : Bool, B = (B4 && decide (nameQ i.name)) := ⟨_, rfl⟩
 revert aC
 refine zkp [(4, (.int .i64 ((i.args.length : Nat) : Int))), (81, (.bool (B4 && decide (nameQ i.name))))] ?_
 rw [← hB85]
 have iB85 : B85 = true ↔ (((i.n : Int) = 0) ∧ (nameQ i.name)) := by rw [hB85]; simp only [Bool.and_eq_true, decide_eq_true_eq, iB4]
 clear hB85
 intro aC fr
 refine zpk 4 11 [2, 84] fr (news := [(2, (.bool (B85 && decide ((((i.args.length : Nat) : Int) : Int) ≤ 16)))), (84, (.bool (B85 && decide ((((i.args.length : Nat) : Int) : Int) ≤ 16))))]) (by cases B85 <;> kernel_rfl) ?_
 intro aC fr
 revert aC
 refine zfe <| zre <| zbr <| zo1 (.bool (B85 && decide ((((i.args.length : Nat) : Int) : Int) ≤ 16))) ?_
 have hR : (B85 && decide ((((i.args.length : Nat) : Int) : Int) ≤ 16)) = true ↔ ((((i.n : Int) = 0) ∧ (nameQ i.name)) ∧ ((((i.args.length : Nat) : Int) : Int) ≤ 16)) := by simp only [Bool.and_eq_true, decide_eq_true_eq, iB85]
 have M90 := M80.od [] 0
 exact ⟨bool_dec hR (by rw [shape_4 (by omega)]; simp only [makesQ, nameQ, codeQ, placeQ] at *; omega), M90⟩
 refine zsp <| zcP ((i.op : Int) == 5) ((i.op : Int) = 5) (by simp only [beq_iff_eq]) (fun c91 => ?_) (fun c91 => ?_)
 refine zsr ?_
 intro aC fr
 refine zpk 5 5 [87, 88, 90, 91] fr (news := [(87, (.bool B4)), (88, (.bool B4)), (90, (.bool (B4 && ((i.name : ByteArray).toList == (⟨#[]⟩ : ByteArray).toList)))), (91, (.bool (B4 && ((i.name : ByteArray).toList == (⟨#[]⟩ : ByteArray).toList))))]) (by cases B4 <;> kernel_rfl) ?_
 intro aC fr
 obtain ⟨B96, hB96⟩ : ∃ B : Bool, B = (B4 && ((i.name : ByteArray).toList == (⟨#[]⟩ : ByteArray).toList)) := ⟨_, rfl⟩
 revert aC
 refine zkp [(4, (.int .i64 ((i.args.length : Nat) : Int))), (91, (.bool (B4 && ((i.name : ByteArray).toList == (⟨#[]⟩ : ByteArray).toList))))] ?_
 rw [← hB96]
 have iB96 : B96 = true ↔ (((i.n : Int) = 0) ∧ ((i.name).size = 0)) := by rw [hB96]; simp only [Bool.and_eq_true, seq_nil, iB4]
 clear hB96
 intro aC fr
 refine zpk 4 9 [94, 95] fr (news := [(94, (.bool (B96 && decide ((((i.args.length : Nat) : Int) : Int) ≥ 1)))), (95, (.bool (B96 && decide ((((i.args.length : Nat) : Int) : Int) ≥ 1))))]) (by cases B96 <;> kernel_rfl) ?_
 intro aC fr
 obtain ⟨B101, hB101⟩ : ∃ B : Bool, B = (B96 && decide ((((i.args.length : Nat) : Int) : Int) ≥ 1)) := ⟨_, rfl⟩
 revert aC
 refine zkp [(4, (.int .i64 ((i.args.length : Nat) : Int))), (95, (.bool (B96 && decide ((((i.args.length : Nat) : Int) : Int) ≥ 1))))] ?_
 rw [← hB101]
 have iB101 : B101 = true ↔ ((((i.n : Int) = 0) ∧ ((i.name).size = 0)) ∧ ((((i.args.length : Nat) : Int) : Int) ≥ 1)) := by rw [hB101]; simp only [Bool.and_eq_true, decide_eq_true_eq, iB96]
 clear hB101
 intro aC fr
 refine zpk 4 13 [2, 98] fr (news := [(2, (.bool (B101 && decide ((((i.args.length : Nat) : Int) : Int) ≤ 17)))), (98, (.bool (B101 && decide ((((i.args.length : Nat) : Int) : Int) ≤ 17))))]) (by cases B101 <;> kernel_rfl) ?_
 intro aC fr
 revert aC
 refine zfe <| zre <| zbr <| zo1 (.bool (B101 && decide ((((i.args.length : Nat) : Int) : Int) ≤ 17))) ?_
 have hR : (B101 && decide ((((i.args.length : Nat) : Int) : Int) ≤ 17)) = true ↔ (((((i.n : Int) = 0) ∧ ((i.name).size = 0)) ∧ ((((i.args.length : Nat) : Int) : Int) ≥ 1)) ∧ ((((i.args.length : Nat) : Int) : Int) ≤ 17)) := by simp only [Bool.and_eq_true, decide_eq_true_eq, iB101]
 have M106 := M12.od [] 0
 exact ⟨bool_dec hR (by rw [shape_5 (by omega)]; simp only [makesQ, nameQ, codeQ, placeQ] at *; omega), M106⟩
 refine zsq <| zsp ?_
 obtain ⟨B107, hB107⟩ : ∃ B : Bool, B = ((i.op : Int) == 6) := ⟨_, rfl⟩
 refine zkp [(1, (pT b1 0)), (3, (.bool B4)), (4, (.int .i64 ((i.args.length : Nat) : Int))), (5, (.bool ((i.name : ByteArray).toList == (⟨#[]⟩ : ByteArray).toList))), (29, (.int .i64 i.op)), (99, (.bool ((i.op : Int) == 6)))] ?_
 rw [← hB107]
 have iB107 : B107 = true ↔ ((i.op : Int) = 6) := by rw [hB107]; simp only [beq_iff_eq]
 clear hB107
 cases B107
 have c107 : ¬ ((i.op : Int) = 6) := (fun h => Bool.noConfusion (iB107.2 h) : ¬ ((i.op : Int) = 6))
 refine zcF <| zrp <| zcP ((i.op : Int) == 7) ((i.op : Int) = 7) (by simp only [beq_iff_eq]) (fun c108 => ?_) (fun c108 => ?_)
 refine zsr ?_
 intro aC fr
 refine zpk 3 3 [102, 103, 104] fr (news := [(102, (.bool B4)), (103, (.bool B4)), (104, (cond B4 (pT b1 3) undef))]) (by cases B4 <;> kernel_rfl) ?_
 intro aC fr
 refine From_either (B := B4) (d := (some 105)) (.string i.name) fr (by cases B4 <;> kernel_rfl) (fun hB hh => ?_) ?_
 cases B4 <;> first | (exact absurd hB (by decide)) | skip
 have c4 : ((i.n : Int) = 0) := iB4.1 rfl
 exact From_ld (some 105) ⟨b1, 3, none⟩ fr (by kernel_rfl) (.string i.name) (blk_cell (M12.get 0 rfl) rfl) hh
 intro aC fr
 refine From_eitherC (B := B4) (d := (some 106)) (.bool (decide (nameQ i.name))) fr (by cases B4 <;> kernel_rfl) (fun hB hh => ?_) ?_
 cases B4 <;> first | (exact absurd hB (by decide)) | skip
 have c4 : ((i.n : Int) = 0) := iB4.1 rfl
 refine From_cl (some 106) 79 [(.string i.name)] fr (by kernel_rfl) (name_c i.name w11) ?_
 rintro _ w2 ⟨rfl, hm2⟩ a2 hF2; exact hh a2 w2 hm2 hF2
 intro aC w115 M116x fr
 have M116 := M12.cl M116x
 refine zpk 2 7 [107, 108] fr (news := [(107, (.bool (B4 && decide (nameQ i.name)))), (108, (.bool (B4 && decide (nameQ i.name))))]) (by cases B4 <;> kernel_rfl) ?_
 intro aC fr
 obtain ⟨B121, hB121⟩ : ∃ B : Bool, B = (B4 && decide (nameQ i.name)) := ⟨_, rfl⟩
 revert aC
 refine zkp [(4, (.int .i64 ((i.args.length : Nat) : Int))), (108, (.bool (B4 && decide (nameQ i.name))))] ?_
 rw [← hB121]
 have iB121 : B121 = true ↔ (((i.n : Int) = 0) ∧ (nameQ i.name)) := by rw [hB121]; simp only [Bool.and_eq_true, decide_eq_true_eq, iB4]
 clear hB121
 intro aC fr
 refine zpk 4 11 [2, 111] fr (news := [(2, (.bool (B121 && ((((i.args.length : Nat) : Int) : Int) == 0)))), (111, (.bool (B121 && ((((i.args.length : Nat) : Int) : Int) == 0))))]) (by cases B121 <;> kernel_rfl) ?_
 intro aC fr
 revert aC
 refine zfe <| zre <| zbr <| zo1 (.bool (B121 && ((((i.args.length : Nat) : Int) : Int) == 0))) ?_
 have hR : (B121 && ((((i.args.length : Nat) : Int) : Int) == 0)) = true ↔ ((((i.n : Int) = 0) ∧ (nameQ i.name)) ∧ ((((i.args.length : Nat) : Int) : Int) = 0)) := by simp only [Bool.and_eq_true, beq_iff_eq, iB121]
 have M126 := M116.od [] 0
 exact ⟨bool_dec hR (by rw [shape_7 (by omega)]; simp only [makesQ, nameQ, codeQ, placeQ] at *; omega), M126⟩
 refine zsp <| zcP ((i.op : Int) == 9) ((i.op : Int) = 9) (by simp only [beq_iff_eq]) (fun c127 => ?_) (fun c127 => ?_)
 refine zsr ?_
 intro aC fr
 refine zpk 5 5 [114, 115, 117, 118] fr (news := [(114, (.bool B4)), (115, (.bool B4)), (117, (.bool (B4 && ((i.name : ByteArray).toList == (⟨#[]⟩ : ByteArray).toList)))), (118, (.bool (B4 && ((i.name : ByteArray).toList == (⟨#[]⟩ : ByteArray).toList))))]) (by cases B4 <;> kernel_rfl) ?_
 intro aC fr
 obtain ⟨B132, hB132⟩ : ∃ B : Bool, B = (B4 && ((i.name : ByteArray).toList == (⟨#[]⟩ : ByteArray).toList)) := ⟨_, rfl⟩
 revert aC
 refine zkp [(4, (.int .i64 ((i.args.length : Nat) : Int))), (118, (.bool (B4 && ((i.name : ByteArray).toList == (⟨#[]⟩ : ByteArray).toList))))] ?_
 rw [← hB132]
 have iB132 : B132 = true ↔ (((i.n : Int) = 0) ∧ ((i.name).size = 0)) := by rw [hB132]; simp only [Bool.and_eq_true, seq_nil, iB4]
 clear hB132
 intro aC fr
 refine zpk 4 9 [2, 121] fr (news := [(2, (.bool (B132 && ((((i.args.length : Nat) : Int) : Int) == 0)))), (121, (.bool (B132 && ((((i.args.length : Nat) : Int) : Int) == 0))))]) (by cases B132 <;> kernel_rfl) ?_
 intro aC fr
 revert aC
 refine zfe <| zre <| zbr <| zo1 (.bool (B132 && ((((i.args.length : Nat) : Int) : Int) == 0))) ?_
 have hR : (B132 && ((((i.args.length : Nat) : Int) : Int) == 0)) = true ↔ ((((i.n : Int) = 0) ∧ ((i.name).size = 0)) ∧ ((((i.args.length : Nat) : Int) : Int) = 0)) := by simp only [Bool.and_eq_true, beq_iff_eq, iB132]
 have M137 := M12.od [] 0
 exact ⟨bool_dec hR (by rw [shape_9 (by omega)]; simp only [makesQ, nameQ, codeQ, placeQ] at *; omega), M137⟩
 refine zsp <| zcP ((i.op : Int) == 11) ((i.op : Int) = 11) (by simp only [beq_iff_eq]) (fun c138 => ?_) (fun c138 => ?_)
 refine zsr <| zpn 1 <| zld ⟨b1, 2, none⟩ (.int .i64 i.n) (blk_cell (M12.get 0 rfl) rfl) <| zcl (code_c i.n w11) ?_
 rintro _ w139 ⟨rfl, M140x⟩
 have M140 := M12.cl M140x
 refine zpn 1 ?_
 obtain ⟨B141, hB141⟩ : ∃ B : Bool, B = decide (codeQ i.n) := ⟨_, rfl⟩
 refine zkp [(4, (.int .i64 ((i.args.length : Nat) : Int))), (5, (.bool ((i.name : ByteArray).toList == (⟨#[]⟩ : ByteArray).toList))), (127, (.bool (decide (codeQ i.n))))] ?_
 rw [← hB141]
 have iB141 : B141 = true ↔ (codeQ i.n) := by rw [hB141]; simp only [decide_eq_true_eq]
 clear hB141
 intro aC fr
 refine zpk 3 7 [129, 130] fr (news := [(129, (.bool (B141 && ((i.name : ByteArray).toList == (⟨#[]⟩ : ByteArray).toList)))), (130, (.bool (B141 && ((i.name : ByteArray).toList == (⟨#[]⟩ : ByteArray).toList))))]) (by cases B141 <;> kernel_rfl) ?_
 intro aC fr
 obtain ⟨B146, hB146⟩ : ∃ B : Bool, B = (B141 && ((i.name : ByteArray).toList == (⟨#[]⟩ : ByteArray).toList)) := ⟨_, rfl⟩
 revert aC
 refine zkp [(4, (.int .i64 ((i.args.length : Nat) : Int))), (130, (.bool (B141 && ((i.name : ByteArray).toList == (⟨#[]⟩ : ByteArray).toList))))] ?_
 rw [← hB146]
 have iB146 : B146 = true ↔ ((codeQ i.n) ∧ ((i.name).size = 0)) := by rw [hB146]; simp only [Bool.and_eq_true, seq_nil, iB141]
 clear hB146
 intro aC fr
 refine zpk 4 11 [2, 133] fr (news := [(2, (.bool (B146 && ((((i.args.length : Nat) : Int) : Int) == 1)))), (133, (.bool (B146 && ((((i.args.length : Nat) : Int) : Int) == 1))))]) (by cases B146 <;> kernel_rfl) ?_
 intro aC fr
 revert aC
 refine zfe <| zre <| zbr <| zo1 (.bool (B146 && ((((i.args.length : Nat) : Int) : Int) == 1))) ?_
 have hR : (B146 && ((((i.args.length : Nat) : Int) : Int) == 1)) = true ↔ (((codeQ i.n) ∧ ((i.name).size = 0)) ∧ ((((i.args.length : Nat) : Int) : Int) = 1)) := by simp only [Bool.and_eq_true, beq_iff_eq, iB146]
 have M151 := M140.od [] 0
 exact ⟨bool_dec hR (by rw [shape_11 (by omega)]; simp only [makesQ, nameQ, codeQ, placeQ] at *; omega), M151⟩
 refine zsk <| zsq <| zsr <| zpn 1 <| zld ⟨b1, 0, none⟩ (.int .i64 i.op) (blk_cell (M12.get 0 rfl) rfl) <| zpn 1 <| zfe <| zcD ((i.op : Int) < 40) (fun c152 => ?_) (fun c152 => ?_)
 refine zsr <| zpn 1 <| zld ⟨b1, 0, none⟩ (.int .i64 i.op) (blk_cell (M12.get 0 rfl) rfl) ?_
 intro aC fr
 refine From_binI (by kernel_rfl : coreAt _ 2 = some (some 140, (.binOp .sub 3 (.tmp 139) (.const (.int .i64 16)) 3), 3, none)) fr (by kernel_rfl) (by kernel_rfl) (k' := 3) rfl (kd := .i64) (kd' := .i64) (i := i.op) (j := 16) (z := .int .i64 (IntKind.i64.wrap (i.op - 16))) (by kernel_rfl) (by kernel_rfl) (fun w => bin_sub_w _ _ w) ?_
 intro aC ea fr; clear ea
 revert aC
 refine zcl (bin1_c (IntKind.i64.wrap (i.op - 16)) w11) ?_
 rintro _ w159 ⟨z157, cd158, rfl, hcd, M160x⟩
 have M160 := M12.cl M160x
 refine zpn 5 <| zfe <| zsr ?_
 have hwr := IntKind.wrap_i64 (i.op - 16)
 refine zpn 3 ?_
 obtain ⟨B161, hB161⟩ : ∃ B : Bool, B = ((cd158 : Int) == 0) := ⟨_, rfl⟩
 refine zkp [(3, (.bool B4)), (4, (.int .i64 ((i.args.length : Nat) : Int))), (5, (.bool ((i.name : ByteArray).toList == (⟨#[]⟩ : ByteArray).toList))), (146, (.bool ((cd158 : Int) == 0)))] ?_
 rw [← hB161]
 have iB161 : B161 = true ↔ ((cd158 : Int) = 0) := by rw [hB161]; simp only [beq_iff_eq]
 clear hB161
 intro aC fr
 refine zpk 3 6 [148, 149] fr (news := [(148, (.bool (B161 && B4))), (149, (.bool (B161 && B4)))]) (by cases B161 <;> kernel_rfl) ?_
 intro aC fr
 obtain ⟨B166, hB166⟩ : ∃ B : Bool, B = (B161 && B4) := ⟨_, rfl⟩
 revert aC
 refine zkp [(4, (.int .i64 ((i.args.length : Nat) : Int))), (5, (.bool ((i.name : ByteArray).toList == (⟨#[]⟩ : ByteArray).toList))), (149, (.bool (B161 && B4)))] ?_
 rw [← hB166]
 have iB166 : B166 = true ↔ (((cd158 : Int) = 0) ∧ ((i.n : Int) = 0)) := by rw [hB166]; simp only [Bool.and_eq_true, iB161, iB4]
 clear hB166
 intro aC fr
 refine zpk 3 9 [151, 152] fr (news := [(151, (.bool (B166 && ((i.name : ByteArray).toList == (⟨#[]⟩ : ByteArray).toList)))), (152, (.bool (B166 && ((i.name : ByteArray).toList == (⟨#[]⟩ : ByteArray).toList))))]) (by cases B166 <;> kernel_rfl) ?_
 intro aC fr
 obtain ⟨B171, hB171⟩ : ∃ B : Bool, B = (B166 && ((i.name : ByteArray).toList == (⟨#[]⟩ : ByteArray).toList)) := ⟨_, rfl⟩
 revert aC
 refine zkp [(4, (.int .i64 ((i.args.length : Nat) : Int))), (152, (.bool (B166 && ((i.name : ByteArray).toList == (⟨#[]⟩ : ByteArray).toList))))] ?_
 rw [← hB171]
 have iB171 : B171 = true ↔ ((((cd158 : Int) = 0) ∧ ((i.n : Int) = 0)) ∧ ((i.name).size = 0)) := by rw [hB171]; simp only [Bool.and_eq_true, seq_nil, iB166]
 clear hB171
 intro aC fr
 refine zpk 4 13 [2, 155] fr (news := [(2, (.bool (B171 && ((((i.args.length : Nat) : Int) : Int) == 2)))), (155, (.bool (B171 && ((((i.args.length : Nat) : Int) : Int) == 2))))]) (by cases B171 <;> kernel_rfl) ?_
 intro aC fr
 revert aC
 refine zfe <| zre <| zo1 (.bool (B171 && ((((i.args.length : Nat) : Int) : Int) == 2))) ?_
 have hR : (B171 && ((((i.args.length : Nat) : Int) : Int) == 2)) = true ↔ (((((cd158 : Int) = 0) ∧ ((i.n : Int) = 0)) ∧ ((i.name).size = 0)) ∧ ((((i.args.length : Nat) : Int) : Int) = 2)) := by simp only [Bool.and_eq_true, beq_iff_eq, iB171]
 have M176 := M160.od [] 0
 exact ⟨bool_dec hR (shape_lt (not12 c24 c31 c32 c33 c44 c58 c72 c91 c107 c108 c127 c138) c152 ho hcd), M176⟩
 refine zsk <| zsr <| zpn 1 <| zld ⟨b1, 0, none⟩ (.int .i64 i.op) (blk_cell (M12.get 0 rfl) rfl) <| zar (i.op - 40) <| zcl (un1_c (i.op - 40) w11) ?_
 rintro _ w179 ⟨z177, cd178, rfl, hcd, M180x⟩
 have M180 := M12.cl M180x
 refine zpn 5 <| zfe <| zsr <| zpn 3 ?_
 obtain ⟨B181, hB181⟩ : ∃ B : Bool, B = ((cd178 : Int) == 0) := ⟨_, rfl⟩
 refine zkp [(3, (.bool B4)), (4, (.int .i64 ((i.args.length : Nat) : Int))), (5, (.bool ((i.name : ByteArray).toList == (⟨#[]⟩ : ByteArray).toList))), (165, (.bool ((cd178 : Int) == 0)))] ?_
 rw [← hB181]
 have iB181 : B181 = true ↔ ((cd178 : Int) = 0) := by rw [hB181]; simp only [beq_iff_eq]
 clear hB181
 intro aC fr
 refine zpk 3 6 [167, 168] fr (news := [(167, (.bool (B181 && B4))), (168, (.bool (B181 && B4)))]) (by cases B181 <;> kernel_rfl) ?_
 intro aC fr
 obtain ⟨B186, hB186⟩ : ∃ B : Bool, B = (B181 && B4) := ⟨_, rfl⟩
 revert aC
 refine zkp [(4, (.int .i64 ((i.args.length : Nat) : Int))), (5, (.bool ((i.name : ByteArray).toList == (⟨#[]⟩ : ByteArray).toList))), (168, (.bool (B181 && B4)))] ?_
 rw [← hB186]
 have iB186 : B186 = true ↔ (((cd178 : Int) = 0) ∧ ((i.n : Int) = 0)) := by rw [hB186]; simp only [Bool.and_eq_true, iB181, iB4]
 clear hB186
 intro aC fr
 refine zpk 3 9 [170, 171] fr (news := [(170, (.bool (B186 && ((i.name : ByteArray).toList == (⟨#[]⟩ : ByteArray).toList)))), (171, (.bool (B186 && ((i.name : ByteArray).toList == (⟨#[]⟩ : ByteArray).toList))))]) (by cases B186 <;> kernel_rfl) ?_
 intro aC fr
 obtain ⟨B191, hB191⟩ : ∃ B : Bool, B = (B186 && ((i.name : ByteArray).toList == (⟨#[]⟩ : ByteArray).toList)) := ⟨_, rfl⟩
 revert aC
 refine zkp [(4, (.int .i64 ((i.args.length : Nat) : Int))), (171, (.bool (B186 && ((i.name : ByteArray).toList == (⟨#[]⟩ : ByteArray).toList))))] ?_
 rw [← hB191]
 have iB191 : B191 = true ↔ ((((cd178 : Int) = 0) ∧ ((i.n : Int) = 0)) ∧ ((i.name).size = 0)) := by rw [hB191]; simp only [Bool.and_eq_true, seq_nil, iB186]
 clear hB191
 intro aC fr
 refine zpk 4 13 [2, 174] fr (news := [(2, (.bool (B191 && ((((i.args.length : Nat) : Int) : Int) == 1)))), (174, (.bool (B191 && ((((i.args.length : Nat) : Int) : Int) == 1))))]) (by cases B191 <;> kernel_rfl) ?_
 intro aC fr
 revert aC
 refine zfe <| zre <| zo1 (.bool (B191 && ((((i.args.length : Nat) : Int) : Int) == 1))) ?_
 have hR : (B191 && ((((i.args.length : Nat) : Int) : Int) == 1)) = true ↔ (((((cd178 : Int) = 0) ∧ ((i.n : Int) = 0)) ∧ ((i.name).size = 0)) ∧ ((((i.args.length : Nat) : Int) : Int) = 1)) := by simp only [Bool.and_eq_true, beq_iff_eq, iB191]
 have M196 := M180.od [] 0
 exact ⟨bool_dec hR (shape_ge c152 hcd), M196⟩
 have c107 : ((i.op : Int) = 6) := iB107.1 rfl
 refine zcT <| zsk <| zcT <| zsr ?_
 intro aC fr
 refine zpk 3 3 [102, 103, 104] fr (news := [(102, (.bool B4)), (103, (.bool B4)), (104, (cond B4 (pT b1 3) undef))]) (by cases B4 <;> kernel_rfl) ?_
 intro aC fr
 refine From_either (B := B4) (d := (some 105)) (.string i.name) fr (by cases B4 <;> kernel_rfl) (fun hB hh => ?_) ?_
 cases B4 <;> first | (exact absurd hB (by decide)) | skip
 have c4 : ((i.n : Int) = 0) := iB4.1 rfl
 exact From_ld (some 105) ⟨b1, 3, none⟩ fr (by kernel_rfl) (.string i.name) (blk_cell (M12.get 0 rfl) rfl) hh
 intro aC fr
 refine From_eitherC (B := B4) (d := (some 106)) (.bool (decide (nameQ i.name))) fr (by cases B4 <;> kernel_rfl) (fun hB hh => ?_) ?_
 cases B4 <;> first | (exact absurd hB (by decide)) | skip
 have c4 : ((i.n : Int) = 0) := iB4.1 rfl
 refine From_cl (some 106) 79 [(.string i.name)] fr (by kernel_rfl) (name_c i.name w11) ?_
 rintro _ w2 ⟨rfl, hm2⟩ a2 hF2; exact hh a2 w2 hm2 hF2
 intro aC w203 M204x fr
 have M204 := M12.cl M204x
 refine zpk 2 7 [107, 108] fr (news := [(107, (.bool (B4 && decide (nameQ i.name)))), (108, (.bool (B4 && decide (nameQ i.name))))]) (by cases B4 <;> kernel_rfl) ?_
 intro aC fr
 obtain ⟨B209, hB209⟩ : ∃ B : Bool, B = (B4 && decide (nameQ i.name)) := ⟨_, rfl⟩
 revert aC
 refine zkp [(4, (.int .i64 ((i.args.length : Nat) : Int))), (108, (.bool (B4 && decide (nameQ i.name))))] ?_
 rw [← hB209]
 have iB209 : B209 = true ↔ (((i.n : Int) = 0) ∧ (nameQ i.name)) := by rw [hB209]; simp only [Bool.and_eq_true, decide_eq_true_eq, iB4]
 clear hB209
 intro aC fr
 refine zpk 4 11 [2, 111] fr (news := [(2, (.bool (B209 && ((((i.args.length : Nat) : Int) : Int) == 0)))), (111, (.bool (B209 && ((((i.args.length : Nat) : Int) : Int) == 0))))]) (by cases B209 <;> kernel_rfl) ?_
 intro aC fr
 revert aC
 refine zfe <| zre <| zbr <| zo1 (.bool (B209 && ((((i.args.length : Nat) : Int) : Int) == 0))) ?_
 have hR : (B209 && ((((i.args.length : Nat) : Int) : Int) == 0)) = true ↔ ((((i.n : Int) = 0) ∧ (nameQ i.name)) ∧ ((((i.args.length : Nat) : Int) : Int) = 0)) := by simp only [Bool.and_eq_true, beq_iff_eq, iB209]
 have M214 := M204.od [] 0
 exact ⟨bool_dec hR (by rw [shape_6 (by omega)]; simp only [makesQ, nameQ, codeQ, placeQ] at *; omega), M214⟩
 have c32 : ((i.op : Int) = 8) := iB32.1 rfl
 refine zcT <| zsk <| zcT <| zsr ?_
 intro aC fr
 refine zpk 5 5 [41, 42, 44, 45] fr (news := [(41, (.bool B4)), (42, (.bool B4)), (44, (.bool (B4 && ((i.name : ByteArray).toList == (⟨#[]⟩ : ByteArray).toList)))), (45, (.bool (B4 && ((i.name : ByteArray).toList == (⟨#[]⟩ : ByteArray).toList))))]) (by cases B4 <;> kernel_rfl) ?_
 intro aC fr
 obtain ⟨B219, hB219⟩ : ∃ B : Bool, B = (B4 && ((i.name : ByteArray).toList == (⟨#[]⟩ : ByteArray).toList)) := ⟨_, rfl⟩
 revert aC
 refine zkp [(4, (.int .i64 ((i.args.length : Nat) : Int))), (45, (.bool (B4 && ((i.name : ByteArray).toList == (⟨#[]⟩ : ByteArray).toList))))] ?_
 rw [← hB219]
 have iB219 : B219 = true ↔ (((i.n : Int) = 0) ∧ ((i.name).size = 0)) := by rw [hB219]; simp only [Bool.and_eq_true, seq_nil, iB4]
 clear hB219
 intro aC fr
 refine zpk 4 9 [2, 48] fr (news := [(2, (.bool (B219 && ((((i.args.length : Nat) : Int) : Int) == 1)))), (48, (.bool (B219 && ((((i.args.length : Nat) : Int) : Int) == 1))))]) (by cases B219 <;> kernel_rfl) ?_
 intro aC fr
 revert aC
 refine zfe <| zre <| zbr <| zo1 (.bool (B219 && ((((i.args.length : Nat) : Int) : Int) == 1))) ?_
 have hR : (B219 && ((((i.args.length : Nat) : Int) : Int) == 1)) = true ↔ ((((i.n : Int) = 0) ∧ ((i.name).size = 0)) ∧ ((((i.args.length : Nat) : Int) : Int) = 1)) := by simp only [Bool.and_eq_true, beq_iff_eq, iB219]
 have M224 := M12.od [] 0
 exact ⟨bool_dec hR (by rw [shape_8 (by omega)]; simp only [makesQ, nameQ, codeQ, placeQ] at *; omega), M224⟩
 have c31 : ((i.op : Int) = 12) := iB31.1 rfl
 refine zcT <| zsk <| zcT <| zsr ?_
 intro aC fr
 refine zpk 5 5 [41, 42, 44, 45] fr (news := [(41, (.bool B4)), (42, (.bool B4)), (44, (.bool (B4 && ((i.name : ByteArray).toList == (⟨#[]⟩ : ByteArray).toList)))), (45, (.bool (B4 && ((i.name : ByteArray).toList == (⟨#[]⟩ : ByteArray).toList))))]) (by cases B4 <;> kernel_rfl) ?_
 intro aC fr
 obtain ⟨B229, hB229⟩ : ∃ B : Bool, B = (B4 && ((i.name : ByteArray).toList == (⟨#[]⟩ : ByteArray).toList)) := ⟨_, rfl⟩
 revert aC
 refine zkp [(4, (.int .i64 ((i.args.length : Nat) : Int))), (45, (.bool (B4 && ((i.name : ByteArray).toList == (⟨#[]⟩ : ByteArray).toList))))] ?_
 rw [← hB229]
 have iB229 : B229 = true ↔ (((i.n : Int) = 0) ∧ ((i.name).size = 0)) := by rw [hB229]; simp only [Bool.and_eq_true, seq_nil, iB4]
 clear hB229
 intro aC fr
 refine zpk 4 9 [2, 48] fr (news := [(2, (.bool (B229 && ((((i.args.length : Nat) : Int) : Int) == 1)))), (48, (.bool (B229 && ((((i.args.length : Nat) : Int) : Int) == 1))))]) (by cases B229 <;> kernel_rfl) ?_
 intro aC fr
 revert aC
 refine zfe <| zre <| zbr <| zo1 (.bool (B229 && ((((i.args.length : Nat) : Int) : Int) == 1))) ?_
 have hR : (B229 && ((((i.args.length : Nat) : Int) : Int) == 1)) = true ↔ ((((i.n : Int) = 0) ∧ ((i.name).size = 0)) ∧ ((((i.args.length : Nat) : Int) : Int) = 1)) := by simp only [Bool.and_eq_true, beq_iff_eq, iB229]
 have M234 := M12.od [] 0
 exact ⟨bool_dec hR (by rw [shape_12 (by omega)]; simp only [makesQ, nameQ, codeQ, placeQ] at *; omega), M234⟩
end Go.Proofs.Ytejbeeaomokjpaa
namespace Go.Proofs.Ytejbeeaomokjpaa
open Go.Mor
theorem makes2_c (q gm n : Nat) (nm wk : Value) (pa va : Int) (fb so tp : Value) (l : List (Int × Int)) (v b k : Int) (w : World) (hn : n = l.length) (hva : va = (n : Int)) (hpa : 0 ≤ pa) (hq : RO (Res.row 141 2 (sM gm) n n (mdc l)).fp w (.blk q 103 [nm, wk, (.int .i64 pa), (.int .i64 va), fb, so, tp, (.slice (sM gm) n n)])) (hrow : (Res.row 141 2 (sM gm) n n (mdc l)).holds w) :
    Calls Try.prog 115 #[(pT q 0), (.int .i64 v), (.int .i64 b), (.int .i64 k)] w (Ret fun u w' => ∃ l2, l2 = (if putQ pa va l v then l.set v.toNat (b, k) else l) ∧ u = .bool (decide (putQ pa va l v)) ∧ Mem (Res.row 141 2 (sM gm) n n (mdc l)).fp w w' [.row 141 2 (sM gm) n n (mdc l2)]) := by
 refine zen 45 [(pT q 0), (.int .i64 v), (.int .i64 b), (.int .i64 k)] Try.func115 ?_
 have hM := Mem.initS hrow
 refine zsp <| zsq <| zsr <| zpn 5 <| zld ⟨q, 2, none⟩ (.int .i64 pa) (blk_cell (hM.ro hq) rfl) <| zpn 2 ?_
 obtain ⟨B1, hB1⟩ : ∃ B : Bool, B = decide ((v : Int) < pa) := ⟨_, rfl⟩
 refine zkp [(0, (pT q 0)), (1, (.int .i64 v)), (2, (.int .i64 b)), (3, (.int .i64 k)), (16, (.bool (decide ((v : Int) < pa))))] ?_
 rw [← hB1]
 have iB1 : B1 = true ↔ ((v : Int) < pa) := by rw [hB1]; simp only [decide_eq_true_eq]
 clear hB1
 intro aC fr
 refine zpk 5 13 [17, 21] fr (news := [(17, (cond (!B1) (.int .i64 v) undef)), (21, (cond (!B1) (pT q 3) undef))]) (by cases B1 <;> kernel_rfl) ?_
 intro aC fr
 refine From_either (B := (!B1)) (d := (some 22)) (.int .i64 va) fr (by cases B1 <;> kernel_rfl) (fun hB hh => ?_) ?_
 cases B1 <;> first | (exact absurd hB (by decide)) | skip
 have c1 : ¬ ((v : Int) < pa) := (fun h => Bool.noConfusion (iB1.2 h) : ¬ ((v : Int) < pa))
 exact From_ld (some 22) ⟨q, 3, none⟩ fr (by kernel_rfl) (.int .i64 va) (blk_cell (hM.ro hq) rfl) hh
 intro aC fr
 refine zpk 3 17 [24, 25] fr (news := [(24, (.bool (B1 || decide ((v : Int) ≥ va)))), (25, (.bool (B1 || decide ((v : Int) ≥ va))))]) (by cases B1 <;> kernel_rfl) ?_
 intro aC fr
 obtain ⟨B10, hB10⟩ : ∃ B : Bool, B = (B1 || decide ((v : Int) ≥ va)) := ⟨_, rfl⟩
 revert aC
 refine zkp [(0, (pT q 0)), (1, (.int .i64 v)), (2, (.int .i64 b)), (3, (.int .i64 k)), (25, (.bool (B1 || decide ((v : Int) ≥ va))))] ?_
 rw [← hB10]
 have iB10 : B10 = true ↔ (((v : Int) < pa) ∨ ((v : Int) ≥ va)) := by rw [hB10]; simp only [Bool.or_eq_true, decide_eq_true_eq, iB1]
 clear hB10
 intro aC fr
 refine zpk 3 20 [28] fr (news := [(28, (cond (!B10) (pT q 7) undef))]) (by cases B10 <;> kernel_rfl) ?_
 intro aC fr
 refine From_either (B := (!B10)) (d := (some 29)) (.slice (sM gm) n n) fr (by cases B10 <;> kernel_rfl) (fun hB hh => ?_) ?_
 cases B10 <;> first | (exact absurd hB (by decide)) | skip
 have c10 : ¬ (((v : Int) < pa) ∨ ((v : Int) ≥ va)) := (fun h => Bool.noConfusion (iB10.2 h) : ¬ (((v : Int) < pa) ∨ ((v : Int) ≥ va)))
 exact From_ld (some 29) ⟨q, 7, none⟩ fr (by kernel_rfl) (.slice (sM gm) n n) (blk_cell (hM.ro hq) rfl) hh
 intro aC fr
 refine zpk 1 22 [30] fr (news := [(30, (cond (!B10) (.int .i64 v) undef))]) (by cases B10 <;> kernel_rfl) ?_
 intro aC fr
 refine From_either (B := (!B10)) (d := (some 31)) (.pointer (some ((⟨gm, 0, none⟩ : Addr).add ((v).toNat * 2)))) fr (by cases B10 <;> kernel_rfl) (fun hB hh => ?_) ?_
 cases B10 <;> first | (exact absurd hB (by decide)) | skip
 have c10 : ¬ (((v : Int) < pa) ∨ ((v : Int) ≥ va)) := (fun h => Bool.noConfusion (iB10.2 h) : ¬ (((v : Int) < pa) ∨ ((v : Int) ≥ va)))
 exact From_ix (some 31) ⟨gm, 0, none⟩ n 2 v fr (by kernel_rfl) (by omega) (by omega) hh
 intro aC fr
 refine zpk 1 24 [32] fr (news := [(32, (cond (!B10) (.pointer (some ((⟨gm, 0, none⟩ : Addr).add ((v).toNat * 2)))) undef))]) (by cases B10 <;> kernel_rfl) ?_
 intro aC fr
 refine From_either (B := (!B10)) (d := (some 33)) (.int .i64 ((l.getD v.toNat (0, 0)).1)) fr (by cases B10 <;> kernel_rfl) (fun hB hh => ?_) ?_
 cases B10 <;> first | (exact absurd hB (by decide)) | skip
 have c10 : ¬ (((v : Int) < pa) ∨ ((v : Int) ≥ va)) := (fun h => Bool.noConfusion (iB10.2 h) : ¬ (((v : Int) < pa) ∨ ((v : Int) ≥ va)))
 exact From_ld (some 33) ((⟨gm, 0, none⟩ : Addr).add ((v).toNat * 2)) fr (by kernel_rfl) (.int .i64 ((l.getD v.toNat (0, 0)).1)) (md_rd0 (row_rd (hM.get 0 rfl)) rfl (get_getD _ (by omega))) hh
 intro aC fr
 refine zpk 2 27 [35] fr (news := [(35, (.bool (B10 || decide (((l.getD v.toNat (0, 0)).1 : Int) ≥ 0))))]) (by cases B10 <;> kernel_rfl) ?_
 intro aC fr
 revert aC
 refine zfe <| zcP (B10 || decide (((l.getD v.toNat (0, 0)).1 : Int) ≥ 0)) ((((v : Int) < pa) ∨ ((v : Int) ≥ va)) ∨ (((l.getD v.toNat (0, 0)).1 : Int) ≥ 0)) (by simp only [Bool.or_eq_true, decide_eq_true_eq, iB10]) (fun c27 => ?_) (fun c27 => ?_)
 have hQ : ¬ putQ pa va l v := by unfold putQ; omega
 refine zsp <| zre <| zo1 (.bool false) ?_
 exact ⟨l, (if_neg hQ).symm, by rw [decide_eq_false hQ], hM⟩
 have hQ : putQ pa va l v := by unfold putQ; omega
 refine zsk <| zsr <| zpn 3 <| zld ⟨q, 7, none⟩ (.slice (sM gm) n n) (blk_cell (hM.ro hq) rfl) <| zpn 4 <| zix ⟨gm, 0, none⟩ n 2 v ?_
 intro aC fr
 refine From_storeS_row (by kernel_rfl : coreAt _ 9 = some (none, (.store 141 (.tmp 44) (.tmp 43)), 0, none)) fr (by kernel_rfl) (by kernel_rfl) (k' := 10) rfl (ad := (⟨gm, 0, none⟩ : Addr)) (j := ((v).toNat * 2)) (e := 141) (size := 2) (n := n) (cap := n) (vs := [(.int .i64 b), (.int .i64 k)]) (xs := (mdc l)) (ad' := ((⟨gm, 0, none⟩ : Addr).add ((v).toNat * 2))) (by kernel_rfl) rfl (by kernel_rfl) (by kernel_rfl) (by simp only [List.mem_cons, List.not_mem_nil, or_false]; intro v hv; rcases hv with rfl | rfl <;> rfl) hM 0 rfl (by simp only [List.length_cons, List.length_nil]; omega) ?_
 intro w28 M29 _ aC ea fr; clear ea
 replace M29 := M29.nf
 clear hM
 have M34 : Mem (Res.row 141 2 (sM gm) n n (mdc l)).fp w w28 [.row 141 2 (sM gm) n n (mdc (l.set v.toNat (b, k)))] := M29.cast (by rw [mdc_set _ _ (by omega)])
 revert aC
 refine zkp [] <| zfe <| zsp <| zre <| zo1 (.bool true) ?_
 exact ⟨_, (if_pos hQ).symm, by rw [decide_eq_true hQ], M34⟩
theorem rput_c (gm n : Nat) (l : List (Int × Int)) (v b k : Int) (w : World) (hn : n = l.length) (hrow : (Res.row 94 2 (sM gm) n n (mdc l)).holds w) :
    Calls Try.prog 73 #[(.slice (sM gm) n n), (.int .i64 v), (.agg #[(.int .i64 b), (.int .i64 k)])] w (Ret fun u w' => ∃ l2, l2 = (if putQ 0 n l v then l.set v.toNat (b, k) else l) ∧ u = .bool (decide (putQ 0 n l v)) ∧ Mem (Res.row 94 2 (sM gm) n n (mdc l)).fp w w' [.row 94 2 (sM gm) n n (mdc l2)]) := by
 refine zen 27 [(.slice (sM gm) n n), (.int .i64 v), (.agg #[(.int .i64 b), (.int .i64 k)])] Try.func73 ?_
 have hM := Mem.initS hrow
 refine zsr <| zbx hM 94 (.agg #[(.int .i64 b), (.int .i64 k)]) [(.int .i64 b), (.int .i64 k)] fun b1 w2 hb1 M3 => ?_
 replace M3 := M3.nf
 clear hM
 refine zpn 1 <| zfe <| zsq <| zsr <| zpn 3 ?_
 obtain ⟨B4, hB4⟩ : ∃ B : Bool, B = decide ((v : Int) < 0) := ⟨_, rfl⟩
 refine zkp [(0, (.slice (sM gm) n n)), (1, (.int .i64 v)), (5, (pT b1 0)), (9, (.bool (decide ((v : Int) < 0))))] ?_
 rw [← hB4]
 have iB4 : B4 = true ↔ ((v : Int) < 0) := by rw [hB4]; simp only [decide_eq_true_eq]
 clear hB4
 intro aC fr
 refine zpk 6 9 [14, 15] fr (news := [(14, (.bool (B4 || decide ((v : Int) ≥ ((n : Nat) : Int))))), (15, (.bool (B4 || decide ((v : Int) ≥ ((n : Nat) : Int)))))]) (by cases B4 <;> kernel_rfl) ?_
 intro aC fr
 obtain ⟨B9, hB9⟩ : ∃ B : Bool, B = (B4 || decide ((v : Int) ≥ ((n : Nat) : Int))) := ⟨_, rfl⟩
 revert aC
 refine zkp [(0, (.slice (sM gm) n n)), (1, (.int .i64 v)), (5, (pT b1 0)), (15, (.bool (B4 || decide ((v : Int) ≥ ((n : Nat) : Int)))))] ?_
 rw [← hB9]
 have iB9 : B9 = true ↔ (((v : Int) < 0) ∨ ((v : Int) ≥ ((n : Nat) : Int))) := by rw [hB9]; simp only [Bool.or_eq_true, decide_eq_true_eq, iB4]
 clear hB9
 intro aC fr
 refine zpk 2 11 [16, 17] fr (news := [(16, (cond (!B9) (.slice (sM gm) n n) undef)), (17, (cond (!B9) (.int .i64 v) undef))]) (by cases B9 <;> kernel_rfl) ?_
 intro aC fr
 refine From_either (B := (!B9)) (d := (some 18)) (.pointer (some ((⟨gm, 0, none⟩ : Addr).add ((v).toNat * 2)))) fr (by cases B9 <;> kernel_rfl) (fun hB hh => ?_) ?_
 cases B9 <;> first | (exact absurd hB (by decide)) | skip
 have c9 : ¬ (((v : Int) < 0) ∨ ((v : Int) ≥ ((n : Nat) : Int))) := (fun h => Bool.noConfusion (iB9.2 h) : ¬ (((v : Int) < 0) ∨ ((v : Int) ≥ ((n : Nat) : Int))))
 exact From_ix (some 18) ⟨gm, 0, none⟩ n 2 v fr (by kernel_rfl) (by omega) (by omega) hh
 intro aC fr
 refine zpk 1 13 [19] fr (news := [(19, (cond (!B9) (.pointer (some ((⟨gm, 0, none⟩ : Addr).add ((v).toNat * 2)))) undef))]) (by cases B9 <;> kernel_rfl) ?_
 intro aC fr
 refine From_either (B := (!B9)) (d := (some 20)) (.int .i64 ((l.getD v.toNat (0, 0)).1)) fr (by cases B9 <;> kernel_rfl) (fun hB hh => ?_) ?_
 cases B9 <;> first | (exact absurd hB (by decide)) | skip
 have c9 : ¬ (((v : Int) < 0) ∨ ((v : Int) ≥ ((n : Nat) : Int))) := (fun h => Bool.noConfusion (iB9.2 h) : ¬ (((v : Int) < 0) ∨ ((v : Int) ≥ ((n : Nat) : Int))))
 exact From_ld (some 20) ((⟨gm, 0, none⟩ : Addr).add ((v).toNat * 2)) fr (by kernel_rfl) (.int .i64 ((l.getD v.toNat (0, 0)).1)) (md_rd0 (row_rd (M3.get 0 rfl)) rfl (get_getD _ (by omega))) hh
 intro aC fr
 refine zpk 2 16 [22] fr (news := [(22, (.bool (B9 || decide (((l.getD v.toNat (0, 0)).1 : Int) ≥ 0))))]) (by cases B9 <;> kernel_rfl) ?_
 intro aC fr
 revert aC
 refine zfe <| zcP (B9 || decide (((l.getD v.toNat (0, 0)).1 : Int) ≥ 0)) ((((v : Int) < 0) ∨ ((v : Int) ≥ ((n : Nat) : Int))) ∨ (((l.getD v.toNat (0, 0)).1 : Int) ≥ 0)) (by simp only [Bool.or_eq_true, decide_eq_true_eq, iB9]) (fun c22 => ?_) (fun c22 => ?_)
 have hQ : ¬ putQ 0 n l v := by unfold putQ; omega
 refine zsp <| zre <| zo1 (.bool false) ?_
 have M23 := M3.od [] 1
 exact ⟨l, (if_neg hQ).symm, by rw [decide_eq_false hQ], M23⟩
 have hQ : putQ 0 n l v := by unfold putQ; omega
 refine zsk <| zsr <| zpn 2 <| zls ⟨b1, 0, none⟩ [(.int .i64 b), (.int .i64 k)] (blk_cells (M3.get 1 rfl)) <| zix ⟨gm, 0, none⟩ n 2 v ?_
 intro aC fr
 refine From_storeS_row (by kernel_rfl : coreAt _ 4 = some (none, (.store 94 (.tmp 26) (.tmp 25)), 0, none)) fr (by kernel_rfl) (by kernel_rfl) (k' := 5) rfl (ad := (⟨gm, 0, none⟩ : Addr)) (j := ((v).toNat * 2)) (e := 94) (size := 2) (n := n) (cap := n) (vs := [(.int .i64 b), (.int .i64 k)]) (xs := (mdc l)) (ad' := ((⟨gm, 0, none⟩ : Addr).add ((v).toNat * 2))) (by kernel_rfl) rfl (by kernel_rfl) (by kernel_rfl) (by simp only [List.mem_cons, List.not_mem_nil, or_false]; intro v hv; rcases hv with rfl | rfl <;> rfl) M3 0 rfl (by simp only [List.length_cons, List.length_nil]; omega) ?_
 intro w24 M25 _ aC ea fr; clear ea
 replace M25 := M25.nf
 have M30 : Mem (Res.row 94 2 (sM gm) n n (mdc l)).fp w w24 [.row 94 2 (sM gm) n n (mdc (l.set v.toNat (b, k))), .blk b1 94 [(.int .i64 b), (.int .i64 k)]] := M25.cast (by rw [mdc_set _ _ (by omega)])
 revert aC
 refine zfe <| zsp <| zre <| zo1 (.bool true) ?_
 have M31 := M30.od [] 1
 exact ⟨_, (if_pos hQ).symm, by rw [decide_eq_true hQ], M31⟩
end Go.Proofs.Ytejbeeaomokjpaa
namespace Go.Proofs.Ytejbeeaomokjpaa
open Go.Mor
theorem endsin_c (a N : Int) (q : Nat) (w : World) (hq : RO noS w (.blk q 3 [.int .i64 N])) :
    Calls Try.prog 113 #[(.int .i64 a), (pT q 0)] w (Ret fun v w' => v = .bool (decide (0 ≤ a ∧ a < N)) ∧ Mem noS w w' []) := by
 refine zen 11 [(.int .i64 a), (pT q 0)] Try.func113 ?_
 have hM := Mem.init w
 refine zsp <| zsr <| zpn 3 ?_
 obtain ⟨B1, hB1⟩ : ∃ B : Bool, B = decide ((a : Int) ≥ 0) := ⟨_, rfl⟩
 refine zkp [(0, (.int .i64 a)), (1, (pT q 0)), (6, (.bool (decide ((a : Int) ≥ 0))))] ?_
 rw [← hB1]
 have iB1 : B1 = true ↔ ((a : Int) ≥ 0) := by rw [hB1]; simp only [decide_eq_true_eq]
 clear hB1
 intro aC fr
 refine zpk 1 4 [7] fr (news := [(7, (cond B1 (.int .i64 a) undef))]) (by cases B1 <;> kernel_rfl) ?_
 intro aC fr
 refine From_either (B := B1) (d := (some 8)) (.int .i64 N) fr (by cases B1 <;> kernel_rfl) (fun hB hh => ?_) ?_
 cases B1 <;> first | (exact absurd hB (by decide)) | skip
 have c1 : ((a : Int) ≥ 0) := iB1.1 rfl
 exact From_ld (some 8) ⟨q, 0, none⟩ fr (by kernel_rfl) (.int .i64 N) (blk_cell (hM.ro hq) rfl) hh
 intro aC fr
 refine zpk 3 8 [3, 10] fr (news := [(3, (.bool (B1 && decide ((a : Int) < N)))), (10, (.bool (B1 && decide ((a : Int) < N))))]) (by cases B1 <;> kernel_rfl) ?_
 intro aC fr
 revert aC
 refine zfe <| zre <| zo1 (.bool (B1 && decide ((a : Int) < N))) ?_
 have hR : (B1 && decide ((a : Int) < N)) = true ↔ (((a : Int) ≥ 0) ∧ ((a : Int) < N)) := by simp only [Bool.and_eq_true, decide_eq_true_eq, iB1]
 exact ⟨bool_dec hR (by omega), hM⟩
theorem ends_c (q N : Nat) (nm wk pa va so tp md : Value) (A : Option Addr) (c : Nat) (x : FBlk) (w : World) (hq : RO noS w (.blk q 103 [nm, wk, pa, va, (.slice A N c), so, tp, md])) :
    Calls Try.prog 81 #[(pT q 0), (xA x)] w (Ret fun v w' => v = .bool (decide (endsS N x)) ∧ Mem noS w w' []) := by
 refine zen 81 [(pT q 0), (xA x)] Try.func81 ?_
 have hM := Mem.init w
 refine zsr <| zbx hM 36 (xA x) (xV x) fun b1 w2 hb1 M3 => ?_
 replace M3 := M3.nf
 clear hM
 refine zpn 1 <| zfe <| zsr <| zpn 4 <| zld ⟨q, 4, none⟩ (.slice A N c) (blk_cell (M3.ro hq) rfl) <| zpn 1 <| zal M3 3 [(.int .i64 0)] fun b4 w5 hb4 M6 => ?_
 replace M6 := M6.nf
 refine zsb M6 1 0 (.int .i64 ((N : Nat) : Int)) rfl fun w7 M8 => ?_
 replace M8 := M8.nf
 refine zfe <| zsp <| zsq <| zsr <| zpn 1 <| zld ⟨b1, 2, none⟩ (.int .i64 x.e) (blk_cell (M8.get 0 rfl) rfl) <| zfe <| zbk 0 <| zsp <| zcP ((x.e : Int) == 0) ((x.e : Int) = 0) (by simp only [beq_iff_eq]) (fun c9 => ?_) (fun c9 => ?_)
 refine zsr <| zpn 2 <| zld ⟨b1, 4, none⟩ (.int .i64 x.a) (blk_cell (M8.get 0 rfl) rfl) <| zkp [(3, (pT b1 0)), (18, (.func (.func 113) #[] #[(pT b4 0)])), (20, (.int .i64 x.a))] <| zcl (endsin_c x.a ((N : Nat) : Int) b4 w7 (M8.own_ro 1 rfl)) ?_
 rintro _ w10 ⟨rfl, M11x⟩
 have M11 := M8.cl M11x
 refine zpn 1 ?_
 obtain ⟨B12, hB12⟩ : ∃ B : Bool, B = decide (0 ≤ x.a ∧ x.a < ((N : Nat) : Int)) := ⟨_, rfl⟩
 refine zkp [(3, (pT b1 0)), (22, (.bool (decide (0 ≤ x.a ∧ x.a < ((N : Nat) : Int)))))] ?_
 rw [← hB12]
 have iB12 : B12 = true ↔ (0 ≤ x.a ∧ x.a < ((N : Nat) : Int)) := by rw [hB12]; simp only [decide_eq_true_eq]
 clear hB12
 intro aC fr
 refine zpk 1 6 [23] fr (news := [(23, (cond B12 (pT b1 3) undef))]) (by cases B12 <;> kernel_rfl) ?_
 intro aC fr
 refine From_either (B := B12) (d := (some 24)) (.int .i64 x.v) fr (by cases B12 <;> kernel_rfl) (fun hB hh => ?_) ?_
 cases B12 <;> first | (exact absurd hB (by decide)) | skip
 have c12 : (0 ≤ x.a ∧ x.a < ((N : Nat) : Int)) := iB12.1 rfl
 exact From_ld (some 24) ⟨b1, 3, none⟩ fr (by kernel_rfl) (.int .i64 x.v) (blk_cell (M11.get 0 rfl) rfl) hh
 intro aC fr
 refine zpk 3 10 [26, 27] fr (news := [(26, (.bool (B12 && ((x.v : Int) == 0)))), (27, (.bool (B12 && ((x.v : Int) == 0))))]) (by cases B12 <;> kernel_rfl) ?_
 intro aC fr
 obtain ⟨B21, hB21⟩ : ∃ B : Bool, B = (B12 && ((x.v : Int) == 0)) := ⟨_, rfl⟩
 revert aC
 refine zkp [(3, (pT b1 0)), (27, (.bool (B12 && ((x.v : Int) == 0))))] ?_
 rw [← hB21]
 have iB21 : B21 = true ↔ ((0 ≤ x.a ∧ x.a < ((N : Nat) : Int)) ∧ ((x.v : Int) = 0)) := by rw [hB21]; simp only [Bool.and_eq_true, beq_iff_eq, iB12]
 clear hB21
 intro aC fr
 refine zpk 1 11 [28] fr (news := [(28, (cond B21 (pT b1 5) undef))]) (by cases B21 <;> kernel_rfl) ?_
 intro aC fr
 refine From_either (B := B21) (d := (some 29)) (.int .i64 x.b) fr (by cases B21 <;> kernel_rfl) (fun hB hh => ?_) ?_
 cases B21 <;> first | (exact absurd hB (by decide)) | skip
 have c21 : ((0 ≤ x.a ∧ x.a < ((N : Nat) : Int)) ∧ ((x.v : Int) = 0)) := iB21.1 rfl
 exact From_ld (some 29) ⟨b1, 5, none⟩ fr (by kernel_rfl) (.int .i64 x.b) (blk_cell (M11.get 0 rfl) rfl) hh
 intro aC fr
 refine zpk 3 15 [4, 31] fr (news := [(4, (.bool (B21 && ((x.b : Int) == 0)))), (31, (.bool (B21 && ((x.b : Int) == 0))))]) (by cases B21 <;> kernel_rfl) ?_
 intro aC fr
 revert aC
 refine zfe <| zre <| zbr <| zo1 (.bool (B21 && ((x.b : Int) == 0))) ?_
 have hR : (B21 && ((x.b : Int) == 0)) = true ↔ (((0 ≤ x.a ∧ x.a < ((N : Nat) : Int)) ∧ ((x.v : Int) = 0)) ∧ ((x.b : Int) = 0)) := by simp only [Bool.and_eq_true, beq_iff_eq, iB21]
 have M30 := M11.od [] 0
 exact ⟨bool_dec hR (by simp only [endsS, endsQ, codeQ] at *; omega), M30⟩
 refine zsp <| zcP ((x.e : Int) == 1) ((x.e : Int) = 1) (by simp only [beq_iff_eq]) (fun c31 => ?_) (fun c31 => ?_)
 refine zsr <| zpn 2 <| zld ⟨b1, 4, none⟩ (.int .i64 x.a) (blk_cell (M8.get 0 rfl) rfl) <| zkp [(3, (pT b1 0)), (6, (.func (.func 113) #[] #[(pT b4 0)])), (34, (.func (.func 113) #[] #[(pT b4 0)])), (36, (.int .i64 x.a))] <| zcl (endsin_c x.a ((N : Nat) : Int) b4 w7 (M8.own_ro 1 rfl)) ?_
 rintro _ w32 ⟨rfl, M33x⟩
 have M33 := M8.cl M33x
 refine zpn 1 ?_
 obtain ⟨B34, hB34⟩ : ∃ B : Bool, B = decide (0 ≤ x.a ∧ x.a < ((N : Nat) : Int)) := ⟨_, rfl⟩
 refine zkp [(3, (pT b1 0)), (6, (.func (.func 113) #[] #[(pT b4 0)])), (38, (.bool (decide (0 ≤ x.a ∧ x.a < ((N : Nat) : Int)))))] ?_
 rw [← hB34]
 have iB34 : B34 = true ↔ (0 ≤ x.a ∧ x.a < ((N : Nat) : Int)) := by rw [hB34]; simp only [decide_eq_true_eq]
 clear hB34
 intro aC fr
 refine zpk 2 7 [39, 40] fr (news := [(39, (cond B34 (.func (.func 113) #[] #[(pT b4 0)]) undef)), (40, (cond B34 (pT b1 5) undef))]) (by cases B34 <;> kernel_rfl) ?_
 intro aC fr
 refine From_either (B := B34) (d := (some 41)) (.int .i64 x.b) fr (by cases B34 <;> kernel_rfl) (fun hB hh => ?_) ?_
 cases B34 <;> first | (exact absurd hB (by decide)) | skip
 have c34 : (0 ≤ x.a ∧ x.a < ((N : Nat) : Int)) := iB34.1 rfl
 exact From_ld (some 41) ⟨b1, 5, none⟩ fr (by kernel_rfl) (.int .i64 x.b) (blk_cell (M33.get 0 rfl) rfl) hh
 intro aC fr
 refine From_eitherC (B := B34) (d := (some 42)) (.bool (decide (0 ≤ x.b ∧ x.b < ((N : Nat) : Int)))) fr (by cases B34 <;> kernel_rfl) (fun hB hh => ?_) ?_
 cases B34 <;> first | (exact absurd hB (by decide)) | skip
 have c34 : (0 ≤ x.a ∧ x.a < ((N : Nat) : Int)) := iB34.1 rfl
 refine From_cl (some 42) 113 [(.int .i64 x.b), (pT b4 0)] fr (by kernel_rfl) (endsin_c x.b ((N : Nat) : Int) b4 w32 (M33.own_ro 1 rfl)) ?_
 rintro _ w2 ⟨rfl, hm2⟩ a2 hF2; exact hh a2 w2 hm2 hF2
 intro aC w41 M42x fr
 have M42 := M33.cl M42x
 refine zpk 2 11 [43, 44] fr (news := [(43, (.bool (B34 && decide (0 ≤ x.b ∧ x.b < ((N : Nat) : Int))))), (44, (.bool (B34 && decide (0 ≤ x.b ∧ x.b < ((N : Nat) : Int)))))]) (by cases B34 <;> kernel_rfl) ?_
 intro aC fr
 obtain ⟨B47, hB47⟩ : ∃ B : Bool, B = (B34 && decide (0 ≤ x.b ∧ x.b < ((N : Nat) : Int))) := ⟨_, rfl⟩
 revert aC
 refine zkp [(3, (pT b1 0)), (44, (.bool (B34 && decide (0 ≤ x.b ∧ x.b < ((N : Nat) : Int)))))] ?_
 rw [← hB47]
 have iB47 : B47 = true ↔ ((0 ≤ x.a ∧ x.a < ((N : Nat) : Int)) ∧ (0 ≤ x.b ∧ x.b < ((N : Nat) : Int))) := by rw [hB47]; simp only [Bool.and_eq_true, decide_eq_true_eq, iB34]
 clear hB47
 intro aC fr
 refine zpk 1 12 [45] fr (news := [(45, (cond B47 (pT b1 4) undef))]) (by cases B47 <;> kernel_rfl) ?_
 intro aC fr
 refine From_either (B := B47) (d := (some 46)) (.int .i64 x.a) fr (by cases B47 <;> kernel_rfl) (fun hB hh => ?_) ?_
 cases B47 <;> first | (exact absurd hB (by decide)) | skip
 have c47 : ((0 ≤ x.a ∧ x.a < ((N : Nat) : Int)) ∧ (0 ≤ x.b ∧ x.b < ((N : Nat) : Int))) := iB47.1 rfl
 exact From_ld (some 46) ⟨b1, 4, none⟩ fr (by kernel_rfl) (.int .i64 x.a) (blk_cell (M42.get 0 rfl) rfl) hh
 intro aC fr
 refine zpk 1 14 [47] fr (news := [(47, (cond B47 (pT b1 5) undef))]) (by cases B47 <;> kernel_rfl) ?_
 intro aC fr
 refine From_either (B := B47) (d := (some 48)) (.int .i64 x.b) fr (by cases B47 <;> kernel_rfl) (fun hB hh => ?_) ?_
 cases B47 <;> first | (exact absurd hB (by decide)) | skip
 have c47 : ((0 ≤ x.a ∧ x.a < ((N : Nat) : Int)) ∧ (0 ≤ x.b ∧ x.b < ((N : Nat) : Int))) := iB47.1 rfl
 exact From_ld (some 48) ⟨b1, 5, none⟩ fr (by kernel_rfl) (.int .i64 x.b) (blk_cell (M42.get 0 rfl) rfl) hh
 intro aC fr
 refine zpk 3 18 [4, 50] fr (news := [(4, (.bool (B47 && ((x.a : Int) != x.b)))), (50, (.bool (B47 && ((x.a : Int) != x.b))))]) (by cases B47 <;> kernel_rfl) ?_
 intro aC fr
 revert aC
 refine zfe <| zre <| zbr <| zo1 (.bool (B47 && ((x.a : Int) != x.b))) ?_
 have hR : (B47 && ((x.a : Int) != x.b)) = true ↔ (((0 ≤ x.a ∧ x.a < ((N : Nat) : Int)) ∧ (0 ≤ x.b ∧ x.b < ((N : Nat) : Int))) ∧ ((x.a : Int) ≠ x.b)) := by simp only [Bool.and_eq_true, bne_iff_ne, iB47]
 have M60 := M42.od [] 0
 exact ⟨bool_dec hR (by simp only [endsS, endsQ, codeQ] at *; omega), M60⟩
 refine zsp <| zcP ((x.e : Int) == 2) ((x.e : Int) = 2) (by simp only [beq_iff_eq]) (fun c61 => ?_) (fun c61 => ?_)
 refine zsr <| zpn 1 <| zld ⟨b1, 3, none⟩ (.int .i64 x.v) (blk_cell (M8.get 0 rfl) rfl) <| zkp [(3, (pT b1 0)), (54, (.int .i64 x.v))] <| zpn 2 ?_
 obtain ⟨B62, hB62⟩ : ∃ B : Bool, B = decide ((x.v : Int) ≥ (-1)) := ⟨_, rfl⟩
 refine zkp [(3, (pT b1 0)), (56, (.bool (decide ((x.v : Int) ≥ (-1)))))] ?_
 rw [← hB62]
 have iB62 : B62 = true ↔ ((x.v : Int) ≥ (-1)) := by rw [hB62]; simp only [decide_eq_true_eq]
 clear hB62
 intro aC fr
 refine zpk 1 5 [57] fr (news := [(57, (cond B62 (pT b1 4) undef))]) (by cases B62 <;> kernel_rfl) ?_
 intro aC fr
 refine From_either (B := B62) (d := (some 58)) (.int .i64 x.a) fr (by cases B62 <;> kernel_rfl) (fun hB hh => ?_) ?_
 cases B62 <;> first | (exact absurd hB (by decide)) | skip
 have c62 : ((x.v : Int) ≥ (-1)) := iB62.1 rfl
 exact From_ld (some 58) ⟨b1, 4, none⟩ fr (by kernel_rfl) (.int .i64 x.a) (blk_cell (M8.get 0 rfl) rfl) hh
 intro aC fr
 refine zpk 3 9 [60, 61] fr (news := [(60, (.bool (B62 && ((x.a : Int) == 0)))), (61, (.bool (B62 && ((x.a : Int) == 0))))]) (by cases B62 <;> kernel_rfl) ?_
 intro aC fr
 obtain ⟨B71, hB71⟩ : ∃ B : Bool, B = (B62 && ((x.a : Int) == 0)) := ⟨_, rfl⟩
 revert aC
 refine zkp [(3, (pT b1 0)), (61, (.bool (B62 && ((x.a : Int) == 0))))] ?_
 rw [← hB71]
 have iB71 : B71 = true ↔ (((x.v : Int) ≥ (-1)) ∧ ((x.a : Int) = 0)) := by rw [hB71]; simp only [Bool.and_eq_true, beq_iff_eq, iB62]
 clear hB71
 intro aC fr
 refine zpk 1 10 [62] fr (news := [(62, (cond B71 (pT b1 5) undef))]) (by cases B71 <;> kernel_rfl) ?_
 intro aC fr
 refine From_either (B := B71) (d := (some 63)) (.int .i64 x.b) fr (by cases B71 <;> kernel_rfl) (fun hB hh => ?_) ?_
 cases B71 <;> first | (exact absurd hB (by decide)) | skip
 have c71 : (((x.v : Int) ≥ (-1)) ∧ ((x.a : Int) = 0)) := iB71.1 rfl
 exact From_ld (some 63) ⟨b1, 5, none⟩ fr (by kernel_rfl) (.int .i64 x.b) (blk_cell (M8.get 0 rfl) rfl) hh
 intro aC fr
 refine zpk 3 14 [4, 65] fr (news := [(4, (.bool (B71 && ((x.b : Int) == 0)))), (65, (.bool (B71 && ((x.b : Int) == 0))))]) (by cases B71 <;> kernel_rfl) ?_
 intro aC fr
 revert aC
 refine zfe <| zre <| zbr <| zo1 (.bool (B71 && ((x.b : Int) == 0))) ?_
 have hR : (B71 && ((x.b : Int) == 0)) = true ↔ ((((x.v : Int) ≥ (-1)) ∧ ((x.a : Int) = 0)) ∧ ((x.b : Int) = 0)) := by simp only [Bool.and_eq_true, beq_iff_eq, iB71]
 have M80 := M8.od [] 0
 exact ⟨bool_dec hR (by simp only [endsS, endsQ, codeQ] at *; omega), M80⟩
 refine zsp <| zcP ((x.e : Int) == 3) ((x.e : Int) = 3) (by simp only [beq_iff_eq]) (fun c81 => ?_) (fun c81 => ?_)
 refine zsr <| zpn 1 <| zld ⟨b1, 4, none⟩ (.int .i64 x.a) (blk_cell (M8.get 0 rfl) rfl) <| zkp [(3, (pT b1 0)), (69, (.int .i64 x.a))] <| zcl (code_c x.a w7) ?_
 rintro _ w82 ⟨rfl, M83x⟩
 have M83 := M8.cl M83x
 refine zpn 1 ?_
 obtain ⟨B84, hB84⟩ : ∃ B : Bool, B = decide (codeQ x.a) := ⟨_, rfl⟩
 refine zkp [(3, (pT b1 0)), (71, (.bool (decide (codeQ x.a))))] ?_
 rw [← hB84]
 have iB84 : B84 = true ↔ (codeQ x.a) := by rw [hB84]; simp only [decide_eq_true_eq]
 clear hB84
 intro aC fr
 refine zpk 1 5 [72] fr (news := [(72, (cond B84 (pT b1 3) undef))]) (by cases B84 <;> kernel_rfl) ?_
 intro aC fr
 refine From_either (B := B84) (d := (some 73)) (.int .i64 x.v) fr (by cases B84 <;> kernel_rfl) (fun hB hh => ?_) ?_
 cases B84 <;> first | (exact absurd hB (by decide)) | skip
 have c84 : (codeQ x.a) := iB84.1 rfl
 exact From_ld (some 73) ⟨b1, 3, none⟩ fr (by kernel_rfl) (.int .i64 x.v) (blk_cell (M83.get 0 rfl) rfl) hh
 intro aC fr
 refine zpk 3 9 [75, 76] fr (news := [(75, (.bool (B84 && ((x.v : Int) == 0)))), (76, (.bool (B84 && ((x.v : Int) == 0))))]) (by cases B84 <;> kernel_rfl) ?_
 intro aC fr
 obtain ⟨B93, hB93⟩ : ∃ B : Bool, B = (B84 && ((x.v : Int) == 0)) := ⟨_, rfl⟩
 revert aC
 refine zkp [(3, (pT b1 0)), (76, (.bool (B84 && ((x.v : Int) == 0))))] ?_
 rw [← hB93]
 have iB93 : B93 = true ↔ ((codeQ x.a) ∧ ((x.v : Int) = 0)) := by rw [hB93]; simp only [Bool.and_eq_true, beq_iff_eq, iB84]
 clear hB93
 intro aC fr
 refine zpk 1 10 [77] fr (news := [(77, (cond B93 (pT b1 5) undef))]) (by cases B93 <;> kernel_rfl) ?_
 intro aC fr
 refine From_either (B := B93) (d := (some 78)) (.int .i64 x.b) fr (by cases B93 <;> kernel_rfl) (fun hB hh => ?_) ?_
 cases B93 <;> first | (exact absurd hB (by decide)) | skip
 have c93 : ((codeQ x.a) ∧ ((x.v : Int) = 0)) := iB93.1 rfl
 exact From_ld (some 78) ⟨b1, 5, none⟩ fr (by kernel_rfl) (.int .i64 x.b) (blk_cell (M83.get 0 rfl) rfl) hh
 intro aC fr
 refine zpk 3 14 [4, 80] fr (news := [(4, (.bool (B93 && ((x.b : Int) == 0)))), (80, (.bool (B93 && ((x.b : Int) == 0))))]) (by cases B93 <;> kernel_rfl) ?_
 intro aC fr
 revert aC
 refine zfe <| zre <| zbr <| zo1 (.bool (B93 && ((x.b : Int) == 0))) ?_
 have hR : (B93 && ((x.b : Int) == 0)) = true ↔ (((codeQ x.a) ∧ ((x.v : Int) = 0)) ∧ ((x.b : Int) = 0)) := by simp only [Bool.and_eq_true, beq_iff_eq, iB93]
 have M102 := M83.od [] 0
 exact ⟨bool_dec hR (by simp only [endsS, endsQ, codeQ] at *; omega), M102⟩
 refine zsk <| zsp <| zre <| zo1 (.bool false) ?_
 have hR : false = true ↔ False := by simp
 have M103 := M8.od [] 0
 exact ⟨bool_dec hR (⟨False.elim, fun h => by simp only [endsS, endsQ] at h; omega⟩), M103⟩
theorem rends_c (nm wk pa va : Value) (A : Option Addr) (N c : Nat) (x : FBlk) (w : World) :
    Calls Try.prog 38 #[(.agg #[nm, wk, pa, va, (.slice A N c)]), (xA x)] w (Ret fun v w' => v = .bool (decide (endsQ N x)) ∧ Mem noS w w' []) := by
 refine zen 85 [(.agg #[nm, wk, pa, va, (.slice A N c)]), (xA x)] Try.func38 ?_
 have hM := Mem.init w
 refine zsr <| zbx hM 24 (.agg #[nm, wk, pa, va, (.slice A N c)]) [nm, wk, pa, va, (.slice A N c)] fun b1 w2 hb1 M3 => ?_
 replace M3 := M3.nf
 clear hM
 refine zbx M3 36 (xA x) (xV x) fun b4 w5 hb4 M6 => ?_
 replace M6 := M6.nf
 refine zpn 1 <| zfe <| zsr <| zpn 1 <| zld ⟨b1, 4, none⟩ (.slice A N c) (blk_cell (M6.get 0 rfl) rfl) <| zpn 2 <| zfe <| zsr <| zpn 1 <| zld ⟨b4, 4, none⟩ (.int .i64 x.a) (blk_cell (M6.get 1 rfl) rfl) ?_
 refine zpn 2 ?_
 obtain ⟨B7, hB7⟩ : ∃ B : Bool, B = decide ((x.a : Int) ≥ 0) := ⟨_, rfl⟩
 refine zkp [(3, (pT b4 0)), (5, (.int .i64 ((N : Nat) : Int))), (13, (.bool (decide ((x.a : Int) ≥ 0))))] ?_
 rw [← hB7]
 have iB7 : B7 = true ↔ ((x.a : Int) ≥ 0) := by rw [hB7]; simp only [decide_eq_true_eq]
 clear hB7
 intro aC fr
 refine zpk 1 5 [14] fr (news := [(14, (cond B7 (pT b4 4) undef))]) (by cases B7 <;> kernel_rfl) ?_
 intro aC fr
 refine From_either (B := B7) (d := (some 15)) (.int .i64 x.a) fr (by cases B7 <;> kernel_rfl) (fun hB hh => ?_) ?_
 cases B7 <;> first | (exact absurd hB (by decide)) | skip
 have c7 : ((x.a : Int) ≥ 0) := iB7.1 rfl
 exact From_ld (some 15) ⟨b4, 4, none⟩ fr (by kernel_rfl) (.int .i64 x.a) (blk_cell (M6.get 1 rfl) rfl) hh
 intro aC fr
 refine zpk 4 10 [6, 18] fr (news := [(6, (.bool (B7 && decide ((x.a : Int) < ((N : Nat) : Int))))), (18, (.bool (B7 && decide ((x.a : Int) < ((N : Nat) : Int)))))]) (by cases B7 <;> kernel_rfl) ?_
 intro aC fr
 revert aC
 refine zfe <| zsq <| zsr <| zpn 1 <| zld ⟨b4, 2, none⟩ (.int .i64 x.e) (blk_cell (M6.get 1 rfl) rfl) <| zfe <| zbk 0 <| zsp <| zcP ((x.e : Int) == 0) ((x.e : Int) = 0) (by simp only [beq_iff_eq]) (fun c16 => ?_) (fun c16 => ?_)
 refine zsr <| zpn 2 ?_
 obtain ⟨B17, hB17⟩ : ∃ B : Bool, B = (B7 && decide ((x.a : Int) < ((N : Nat) : Int))) := ⟨_, rfl⟩
 refine zkp [(3, (pT b4 0)), (24, (.bool (B7 && decide ((x.a : Int) < ((N : Nat) : Int)))))] ?_
 rw [← hB17]
 have iB17 : B17 = true ↔ (((x.a : Int) ≥ 0) ∧ ((x.a : Int) < ((N : Nat) : Int))) := by rw [hB17]; simp only [Bool.and_eq_true, decide_eq_true_eq, iB7]
 clear hB17
 intro aC fr
 refine zpk 1 3 [25] fr (news := [(25, (cond B17 (pT b4 3) undef))]) (by cases B17 <;> kernel_rfl) ?_
 intro aC fr
 refine From_either (B := B17) (d := (some 26)) (.int .i64 x.v) fr (by cases B17 <;> kernel_rfl) (fun hB hh => ?_) ?_
 cases B17 <;> first | (exact absurd hB (by decide)) | skip
 have c17 : (((x.a : Int) ≥ 0) ∧ ((x.a : Int) < ((N : Nat) : Int))) := iB17.1 rfl
 exact From_ld (some 26) ⟨b4, 3, none⟩ fr (by kernel_rfl) (.int .i64 x.v) (blk_cell (M6.get 1 rfl) rfl) hh
 intro aC fr
 refine zpk 3 7 [28, 29] fr (news := [(28, (.bool (B17 && ((x.v : Int) == 0)))), (29, (.bool (B17 && ((x.v : Int) == 0))))]) (by cases B17 <;> kernel_rfl) ?_
 intro aC fr
 obtain ⟨B26, hB26⟩ : ∃ B : Bool, B = (B17 && ((x.v : Int) == 0)) := ⟨_, rfl⟩
 revert aC
 refine zkp [(3, (pT b4 0)), (29, (.bool (B17 && ((x.v : Int) == 0))))] ?_
 rw [← hB26]
 have iB26 : B26 = true ↔ ((((x.a : Int) ≥ 0) ∧ ((x.a : Int) < ((N : Nat) : Int))) ∧ ((x.v : Int) = 0)) := by rw [hB26]; simp only [Bool.and_eq_true, beq_iff_eq, iB17]
 clear hB26
 intro aC fr
 refine zpk 1 8 [30] fr (news := [(30, (cond B26 (pT b4 5) undef))]) (by cases B26 <;> kernel_rfl) ?_
 intro aC fr
 refine From_either (B := B26) (d := (some 31)) (.int .i64 x.b) fr (by cases B26 <;> kernel_rfl) (fun hB hh => ?_) ?_
 cases B26 <;> first | (exact absurd hB (by decide)) | skip
 have c26 : ((((x.a : Int) ≥ 0) ∧ ((x.a : Int) < ((N : Nat) : Int))) ∧ ((x.v : Int) = 0)) := iB26.1 rfl
 exact From_ld (some 31) ⟨b4, 5, none⟩ fr (by kernel_rfl) (.int .i64 x.b) (blk_cell (M6.get 1 rfl) rfl) hh
 intro aC fr
 refine zpk 3 12 [4, 33] fr (news := [(4, (.bool (B26 && ((x.b : Int) == 0)))), (33, (.bool (B26 && ((x.b : Int) == 0))))]) (by cases B26 <;> kernel_rfl) ?_
 intro aC fr
 revert aC
 refine zfe <| zre <| zbr <| zo1 (.bool (B26 && ((x.b : Int) == 0))) ?_
 have hR : (B26 && ((x.b : Int) == 0)) = true ↔ (((((x.a : Int) ≥ 0) ∧ ((x.a : Int) < ((N : Nat) : Int))) ∧ ((x.v : Int) = 0)) ∧ ((x.b : Int) = 0)) := by simp only [Bool.and_eq_true, beq_iff_eq, iB26]
 have M35 := M6.od [] 0
 exact ⟨bool_dec hR (by simp only [endsQ, codeQ] at *; omega), M35⟩
 refine zsp <| zcP ((x.e : Int) == 1) ((x.e : Int) = 1) (by simp only [beq_iff_eq]) (fun c36 => ?_) (fun c36 => ?_)
 refine zsr <| zpn 2 ?_
 obtain ⟨B37, hB37⟩ : ∃ B : Bool, B = (B7 && decide ((x.a : Int) < ((N : Nat) : Int))) := ⟨_, rfl⟩
 refine zkp [(3, (pT b4 0)), (5, (.int .i64 ((N : Nat) : Int))), (37, (.bool (B7 && decide ((x.a : Int) < ((N : Nat) : Int)))))] ?_
 rw [← hB37]
 have iB37 : B37 = true ↔ (((x.a : Int) ≥ 0) ∧ ((x.a : Int) < ((N : Nat) : Int))) := by rw [hB37]; simp only [Bool.and_eq_true, decide_eq_true_eq, iB7]
 clear hB37
 intro aC fr
 refine zpk 1 3 [38] fr (news := [(38, (cond B37 (pT b4 5) undef))]) (by cases B37 <;> kernel_rfl) ?_
 intro aC fr
 refine From_either (B := B37) (d := (some 39)) (.int .i64 x.b) fr (by cases B37 <;> kernel_rfl) (fun hB hh => ?_) ?_
 cases B37 <;> first | (exact absurd hB (by decide)) | skip
 have c37 : (((x.a : Int) ≥ 0) ∧ ((x.a : Int) < ((N : Nat) : Int))) := iB37.1 rfl
 exact From_ld (some 39) ⟨b4, 5, none⟩ fr (by kernel_rfl) (.int .i64 x.b) (blk_cell (M6.get 1 rfl) rfl) hh
 intro aC fr
 refine zpk 3 7 [41, 42] fr (news := [(41, (.bool (B37 && decide ((x.b : Int) ≥ 0)))), (42, (.bool (B37 && decide ((x.b : Int) ≥ 0))))]) (by cases B37 <;> kernel_rfl) ?_
 intro aC fr
 obtain ⟨B46, hB46⟩ : ∃ B : Bool, B = (B37 && decide ((x.b : Int) ≥ 0)) := ⟨_, rfl⟩
 revert aC
 refine zkp [(3, (pT b4 0)), (5, (.int .i64 ((N : Nat) : Int))), (42, (.bool (B37 && decide ((x.b : Int) ≥ 0))))] ?_
 rw [← hB46]
 have iB46 : B46 = true ↔ ((((x.a : Int) ≥ 0) ∧ ((x.a : Int) < ((N : Nat) : Int))) ∧ ((x.b : Int) ≥ 0)) := by rw [hB46]; simp only [Bool.and_eq_true, decide_eq_true_eq, iB37]
 clear hB46
 intro aC fr
 refine zpk 1 8 [43] fr (news := [(43, (cond B46 (pT b4 5) undef))]) (by cases B46 <;> kernel_rfl) ?_
 intro aC fr
 refine From_either (B := B46) (d := (some 44)) (.int .i64 x.b) fr (by cases B46 <;> kernel_rfl) (fun hB hh => ?_) ?_
 cases B46 <;> first | (exact absurd hB (by decide)) | skip
 have c46 : ((((x.a : Int) ≥ 0) ∧ ((x.a : Int) < ((N : Nat) : Int))) ∧ ((x.b : Int) ≥ 0)) := iB46.1 rfl
 exact From_ld (some 44) ⟨b4, 5, none⟩ fr (by kernel_rfl) (.int .i64 x.b) (blk_cell (M6.get 1 rfl) rfl) hh
 intro aC fr
 refine zpk 4 13 [47, 48] fr (news := [(47, (.bool (B46 && decide ((x.b : Int) < ((N : Nat) : Int))))), (48, (.bool (B46 && decide ((x.b : Int) < ((N : Nat) : Int)))))]) (by cases B46 <;> kernel_rfl) ?_
 intro aC fr
 obtain ⟨B55, hB55⟩ : ∃ B : Bool, B = (B46 && decide ((x.b : Int) < ((N : Nat) : Int))) := ⟨_, rfl⟩
 revert aC
 refine zkp [(3, (pT b4 0)), (48, (.bool (B46 && decide ((x.b : Int) < ((N : Nat) : Int)))))] ?_
 rw [← hB55]
 have iB55 : B55 = true ↔ (((((x.a : Int) ≥ 0) ∧ ((x.a : Int) < ((N : Nat) : Int))) ∧ ((x.b : Int) ≥ 0)) ∧ ((x.b : Int) < ((N : Nat) : Int))) := by rw [hB55]; simp only [Bool.and_eq_true, decide_eq_true_eq, iB46]
 clear hB55
 intro aC fr
 refine zpk 1 14 [49] fr (news := [(49, (cond B55 (pT b4 4) undef))]) (by cases B55 <;> kernel_rfl) ?_
 intro aC fr
 refine From_either (B := B55) (d := (some 50)) (.int .i64 x.a) fr (by cases B55 <;> kernel_rfl) (fun hB hh => ?_) ?_
 cases B55 <;> first | (exact absurd hB (by decide)) | skip
 have c55 : (((((x.a : Int) ≥ 0) ∧ ((x.a : Int) < ((N : Nat) : Int))) ∧ ((x.b : Int) ≥ 0)) ∧ ((x.b : Int) < ((N : Nat) : Int))) := iB55.1 rfl
 exact From_ld (some 50) ⟨b4, 4, none⟩ fr (by kernel_rfl) (.int .i64 x.a) (blk_cell (M6.get 1 rfl) rfl) hh
 intro aC fr
 refine zpk 1 16 [51] fr (news := [(51, (cond B55 (pT b4 5) undef))]) (by cases B55 <;> kernel_rfl) ?_
 intro aC fr
 refine From_either (B := B55) (d := (some 52)) (.int .i64 x.b) fr (by cases B55 <;> kernel_rfl) (fun hB hh => ?_) ?_
 cases B55 <;> first | (exact absurd hB (by decide)) | skip
 have c55 : (((((x.a : Int) ≥ 0) ∧ ((x.a : Int) < ((N : Nat) : Int))) ∧ ((x.b : Int) ≥ 0)) ∧ ((x.b : Int) < ((N : Nat) : Int))) := iB55.1 rfl
 exact From_ld (some 52) ⟨b4, 5, none⟩ fr (by kernel_rfl) (.int .i64 x.b) (blk_cell (M6.get 1 rfl) rfl) hh
 intro aC fr
 refine zpk 3 20 [4, 54] fr (news := [(4, (.bool (B55 && ((x.a : Int) != x.b)))), (54, (.bool (B55 && ((x.a : Int) != x.b))))]) (by cases B55 <;> kernel_rfl) ?_
 intro aC fr
 revert aC
 refine zfe <| zre <| zbr <| zo1 (.bool (B55 && ((x.a : Int) != x.b))) ?_
 have hR : (B55 && ((x.a : Int) != x.b)) = true ↔ ((((((x.a : Int) ≥ 0) ∧ ((x.a : Int) < ((N : Nat) : Int))) ∧ ((x.b : Int) ≥ 0)) ∧ ((x.b : Int) < ((N : Nat) : Int))) ∧ ((x.a : Int) ≠ x.b)) := by simp only [Bool.and_eq_true, bne_iff_ne, iB55]
 have M68 := M6.od [] 0
 exact ⟨bool_dec hR (by simp only [endsQ, codeQ] at *; omega), M68⟩
 refine zsp <| zcP ((x.e : Int) == 2) ((x.e : Int) = 2) (by simp only [beq_iff_eq]) (fun c69 => ?_) (fun c69 => ?_)
 refine zsr <| zpn 1 <| zld ⟨b4, 4, none⟩ (.int .i64 x.a) (blk_cell (M6.get 1 rfl) rfl) <| zpn 2 ?_
 obtain ⟨B70, hB70⟩ : ∃ B : Bool, B = ((x.a : Int) == 0) := ⟨_, rfl⟩
 refine zkp [(3, (pT b4 0)), (60, (.bool ((x.a : Int) == 0)))] ?_
 rw [← hB70]
 have iB70 : B70 = true ↔ ((x.a : Int) = 0) := by rw [hB70]; simp only [beq_iff_eq]
 clear hB70
 intro aC fr
 refine zpk 1 5 [61] fr (news := [(61, (cond B70 (pT b4 5) undef))]) (by cases B70 <;> kernel_rfl) ?_
 intro aC fr
 refine From_either (B := B70) (d := (some 62)) (.int .i64 x.b) fr (by cases B70 <;> kernel_rfl) (fun hB hh => ?_) ?_
 cases B70 <;> first | (exact absurd hB (by decide)) | skip
 have c70 : ((x.a : Int) = 0) := iB70.1 rfl
 exact From_ld (some 62) ⟨b4, 5, none⟩ fr (by kernel_rfl) (.int .i64 x.b) (blk_cell (M6.get 1 rfl) rfl) hh
 intro aC fr
 refine zpk 3 9 [4, 64] fr (news := [(4, (.bool (B70 && ((x.b : Int) == 0)))), (64, (.bool (B70 && ((x.b : Int) == 0))))]) (by cases B70 <;> kernel_rfl) ?_
 intro aC fr
 revert aC
 refine zfe <| zre <| zbr <| zo1 (.bool (B70 && ((x.b : Int) == 0))) ?_
 have hR : (B70 && ((x.b : Int) == 0)) = true ↔ (((x.a : Int) = 0) ∧ ((x.b : Int) = 0)) := by simp only [Bool.and_eq_true, beq_iff_eq, iB70]
 have M79 := M6.od [] 0
 exact ⟨bool_dec hR (by simp only [endsQ, codeQ] at *; omega), M79⟩
 refine zsp <| zcP ((x.e : Int) == 3) ((x.e : Int) = 3) (by simp only [beq_iff_eq]) (fun c80 => ?_) (fun c80 => ?_)
 refine zsr <| zpn 1 <| zld ⟨b4, 4, none⟩ (.int .i64 x.a) (blk_cell (M6.get 1 rfl) rfl) <| zpn 2 ?_
 obtain ⟨B81, hB81⟩ : ∃ B : Bool, B = decide ((x.a : Int) ≥ 1) := ⟨_, rfl⟩
 refine zkp [(3, (pT b4 0)), (70, (.bool (decide ((x.a : Int) ≥ 1))))] ?_
 rw [← hB81]
 have iB81 : B81 = true ↔ ((x.a : Int) ≥ 1) := by rw [hB81]; simp only [decide_eq_true_eq]
 clear hB81
 intro aC fr
 refine zpk 1 5 [71] fr (news := [(71, (cond B81 (pT b4 4) undef))]) (by cases B81 <;> kernel_rfl) ?_
 intro aC fr
 refine From_either (B := B81) (d := (some 72)) (.int .i64 x.a) fr (by cases B81 <;> kernel_rfl) (fun hB hh => ?_) ?_
 cases B81 <;> first | (exact absurd hB (by decide)) | skip
 have c81 : ((x.a : Int) ≥ 1) := iB81.1 rfl
 exact From_ld (some 72) ⟨b4, 4, none⟩ fr (by kernel_rfl) (.int .i64 x.a) (blk_cell (M6.get 1 rfl) rfl) hh
 intro aC fr
 refine zpk 3 9 [74, 75] fr (news := [(74, (.bool (B81 && decide ((x.a : Int) ≤ 999)))), (75, (.bool (B81 && decide ((x.a : Int) ≤ 999))))]) (by cases B81 <;> kernel_rfl) ?_
 intro aC fr
 obtain ⟨B90, hB90⟩ : ∃ B : Bool, B = (B81 && decide ((x.a : Int) ≤ 999)) := ⟨_, rfl⟩
 revert aC
 refine zkp [(3, (pT b4 0)), (75, (.bool (B81 && decide ((x.a : Int) ≤ 999))))] ?_
 rw [← hB90]
 have iB90 : B90 = true ↔ (((x.a : Int) ≥ 1) ∧ ((x.a : Int) ≤ 999)) := by rw [hB90]; simp only [Bool.and_eq_true, decide_eq_true_eq, iB81]
 clear hB90
 intro aC fr
 refine zpk 1 10 [76] fr (news := [(76, (cond B90 (pT b4 3) undef))]) (by cases B90 <;> kernel_rfl) ?_
 intro aC fr
 refine From_either (B := B90) (d := (some 77)) (.int .i64 x.v) fr (by cases B90 <;> kernel_rfl) (fun hB hh => ?_) ?_
 cases B90 <;> first | (exact absurd hB (by decide)) | skip
 have c90 : (((x.a : Int) ≥ 1) ∧ ((x.a : Int) ≤ 999)) := iB90.1 rfl
 exact From_ld (some 77) ⟨b4, 3, none⟩ fr (by kernel_rfl) (.int .i64 x.v) (blk_cell (M6.get 1 rfl) rfl) hh
 intro aC fr
 refine zpk 3 14 [79, 80] fr (news := [(79, (.bool (B90 && ((x.v : Int) == 0)))), (80, (.bool (B90 && ((x.v : Int) == 0))))]) (by cases B90 <;> kernel_rfl) ?_
 intro aC fr
 obtain ⟨B99, hB99⟩ : ∃ B : Bool, B = (B90 && ((x.v : Int) == 0)) := ⟨_, rfl⟩
 revert aC
 refine zkp [(3, (pT b4 0)), (80, (.bool (B90 && ((x.v : Int) == 0))))] ?_
 rw [← hB99]
 have iB99 : B99 = true ↔ ((((x.a : Int) ≥ 1) ∧ ((x.a : Int) ≤ 999)) ∧ ((x.v : Int) = 0)) := by rw [hB99]; simp only [Bool.and_eq_true, beq_iff_eq, iB90]
 clear hB99
 intro aC fr
 refine zpk 1 15 [81] fr (news := [(81, (cond B99 (pT b4 5) undef))]) (by cases B99 <;> kernel_rfl) ?_
 intro aC fr
 refine From_either (B := B99) (d := (some 82)) (.int .i64 x.b) fr (by cases B99 <;> kernel_rfl) (fun hB hh => ?_) ?_
 cases B99 <;> first | (exact absurd hB (by decide)) | skip
 have c99 : ((((x.a : Int) ≥ 1) ∧ ((x.a : Int) ≤ 999)) ∧ ((x.v : Int) = 0)) := iB99.1 rfl
 exact From_ld (some 82) ⟨b4, 5, none⟩ fr (by kernel_rfl) (.int .i64 x.b) (blk_cell (M6.get 1 rfl) rfl) hh
 intro aC fr
 refine zpk 3 19 [4, 84] fr (news := [(4, (.bool (B99 && ((x.b : Int) == 0)))), (84, (.bool (B99 && ((x.b : Int) == 0))))]) (by cases B99 <;> kernel_rfl) ?_
 intro aC fr
 revert aC
 refine zfe <| zre <| zbr <| zo1 (.bool (B99 && ((x.b : Int) == 0))) ?_
 have hR : (B99 && ((x.b : Int) == 0)) = true ↔ (((((x.a : Int) ≥ 1) ∧ ((x.a : Int) ≤ 999)) ∧ ((x.v : Int) = 0)) ∧ ((x.b : Int) = 0)) := by simp only [Bool.and_eq_true, beq_iff_eq, iB99]
 have M108 := M6.od [] 0
 exact ⟨bool_dec hR (by simp only [endsQ, codeQ] at *; omega), M108⟩
 refine zsk <| zsp <| zre <| zo1 (.bool false) ?_
 have hR : false = true ↔ False := by simp
 have M109 := M6.od [] 0
 exact ⟨bool_dec hR (⟨False.elim, fun h => by simp only [endsQ] at h; omega⟩), M109⟩
end Go.Proofs.Ytejbeeaomokjpaa
namespace Go.Proofs.Ytejbeeaomokjpaa
open Go.Mor
theorem values_c (q n : Nat) (nm wk : Value) (pa va : Int) (so tp md0 : Value) (A : Option Addr) (c : Nat) (fs : List FBlk) (w : World) (hN : fs.length ≤ 1000) (hok : FOk fs) (hva : va = (n : Int)) (hn2 : n ≤ 20000) (hpa : 0 ≤ pa) (hA : RO (Res.blk q 103 [nm, wk, .int .i64 pa, .int .i64 va, (.slice A (bsOf fs).length c), so, tp, md0]).fp w (.fn A fs)) (hq : (Res.blk q 103 [nm, wk, .int .i64 pa, .int .i64 va, (.slice A (bsOf fs).length c), so, tp, md0]).holds w) :
    Calls Try.prog 82 #[(pT q 0)] w (Ret fun v w' => ∃ B gm l, v = .bool B ∧ (B = true ↔ VQ pa va fs) ∧ (VQ pa va fs → Tab n (fun _ => (-1, 0)) (fun p => (p.1, p.2 + 1)) (defsF fs) l) ∧ Mem (Res.blk q 103 [nm, wk, .int .i64 pa, .int .i64 va, (.slice A (bsOf fs).length c), so, tp, md0]).fp w w' [.blk q 103 [nm, wk, .int .i64 pa, .int .i64 va, (.slice A (bsOf fs).length c), so, tp, (.slice (sM gm) n n)], .row 141 2 (sM gm) n n (mdc l)]) := by
 have hbl := bsOf_len fs
 have hm : (bsOf fs).length ≤ 1000000 := by omega
 have hB := hA.bs
 have hen := enc_ssa pa n
 refine zen 88 [(pT q 0)] Try.func82 ?_
 have hM := Mem.initS hq
 refine zsp <| zsr <| zpn 5 <| zld ⟨q, 3, none⟩ (.int .i64 va) (blk_cell (hM.get 0 rfl) rfl) ?_
 intro aC fr
 refine From_makeS (by kernel_rfl : coreAt _ 6 = some (some 16, (.makeSlice 101 (.tmp 15) (.tmp 15)), 101, none)) fr (by kernel_rfl) (by kernel_rfl) (k' := 7) rfl (e := 141) (bytes := 16) (size := 2) (zs := [(.int .i64 0), (.int .i64 0)]) (n := n) (i := va) (by kernel_rfl) (by kernel_rfl) hva (by kernel_rfl) (by kernel_rfl) rfl (by decide) (by omega) (by simp only [maxLen]; omega) hM ?_
 intro b1 w2 hb1 _ M3 _ aC ea fr; clear ea
 replace M3 := M3.nf
 clear hM
 revert aC
 refine zpn 2 <| zsb (ho := (by simp)) M3 0 7 (.slice (sM b1) n n) rfl fun w8 M9 => ?_
 replace M9 := M9.nf
 refine zfe <| zsq <| zsr <| zpn 3 <| zld ⟨q, 7, none⟩ (.slice (sM b1) n n) (blk_cell (M9.get 0 rfl) rfl) <| zpn 2 <| zfe <| zbk 0 ?_
 intro aC fr
 refine zlp (fun n_ a_ w_ => ∃ (k : Nat), n_ = n - k ∧ Fr a_ 88 [(0, (pT q 0)), (23, (.int .i64 ((n : Nat) : Int))), (24, (nV k))] ∧ Mem (Res.blk q 103 [nm, wk, .int .i64 pa, .int .i64 va, (.slice A (bsOf fs).length c), so, tp, md0]).fp w w_ [.blk q 103 [nm, wk, (.int .i64 pa), (.int .i64 va), (.slice A ((bsOf fs).length) c), so, tp, (.slice (sM b1) n n)], .row 141 2 (sM b1) n n (mdc (fillM n k))] ∧ (k ≤ n)) (n := _) ⟨0, rfl, fr.kp [0, 23, 24], (M9.cast (by rw [fillM_zero, ← mdc_rep])), by omega⟩ ?_
 clear fr aC M9; rintro n aC w12 ⟨k, rfl, fr, M13, hk⟩
 revert aC
 refine zsp <| zsq <| zcD (((k : Int) : Int) < ((n : Nat) : Int)) (fun c16 => ?_) (fun c16 => ?_)
 refine zsk <| zsq <| zbk 1 <| zsp <| zrg <| zpn 3 <| zld ⟨q, 7, none⟩ (.slice (sM b1) n n) (blk_cell (M13.get 0 rfl) rfl) <| zpn 1 <| zix ⟨b1, 0, none⟩ n 2 (k : Int) <| zpn 1 <| zsw M13 1 ((⟨b1, 0, none⟩ : Addr).add (((k : Int)).toNat * 2)) (((k : Int)).toNat * 2) (.int .i64 (-1)) rfl rfl (by rw [Int.toNat_natCast]; omega) fun w17 M18 => ?_
 replace M18 := M18.nf
 refine zfe <| zrg <| zar ((k : Int) + 1) <| zpn 1 <| zfe ?_
 intro aC fr
 exact ⟨n - (k + 1), by omega, k + 1, rfl, fr.kp [0, 23, 24], (M18.cast (by rw [Int.toNat_natCast, mdc_set0 _ (fillM_get (by omega)), fillM_next (by omega)])), by omega⟩
 refine zex 0 <| zbh <| zsq <| zsr <| zpn 4 <| zld ⟨q, 4, none⟩ (.slice A ((bsOf fs).length) c) (blk_cell (M13.get 0 rfl) rfl) <| zpn 2 <| zfe <| zbk 2 ?_
 intro aC fr
 refine zlp (fun n_ a_ w_ => ∃ (m : Nat) (l : List (Int × Int)), n_ = fs.length - m ∧ Fr a_ 88 [(0, (pT q 0)), (39, (.slice A ((bsOf fs).length) c)), (40, (.int .i64 (((bsOf fs).length : Nat) : Int))), (41, (nV m))] ∧ Mem (Res.blk q 103 [nm, wk, .int .i64 pa, .int .i64 va, (.slice A (bsOf fs).length c), so, tp, md0]).fp w w_ [.blk q 103 [nm, wk, (.int .i64 pa), (.int .i64 va), (.slice A ((bsOf fs).length) c), so, tp, (.slice (sM b1) n n)], .row 141 2 (sM b1) n n (mdc l)] ∧ (m ≤ fs.length) ∧ (Tab n (fun _ => (-1, 0)) (fun p => (p.1, p.2 + 1)) (defsTo fs m) l) ∧ (OnceQ pa va (defsTo fs m)) ∧ (ShapesTo fs m)) (n := _) ⟨0, fillM n n, rfl, fr.kp [0, 39, 40, 41], (M13.cast (by rw [show k = n by omega])), by omega, by rw [defsTo_zero]; exact fillM_end n, by rw [defsTo_zero]; exact OnceQ.nil _ _, fun i x h => absurd h (Nat.not_lt_zero _)⟩ ?_
 clear fr aC M13; rintro n aC w23 ⟨m, l, rfl, fr, M24, hm1, htb, hoq, hsh⟩
 revert aC
 refine zsp <| zsq <| zcD (((m : Int) : Int) < (((bsOf fs).length : Nat) : Int)) (fun c27 => ?_) (fun c27 => ?_)
 refine zsk <| zsq <| zbk 3 <| zsr ?_
 obtain ⟨x, hx⟩ := get_of (l := fs) (i := m) (by omega)
 have hl1 : x.phis.length ≤ 281474976710656 := (hok.get hx).lp
 have hl2 : x.insts.length ≤ 281474976710656 := (hok.get hx).li
 refine zpn 1 ?_
 obtain ⟨ad28, rfl⟩ := blocks_some (M24.ro hB) (bsOf_get hx)
 refine zix ad28 ((bsOf fs).length) 6 (m : Int) <| zls ((ad28 : Addr).add (((m : Int)).toNat * 6)) (xV x) (fblk_get (M24.ro hB) rfl hx) <| zal M24 36 [(.slice none 0 0), (.slice none 0 0), (.int .i64 0), (.int .i64 0), (.int .i64 0), (.int .i64 0)] fun b29 w30 hb29 M31 => ?_
 replace M31 := M31.nf
 refine zpn 1 <| zss M31 2 (xV x) rfl fun w32 M33 => ?_
 replace M33 := M33.nf
 refine zfe <| zsq <| zsr <| zpn 1 <| zld ⟨b29, 0, none⟩ (.slice x.pA x.phis.length x.pc) (blk_cell (M33.get 2 rfl) rfl) <| zpn 2 <| zfe <| zbk 4 ?_
 intro aC fr
 refine zlp (fun n_ a_ w_ => ∃ (j : Nat) (l2 : List (Int × Int)), n_ = x.phis.length - j ∧ Fr a_ 88 [(0, (pT q 0)), (4, (nV m)), (5, (pT b29 0)), (39, (.slice (some ad28) ((bsOf fs).length) c)), (40, (.int .i64 (((bsOf fs).length : Nat) : Int))), (41, (nV m)), (47, (.slice x.pA x.phis.length x.pc)), (48, (.int .i64 ((x.phis.length : Nat) : Int))), (49, (nV j))] ∧ Mem (Res.blk q 103 [nm, wk, .int .i64 pa, .int .i64 va, (.slice (some ad28) (bsOf fs).length c), so, tp, md0]).fp w w_ [.blk q 103 [nm, wk, (.int .i64 pa), (.int .i64 va), (.slice (some ad28) ((bsOf fs).length) c), so, tp, (.slice (sM b1) n n)], .row 141 2 (sM b1) n n (mdc l2), .blk b29 36 (xV x)] ∧ (j ≤ x.phis.length) ∧ (Tab n (fun _ => (-1, 0)) (fun p => (p.1, p.2 + 1)) (defsTo fs m ++ phiDefs m (x.phis.take j)) l2) ∧ (OnceQ pa va (defsTo fs m ++ phiDefs m (x.phis.take j)))) (n := _) ⟨0, l, rfl, fr.kp [0, 4, 5, 39, 40, 41, 47, 48, 49], M33, by omega, by simpa [phiDefs] using htb, by simpa [phiDefs] using hoq⟩ ?_
 clear fr aC M33; rintro n aC w36 ⟨j, l2, rfl, fr, M37, hj, ht2, ho2⟩
 revert aC
 refine zsp <| zsq <| zcD (((j : Int) : Int) < ((x.phis.length : Nat) : Int)) (fun c40 => ?_) (fun c40 => ?_)
 refine zsk <| zsq <| zbk 5 <| zsr ?_
 obtain ⟨p, hp⟩ := get_of (l := x.phis) (i := j) (by omega)
 obtain ⟨ad41, had42⟩ := rds_some (M37.ro (hA.phis hx)) (cs := p.cells) (i := j) (by simp [hp])
 intro aC fr
 refine From_ixA (some 51) x.pA ad41 x.phis.length 2 (j : Int) fr (by kernel_rfl) had42 (by omega) (by omega) ?_
 intro aC fr
 revert aC
 refine zls ((ad41 : Addr).add (((j : Int)).toNat * 2)) (pV p) (phi_get (M37.ro (hA.phis hx)) had42 hp) <| zal M37 79 [(.int .i64 0), (.slice none 0 0)] fun b47 w48 hb47 M49 => ?_
 replace M49 := M49.nf
 refine zss M49 3 (pV p) rfl fun w50 M51 => ?_
 replace M51 := M51.nf
 refine zfe <| zsr <| zpn 2 <| zld ⟨b47, 0, none⟩ (.int .i64 p.dst) (blk_cell (M51.get 3 rfl) rfl) <| zpn 1 <| zcl (vs := #[(pT q 0), (.int .i64 p.dst), (nV m), (.int .i64 0)]) (makes2_c q b1 n nm wk pa va _ so tp l2 p.dst (m : Int) 0 w50 ht2.len.symm hva hpa (M51.own_but 0 1 rfl rfl (by decide)) (M51.get 1 rfl)) ?_
 rintro _ w52 ⟨l4, e4, rfl, M53x⟩
 have M53 := M51.md 1 rfl M53x
 refine zpn 1 <| zfe <| zcP (!(decide (putQ pa va l2 p.dst))) (¬ (putQ pa va l2 p.dst)) (by simp only [notT, decide_eq_true_eq]) (fun c54 => ?_) (fun c54 => ?_)
 have hst := once_step (v := p.dst) (b := (m : Int)) (k := -1) ht2 hen (nonneg_phi fs m j x.phis) hpa (Int.le_refl _) hva ho2
 have hnq : ¬ VQ pa va fs := fun h => (hst.2 c54) (by have := once_phi hx (j + 1) h.2; rwa [phiDefs_succ hp, ← List.append_assoc] at this)
 refine zsp <| zre <| zbr <| zbr <| zbr <| zbr <| zo1 (.bool false) ?_
 have M55 := M53.od [1, 1] 2
 exact ⟨false, _, _, rfl, ⟨fun h => Bool.noConfusion h, fun h => absurd h hnq⟩, fun h => absurd h hnq, M55⟩
 have hst := once_step (v := p.dst) (b := (m : Int)) (k := -1) ht2 hen (nonneg_phi fs m j x.phis) hpa (Int.le_refl _) hva ho2
 have hQp := Classical.not_not.1 c54
 refine zsk <| zrg <| zar ((j : Int) + 1) <| zpn 1 <| zfe ?_
 intro aC fr
 exact ⟨x.phis.length - (j + 1), by omega, j + 1, l4, rfl, fr.kp [0, 4, 5, 39, 40, 41, 47, 48, 49], (M53.tk 3), by omega, by rw [phiDefs_succ hp, ← List.append_assoc, e4, if_pos hQp]; exact (hst.1 hQp).1, by rw [phiDefs_succ hp, ← List.append_assoc]; exact (hst.1 hQp).2⟩
 refine zex 4 <| zbh <| zsr <| zpn 1 <| zld ⟨b29, 1, none⟩ (.slice x.iA x.insts.length x.ic) (blk_cell (M37.get 2 rfl) rfl) <| zpn 2 <| zfe <| zbk 6 ?_
 have hjl : j = x.phis.length := by omega
 rw [hjl, List.take_length] at ht2 ho2
 intro aC fr
 refine zlp (fun n_ a_ w_ => ∃ (j3 : Nat) (l3 : List (Int × Int)), n_ = x.insts.length - j3 ∧ Fr a_ 88 [(0, (pT q 0)), (4, (nV m)), (39, (.slice (some ad28) ((bsOf fs).length) c)), (40, (.int .i64 (((bsOf fs).length : Nat) : Int))), (41, (nV m)), (61, (.slice x.iA x.insts.length x.ic)), (62, (.int .i64 ((x.insts.length : Nat) : Int))), (63, (nV j3))] ∧ Mem (Res.blk q 103 [nm, wk, .int .i64 pa, .int .i64 va, (.slice (some ad28) (bsOf fs).length c), so, tp, md0]).fp w w_ [.blk q 103 [nm, wk, (.int .i64 pa), (.int .i64 va), (.slice (some ad28) ((bsOf fs).length) c), so, tp, (.slice (sM b1) n n)], .row 141 2 (sM b1) n n (mdc l3), .blk b29 36 (xV x)] ∧ (j3 ≤ x.insts.length) ∧ (Tab n (fun _ => (-1, 0)) (fun p => (p.1, p.2 + 1)) (defsTo fs m ++ phiDefs m x.phis ++ insDefs m (x.insts.take j3)) l3) ∧ (OnceQ pa va (defsTo fs m ++ phiDefs m x.phis ++ insDefs m (x.insts.take j3))) ∧ (ShapesIn x j3)) (n := _) ⟨0, l2, rfl, fr.kp [0, 4, 39, 40, 41, 61, 62, 63], M37, by omega, by simpa [insDefs] using ht2, by simpa [insDefs] using ho2, fun i p h => absurd h (Nat.not_lt_zero _)⟩ ?_
 clear fr aC M37; rintro n aC w60 ⟨j3, l3, rfl, fr, M61, hj3, ht3, ho3, hs3⟩
 revert aC
 refine zsp <| zsq <| zcD (((j3 : Int) : Int) < ((x.insts.length : Nat) : Int)) (fun c64 => ?_) (fun c64 => ?_)
 refine zsk <| zsq <| zbk 7 <| zsr ?_
 obtain ⟨p, hp3⟩ := get_of (l := x.insts) (i := j3) (by omega)
 have hpo : p.Ok := (hok.get hx).insts p (List.mem_of_getElem? hp3)
 refine zpn 1 ?_
 obtain ⟨ad65, had66⟩ := rds_some (M61.ro (hA.insts hx)) (cs := p.cells) (i := j3) (by simp [hp3])
 intro aC fr
 refine From_ixA (some 66) x.iA ad65 x.insts.length 5 (j3 : Int) fr (by kernel_rfl) had66 (by omega) (by omega) ?_
 intro aC fr
 revert aC
 refine zls ((ad65 : Addr).add (((j3 : Int)).toNat * 5)) (iV p) (ins_get (M61.ro (hA.insts hx)) had66 hp3) <| zal M61 39 [(.int .i64 0), (.int .i64 0), (.int .i64 0), (.string ⟨#[]⟩), (.slice none 0 0)] fun b71 w72 hb71 M73 => ?_
 replace M73 := M73.nf
 refine zpn 1 <| zss M73 3 (iV p) rfl fun w74 M75 => ?_
 replace M75 := M75.nf
 refine zfe <| zsr <| zls ⟨b71, 0, none⟩ (iV p) (blk_cells (M75.get 3 rfl)) <| zcl (shape_c p w74 hpo) ?_
 rintro _ w76 ⟨rfl, M77x⟩
 have M77 := M75.cl M77x
 refine zpn 2 ?_
 obtain ⟨B78, hB78⟩ : ∃ B : Bool, B = (!(decide (shapeQ p))) := ⟨_, rfl⟩
 refine zkp [(0, (pT q 0)), (4, (nV m)), (8, (nV j3)), (9, (pT b71 0)), (39, (.slice (some ad28) ((bsOf fs).length) c)), (40, (.int .i64 (((bsOf fs).length : Nat) : Int))), (41, (nV m)), (61, (.slice x.iA x.insts.length x.ic)), (62, (.int .i64 ((x.insts.length : Nat) : Int))), (63, (nV j3)), (71, (.bool (!(decide (shapeQ p)))))] ?_
 rw [← hB78]
 have iB78 : B78 = true ↔ (¬ (shapeQ p)) := by rw [hB78]; simp only [notT, decide_eq_true_eq]
 clear hB78
 intro aC fr
 refine zpk 1 5 [72] fr (news := [(72, (cond (!B78) (pT b71 0) undef))]) (by cases B78 <;> kernel_rfl) ?_
 intro aC fr
 refine From_either (B := (!B78)) (d := (some 73)) (.int .i64 p.op) fr (by cases B78 <;> kernel_rfl) (fun hB hh => ?_) ?_
 cases B78 <;> first | (exact absurd hB (by decide)) | skip
 have c78 : ¬ (¬ (shapeQ p)) := (fun h => Bool.noConfusion (iB78.2 h) : ¬ (¬ (shapeQ p)))
 exact From_ld (some 73) ⟨b71, 0, none⟩ fr (by kernel_rfl) (.int .i64 p.op) (blk_cell (M77.get 3 rfl) rfl) hh
 intro aC fr
 refine From_eitherC (B := (!B78)) (d := (some 74)) (.bool (decide (makesQ p.op))) fr (by cases B78 <;> kernel_rfl) (fun hB hh => ?_) ?_
 cases B78 <;> first | (exact absurd hB (by decide)) | skip
 have c78 : ¬ (¬ (shapeQ p)) := (fun h => Bool.noConfusion (iB78.2 h) : ¬ (¬ (shapeQ p)))
 refine From_cl (some 74) 117 [(.int .i64 p.op)] fr (by kernel_rfl) (makes_c p.op w76) ?_
 rintro _ w2 ⟨rfl, hm2⟩ a2 hF2; exact hh a2 w2 hm2 hF2
 intro aC w85 M86x fr
 have M86 := M77.cl M86x
 refine zpk 1 8 [75] fr (news := [(75, (cond (!B78) (.bool (decide (makesQ p.op))) undef))]) (by cases B78 <;> kernel_rfl) ?_
 intro aC fr
 obtain ⟨B91, hB91⟩ : ∃ B : Bool, B = decide (makesQ p.op) := ⟨_, rfl⟩
 revert aC
 refine zkp [(0, (pT q 0)), (4, (nV m)), (8, (nV j3)), (9, (pT b71 0)), (39, (.slice (some ad28) ((bsOf fs).length) c)), (40, (.int .i64 (((bsOf fs).length : Nat) : Int))), (41, (nV m)), (61, (.slice x.iA x.insts.length x.ic)), (62, (.int .i64 ((x.insts.length : Nat) : Int))), (63, (nV j3)), (71, (.bool B78)), (75, (cond (!B78) (.bool (decide (makesQ p.op))) undef))] ?_
 rw [← hB91]
 have iB91 : B91 = true ↔ (makesQ p.op) := by rw [hB91]; simp only [decide_eq_true_eq]
 clear hB91
 intro aC fr
 refine zpk 2 10 [76, 77] fr (news := [(76, (cond (!B78 && B91) (pT q 0) undef)), (77, (cond (!B78 && B91) (pT b71 1) undef))]) (by cases B78 <;> cases B91 <;> kernel_rfl) ?_
 intro aC fr
 refine From_either (B := (!B78 && B91)) (d := (some 78)) (.int .i64 p.dst) fr (by cases B78 <;> cases B91 <;> kernel_rfl) (fun hB hh => ?_) ?_
 cases B78 <;> cases B91 <;> first | (exact absurd hB (by decide)) | skip
 have c78 : ¬ (¬ (shapeQ p)) := (fun h => Bool.noConfusion (iB78.2 h) : ¬ (¬ (shapeQ p)))
 have c91 : (makesQ p.op) := iB91.1 rfl
 exact From_ld (some 78) ⟨b71, 1, none⟩ fr (by kernel_rfl) (.int .i64 p.dst) (blk_cell (M86.get 3 rfl) rfl) hh
 intro aC fr
 refine zpk 2 13 [79, 80] fr (news := [(79, (cond (!B78 && B91) (nV m) undef)), (80, (cond (!B78 && B91) (nV j3) undef))]) (by cases B78 <;> cases B91 <;> kernel_rfl) ?_
 intro aC fr
 refine From_either (B := (!B78 && B91)) (d := (some 81)) (.int .i64 ((j3 : Int) + 1)) fr (by cases B78 <;> cases B91 <;> kernel_rfl) (fun hB hh => ?_) ?_
 cases B78 <;> cases B91 <;> first | (exact absurd hB (by decide)) | skip
 have c78 : ¬ (¬ (shapeQ p)) := (fun h => Bool.noConfusion (iB78.2 h) : ¬ (¬ (shapeQ p)))
 have c91 : (makesQ p.op) := iB91.1 rfl
 exact From_ar (some 81) ((j3 : Int) + 1) fr (z0 := (j3 : Int) + 1) (by kernel_rfl) rfl (by omega) (by omega) hh
 intro aC fr
 cases B78
 have c78 : ¬ (¬ (shapeQ p)) := (fun h => Bool.noConfusion (iB78.2 h) : ¬ (¬ (shapeQ p)))
 have hsq : shapeQ p := Classical.not_not.1 c78
 cases B91
 have c91 : ¬ (makesQ p.op) := (fun h => Bool.noConfusion (iB91.2 h) : ¬ (makesQ p.op))
 have hmk : ¬ makesQ p.op := c91
 revert aC
 refine zpn 4 <| zfe <| zcF <| zsk <| zrg <| zar ((j3 : Int) + 1) <| zpn 1 <| zfe ?_
 intro aC fr
 exact ⟨x.insts.length - (j3 + 1), by omega, j3 + 1, l3, rfl, fr.kp [0, 4, 39, 40, 41, 61, 62, 63], (M86.tk 3), by omega, by rw [insDefs_no hp3 hmk]; exact ht3, by rw [insDefs_no hp3 hmk]; exact ho3, hs3.next hp3 hsq⟩
 have c91 : (makesQ p.op) := iB91.1 rfl
 have hmk : makesQ p.op := c91
 have hst := once_step (v := p.dst) (b := (m : Int)) (k := (j3 : Int)) ht3 hen (nonneg_ins fs m j3 x.phis x.insts) hpa (Int.le_refl _) hva ho3
 revert aC
 refine zcl (vs := #[(pT q 0), (.int .i64 p.dst), (nV m), (.int .i64 ((j3 : Int) + 1))]) (makes2_c q b1 n nm wk pa va _ so tp l3 p.dst (m : Int) ((j3 : Int) + 1) w85 ht3.len.symm hva hpa (M86.own_but 0 1 rfl rfl (by decide)) (M86.get 1 rfl)) ?_
 rintro _ w104 ⟨l4, e4, rfl, M105x⟩
 have M105 := M86.md 1 rfl M105x
 refine zpn 3 <| zfe <| zcP (!(decide (putQ pa va l3 p.dst))) (¬ (putQ pa va l3 p.dst)) (by simp only [notT, decide_eq_true_eq]) (fun c106 => ?_) (fun c106 => ?_)
 have hnq : ¬ VQ pa va fs := fun h => (hst.2 c106) (by have := once_ins hx (j3 + 1) h.2; rwa [insDefs_yes hp3 hmk, ← List.append_assoc] at this)
 refine zsp <| zre <| zbr <| zbr <| zbr <| zbr <| zo1 (.bool false) ?_
 have M107 := M105.od [1, 1] 2
 exact ⟨false, _, _, rfl, ⟨fun h => Bool.noConfusion h, fun h => absurd h hnq⟩, fun h => absurd h hnq, M107⟩
 have hQp := Classical.not_not.1 c106
 refine zsk <| zrg <| zar ((j3 : Int) + 1) <| zpn 1 <| zfe ?_
 intro aC fr
 exact ⟨x.insts.length - (j3 + 1), by omega, j3 + 1, l4, rfl, fr.kp [0, 4, 39, 40, 41, 61, 62, 63], (M105.tk 3), by omega, by rw [insDefs_yes hp3 hmk, ← List.append_assoc, e4, if_pos hQp]; exact (hst.1 hQp).1, by rw [insDefs_yes hp3 hmk, ← List.append_assoc]; exact (hst.1 hQp).2, hs3.next hp3 hsq⟩
 have c78 : (¬ (shapeQ p)) := iB78.1 rfl
 have hnq : ¬ VQ pa va fs := fun h => c78 (h.1 x (List.mem_of_getElem? hx) p (List.mem_of_getElem? hp3))
 revert aC
 refine zpn 4 <| zfe <| zcT <| zsp <| zre <| zbr <| zbr <| zbr <| zbr <| zo1 (.bool false) ?_
 have M110 := M86.od [1, 1] 2
 exact ⟨false, _, _, rfl, ⟨fun h => Bool.noConfusion h, fun h => absurd h hnq⟩, fun h => absurd h hnq, M110⟩
 refine zex 6 <| zbh <| zrg <| zar ((m : Int) + 1) <| zpn 1 <| zfe ?_
 have hj3e : j3 = x.insts.length := by omega
 rw [hj3e, List.take_length] at ht3 ho3
 rw [hj3e] at hs3
 intro aC fr
 exact ⟨fs.length - (m + 1), by omega, m + 1, l3, rfl, fr.kp [0, 39, 40, 41], (M61.tk 2), by omega, by rw [defsTo_succ hx, blkDefs, ← List.append_assoc]; exact ht3, by rw [defsTo_succ hx, blkDefs, ← List.append_assoc]; exact ho3, hsh.next hx hs3⟩
 refine zex 2 <| zbh <| zsp <| zre <| zo1 (.bool true) ?_
 have M113 := M24.od [1, 1] 2
 obtain rfl : m = fs.length := by omega
 have hv : VQ pa va fs := ⟨hsh.all, hoq⟩
 exact ⟨true, _, _, rfl, ⟨fun _ => hv, fun _ => rfl⟩, fun _ => htb, M113⟩
end Go.Proofs.Ytejbeeaomokjpaa
namespace Go.Proofs.Ytejbeeaomokjpaa
open Go.Mor
theorem rmade_c (n : Nat) (nm : ByteArray) (wk : Bool) (pa va : Int) (A : Option Addr) (c : Nat) (fs : List FBlk) (w : World) (hN : fs.length ≤ 1000) (hok : FOk fs) (hva : va = (n : Int)) (hn2 : n ≤ 20000) (hpa : 0 ≤ pa) (hA : RO noS w (.fn A fs)) :
    Calls Try.prog 40 #[(fA nm wk pa va A c fs)] w (Ret fun v w' => ∃ B A' n' c' gm l, v = .tuple #[.slice A' n' c', .bool B] ∧ (B = true ↔ OnceQ pa va (defsF fs)) ∧ (B = true → A' = some ⟨gm, 0, none⟩ ∧ n' = n ∧ c' = n ∧ Tab n (baseR pa) (fun p => p) (defsF fs) l) ∧ Mem noS w w' [.row 94 2 (sM gm) n n (mdc l)]) := by
 have hbl := bsOf_len fs
 have hm : (bsOf fs).length ≤ 1000000 := by omega
 have hB := hA.bs
 have hen := enc_ref pa n
 refine zen 98 [(fA nm wk pa va A c fs)] Try.func40 ?_
 have hM := Mem.init w
 refine zsr <| zbx hM 24 (fA nm wk pa va A c fs) (fV nm wk pa va A c fs) fun b1 w2 hb1 M3 => ?_
 replace M3 := M3.nf
 clear hM
 refine zpn 2 <| zfe <| zsr <| zpn 1 <| zld ⟨b1, 3, none⟩ (.int .i64 va) (blk_cell (M3.get 0 rfl) rfl) ?_
 intro aC fr
 refine From_makeS (by kernel_rfl : coreAt _ 2 = some (some 12, (.makeSlice 43 (.tmp 11) (.tmp 11)), 43, none)) fr (by kernel_rfl) (by kernel_rfl) (k' := 3) rfl (e := 94) (bytes := 16) (size := 2) (zs := [(.int .i64 0), (.int .i64 0)]) (n := n) (i := va) (by kernel_rfl) (by kernel_rfl) hva (by kernel_rfl) (by kernel_rfl) rfl (by decide) (by omega) (by simp only [maxLen]; omega) M3 ?_
 intro b4 w5 hb4 _ M6 _ aC ea fr; clear ea
 replace M6 := M6.nf
 revert aC
 refine zpn 1 <| zfe <| zsq <| zsp <| zbk 0 ?_
 intro aC fr
 refine zlp (fun n_ a_ w_ => ∃ (k : Nat), n_ = n - k ∧ Fr a_ 98 [(1, (pT b1 0)), (4, (.slice (sM b4) n n)), (5, (nV k))] ∧ Mem noS w w_ [.blk b1 24 (fV nm wk pa va A c fs), .row 94 2 (sM b4) n n (mdc (fillR pa n k))] ∧ (k ≤ n)) (n := _) ⟨0, rfl, fr.kp [1, 4, 5], (M6.cast (by rw [fillR_zero, ← mdc_rep])), by omega⟩ ?_
 clear fr aC M6; rintro n aC w13 ⟨k, rfl, fr, M14, hk⟩
 revert aC
 refine zsq <| zsp <| zcD (((k : Int) : Int) < ((n : Nat) : Int)) (fun c17 => ?_) (fun c17 => ?_)
 refine zsk <| zsq <| zbk 1 <| zsr <| zpn 2 <| zix ⟨b4, 0, none⟩ n 2 (k : Int) <| zpn 1 <| zsw M14 1 ((⟨b4, 0, none⟩ : Addr).add (((k : Int)).toNat * 2)) (((k : Int)).toNat * 2) (.int .i64 (-1)) rfl rfl (by rw [Int.toNat_natCast]; omega) fun w18 M19 => ?_
 replace M19 := M19.nf
 refine zfe <| zsr ?_
 have M20 : Mem noS w w18 [.blk b1 24 (fV nm wk pa va A c fs), .row 94 2 (sM b4) n n (mdc ((fillR pa n k).set k (-1, 0)))] := M19.cast (by rw [Int.toNat_natCast, mdc_set0 _ (fillR_get (by omega))])
 refine zpn 2 <| zld ⟨b1, 2, none⟩ (.int .i64 pa) (blk_cell (M20.get 0 rfl) rfl) <| zpn 1 <| zfe <| zcD (((k : Int) : Int) < pa) (fun c21 => ?_) (fun c21 => ?_)
 refine zrg <| zpn 3 <| zix ⟨b4, 0, none⟩ n 2 (k : Int) ?_
 intro aC fr
 refine From_storeS_row (by kernel_rfl : coreAt _ 4 = some (none, (.store 94 (.tmp 30) (.tmp 29)), 0, none)) fr (by kernel_rfl) (by kernel_rfl) (k' := 5) rfl (ad := (⟨b4, 0, none⟩ : Addr)) (j := (((k : Int)).toNat * 2)) (e := 94) (size := 2) (n := n) (cap := n) (vs := [(.int .i64 0), (.int .i64 (-2))]) (xs := (mdc ((fillR pa n k).set k (-1, 0)))) (ad' := ((⟨b4, 0, none⟩ : Addr).add (((k : Int)).toNat * 2))) (by kernel_rfl) rfl (by kernel_rfl) (by kernel_rfl) (by simp only [List.mem_cons, List.not_mem_nil, or_false]; intro v hv; rcases hv with rfl | rfl <;> rfl) M20 1 rfl (by rw [Int.toNat_natCast]; simp only [List.length_cons, List.length_nil]; omega) ?_
 intro w22 M23 _ aC ea fr; clear ea
 replace M23 := M23.nf
 have M28 : Mem noS w w22 [.blk b1 24 (fV nm wk pa va A c fs), .row 94 2 (sM b4) n n (mdc (((fillR pa n k).set k (-1, 0)).set k (0, -2)))] := M23.cast (by rw [Int.toNat_natCast, mdc_set _ _ (by rw [List.length_set, fillR_len (by omega)]; omega)])
 revert aC
 refine zfe <| zrg <| zpn 1 <| zar ((k : Int) + 1) <| zkp [(1, (pT b1 0)), (4, (.slice (sM b4) n n)), (18, (.int .i64 ((k : Int) + 1)))] <| zpn 1 <| zfe ?_
 intro aC fr
 exact ⟨n - (k + 1), by omega, k + 1, rfl, fr.kp [1, 4, 5], (M28.cast (by rw [fillR_yes (by omega) c21])), by omega⟩
 refine zsk <| zrg <| zpn 1 <| zar ((k : Int) + 1) <| zpn 1 <| zfe ?_
 intro aC fr
 exact ⟨n - (k + 1), by omega, k + 1, rfl, fr.kp [1, 4, 5], (M20.cast (by rw [fillR_no (by omega) c21])), by omega⟩
 refine zex 0 <| zbh <| zsq <| zsp <| zbk 2 ?_
 intro aC fr
 refine zlp (fun n_ a_ w_ => ∃ (m : Nat) (l : List (Int × Int)), n_ = fs.length - m ∧ Fr a_ 98 [(1, (pT b1 0)), (4, (.slice (sM b4) n n)), (6, (nV m))] ∧ Mem noS w w_ [.blk b1 24 (fV nm wk pa va A c fs), .row 94 2 (sM b4) n n (mdc l)] ∧ (m ≤ fs.length) ∧ (Tab n (baseR pa) (fun p => p) (defsTo fs m) l) ∧ (OnceQ pa (n : Int) (defsTo fs m))) (n := _) ⟨0, fillR pa n n, rfl, fr.kp [1, 4, 6], (M14.cast (by rw [show k = n by omega])), by omega, by rw [defsTo_zero]; exact fillR_end pa n, by rw [defsTo_zero]; exact OnceQ.nil _ _⟩ ?_
 clear fr aC M14; rintro n aC w35 ⟨m, l, rfl, fr, M36, hm1, htb, hoq⟩
 revert aC
 refine zsq <| zsr <| zpn 2 <| zld ⟨b1, 4, none⟩ (.slice A ((bsOf fs).length) c) (blk_cell (M36.get 0 rfl) rfl) <| zpn 2 <| zfe <| zcD (((m : Int) : Int) < (((bsOf fs).length : Nat) : Int)) (fun c39 => ?_) (fun c39 => ?_)
 refine zsk <| zsq <| zbk 3 <| zsq <| zsr ?_
 obtain ⟨x, hx⟩ := get_of (l := fs) (i := m) (by omega)
 have hl1 : x.phis.length ≤ 281474976710656 := (hok.get hx).lp
 have hl2 : x.insts.length ≤ 281474976710656 := (hok.get hx).li
 refine zpn 1 <| zfe <| zbk 4 ?_
 intro aC fr
 refine zlp (fun n_ a_ w_ => ∃ (j : Nat) (l2 : List (Int × Int)), n_ = x.phis.length - j ∧ Fr a_ 98 [(1, (pT b1 0)), (4, (.slice (sM b4) n n)), (6, (nV m)), (7, (nV j))] ∧ Mem noS w w_ [.blk b1 24 (fV nm wk pa va A c fs), .row 94 2 (sM b4) n n (mdc l2)] ∧ (j ≤ x.phis.length) ∧ (Tab n (baseR pa) (fun p => p) (defsTo fs m ++ phiDefs m (x.phis.take j)) l2) ∧ (OnceQ pa (n : Int) (defsTo fs m ++ phiDefs m (x.phis.take j)))) (n := _) ⟨0, l, rfl, fr.kp [1, 4, 6, 7], M36, by omega, by simpa [phiDefs] using htb, by simpa [phiDefs] using hoq⟩ ?_
 clear fr aC M36; rintro n aC w42 ⟨j, l2, rfl, fr, M43, hj, ht2, ho2⟩
 revert aC
 refine zsq <| zsr <| zpn 2 <| zld ⟨b1, 4, none⟩ (.slice A ((bsOf fs).length) c) (blk_cell (M43.get 0 rfl) rfl) <| zpn 1 ?_
 obtain ⟨ad46, rfl⟩ := blocks_some (M43.ro hB) (bsOf_get hx)
 refine zix ad46 ((bsOf fs).length) 6 (m : Int) <| zpn 1 <| zld ((ad46 : Addr).add (((m : Int)).toNat * 6)) (.slice x.pA x.phis.length x.pc) (fblk_get (M43.ro hB) rfl hx 0 _ rfl) <| zpn 2 <| zfe <| zcD (((j : Int) : Int) < ((x.phis.length : Nat) : Int)) (fun c47 => ?_) (fun c47 => ?_)
 refine zsk <| zsq <| zbk 5 <| zsr ?_
 obtain ⟨p, hp⟩ := get_of (l := x.phis) (i := j) (by omega)
 refine zpn 2 <| zld ⟨b1, 4, none⟩ (.slice (some ad46) ((bsOf fs).length) c) (blk_cell (M43.get 0 rfl) rfl) <| zpn 1 <| zix ad46 ((bsOf fs).length) 6 (m : Int) <| zpn 1 <| zld ((ad46 : Addr).add (((m : Int)).toNat * 6)) (.slice x.pA x.phis.length x.pc) (fblk_get (M43.ro hB) rfl hx 0 _ rfl) <| zkp [(1, (pT b1 0)), (4, (.slice (sM b4) n n)), (6, (nV m)), (7, (nV j)), (49, (.slice (sM b4) n n)), (55, (.slice x.pA x.phis.length x.pc))] <| zpn 1 ?_
 obtain ⟨ad48, had49⟩ := rds_some (M43.ro (hA.phis hx)) (cs := p.cells) (i := j) (by simp [hp])
 intro aC fr
 refine From_ixA (some 57) x.pA ad48 x.phis.length 2 (j : Int) fr (by kernel_rfl) had49 (by omega) (by omega) ?_
 intro aC fr
 revert aC
 refine zpn 1 <| zld ((ad48 : Addr).add (((j : Int)).toNat * 2)) (.int .i64 p.dst) (phi_get (M43.ro (hA.phis hx)) had49 hp 0 _ rfl) <| zpn 2 <| zcl (rput_c b4 n l2 p.dst (m : Int) (-1) w42 ht2.len.symm (M43.get 1 rfl)) ?_
 rintro _ w54 ⟨l4, e4, rfl, M55x⟩
 have M55 := M43.md 1 rfl M55x
 refine zpn 1 <| zfe <| zcP (!(decide (putQ 0 n l2 p.dst))) (¬ (putQ 0 n l2 p.dst)) (by simp only [notT, decide_eq_true_eq]) (fun c56 => ?_) (fun c56 => ?_)
 have hst := once_step (v := p.dst) (b := (m : Int)) (k := -1) ht2 hen (nonneg_phi fs m j x.phis) (Int.le_refl _) hpa rfl ho2
 have hnq : ¬ OnceQ pa va (defsF fs) := fun h => (hst.2 c56) (by have := once_phi hx (j + 1) h; rwa [phiDefs_succ hp, ← List.append_assoc, hva] at this)
 refine zsp <| zre <| zbr <| zbr <| zbr <| zbr <| zo2 (.slice none 0 0) (.bool false) ?_
 have M57 := M55.od [1] 1
 exact ⟨false, _, _, _, _, _, rfl, ⟨fun h => Bool.noConfusion h, fun h => absurd h hnq⟩, fun h => Bool.noConfusion h, M57⟩
 have hst := once_step (v := p.dst) (b := (m : Int)) (k := -1) ht2 hen (nonneg_phi fs m j x.phis) (Int.le_refl _) hpa rfl ho2
 have hQp := Classical.not_not.1 c56
 refine zsk <| zrg <| zpn 1 <| zar ((j : Int) + 1) <| zpn 1 <| zfe ?_
 intro aC fr
 exact ⟨x.phis.length - (j + 1), by omega, j + 1, l4, rfl, fr.kp [1, 4, 6, 7], M55, by omega, by rw [phiDefs_succ hp, ← List.append_assoc, e4, if_pos hQp]; exact (hst.1 hQp).1, by rw [phiDefs_succ hp, ← List.append_assoc]; exact (hst.1 hQp).2⟩
 refine zex 4 <| zbh <| zsp <| zbk 6 ?_
 have hjl : j = x.phis.length := by omega
 rw [hjl, List.take_length] at ht2 ho2
 intro aC fr
 refine zlp (fun n_ a_ w_ => ∃ (j3 : Nat) (l3 : List (Int × Int)), n_ = x.insts.length - j3 ∧ Fr a_ 98 [(1, (pT b1 0)), (4, (.slice (sM b4) n n)), (6, (nV m)), (8, (nV j3))] ∧ Mem noS w w_ [.blk b1 24 (fV nm wk pa va (some ad46) c fs), .row 94 2 (sM b4) n n (mdc l3)] ∧ (j3 ≤ x.insts.length) ∧ (Tab n (baseR pa) (fun p => p) (defsTo fs m ++ phiDefs m x.phis ++ insDefs m (x.insts.take j3)) l3) ∧ (OnceQ pa (n : Int) (defsTo fs m ++ phiDefs m x.phis ++ insDefs m (x.insts.take j3)))) (n := _) ⟨0, l2, rfl, fr.kp [1, 4, 6, 8], M43, by omega, by simpa [insDefs] using ht2, by simpa [insDefs] using ho2⟩ ?_
 clear fr aC M43; rintro n aC w62 ⟨j3, l3, rfl, fr, M63, hj3, ht3, ho3⟩
 revert aC
 refine zsq <| zsr <| zpn 2 <| zld ⟨b1, 4, none⟩ (.slice (some ad46) ((bsOf fs).length) c) (blk_cell (M63.get 0 rfl) rfl) <| zpn 1 <| zix ad46 ((bsOf fs).length) 6 (m : Int) <| zpn 1 <| zld (((ad46 : Addr).add (((m : Int)).toNat * 6)).add 1) (.slice x.iA x.insts.length x.ic) (fblk_get (M63.ro hB) rfl hx 1 _ rfl) <| zpn 2 <| zfe <| zcD (((j3 : Int) : Int) < ((x.insts.length : Nat) : Int)) (fun c66 => ?_) (fun c66 => ?_)
 refine zsk <| zsq <| zbk 7 <| zsr ?_
 obtain ⟨p, hp3⟩ := get_of (l := x.insts) (i := j3) (by omega)
 refine zpn 1 <| zld ⟨b1, 4, none⟩ (.slice (some ad46) ((bsOf fs).length) c) (blk_cell (M63.get 0 rfl) rfl) <| zpn 1 <| zix ad46 ((bsOf fs).length) 6 (m : Int) <| zpn 1 <| zld (((ad46 : Addr).add (((m : Int)).toNat * 6)).add 1) (.slice x.iA x.insts.length x.ic) (fblk_get (M63.ro hB) rfl hx 1 _ rfl) <| zkp [(1, (pT b1 0)), (4, (.slice (sM b4) n n)), (6, (nV m)), (8, (nV j3)), (80, (.slice x.iA x.insts.length x.ic))] <| zpn 1 ?_
 obtain ⟨ad67, had68⟩ := rds_some (M63.ro (hA.insts hx)) (cs := p.cells) (i := j3) (by simp [hp3])
 intro aC fr
 refine From_ixA (some 82) x.iA ad67 x.insts.length 5 (j3 : Int) fr (by kernel_rfl) had68 (by omega) (by omega) ?_
 intro aC fr
 revert aC
 refine zls ((ad67 : Addr).add (((j3 : Int)).toNat * 5)) (iV p) (ins_get (M63.ro (hA.insts hx)) had68 hp3) <| zal M63 39 [(.int .i64 0), (.int .i64 0), (.int .i64 0), (.string ⟨#[]⟩), (.slice none 0 0)] fun b73 w74 hb73 M75 => ?_
 replace M75 := M75.nf
 refine zss M75 2 (iV p) rfl fun w76 M77 => ?_
 replace M77 := M77.nf
 refine zfe <| zsr <| zpn 1 <| zld ⟨b73, 0, none⟩ (.int .i64 p.op) (blk_cell (M77.get 2 rfl) rfl) <| zcl (rmakes_c p.op w76) ?_
 rintro _ w78 ⟨rfl, M79x⟩
 have M79 := M77.cl M79x
 refine zpn 1 ?_
 obtain ⟨B80, hB80⟩ : ∃ B : Bool, B = decide (makesQ p.op) := ⟨_, rfl⟩
 refine zkp [(1, (pT b1 0)), (4, (.slice (sM b4) n n)), (6, (nV m)), (8, (nV j3)), (9, (pT b73 0)), (87, (.bool (decide (makesQ p.op))))] ?_
 rw [← hB80]
 have iB80 : B80 = true ↔ (makesQ p.op) := by rw [hB80]; simp only [decide_eq_true_eq]
 clear hB80
 intro aC fr
 refine zpk 2 6 [88, 89] fr (news := [(88, (cond B80 (.slice (sM b4) n n) undef)), (89, (cond B80 (pT b73 1) undef))]) (by cases B80 <;> kernel_rfl) ?_
 intro aC fr
 refine From_either (B := B80) (d := (some 90)) (.int .i64 p.dst) fr (by cases B80 <;> kernel_rfl) (fun hB hh => ?_) ?_
 cases B80 <;> first | (exact absurd hB (by decide)) | skip
 have c80 : (makesQ p.op) := iB80.1 rfl
 exact From_ld (some 90) ⟨b73, 1, none⟩ fr (by kernel_rfl) (.int .i64 p.dst) (blk_cell (M79.get 2 rfl) rfl) hh
 intro aC fr
 refine zpk 3 10 [93] fr (news := [(93, (cond B80 (.agg #[(nV m), (nV j3)]) undef))]) (by cases B80 <;> kernel_rfl) ?_
 intro aC fr
 cases B80
 have c80 : ¬ (makesQ p.op) := (fun h => Bool.noConfusion (iB80.2 h) : ¬ (makesQ p.op))
 have hmk : ¬ makesQ p.op := c80
 revert aC
 refine zpn 3 <| zfe <| zcF <| zsk <| zrg <| zpn 1 <| zar ((j3 : Int) + 1) <| zpn 1 <| zfe ?_
 intro aC fr
 exact ⟨x.insts.length - (j3 + 1), by omega, j3 + 1, l3, rfl, fr.kp [1, 4, 6, 8], (M79.tk 2), by omega, by rw [insDefs_no hp3 hmk]; exact ht3, by rw [insDefs_no hp3 hmk]; exact ho3⟩
 have c80 : (makesQ p.op) := iB80.1 rfl
 have hmk : makesQ p.op := c80
 have hst := once_step (v := p.dst) (b := (m : Int)) (k := (j3 : Int)) ht3 hen (nonneg_ins fs m j3 x.phis x.insts) (Int.le_refl _) hpa rfl ho3
 revert aC
 refine zcl (rput_c b4 n l3 p.dst (m : Int) (j3 : Int) w78 ht3.len.symm (M79.get 1 rfl)) ?_
 rintro _ w91 ⟨l4, e4, rfl, M92x⟩
 have M92 := M79.md 1 rfl M92x
 refine zpn 2 <| zfe <| zcP (!(decide (putQ 0 n l3 p.dst))) (¬ (putQ 0 n l3 p.dst)) (by simp only [notT, decide_eq_true_eq]) (fun c93 => ?_) (fun c93 => ?_)
 have hnq : ¬ OnceQ pa va (defsF fs) := fun h => (hst.2 c93) (by have := once_ins hx (j3 + 1) h; rwa [insDefs_yes hp3 hmk, ← List.append_assoc, hva] at this)
 refine zsp <| zre <| zbr <| zbr <| zbr <| zbr <| zo2 (.slice none 0 0) (.bool false) ?_
 have M94 := M92.od [1] 1
 exact ⟨false, _, _, _, _, _, rfl, ⟨fun h => Bool.noConfusion h, fun h => absurd h hnq⟩, fun h => Bool.noConfusion h, M94⟩
 have hQp := Classical.not_not.1 c93
 refine zsk <| zrg <| zpn 1 <| zar ((j3 : Int) + 1) <| zpn 1 <| zfe ?_
 intro aC fr
 exact ⟨x.insts.length - (j3 + 1), by omega, j3 + 1, l4, rfl, fr.kp [1, 4, 6, 8], (M92.tk 2), by omega, by rw [insDefs_yes hp3 hmk, ← List.append_assoc, e4, if_pos hQp]; exact (hst.1 hQp).1, by rw [insDefs_yes hp3 hmk, ← List.append_assoc]; exact (hst.1 hQp).2⟩
 refine zex 6 <| zbh <| zrg <| zpn 1 <| zar ((m : Int) + 1) <| zpn 1 <| zfe ?_
 have hj3e : j3 = x.insts.length := by omega
 rw [hj3e, List.take_length] at ht3 ho3
 intro aC fr
 exact ⟨fs.length - (m + 1), by omega, m + 1, l3, rfl, fr.kp [1, 4, 6], M63, by omega, by rw [defsTo_succ hx, blkDefs, ← List.append_assoc]; exact ht3, by rw [defsTo_succ hx, blkDefs, ← List.append_assoc]; exact ho3⟩
 refine zex 2 <| zbh <| zsp <| zre <| zo2 (.slice (sM b4) n n) (.bool true) ?_
 have M99 := M36.od [1] 1
 obtain rfl : m = fs.length := by omega
 exact ⟨true, _, _, _, _, l, rfl, ⟨fun _ => by rw [hva]; exact hoq, fun _ => rfl⟩, fun _ => ⟨rfl, rfl, rfl, htb⟩, M99⟩
end Go.Proofs.Ytejbeeaomokjpaa
namespace Go.Proofs.Ytejbeeaomokjpaa
open Go.Mor
theorem valid_c (nm : ByteArray) (wk : Bool) (pa va : Int) (A : Option Addr) (c : Nat) (fs : List FBlk) (w : World) (hN : fs.length ≤ 1000) (hok : FOk fs) (hA : RO noS w (.fn A fs)) :
    Calls Try.prog 45 #[(fA nm wk pa va A c fs)] w (Ret fun v w' => v = .int .i64 (validN nm pa va fs) ∧ Mem noS w w' []) := by
 have hbl := bsOf_len fs
 have hm : (bsOf fs).length ≤ 1000000 := by omega
 have hB := hA.bs
 refine zen 106 [(fA nm wk pa va A c fs)] Try.func45 ?_
 have hM := Mem.init w
 refine zsr <| zbx hM 24 (fA nm wk pa va A c fs) (fV nm wk pa va A c fs) fun b1 w2 hb1 M3 => ?_
 replace M3 := M3.nf
 clear hM
 refine zpn 1 <| zfe <| zsq <| zsr <| zls ⟨b1, 0, none⟩ (fV nm wk pa va A c fs) (blk_cells (M3.get 0 rfl)) <| zcl (vs := #[(fA nm wk pa va A c fs)]) (size_c _ _ _ _ A c fs w2 hN hok (hA.at_ M3)) ?_
 rintro _ w4 ⟨rfl, M5x⟩
 have M5 := M3.cl M5x
 refine zpn 2 ?_
 obtain ⟨B6, hB6⟩ : ∃ B : Bool, B = decide ((((sizeF fs : Nat) : Int) : Int) > 20000) := ⟨_, rfl⟩
 refine zkp [(1, (pT b1 0)), (10, (.bool (decide ((((sizeF fs : Nat) : Int) : Int) > 20000))))] ?_
 rw [← hB6]
 have iB6 : B6 = true ↔ ((((sizeF fs : Nat) : Int) : Int) > 20000) := by rw [hB6]; simp only [decide_eq_true_eq]
 clear hB6
 intro aC fr
 refine zpk 1 5 [11] fr (news := [(11, (cond (!B6) (pT b1 3) undef))]) (by cases B6 <;> kernel_rfl) ?_
 intro aC fr
 refine From_either (B := (!B6)) (d := (some 12)) (.int .i64 va) fr (by cases B6 <;> kernel_rfl) (fun hB hh => ?_) ?_
 cases B6 <;> first | (exact absurd hB (by decide)) | skip
 have c6 : ¬ ((((sizeF fs : Nat) : Int) : Int) > 20000) := (fun h => Bool.noConfusion (iB6.2 h) : ¬ ((((sizeF fs : Nat) : Int) : Int) > 20000))
 exact From_ld (some 12) ⟨b1, 3, none⟩ fr (by kernel_rfl) (.int .i64 va) (blk_cell (M5.get 0 rfl) rfl) hh
 intro aC fr
 refine zpk 2 8 [14] fr (news := [(14, (.bool (B6 || decide ((va : Int) > 20000))))]) (by cases B6 <;> kernel_rfl) ?_
 intro aC fr
 revert aC
 refine zfe <| zcP (B6 || decide ((va : Int) > 20000)) (((((sizeF fs : Nat) : Int) : Int) > 20000) ∨ ((va : Int) > 20000)) (by simp only [Bool.or_eq_true, decide_eq_true_eq, iB6]) (fun c15 => ?_) (fun c15 => ?_)
 have hbig : ((sizeF fs : Int) > 20000 ∨ va > 20000) := by omega
 refine zsp <| zre <| zo1 (.int .i64 12) ?_
 have M16 := M5.od [] 0
 exact ⟨congrArg _ (valid_12 hbig), M16⟩
 have hbig : ¬ ((sizeF fs : Int) > 20000 ∨ va > 20000) := by omega
 refine zsk <| zsq <| zkp [(1, (pT b1 0))] ?_
 intro aC fr
 refine zdj (N := 106) (env0 := [(1, (pT b1 0))]) (specAt [.det (fA nm wk pa va A c fs), .det (fA nm wk pa va A c fs), Spec.free, Spec.free, Spec.free, Spec.free]) (fun ls vs w_ => match ls 5 with | true => (∃ (A17 : Option Addr) (c18 : Nat) (rows19 : List RowV) (b20 : Nat), vs 2 = (.slice A17 ((bsOf fs).length) c18) ∧ vs 3 = (.agg #[(.string nm), (.bool wk), (.int .i64 pa), (.int .i64 va), (.slice A ((bsOf fs).length) c), (.slice A17 ((bsOf fs).length) c18), (.pointer none), (.slice none 0 0)]) ∧ vs 4 = (pT b20 0) ∧ vs 5 = (pT b20 0) ∧ (FamOf (Value.int .i64) rows19 (allL (bsOf fs))) ∧ Mem noS w w_ [.blk b1 24 (fV nm wk pa va A c fs), .fam 3 rows19, .row 37 1 A17 ((bsOf fs).length) c18 (slv rows19), .blk b20 103 [(.string nm), (.bool wk), (.int .i64 pa), (.int .i64 va), (.slice A ((bsOf fs).length) c), (.slice A17 ((bsOf fs).length) c18), (.pointer none), (.slice none 0 0)]]) | false => (match ls 4 with | true => (∃ (A17 : Option Addr) (c18 : Nat) (rows19 : List RowV) (b20 : Nat), vs 2 = (.slice A17 ((bsOf fs).length) c18) ∧ vs 3 = (.agg #[(.string nm), (.bool wk), (.int .i64 pa), (.int .i64 va), (.slice A ((bsOf fs).length) c), (.slice A17 ((bsOf fs).length) c18), (.pointer none), (.slice none 0 0)]) ∧ vs 4 = (pT b20 0) ∧ (FamOf (Value.int .i64) rows19 (allL (bsOf fs))) ∧ Mem noS w w_ [.blk b1 24 (fV nm wk pa va A c fs), .fam 3 rows19, .row 37 1 A17 ((bsOf fs).length) c18 (slv rows19), .blk b20 103 [(.string nm), (.bool wk), (.int .i64 pa), (.int .i64 va), (.slice A ((bsOf fs).length) c), (.slice A17 ((bsOf fs).length) c18), (.pointer none), (.slice none 0 0)]]) | false => (match ls 3 with | true => (∃ (A17 : Option Addr) (c18 : Nat) (rows19 : List RowV), vs 2 = (.slice A17 ((bsOf fs).length) c18) ∧ vs 3 = (.agg #[(.string nm), (.bool wk), (.int .i64 pa), (.int .i64 va), (.slice A ((bsOf fs).length) c), (.slice A17 ((bsOf fs).length) c18), (.pointer none), (.slice none 0 0)]) ∧ (FamOf (Value.int .i64) rows19 (allL (bsOf fs))) ∧ Mem noS w w_ [.blk b1 24 (fV nm wk pa va A c fs), .fam 3 rows19, .row 37 1 A17 ((bsOf fs).length) c18 (slv rows19)]) | false => (match ls 2 with | true => (∃ (A17 : Option Addr) (c18 : Nat) (rows19 : List RowV), vs 2 = (.slice A17 ((bsOf fs).length) c18) ∧ (FamOf (Value.int .i64) rows19 (allL (bsOf fs))) ∧ Mem noS w w_ [.blk b1 24 (fV nm wk pa va A c fs), .fam 3 rows19, .row 37 1 A17 ((bsOf fs).length) c18 (slv rows19)]) | false => (Mem noS w w_ [.blk b1 24 (fV nm wk pa va A c fs)]))))) fr (plain_ok (.det (.det (.free (.free (.free (.free .nil))))))) (M5.then_ (Mem.drew _)) (la (la (la (la (la (la lz ?_) ?_) ?_) ?_) ?_) ?_) ?_
 intro aa_ w_ ls vs rest_ hJ hi_ hc_ hp hF
 refine okG (g0 := none) ?_
 replace hF : Fr aa_ 106 [(1, (pT b1 0))] := hF.kp [1]
 have f3 : ls 3 = false := notyet hc_ hi_ (n := 6) (by kernel_rfl)
 have f4 : ls 4 = false := notyet hc_ hi_ (n := 6) (by kernel_rfl)
 have f5 : ls 5 = false := notyet hc_ hi_ (n := 6) (by kernel_rfl)
 have hM_ := hJ
 simp only [f3, f4, f5] at hM_
 cases fu : ls 2
 simp only [fu] at hM_
 refine From_loadS (by kernel_rfl : coreAt _ 0 = some (some 15, (.load 24 (.tmp 1)), 24, none)) hF (by kernel_rfl) (by kernel_rfl) (k' := 1) rfl (ad := ⟨b1, 0, none⟩) (vs := (fV nm wk pa va A c fs)) (by kernel_rfl) (by kernel_rfl) (blk_cells (hM_.get 0 rfl)) ?_
 intro a2 ea _
 refine From_end (by kernel_rfl) ?_; exact op_doneJ (d := some 15) (by kernel_rfl) ea rfl hJ
 simp only [fu] at hM_
 obtain ⟨_, _, _, _, _, hM_⟩ := hM_
 refine From_loadS (by kernel_rfl : coreAt _ 0 = some (some 15, (.load 24 (.tmp 1)), 24, none)) hF (by kernel_rfl) (by kernel_rfl) (k' := 1) rfl (ad := ⟨b1, 0, none⟩) (vs := (fV nm wk pa va A c fs)) (by kernel_rfl) (by kernel_rfl) (blk_cells (hM_.get 0 rfl)) ?_
 intro a2 ea _
 refine From_end (by kernel_rfl) ?_; exact op_doneJ (d := some 15) (by kernel_rfl) ea rfl hJ
 intro aa_ w_ ls vs rest_ hJ hi_ hc_ hp hF
 refine okG (g0 := none) ?_
 replace hF : Fr aa_ 106 [(1, (pT b1 0))] := hF.kp [1]
 have f2 : ls 2 = false := notyet hc_ hi_ (n := 6) (by kernel_rfl)
 have f3 : ls 3 = false := notyet hc_ hi_ (n := 6) (by kernel_rfl)
 have f4 : ls 4 = false := notyet hc_ hi_ (n := 6) (by kernel_rfl)
 have f5 : ls 5 = false := notyet hc_ hi_ (n := 6) (by kernel_rfl)
 have hM_ := hJ
 simp only [f2, f3, f4, f5] at hM_
 refine From_loadS (by kernel_rfl : coreAt _ 0 = some (some 16, (.load 24 (.tmp 1)), 24, none)) hF (by kernel_rfl) (by kernel_rfl) (k' := 1) rfl (ad := ⟨b1, 0, none⟩) (vs := (fV nm wk pa va A c fs)) (by kernel_rfl) (by kernel_rfl) (blk_cells (hM_.get 0 rfl)) ?_
 intro a2 ea _
 refine From_end (by kernel_rfl) ?_; exact op_doneJ (d := some 16) (by kernel_rfl) ea rfl hJ
 intro aa_ w_ ls vs rest_ hJ hi_ hc_ hp hF
 refine okG (g0 := none) ?_
 replace hF : Fr aa_ 106 [(16, (fA nm wk pa va A c fs))] := hF.kp [16]
 have f2 : ls 2 = false := hi_
 have f3 : ls 3 = false := notyet hc_ hi_ (n := 6) (by kernel_rfl)
 have f4 : ls 4 = false := notyet hc_ hi_ (n := 6) (by kernel_rfl)
 have f5 : ls 5 = false := notyet hc_ hi_ (n := 6) (by kernel_rfl)
 have hM_ := hJ
 simp only [f2, f3, f4, f5] at hM_
 refine From_call (by kernel_rfl : coreAt _ 0 = some (some 17, (.call { callee := (.value (.func 78)), args := #[(.tmp 16)], argTypes := #[24] }), 57, none)) hF (by kernel_rfl) (by kernel_rfl) (k' := 1) rfl (f := 78) (vs := [(fA nm wk pa va A c fs)]) (cap := []) (by kernel_rfl) (by kernel_rfl) (by kernel_rfl) (all_c _ _ _ _ A c (bsOf fs) w_ hm (hB.at_ hM_)) ?_
 rintro _ w2 ⟨A17p, c18p, rows19p, rfl, hfrows19, hm2⟩ a2 ea _
 have hm3 := hM_.call hm2
 refine From_end (by kernel_rfl) ?_; refine op_doneJ (d := some 17) (by kernel_rfl) ea trivial ?_
 show match ls 5 with | true => _ | false => (match ls 4 with | true => _ | false => (match ls 3 with | true => _ | false => (∃ (A17 : Option Addr) (c18 : Nat) (rows19 : List RowV), _)))
 rw [f5, f4, f3]
 exact ⟨A17p, c18p, rows19p, rfl, hfrows19, hm3⟩
 intro aa_ w_ ls vs rest_ hJ hi_ hc_ hp hF
 refine okG (g0 := none) ?_
 replace hF : Fr aa_ 106 [(15, (fA nm wk pa va A c fs)), (17, vs 2)] := hF.kp [15, 17]
 have f2 : ls 2 = true := donebefore hc_ (fun k hk => (hp k hk).1) (n := 6) (by kernel_rfl)
 have f3 : ls 3 = false := hi_
 have f4 : ls 4 = false := notyet hc_ hi_ (n := 6) (by kernel_rfl)
 have f5 : ls 5 = false := notyet hc_ hi_ (n := 6) (by kernel_rfl)
 have hM_ := hJ
 simp only [f2, f3, f4, f5] at hM_
 obtain ⟨A17p, c18p, rows19p, e2_, hfrows19, hM_⟩ := hM_
 try rw [e2_] at hF
 have hm2 := hM_
 refine From_pure1 (by kernel_rfl : coreAt _ 0 = some (some 18, (.build 103 #[(0, (.tmp 15)), (1, (.tmp 17))]), 103, none)) hF (by kernel_rfl) (by kernel_rfl) (k' := 1) rfl (v := (.agg #[(.string nm), (.bool wk), (.int .i64 pa), (.int .i64 va), (.slice A ((bsOf fs).length) c), (.slice A17p ((bsOf fs).length) c18p), (.pointer none), (.slice none 0 0)])) (by kernel_rfl) ?_
 intro a2 ea _
 refine From_end (by kernel_rfl) ?_; refine op_doneJ (d := some 18) (by kernel_rfl) ea trivial ?_
 show match ls 5 with | true => _ | false => (match ls 4 with | true => _ | false => (∃ (A17 : Option Addr) (c18 : Nat) (rows19 : List RowV), _))
 rw [f5, f4]
 exact ⟨A17p, c18p, rows19p, e2_, rfl, hfrows19, hm2⟩
 intro aa_ w_ ls vs rest_ hJ hi_ hc_ hp hF
 refine okG (g0 := none) ?_
 replace hF : Fr aa_ 106 [(18, vs 3)] := hF.kp [18]
 have f2 : ls 2 = true := donebefore hc_ (fun k hk => (hp k hk).1) (n := 6) (by kernel_rfl)
 have f3 : ls 3 = true := donebefore hc_ (fun k hk => (hp k hk).1) (n := 6) (by kernel_rfl)
 have f4 : ls 4 = false := hi_
 have f5 : ls 5 = false := notyet hc_ hi_ (n := 6) (by kernel_rfl)
 have hM_ := hJ
 simp only [f2, f3, f4, f5] at hM_
 obtain ⟨A17p, c18p, rows19p, e2_, e3_, hfrows19, hM_⟩ := hM_
 try rw [e2_] at hF
 try rw [e3_] at hF
 refine From_box (by kernel_rfl : coreAt _ 0 = some (some 19, (.box 103 (.tmp 18)), 98, none)) hF (by kernel_rfl) (by kernel_rfl) (k' := 1) rfl (v := (.agg #[(.string nm), (.bool wk), (.int .i64 pa), (.int .i64 va), (.slice A ((bsOf fs).length) c), (.slice A17p ((bsOf fs).length) c18p), (.pointer none), (.slice none 0 0)])) (cs := [(.string nm), (.bool wk), (.int .i64 pa), (.int .i64 va), (.slice A ((bsOf fs).length) c), (.slice A17p ((bsOf fs).length) c18p), (.pointer none), (.slice none 0 0)]) (by kernel_rfl) rfl hM_ ?_
 intro b20p w2 _ _ hm2 _ a2 ea _
 refine From_end (by kernel_rfl) ?_; refine op_doneJ (d := some 19) (by kernel_rfl) ea trivial ?_
 show match ls 5 with | true => _ | false => (∃ (A17 : Option Addr) (c18 : Nat) (rows19 : List RowV) (b20 : Nat), _)
 rw [f5]
 exact ⟨A17p, c18p, rows19p, b20p, e2_, e3_, rfl, hfrows19, hm2⟩
 intro aa_ w_ ls vs rest_ hJ hi_ hc_ hp hF
 refine okG (g0 := none) ?_
 replace hF : Fr aa_ 106 [(19, vs 4)] := hF.kp [19]
 have f2 : ls 2 = true := donebefore hc_ (fun k hk => (hp k hk).1) (n := 6) (by kernel_rfl)
 have f3 : ls 3 = true := donebefore hc_ (fun k hk => (hp k hk).1) (n := 6) (by kernel_rfl)
 have f4 : ls 4 = true := donebefore hc_ (fun k hk => (hp k hk).1) (n := 6) (by kernel_rfl)
 have f5 : ls 5 = false := hi_
 have hM_ := hJ
 simp only [f2, f3, f4, f5] at hM_
 obtain ⟨A17p, c18p, rows19p, b20p, e2_, e3_, e4_, hfrows19, hM_⟩ := hM_
 try rw [e2_] at hF
 try rw [e3_] at hF
 try rw [e4_] at hF
 have hm2 := hM_
 refine From_pure1 (by kernel_rfl : coreAt _ 0 = some (some 3, (.assign (.tmp 19)), 98, none)) hF (by kernel_rfl) (by kernel_rfl) (k' := 1) rfl (v := (pT b20p 0)) (by kernel_rfl) ?_
 intro a2 ea _
 refine From_end (by kernel_rfl) ?_; refine op_doneJ (d := some 3) (by kernel_rfl) ea trivial ?_
 show ∃ (A17 : Option Addr) (c18 : Nat) (rows19 : List RowV) (b20 : Nat), _
 exact ⟨A17p, c18p, rows19p, b20p, e2_, e3_, e4_, rfl, hfrows19, hm2⟩
 intro aC w25 ls vs hall M26 hv fr
 simp only [show ls 5 = true from hall 5 (by decide)] at M26
 revert aC; refine zkp [(1, (pT b1 0)), (3, vs 5)] ?_
 obtain ⟨A17, c18, rows19, b20, e2_, e3_, e4_, e5_, hfrows19, M26⟩ := M26
 try rw [e2_]
 try rw [e3_]
 try rw [e4_]
 try rw [e5_]
 clear e2_ e3_ e4_ e5_
 clear hall hv fr aC M5; clear vs ls
 refine zsq <| zsq ?_
 obtain ⟨A0, c0, hr0⟩ : ∃ A0 c0, 0 < (bsOf fs).length → rows19[0]? = some ⟨A0, (srcs (bsOf fs) 0).length, c0, ints (srcs (bsOf fs) 0)⟩ := by
   by_cases h : 0 < (bsOf fs).length
   · obtain ⟨A0, c0, h2⟩ := hfrows19.get (allL_get (t := 0) h); exact ⟨A0, c0, fun _ => h2⟩
   · exact ⟨none, 0, fun h2 => absurd h2 h⟩
 have hsl0 := srcsTo_len (bsOf fs) 0 (bsOf fs).length
 have hol := orderL_len (bsOf fs)
 obtain ⟨Bnm, hBnm⟩ : ∃ B : Bool, B = decide (nameQ nm) := ⟨_, rfl⟩
 cases Bnm
 have cnm : (decide (nameQ nm)) = false := hBnm.symm
 refine zkp [(1, (pT b1 0)), (3, (pT b20 0))] ?_
 intro aC fr
 refine zdr (N := 106) (env0 := [(1, (pT b1 0)), (3, (pT b20 0))]) (specAt [.det (pT b1 0), .det (.string nm), .det (.bool false), .det (.bool true), .det (.bool true), dU, dU, dU, .det (.bool true), .det (.bool true), dU, dU, dU, .det (.bool true), .det (.bool true), dU, dU, dU, dU, dU, .det (.bool true), .det (.bool true), dU, dU, dU, dU, .det (.bool true), .det (.bool true), dU, dU, dU, dU, dU, dU, dU, dU, .det (.bool true), .det (.bool true), dU, dU, dU, dU, dU, dU, dU, .det (.bool true), .det (.bool true), dU, dU, dU, dU, dU, dU, dU, .det (.bool true)]) fr (la (la (la (la (la (la (la (la (la (la (la (la (la (la (la (la (la (la (la (la (la (la (la (la (la (la (la (la (la (la (la (la (la (la (la (la (la (la (la (la (la (la (la (la (la (la (la (la (la (la (la (la (la (la (la lz dP) (dL ⟨b1, 0, none⟩ (.string nm) fun w_ hK => (blk_cell ((M26.then_ hK).get 0 rfl) rfl))) (dD (fun w_ hK => name_c nm w_) (congrArg Value.bool hBnm.symm))) dP) dP) dK) dK) dK) dP) dP) dK) dK) dK) dP) dP) dK) dK) dK) dK) dK) dP) dP) dK) dK) dK) dK) dP) dP) dK) dK) dK) dK) dK) dK) dK) dK) dP) dP) dK) dK) dK) dK) dK) dK) dK) dP) dP) dK) dK) dK) dK) dK) dK) dK) dP) ?_
 intro aC w31 vs hK hv fr
 revert aC; refine zkp [(1, (pT b1 0)), (3, (pT b20 0)), (74, (.bool true))] ?_
 have M32 := M26.then_ hK
 clear hK hv fr aC M26; clear vs
 refine zcT <| zsp <| zre <| zo1 (.int .i64 4) ?_
 have M33 := M32.od [] 0
 exact ⟨congrArg _ (valid_4 hbig (fun h => absurd h.name (of_decide_eq_false cnm))), M33⟩
 have cnm : (decide (nameQ nm)) = true := hBnm.symm
 obtain ⟨Bp0, hBp0⟩ : ∃ B : Bool, B = decide (pa < 0) := ⟨_, rfl⟩
 cases Bp0
 have cp0 : ¬ (pa < 0) := of_decide_eq_false hBp0.symm
 obtain ⟨Bp16, hBp16⟩ : ∃ B : Bool, B = decide (pa > 16) := ⟨_, rfl⟩
 cases Bp16
 have cp16 : ¬ (pa > 16) := of_decide_eq_false hBp16.symm
 obtain ⟨Bpv, hBpv⟩ : ∃ B : Bool, B = decide (pa > va) := ⟨_, rfl⟩
 cases Bpv
 have cpv : ¬ (pa > va) := of_decide_eq_false hBpv.symm
 obtain ⟨Bl0, hBl0⟩ : ∃ B : Bool, B = ((((bsOf fs).length : Nat) : Int) == 0) := ⟨_, rfl⟩
 cases Bl0
 have cl0 : ¬ ((((bsOf fs).length : Nat) : Int) = 0) := zne hBl0
 obtain ⟨g34, rfl⟩ := row_some (M26.get 2 rfl) (by omega)
 obtain ⟨Bsr, hBsr⟩ : ∃ B : Bool, B = decide ((((srcs (bsOf fs) 0).length : Nat) : Int) > 0) := ⟨_, rfl⟩
 cases Bsr
 have csr : ¬ ((((srcs (bsOf fs) 0).length : Nat) : Int) > 0) := of_decide_eq_false hBsr.symm
 obtain ⟨x0, hx0⟩ := get_of (l := fs) (i := 0) (by omega)
 have hl0 : x0.phis.length ≤ 281474976710656 := (hok.get hx0).lp
 obtain ⟨ad35, rfl⟩ := blocks_some (M26.ro hB) (bsOf_get hx0)
 obtain ⟨Bph, hBph⟩ : ∃ B : Bool, B = decide (((x0.phis.length : Nat) : Int) > 0) := ⟨_, rfl⟩
 cases Bph
 have cph : ¬ (((x0.phis.length : Nat) : Int) > 0) := of_decide_eq_false hBph.symm
 obtain ⟨Bor, hBor⟩ : ∃ B : Bool, B = ((((orderL (bsOf fs)).length : Nat) : Int) != (((bsOf fs).length : Nat) : Int)) := ⟨_, rfl⟩
 refine zkp [(1, (pT b1 0)), (3, (pT b20 0))] ?_
 intro aC fr
 refine zdr (N := 106) (env0 := [(1, (pT b1 0)), (3, (pT b20 0))]) (specAt [.det (pT b1 0), .det (.string nm), .det (.bool true), .det (.bool false), .det (.bool false), .det (pT b1 2), .det (.int .i64 pa), .det (.bool false), .det (.bool false), .det (.bool false), .det (pT b1 2), .det (.int .i64 pa), .det (.bool false), .det (.bool false), .det (.bool false), .det (pT b1 2), .det (.int .i64 pa), .det (pT b1 3), .det (.int .i64 va), .det (.bool false), .det (.bool false), .det (.bool false), .det (pT b1 4), .det (.slice (some ad35) ((bsOf fs).length) c), .det (.int .i64 (((bsOf fs).length : Nat) : Int)), .det (.bool false), .det (.bool false), .det (.bool false), .det (pT b20 0), .det (pT b20 0), .det (pT b20 5), .det (.slice (sM g34) ((bsOf fs).length) c18), .det (.pointer (some ((⟨g34, 0, none⟩ : Addr).add ((0 : Int).toNat * 1)))), .det (.slice A0 ((srcs (bsOf fs) 0).length) c0), .det (.int .i64 (((srcs (bsOf fs) 0).length : Nat) : Int)), .det (.bool false), .det (.bool false), .det (.bool false), .det (pT b1 4), .det (.slice (some ad35) ((bsOf fs).length) c), .det (.pointer (some ((ad35 : Addr).add ((0 : Int).toNat * 6)))), .det (.pointer (some ((ad35 : Addr).add ((0 : Int).toNat * 6)))), .det (.slice x0.pA x0.phis.length x0.pc), .det (.int .i64 ((x0.phis.length : Nat) : Int)), .det (.bool false), .det (.bool false), .det (.bool false), .det (fA nm wk pa va (some ad35) c fs), .sl (orderL (bsOf fs)).length (ints (orderL (bsOf fs))), .det (.int .i64 (((orderL (bsOf fs)).length : Nat) : Int)), .det (pT b1 4), .det (.slice (some ad35) ((bsOf fs).length) c), .det (.int .i64 (((bsOf fs).length : Nat) : Int)), .det (.bool Bor), .det (.bool Bor)]) fr (la (la (la (la (la (la (la (la (la (la (la (la (la (la (la (la (la (la (la (la (la (la (la (la (la (la (la (la (la (la (la (la (la (la (la (la (la (la (la (la (la (la (la (la (la (la (la (la (la (la (la (la (la (la (la lz dP) (dL ⟨b1, 0, none⟩ (.string nm) fun w_ hK => (blk_cell ((M26.then_ hK).get 0 rfl) rfl))) (dD (fun w_ hK => name_c nm w_) (congrArg Value.bool hBnm.symm))) dP) dP) dP) (dL ⟨b1, 2, none⟩ (.int .i64 pa) fun w_ hK => (blk_cell ((M26.then_ hK).get 0 rfl) rfl))) (dC (decide (pa < 0)) hBp0)) dP) dP) dP) (dL ⟨b1, 2, none⟩ (.int .i64 pa) fun w_ hK => (blk_cell ((M26.then_ hK).get 0 rfl) rfl))) (dC (decide (pa > 16)) hBp16)) dP) dP) dP) (dL ⟨b1, 2, none⟩ (.int .i64 pa) fun w_ hK => (blk_cell ((M26.then_ hK).get 0 rfl) rfl))) dP) (dL ⟨b1, 3, none⟩ (.int .i64 va) fun w_ hK => (blk_cell ((M26.then_ hK).get 0 rfl) rfl))) (dC (decide (pa > va)) hBpv)) dP) dP) dP) (dL ⟨b1, 4, none⟩ (.slice (some ad35) ((bsOf fs).length) c) fun w_ hK => (blk_cell ((M26.then_ hK).get 0 rfl) rfl))) dP) (dC ((((bsOf fs).length : Nat) : Int) == 0) hBl0)) dP) dP) dP) dP) dP) (dL ⟨b20, 5, none⟩ (.slice (sM g34) ((bsOf fs).length) c18) fun w_ hK => (blk_cell ((M26.then_ hK).get 3 rfl) rfl))) (dI ⟨g34, 0, none⟩ ((bsOf fs).length) 1 0)) (dL ((⟨g34, 0, none⟩ : Addr).add ((0 : Int).toNat * 1)) (.slice A0 ((srcs (bsOf fs) 0).length) c0) fun w_ hK => (rd_get1 (row_rd ((M26.then_ hK).get 2 rfl)) rfl (slv_get (hr0 (by omega)))))) dP) (dC (decide ((((srcs (bsOf fs) 0).length : Nat) : Int) > 0)) hBsr)) dP) dP) dP) (dL ⟨b1, 4, none⟩ (.slice (some ad35) ((bsOf fs).length) c) fun w_ hK => (blk_cell ((M26.then_ hK).get 0 rfl) rfl))) (dI ad35 ((bsOf fs).length) 6 0)) dP) (dL ((ad35 : Addr).add ((0 : Int).toNat * 6)) (.slice x0.pA x0.phis.length x0.pc) fun w_ hK => (fblk_get ((M26.then_ hK).ro hB) rfl hx0 0 _ rfl))) dP) (dC (decide (((x0.phis.length : Nat) : Int) > 0)) hBph)) dP) dP) (dS ⟨b1, 0, none⟩ (fV nm wk pa va (some ad35) c fs) fun w_ hK => (blk_cells ((M26.then_ hK).get 0 rfl)))) ?_) ?_) dP) (dL ⟨b1, 4, none⟩ (.slice (some ad35) ((bsOf fs).length) c) fun w_ hK => (blk_cell ((M26.then_ hK).get 0 rfl) rfl))) dP) (dC ((((orderL (bsOf fs)).length : Nat) : Int) != (((bsOf fs).length : Nat) : Int)) hBor)) dP) ?_
 intro aa_ w_ vs rest_ hK hp hF
 refine ⟨true, opok_guard (g0 := some (46, false)) (by kernel_rfl) (by kernel_rfl), fun _ => ?_, fun h => Bool.noConfusion h⟩
 replace hF : Fr aa_ 106 [(66, (.bool false)), (67, (fA nm wk pa va (some ad35) c fs))] := hF.kp [66, 67]
 refine From_call (by kernel_rfl : coreAt _ 0 = some (some 68, (.call { callee := (.value (.func 80)), args := #[(.tmp 67)], argTypes := #[24] }), 37, none)) hF (by kernel_rfl) (by kernel_rfl) (k' := 1) rfl (f := 80) (vs := [(fA nm wk pa va (some ad35) c fs)]) (cap := []) (by kernel_rfl) (by kernel_rfl) (by kernel_rfl) (order_c _ _ _ _ (some ad35) c (bsOf fs) w_ hm (hB.at_ (M26.then_ hK))) ?_
 rintro _ w2 ⟨A36, c37, rfl, hm_⟩ a2 ea _
 refine From_end (by kernel_rfl) ?_; exact op_done (d := some 68) (by kernel_rfl) ea hm_.kp ⟨_, _, rfl, row_rd (hm_.get 0 rfl)⟩
 intro aa_ w_ vs rest_ hK hp hF
 refine ⟨true, opok_guard (g0 := some (46, false)) (by kernel_rfl) (by kernel_rfl), fun _ => ?_, fun h => Bool.noConfusion h⟩
 replace hF : Fr aa_ 106 [(66, (.bool false)), (68, vs 48)] := hF.kp [66, 68]
 obtain ⟨A36, c37, e48, r48⟩ := hp 48 (mem_preds (by kernel_rfl))
 rw [e48] at hF
 refine From_pure1 (by kernel_rfl : coreAt _ 0 = some (some 69, (.call { callee := (.builtin .len), args := #[(.tmp 68)], argTypes := #[37] }), 3, none)) hF (by kernel_rfl) (by kernel_rfl) (k' := 1) rfl (v := (.int .i64 (((orderL (bsOf fs)).length : Nat) : Int))) (by kernel_rfl) ?_
 intro a2 ea _
 refine From_end (by kernel_rfl) ?_; exact op_done (d := some 69) (by kernel_rfl) ea (Kp.refl _) rfl
 intro aC w42 vs hK hv fr
 revert aC; refine zkp [(1, (pT b1 0)), (3, (pT b20 0)), (74, (.bool Bor))] ?_
 have M43 := M26.then_ hK
 clear hK hv fr aC M26; clear vs
 have iBor : Bor = true ↔ (((((orderL (bsOf fs)).length : Nat) : Int) : Int) ≠ (((bsOf fs).length : Nat) : Int)) := by rw [hBor]; simp only [bne_iff_ne]
 clear hBor
 refine zcP Bor (((((orderL (bsOf fs)).length : Nat) : Int) : Int) ≠ (((bsOf fs).length : Nat) : Int)) iBor (fun c44 => ?_) (fun c44 => ?_)
 refine zsp <| zre <| zo1 (.int .i64 4) ?_
 have M45 := M43.od [] 0
 exact ⟨congrArg _ (valid_4 hbig (fun h => by have := h.all; omega)), M45⟩
 refine zsk <| zsq <| zsr ?_
 have hnmQ : nameQ nm := of_decide_eq_true cnm
 have hpos : 0 < fs.length := by omega
 have hparQ : 0 ≤ pa ∧ pa ≤ 16 ∧ pa ≤ va := by omega
 have hsrc0 : (srcs (bsOf fs) 0).length = 0 := by omega
 have hph0 : x0.phis.length = 0 := by omega
 have hord : (orderL (bsOf fs)).length = fs.length := by omega
 obtain ⟨n, hva⟩ : ∃ n : Nat, va = (n : Int) := ⟨va.toNat, by omega⟩
 have M46 := M43.od [3, 3, 3, 3] 4
 refine zpn 1 <| zld ⟨b1, 4, none⟩ (.slice (some ad35) ((bsOf fs).length) c) (blk_cell (M46.get 0 rfl) rfl) <| zpn 2 <| zfe <| zbk 0 ?_
 intro aC fr
 refine zlp (fun n_ a_ w_ => ∃ (m : Nat), n_ = fs.length - m ∧ Fr a_ 106 [(1, (pT b1 0)), (3, (pT b20 0)), (76, (.slice (some ad35) ((bsOf fs).length) c)), (77, (.int .i64 (((bsOf fs).length : Nat) : Int))), (78, (nV m))] ∧ Mem noS w w_ [.blk b1 24 (fV nm wk pa va (some ad35) c fs), .fam 3 rows19, .row 37 1 (sM g34) ((bsOf fs).length) c18 (slv rows19), .blk b20 103 [(.string nm), (.bool wk), (.int .i64 pa), (.int .i64 va), (.slice (some ad35) ((bsOf fs).length) c), (.slice (sM g34) ((bsOf fs).length) c18), (.pointer none), (.slice none 0 0)]] ∧ (m ≤ fs.length) ∧ (∀ (i : Nat) (x : FBlk), i < m → fs[i]? = some x → endsS ((bsOf fs).length : Int) x)) (n := _) ⟨0, rfl, fr.kp [1, 3, 76, 77, 78], M46, by omega, fun _ _ h => absurd h (Nat.not_lt_zero _)⟩ ?_
 clear fr aC M46; rintro n aC w49 ⟨m, rfl, fr, M50, hm1, hen⟩
 revert aC
 refine zsp <| zsq <| zcD (((m : Int) : Int) < (((bsOf fs).length : Nat) : Int)) (fun c53 => ?_) (fun c53 => ?_)
 refine zsk <| zsq <| zbk 1 <| zsr ?_
 obtain ⟨x, hx⟩ := get_of (l := fs) (i := m) (by omega)
 have hl1 : x.phis.length ≤ 281474976710656 := (hok.get hx).lp
 have hl2 : x.insts.length ≤ 281474976710656 := (hok.get hx).li
 refine zix ad35 ((bsOf fs).length) 6 (m : Int) <| zls ((ad35 : Addr).add (((m : Int)).toNat * 6)) (xV x) (fblk_get (M50.ro hB) rfl hx) <| zal M50 36 [(.slice none 0 0), (.slice none 0 0), (.int .i64 0), (.int .i64 0), (.int .i64 0), (.int .i64 0)] fun b54 w55 hb54 M56 => ?_
 replace M56 := M56.nf
 refine zss M56 4 (xV x) rfl fun w57 M58 => ?_
 replace M58 := M58.nf
 refine zfe <| zsr <| zpn 1 <| zls ⟨b54, 0, none⟩ (xV x) (blk_cells (M58.get 4 rfl)) <| zcl (vs := #[(pT b20 0), (xA x)]) (ends_c b20 (bsOf fs).length _ _ _ _ _ _ _ _ _ x w57 (M58.own_ro 3 rfl)) ?_
 rintro _ w59 ⟨rfl, M60x⟩
 have M60 := M58.cl M60x
 refine zpn 1 <| zfe <| zcP (!(decide (endsS ((bsOf fs).length : Int) x))) (¬ (endsS ((bsOf fs).length : Int) x)) (by simp only [notT, decide_eq_true_eq]) (fun c61 => ?_) (fun c61 => ?_)
 refine zsp <| zre <| zbr <| zbr <| zo1 (.int .i64 4) ?_
 have M62 := M60.od [] 0
 exact ⟨congrArg _ (valid_4 hbig (fun h => c61 (by rw [hbl]; exact ends_sr h x (List.mem_of_getElem? hx)))), M62⟩
 have heq := Classical.not_not.1 c61
 refine zsk <| zrg <| zar ((m : Int) + 1) <| zpn 1 <| zfe ?_
 intro aC fr
 exact ⟨fs.length - (m + 1), by omega, m + 1, rfl, fr.kp [1, 3, 76, 77, 78], (M60.tk 4), by omega, ends_next hen hx heq⟩
 refine zex 0 <| zbh <| zsq <| zsr <| zpn 1 <| zcl (values_c b20 n (.string nm) (.bool wk) pa va (.slice (sM g34) ((bsOf fs).length) c18) (.pointer none) (.slice none 0 0) (some ad35) c fs w49 hN hok hva (by omega) (by omega) (hA.but M50 3 rfl) (M50.get 3 rfl)) ?_
 rintro _ w65 ⟨Bv, gm, l, rfl, hBv, htab, M66x⟩
 have M66 := M50.md 3 rfl M66x
 refine zpn 1 <| zfe <| zcP (!Bv) (¬ (Bv = true)) (by simp only [notT]) (fun c67 => ?_) (fun c67 => ?_)
 replace c67 : Bv = false := Bool.eq_false_iff.2 c67
 refine zsp <| zre <| zo1 (.int .i64 4) ?_
 have M68 := M66.od [] 0
 exact ⟨congrArg _ (valid_4 hbig (fun h => Bool.false_ne_true (c67.symm.trans (hBv.2 h.vals)))), M68⟩
 replace c67 : Bv = true := Classical.not_not.1 c67
 have hvq := hBv.1 c67
 refine zsk <| zsr <| zpn 1 <| zls ⟨b1, 0, none⟩ (fV nm wk pa va (some ad35) c fs) (blk_cells (M66.get 0 rfl)) <| zcl (vs := #[(fA nm wk pa va (some ad35) c fs)]) (newtree_c _ _ _ _ (some ad35) c (bsOf fs) w65 hm (hB.at_ M66) (by omega)) ?_
 rintro _ w69 ⟨up, qt, gi, go, nT, insL, outL, f, g, rfl, hfu, hfin, hin, hout, M70x⟩
 have M70 := M66.cl M70x
 refine zpn 2 <| zsb (ho := (by simp)) M70 3 6 (pT qt 0) rfl fun w71 M72 => ?_
 replace M72 := M72.nf
 refine zfe <| zsq <| zsr ?_
 have hag := agree_ssa hpos hord hfu hfin (by omega)
 refine zpn 1 <| zld ⟨b1, 4, none⟩ (.slice (some ad35) ((bsOf fs).length) c) (blk_cell (M72.get 0 rfl) rfl) <| zpn 2 <| zfe <| zbk 2 ?_
 intro aC fr
 refine zlp (fun n_ a_ w_ => ∃ (k : Nat), n_ = fs.length - k ∧ Fr a_ 106 [(3, (pT b20 0)), (97, (.int .i64 (((bsOf fs).length : Nat) : Int))), (98, (nV k))] ∧ Mem noS w w_ [.blk b1 24 (fV nm wk pa va (some ad35) c fs), .fam 3 rows19, .row 37 1 (sM g34) ((bsOf fs).length) c18 (slv rows19), .blk b20 103 [(.string nm), (.bool wk), (.int .i64 pa), (.int .i64 va), (.slice (some ad35) ((bsOf fs).length) c), (.slice (sM g34) ((bsOf fs).length) c18), (pT qt 0), (.slice (sM gm) n n)], .row 141 2 (sM gm) n n (mdc l), .blk qt 146 [(.slice (sM gi) ((bsOf fs).length) ((bsOf fs).length)), (.slice (sM go) ((bsOf fs).length) ((bsOf fs).length))], .row 3 1 (sM gi) ((bsOf fs).length) ((bsOf fs).length) (ints insL), .row 3 1 (sM go) ((bsOf fs).length) ((bsOf fs).length) (ints outL)] ∧ (k ≤ fs.length) ∧ (∀ j, j < k → readsQ (standQ f g) (endS fs) finS pa va fs j)) (n := _) ⟨0, rfl, fr.kp [3, 97, 98], M72, by omega, fun _ h => absurd h (Nat.not_lt_zero _)⟩ ?_
 clear fr aC M72; rintro n aC w75 ⟨k, rfl, fr, M76, hk, hrd⟩
 revert aC
 refine zsp <| zsq <| zcD (((k : Int) : Int) < (((bsOf fs).length : Nat) : Int)) (fun c79 => ?_) (fun c79 => ?_)
 refine zsk <| zsq <| zbk 3 <| zsp <| zsr <| zpn 2 <| zcl (reads_c b20 gm qt gi go g34 n k c18 (.string nm) (.bool wk) pa va ad35 c fs l insL outL f g rows19 w75 hN (by omega) hok (hA.at_ M76) (M76.own_ro 3 rfl) (M76.own_ro 4 rfl) (M76.own_ro 5 rfl) (M76.own_ro 6 rfl) (M76.own_ro 7 rfl) hin hout (M76.own_ro 1 rfl) (M76.own_ro 2 rfl) hfrows19 hva (htab hvq)) ?_
 rintro _ w80 ⟨rfl, M81x⟩
 have M81 := M76.cl M81x
 refine zpn 1 <| zfe <| zcP (!(decide (readsQ (standQ f g) (endS fs) finS pa va fs k))) (¬ (readsQ (standQ f g) (endS fs) finS pa va fs k)) (by simp only [notT, decide_eq_true_eq]) (fun c82 => ?_) (fun c82 => ?_)
 refine zsp <| zre <| zbr <| zbr <| zo1 (.int .i64 4) ?_
 have M83 := M81.od [] 0
 exact ⟨congrArg _ (valid_4 hbig (fun h => c82 (hag.symm.readsQ (fun x hx hR => (fin_sr (hen _ x (by have := (List.getElem?_eq_some_iff.1 hx).1; omega) hx)).2 hR) (h.reads k (by omega))))), M83⟩
 have hrq := Classical.not_not.1 c82
 refine zsk <| zrg <| zar ((k : Int) + 1) <| zpn 1 <| zfe ?_
 intro aC fr
 exact ⟨fs.length - (k + 1), by omega, k + 1, rfl, fr.kp [3, 97, 98], M81, by omega, lt_succ_cases hrd hrq⟩
 refine zex 2 <| zbh <| zsp <| zre <| zo1 (.int .i64 0) ?_
 have M86 := M76.od [] 0
 exact ⟨congrArg _ (valid_0 hbig ⟨hnmQ, hparQ, hpos, fun x hx => by rw [hx0] at hx; injection hx with hx; subst hx; exact hph0, hsrc0, hord, fun x hx => by obtain ⟨i, hi⟩ := List.mem_iff_getElem?.1 hx; have := (hen i x (by have := (List.getElem?_eq_some_iff.1 hi).1; omega) hi).1; rwa [hbl] at this, hvq, fun j hj => hag.readsQ (fun x hx hR => (fin_sr (hen _ x (by have := (List.getElem?_eq_some_iff.1 hx).1; omega) hx)).1 hR) (hrd j (by omega))⟩), M86⟩
 have cph : ((x0.phis.length : Nat) : Int) > 0 := of_decide_eq_true hBph.symm
 refine zkp [(1, (pT b1 0)), (3, (pT b20 0))] ?_
 intro aC fr
 refine zdr (N := 106) (env0 := [(1, (pT b1 0)), (3, (pT b20 0))]) (specAt [.det (pT b1 0), .det (.string nm), .det (.bool true), .det (.bool false), .det (.bool false), .det (pT b1 2), .det (.int .i64 pa), .det (.bool false), .det (.bool false), .det (.bool false), .det (pT b1 2), .det (.int .i64 pa), .det (.bool false), .det (.bool false), .det (.bool false), .det (pT b1 2), .det (.int .i64 pa), .det (pT b1 3), .det (.int .i64 va), .det (.bool false), .det (.bool false), .det (.bool false), .det (pT b1 4), .det (.slice (some ad35) ((bsOf fs).length) c), .det (.int .i64 (((bsOf fs).length : Nat) : Int)), .det (.bool false), .det (.bool false), .det (.bool false), .det (pT b20 0), .det (pT b20 0), .det (pT b20 5), .det (.slice (sM g34) ((bsOf fs).length) c18), .det (.pointer (some ((⟨g34, 0, none⟩ : Addr).add ((0 : Int).toNat * 1)))), .det (.slice A0 ((srcs (bsOf fs) 0).length) c0), .det (.int .i64 (((srcs (bsOf fs) 0).length : Nat) : Int)), .det (.bool false), .det (.bool false), .det (.bool false), .det (pT b1 4), .det (.slice (some ad35) ((bsOf fs).length) c), .det (.pointer (some ((ad35 : Addr).add ((0 : Int).toNat * 6)))), .det (.pointer (some ((ad35 : Addr).add ((0 : Int).toNat * 6)))), .det (.slice x0.pA x0.phis.length x0.pc), .det (.int .i64 ((x0.phis.length : Nat) : Int)), .det (.bool true), .det (.bool true), .det (.bool true), dU, dU, dU, dU, dU, dU, dU, .det (.bool true)]) fr (la (la (la (la (la (la (la (la (la (la (la (la (la (la (la (la (la (la (la (la (la (la (la (la (la (la (la (la (la (la (la (la (la (la (la (la (la (la (la (la (la (la (la (la (la (la (la (la (la (la (la (la (la (la (la lz dP) (dL ⟨b1, 0, none⟩ (.string nm) fun w_ hK => (blk_cell ((M26.then_ hK).get 0 rfl) rfl))) (dD (fun w_ hK => name_c nm w_) (congrArg Value.bool hBnm.symm))) dP) dP) dP) (dL ⟨b1, 2, none⟩ (.int .i64 pa) fun w_ hK => (blk_cell ((M26.then_ hK).get 0 rfl) rfl))) (dC (decide (pa < 0)) hBp0)) dP) dP) dP) (dL ⟨b1, 2, none⟩ (.int .i64 pa) fun w_ hK => (blk_cell ((M26.then_ hK).get 0 rfl) rfl))) (dC (decide (pa > 16)) hBp16)) dP) dP) dP) (dL ⟨b1, 2, none⟩ (.int .i64 pa) fun w_ hK => (blk_cell ((M26.then_ hK).get 0 rfl) rfl))) dP) (dL ⟨b1, 3, none⟩ (.int .i64 va) fun w_ hK => (blk_cell ((M26.then_ hK).get 0 rfl) rfl))) (dC (decide (pa > va)) hBpv)) dP) dP) dP) (dL ⟨b1, 4, none⟩ (.slice (some ad35) ((bsOf fs).length) c) fun w_ hK => (blk_cell ((M26.then_ hK).get 0 rfl) rfl))) dP) (dC ((((bsOf fs).length : Nat) : Int) == 0) hBl0)) dP) dP) dP) dP) dP) (dL ⟨b20, 5, none⟩ (.slice (sM g34) ((bsOf fs).length) c18) fun w_ hK => (blk_cell ((M26.then_ hK).get 3 rfl) rfl))) (dI ⟨g34, 0, none⟩ ((bsOf fs).length) 1 0)) (dL ((⟨g34, 0, none⟩ : Addr).add ((0 : Int).toNat * 1)) (.slice A0 ((srcs (bsOf fs) 0).length) c0) fun w_ hK => (rd_get1 (row_rd ((M26.then_ hK).get 2 rfl)) rfl (slv_get (hr0 (by omega)))))) dP) (dC (decide ((((srcs (bsOf fs) 0).length : Nat) : Int) > 0)) hBsr)) dP) dP) dP) (dL ⟨b1, 4, none⟩ (.slice (some ad35) ((bsOf fs).length) c) fun w_ hK => (blk_cell ((M26.then_ hK).get 0 rfl) rfl))) (dI ad35 ((bsOf fs).length) 6 0)) dP) (dL ((ad35 : Addr).add ((0 : Int).toNat * 6)) (.slice x0.pA x0.phis.length x0.pc) fun w_ hK => (fblk_get ((M26.then_ hK).ro hB) rfl hx0 0 _ rfl))) dP) (dC (decide (((x0.phis.length : Nat) : Int) > 0)) hBph)) dP) dP) dK) dK) dK) dK) dK) dK) dK) dP) ?_
 intro aC w91 vs hK hv fr
 revert aC; refine zkp [(1, (pT b1 0)), (3, (pT b20 0)), (74, (.bool true))] ?_
 have M92 := M26.then_ hK
 clear hK hv fr aC M26; clear vs
 refine zcT <| zsp <| zre <| zo1 (.int .i64 4) ?_
 have M93 := M92.od [] 0
 exact ⟨congrArg _ (valid_4 hbig (fun h => by have := h.phis x0 hx0; omega)), M93⟩
 have csr : (((srcs (bsOf fs) 0).length : Nat) : Int) > 0 := of_decide_eq_true hBsr.symm
 refine zkp [(1, (pT b1 0)), (3, (pT b20 0))] ?_
 intro aC fr
 refine zdr (N := 106) (env0 := [(1, (pT b1 0)), (3, (pT b20 0))]) (specAt [.det (pT b1 0), .det (.string nm), .det (.bool true), .det (.bool false), .det (.bool false), .det (pT b1 2), .det (.int .i64 pa), .det (.bool false), .det (.bool false), .det (.bool false), .det (pT b1 2), .det (.int .i64 pa), .det (.bool false), .det (.bool false), .det (.bool false), .det (pT b1 2), .det (.int .i64 pa), .det (pT b1 3), .det (.int .i64 va), .det (.bool false), .det (.bool false), .det (.bool false), .det (pT b1 4), .det (.slice A ((bsOf fs).length) c), .det (.int .i64 (((bsOf fs).length : Nat) : Int)), .det (.bool false), .det (.bool false), .det (.bool false), .det (pT b20 0), .det (pT b20 0), .det (pT b20 5), .det (.slice (sM g34) ((bsOf fs).length) c18), .det (.pointer (some ((⟨g34, 0, none⟩ : Addr).add ((0 : Int).toNat * 1)))), .det (.slice A0 ((srcs (bsOf fs) 0).length) c0), .det (.int .i64 (((srcs (bsOf fs) 0).length : Nat) : Int)), .det (.bool true), .det (.bool true), .det (.bool true), dU, dU, dU, dU, dU, dU, dU, .det (.bool true), .det (.bool true), dU, dU, dU, dU, dU, dU, dU, .det (.bool true)]) fr (la (la (la (la (la (la (la (la (la (la (la (la (la (la (la (la (la (la (la (la (la (la (la (la (la (la (la (la (la (la (la (la (la (la (la (la (la (la (la (la (la (la (la (la (la (la (la (la (la (la (la (la (la (la (la lz dP) (dL ⟨b1, 0, none⟩ (.string nm) fun w_ hK => (blk_cell ((M26.then_ hK).get 0 rfl) rfl))) (dD (fun w_ hK => name_c nm w_) (congrArg Value.bool hBnm.symm))) dP) dP) dP) (dL ⟨b1, 2, none⟩ (.int .i64 pa) fun w_ hK => (blk_cell ((M26.then_ hK).get 0 rfl) rfl))) (dC (decide (pa < 0)) hBp0)) dP) dP) dP) (dL ⟨b1, 2, none⟩ (.int .i64 pa) fun w_ hK => (blk_cell ((M26.then_ hK).get 0 rfl) rfl))) (dC (decide (pa > 16)) hBp16)) dP) dP) dP) (dL ⟨b1, 2, none⟩ (.int .i64 pa) fun w_ hK => (blk_cell ((M26.then_ hK).get 0 rfl) rfl))) dP) (dL ⟨b1, 3, none⟩ (.int .i64 va) fun w_ hK => (blk_cell ((M26.then_ hK).get 0 rfl) rfl))) (dC (decide (pa > va)) hBpv)) dP) dP) dP) (dL ⟨b1, 4, none⟩ (.slice A ((bsOf fs).length) c) fun w_ hK => (blk_cell ((M26.then_ hK).get 0 rfl) rfl))) dP) (dC ((((bsOf fs).length : Nat) : Int) == 0) hBl0)) dP) dP) dP) dP) dP) (dL ⟨b20, 5, none⟩ (.slice (sM g34) ((bsOf fs).length) c18) fun w_ hK => (blk_cell ((M26.then_ hK).get 3 rfl) rfl))) (dI ⟨g34, 0, none⟩ ((bsOf fs).length) 1 0)) (dL ((⟨g34, 0, none⟩ : Addr).add ((0 : Int).toNat * 1)) (.slice A0 ((srcs (bsOf fs) 0).length) c0) fun w_ hK => (rd_get1 (row_rd ((M26.then_ hK).get 2 rfl)) rfl (slv_get (hr0 (by omega)))))) dP) (dC (decide ((((srcs (bsOf fs) 0).length : Nat) : Int) > 0)) hBsr)) dP) dP) dK) dK) dK) dK) dK) dK) dK) dP) dP) dK) dK) dK) dK) dK) dK) dK) dP) ?_
 intro aC w98 vs hK hv fr
 revert aC; refine zkp [(1, (pT b1 0)), (3, (pT b20 0)), (74, (.bool true))] ?_
 have M99 := M26.then_ hK
 clear hK hv fr aC M26; clear vs
 refine zcT <| zsp <| zre <| zo1 (.int .i64 4) ?_
 have M100 := M99.od [] 0
 exact ⟨congrArg _ (valid_4 hbig (fun h => by have := h.src; omega)), M100⟩
 have cl0 : (((bsOf fs).length : Nat) : Int) = 0 := beq_iff_eq.1 hBl0.symm
 refine zkp [(1, (pT b1 0)), (3, (pT b20 0))] ?_
 intro aC fr
 refine zdr (N := 106) (env0 := [(1, (pT b1 0)), (3, (pT b20 0))]) (specAt [.det (pT b1 0), .det (.string nm), .det (.bool true), .det (.bool false), .det (.bool false), .det (pT b1 2), .det (.int .i64 pa), .det (.bool false), .det (.bool false), .det (.bool false), .det (pT b1 2), .det (.int .i64 pa), .det (.bool false), .det (.bool false), .det (.bool false), .det (pT b1 2), .det (.int .i64 pa), .det (pT b1 3), .det (.int .i64 va), .det (.bool false), .det (.bool false), .det (.bool false), .det (pT b1 4), .det (.slice A ((bsOf fs).length) c), .det (.int .i64 (((bsOf fs).length : Nat) : Int)), .det (.bool true), .det (.bool true), .det (.bool true), dU, dU, dU, dU, dU, dU, dU, dU, .det (.bool true), .det (.bool true), dU, dU, dU, dU, dU, dU, dU, .det (.bool true), .det (.bool true), dU, dU, dU, dU, dU, dU, dU, .det (.bool true)]) fr (la (la (la (la (la (la (la (la (la (la (la (la (la (la (la (la (la (la (la (la (la (la (la (la (la (la (la (la (la (la (la (la (la (la (la (la (la (la (la (la (la (la (la (la (la (la (la (la (la (la (la (la (la (la (la lz dP) (dL ⟨b1, 0, none⟩ (.string nm) fun w_ hK => (blk_cell ((M26.then_ hK).get 0 rfl) rfl))) (dD (fun w_ hK => name_c nm w_) (congrArg Value.bool hBnm.symm))) dP) dP) dP) (dL ⟨b1, 2, none⟩ (.int .i64 pa) fun w_ hK => (blk_cell ((M26.then_ hK).get 0 rfl) rfl))) (dC (decide (pa < 0)) hBp0)) dP) dP) dP) (dL ⟨b1, 2, none⟩ (.int .i64 pa) fun w_ hK => (blk_cell ((M26.then_ hK).get 0 rfl) rfl))) (dC (decide (pa > 16)) hBp16)) dP) dP) dP) (dL ⟨b1, 2, none⟩ (.int .i64 pa) fun w_ hK => (blk_cell ((M26.then_ hK).get 0 rfl) rfl))) dP) (dL ⟨b1, 3, none⟩ (.int .i64 va) fun w_ hK => (blk_cell ((M26.then_ hK).get 0 rfl) rfl))) (dC (decide (pa > va)) hBpv)) dP) dP) dP) (dL ⟨b1, 4, none⟩ (.slice A ((bsOf fs).length) c) fun w_ hK => (blk_cell ((M26.then_ hK).get 0 rfl) rfl))) dP) (dC ((((bsOf fs).length : Nat) : Int) == 0) hBl0)) dP) dP) dK) dK) dK) dK) dK) dK) dK) dK) dP) dP) dK) dK) dK) dK) dK) dK) dK) dP) dP) dK) dK) dK) dK) dK) dK) dK) dP) ?_
 intro aC w105 vs hK hv fr
 revert aC; refine zkp [(1, (pT b1 0)), (3, (pT b20 0)), (74, (.bool true))] ?_
 have M106 := M26.then_ hK
 clear hK hv fr aC M26; clear vs
 refine zcT <| zsp <| zre <| zo1 (.int .i64 4) ?_
 have M107 := M106.od [] 0
 exact ⟨congrArg _ (valid_4 hbig (fun h => by have := h.pos; omega)), M107⟩
 have cpv : pa > va := of_decide_eq_true hBpv.symm
 refine zkp [(1, (pT b1 0)), (3, (pT b20 0))] ?_
 intro aC fr
 refine zdr (N := 106) (env0 := [(1, (pT b1 0)), (3, (pT b20 0))]) (specAt [.det (pT b1 0), .det (.string nm), .det (.bool true), .det (.bool false), .det (.bool false), .det (pT b1 2), .det (.int .i64 pa), .det (.bool false), .det (.bool false), .det (.bool false), .det (pT b1 2), .det (.int .i64 pa), .det (.bool false), .det (.bool false), .det (.bool false), .det (pT b1 2), .det (.int .i64 pa), .det (pT b1 3), .det (.int .i64 va), .det (.bool true), .det (.bool true), .det (.bool true), dU, dU, dU, dU, .det (.bool true), .det (.bool true), dU, dU, dU, dU, dU, dU, dU, dU, .det (.bool true), .det (.bool true), dU, dU, dU, dU, dU, dU, dU, .det (.bool true), .det (.bool true), dU, dU, dU, dU, dU, dU, dU, .det (.bool true)]) fr (la (la (la (la (la (la (la (la (la (la (la (la (la (la (la (la (la (la (la (la (la (la (la (la (la (la (la (la (la (la (la (la (la (la (la (la (la (la (la (la (la (la (la (la (la (la (la (la (la (la (la (la (la (la (la lz dP) (dL ⟨b1, 0, none⟩ (.string nm) fun w_ hK => (blk_cell ((M26.then_ hK).get 0 rfl) rfl))) (dD (fun w_ hK => name_c nm w_) (congrArg Value.bool hBnm.symm))) dP) dP) dP) (dL ⟨b1, 2, none⟩ (.int .i64 pa) fun w_ hK => (blk_cell ((M26.then_ hK).get 0 rfl) rfl))) (dC (decide (pa < 0)) hBp0)) dP) dP) dP) (dL ⟨b1, 2, none⟩ (.int .i64 pa) fun w_ hK => (blk_cell ((M26.then_ hK).get 0 rfl) rfl))) (dC (decide (pa > 16)) hBp16)) dP) dP) dP) (dL ⟨b1, 2, none⟩ (.int .i64 pa) fun w_ hK => (blk_cell ((M26.then_ hK).get 0 rfl) rfl))) dP) (dL ⟨b1, 3, none⟩ (.int .i64 va) fun w_ hK => (blk_cell ((M26.then_ hK).get 0 rfl) rfl))) (dC (decide (pa > va)) hBpv)) dP) dP) dK) dK) dK) dK) dP) dP) dK) dK) dK) dK) dK) dK) dK) dK) dP) dP) dK) dK) dK) dK) dK) dK) dK) dP) dP) dK) dK) dK) dK) dK) dK) dK) dP) ?_
 intro aC w112 vs hK hv fr
 revert aC; refine zkp [(1, (pT b1 0)), (3, (pT b20 0)), (74, (.bool true))] ?_
 have M113 := M26.then_ hK
 clear hK hv fr aC M26; clear vs
 refine zcT <| zsp <| zre <| zo1 (.int .i64 4) ?_
 have M114 := M113.od [] 0
 exact ⟨congrArg _ (valid_4 hbig (fun h => by have := h.par; omega)), M114⟩
 have cp16 : pa > 16 := of_decide_eq_true hBp16.symm
 refine zkp [(1, (pT b1 0)), (3, (pT b20 0))] ?_
 intro aC fr
 refine zdr (N := 106) (env0 := [(1, (pT b1 0)), (3, (pT b20 0))]) (specAt [.det (pT b1 0), .det (.string nm), .det (.bool true), .det (.bool false), .det (.bool false), .det (pT b1 2), .det (.int .i64 pa), .det (.bool false), .det (.bool false), .det (.bool false), .det (pT b1 2), .det (.int .i64 pa), .det (.bool true), .det (.bool true), .det (.bool true), dU, dU, dU, dU, dU, .det (.bool true), .det (.bool true), dU, dU, dU, dU, .det (.bool true), .det (.bool true), dU, dU, dU, dU, dU, dU, dU, dU, .det (.bool true), .det (.bool true), dU, dU, dU, dU, dU, dU, dU, .det (.bool true), .det (.bool true), dU, dU, dU, dU, dU, dU, dU, .det (.bool true)]) fr (la (la (la (la (la (la (la (la (la (la (la (la (la (la (la (la (la (la (la (la (la (la (la (la (la (la (la (la (la (la (la (la (la (la (la (la (la (la (la (la (la (la (la (la (la (la (la (la (la (la (la (la (la (la (la lz dP) (dL ⟨b1, 0, none⟩ (.string nm) fun w_ hK => (blk_cell ((M26.then_ hK).get 0 rfl) rfl))) (dD (fun w_ hK => name_c nm w_) (congrArg Value.bool hBnm.symm))) dP) dP) dP) (dL ⟨b1, 2, none⟩ (.int .i64 pa) fun w_ hK => (blk_cell ((M26.then_ hK).get 0 rfl) rfl))) (dC (decide (pa < 0)) hBp0)) dP) dP) dP) (dL ⟨b1, 2, none⟩ (.int .i64 pa) fun w_ hK => (blk_cell ((M26.then_ hK).get 0 rfl) rfl))) (dC (decide (pa > 16)) hBp16)) dP) dP) dK) dK) dK) dK) dK) dP) dP) dK) dK) dK) dK) dP) dP) dK) dK) dK) dK) dK) dK) dK) dK) dP) dP) dK) dK) dK) dK) dK) dK) dK) dP) dP) dK) dK) dK) dK) dK) dK) dK) dP) ?_
 intro aC w119 vs hK hv fr
 revert aC; refine zkp [(1, (pT b1 0)), (3, (pT b20 0)), (74, (.bool true))] ?_
 have M120 := M26.then_ hK
 clear hK hv fr aC M26; clear vs
 refine zcT <| zsp <| zre <| zo1 (.int .i64 4) ?_
 have M121 := M120.od [] 0
 exact ⟨congrArg _ (valid_4 hbig (fun h => by have := h.par; omega)), M121⟩
 have cp0 : pa < 0 := of_decide_eq_true hBp0.symm
 refine zkp [(1, (pT b1 0)), (3, (pT b20 0))] ?_
 intro aC fr
 refine zdr (N := 106) (env0 := [(1, (pT b1 0)), (3, (pT b20 0))]) (specAt [.det (pT b1 0), .det (.string nm), .det (.bool true), .det (.bool false), .det (.bool false), .det (pT b1 2), .det (.int .i64 pa), .det (.bool true), .det (.bool true), .det (.bool true), dU, dU, dU, .det (.bool true), .det (.bool true), dU, dU, dU, dU, dU, .det (.bool true), .det (.bool true), dU, dU, dU, dU, .det (.bool true), .det (.bool true), dU, dU, dU, dU, dU, dU, dU, dU, .det (.bool true), .det (.bool true), dU, dU, dU, dU, dU, dU, dU, .det (.bool true), .det (.bool true), dU, dU, dU, dU, dU, dU, dU, .det (.bool true)]) fr (la (la (la (la (la (la (la (la (la (la (la (la (la (la (la (la (la (la (la (la (la (la (la (la (la (la (la (la (la (la (la (la (la (la (la (la (la (la (la (la (la (la (la (la (la (la (la (la (la (la (la (la (la (la (la lz dP) (dL ⟨b1, 0, none⟩ (.string nm) fun w_ hK => (blk_cell ((M26.then_ hK).get 0 rfl) rfl))) (dD (fun w_ hK => name_c nm w_) (congrArg Value.bool hBnm.symm))) dP) dP) dP) (dL ⟨b1, 2, none⟩ (.int .i64 pa) fun w_ hK => (blk_cell ((M26.then_ hK).get 0 rfl) rfl))) (dC (decide (pa < 0)) hBp0)) dP) dP) dK) dK) dK) dP) dP) dK) dK) dK) dK) dK) dP) dP) dK) dK) dK) dK) dP) dP) dK) dK) dK) dK) dK) dK) dK) dK) dP) dP) dK) dK) dK) dK) dK) dK) dK) dP) dP) dK) dK) dK) dK) dK) dK) dK) dP) ?_
 intro aC w126 vs hK hv fr
 revert aC; refine zkp [(1, (pT b1 0)), (3, (pT b20 0)), (74, (.bool true))] ?_
 have M127 := M26.then_ hK
 clear hK hv fr aC M26; clear vs
 refine zcT <| zsp <| zre <| zo1 (.int .i64 4) ?_
 have M128 := M127.od [] 0
 exact ⟨congrArg _ (valid_4 hbig (fun h => by have := h.par; omega)), M128⟩
end Go.Proofs.Ytejbeeaomokjpaa
