/-
  Texts of the proof, part 15.
-/
import Derived.Test.YtejbeeaomokjpaaZA14
set_option maxRecDepth 10000
namespace Go.Proofs.Ytejbeeaomokjpaa
open Go.Mor
set_option maxHeartbeats 2000000 in
theorem copy_c (nm : ByteArray) (wk : Bool) (pa va : Int) (A : Option Addr) (c : Nat) (fs : List FBlk) (w : World) (hN : fs.length ≤ 1000) (hsm : FSm fs) (hA : RO noS w (.fn A fs)) :
    Calls Try.prog 85 #[(fA nm wk pa va A c fs)] w (Ret fun v w' => ∃ B cB gd, v = fA nm wk pa va B cB gd ∧ gd.map FBlk.e0 = fs.map FBlk.e0 ∧ Mem noS w w' (ownF B cB gd)) := by
 have hbl := bsOf_len fs
 have hm : (bsOf fs).length ≤ 1000000 := by omega
 have hB := hA.bs
 refine zen 72 [(fA nm wk pa va A c fs)] Try.func85 ?_
 have hM := Mem.init w
 refine zsr <| zbx hM 24 (fA nm wk pa va A c fs) (fV nm wk pa va A c fs) fun b1 w2 hb1 M3 => ?_
 replace M3 := M3.nf
 clear hM
 refine zal M3 24 [(.string ⟨#[]⟩), (.bool false), (.int .i64 0), (.int .i64 0), (.slice none 0 0)] fun b4 w5 hb4 M6 => ?_
 replace M6 := M6.nf
 refine zfe <| zsr <| zpn 1 <| zld ⟨b1, 4, none⟩ (.slice A ((bsOf fs).length) c) (blk_cell (M6.get 0 rfl) rfl) <| zpn 1 <| zfe <| zsr <| zpn 1 <| zsb (ho := (by simp)) M6 0 4 (.slice none 0 0) rfl fun w7 M8 => ?_
 replace M8 := M8.nf
 refine zfe <| zsq <| zsp <| zbk 0 ?_
 intro aC fr
 refine zlp (fun n_ a_ w_ => ∃ (k : Nat) (gd : List FBlk) (B : Option Addr) (cB : Nat), n_ = fs.length - k ∧ Fr a_ 72 [(1, (pT b1 0)), (2, (pT b4 0)), (15, (.slice A ((bsOf fs).length) c)), (16, (.int .i64 (((bsOf fs).length : Nat) : Int))), (17, (nV k))] ∧ Mem noS w w_ [.blk b1 24 [(.string nm), (.bool wk), (.int .i64 pa), (.int .i64 va), (.slice B gd.length cB)], .blk b4 24 [(.string ⟨#[]⟩), (.bool false), (.int .i64 0), (.int .i64 0), (.slice none 0 0)], .row 36 6 B gd.length cB (blC gd), .pk (gd.map ownB)] ∧ (k ≤ fs.length) ∧ (gd.map FBlk.e0 = (fs.take k).map FBlk.e0)) (n := _) ⟨0, [], none, 0, rfl, fr.kp [1, 2, 15, 16, 17], ((M8.call (Mem.nilrow _ 36 6)).call (Mem.nilpk _)), Nat.zero_le _, rfl⟩ ?_
 clear fr aC M8; rintro n aC w11 ⟨k, gd, B, cB, rfl, fr, M12, hk, hg⟩
 revert aC
 refine zsp <| zsq <| zcD (((k : Int) : Int) < (((bsOf fs).length : Nat) : Int)) (fun c15 => ?_) (fun c15 => ?_)
 refine zsk <| zsq <| zbk 1 <| zsr ?_
 obtain ⟨x, hx⟩ := get_of (l := fs) (i := k) (by omega)
 have hgl : gd.length = k := by have := map_len hg; rw [List.length_take] at this; omega
 have hxm := List.mem_of_getElem? hx
 have hl1 := hsm.lp x hxm
 have hl2 := hsm.li x hxm
 obtain ⟨ad16, rfl⟩ := blocks_some (M12.ro hB) (bsOf_get hx)
 refine zix ad16 ((bsOf fs).length) 6 (k : Int) <| zls ((ad16 : Addr).add (((k : Int)).toNat * 6)) (xV x) (fblk_get (M12.ro hB) rfl hx) <| zal M12 36 [(.slice none 0 0), (.slice none 0 0), (.int .i64 0), (.int .i64 0), (.int .i64 0), (.int .i64 0)] fun b17 w18 hb17 M19 => ?_
 replace M19 := M19.nf
 refine zss M19 4 (xV x) rfl fun w20 M21 => ?_
 replace M21 := M21.nf
 refine zfe <| zsq <| zkp [(1, (pT b1 0)), (2, (pT b4 0)), (5, (pT b17 0)), (15, (.slice (some ad16) ((bsOf fs).length) c)), (16, (.int .i64 (((bsOf fs).length : Nat) : Int))), (17, (nV k))] ?_
 intro aC fr
 refine zdt 5 (N := 72) (env0 := [(1, (pT b1 0)), (2, (pT b4 0)), (5, (pT b17 0)), (15, (.slice (some ad16) ((bsOf fs).length) c)), (16, (.int .i64 (((bsOf fs).length : Nat) : Int))), (17, (nV k))]) (specAt [.det (pT b17 0), .det (.slice x.pA x.phis.length x.pc), .det (pT b17 1), .det (.slice x.iA x.insts.length x.ic), .det (.slice x.pA x.phis.length x.pc)]) fr (la (la (la (la (la lz dP) (dL ⟨b17, 0, none⟩ (.slice x.pA x.phis.length x.pc) fun w_ hK => (blk_cell ((M21.then_ hK).get 4 rfl) rfl))) dP) (dL ⟨b17, 1, none⟩ (.slice x.iA x.insts.length x.ic) fun w_ hK => (blk_cell ((M21.then_ hK).get 4 rfl) rfl))) dP) ?_
 intro aC w26 vs hK hv fr
 revert aC; refine zkp [(1, (pT b1 0)), (2, (pT b4 0)), (5, (pT b17 0)), (6, (.slice x.pA x.phis.length x.pc)), (15, (.slice (some ad16) ((bsOf fs).length) c)), (16, (.int .i64 (((bsOf fs).length : Nat) : Int))), (17, (nV k)), (24, (.slice x.iA x.insts.length x.ic))] ?_
 have M27 := M21.then_ hK
 clear hK hv fr aC M21; clear vs
 refine zpn 1 <| zfe <| zsr <| zpn 1 <| zsb (ho := (by simp)) M27 4 0 (.slice none 0 0) rfl fun w28 M29 => ?_
 replace M29 := M29.nf
 refine zpn 1 <| zsb (ho := (by simp)) M29 4 1 (.slice none 0 0) rfl fun w30 M31 => ?_
 replace M31 := M31.nf
 refine zfe <| zsq <| zsp <| zbk 2 ?_
 have M32 := M31.od [4, 4, 4, 4, 4] 5
 intro aC fr
 refine zlp (fun n_ a_ w_ => ∃ (j : Nat) (pd : List FPhi) (pB : Option Addr) (pcB : Nat), n_ = x.phis.length - j ∧ Fr a_ 72 [(1, (pT b1 0)), (2, (pT b4 0)), (5, (pT b17 0)), (7, (.slice x.iA x.insts.length x.ic)), (15, (.slice (some ad16) ((bsOf fs).length) c)), (16, (.int .i64 (((bsOf fs).length : Nat) : Int))), (17, (nV k)), (27, (.slice x.pA x.phis.length x.pc)), (28, (.int .i64 ((x.phis.length : Nat) : Int))), (29, (nV j))] ∧ Mem noS w w_ [.blk b1 24 [(.string nm), (.bool wk), (.int .i64 pa), (.int .i64 va), (.slice B gd.length cB)], .blk b4 24 [(.string ⟨#[]⟩), (.bool false), (.int .i64 0), (.int .i64 0), (.slice none 0 0)], .row 36 6 B gd.length cB (blC gd), .pk (gd.map ownB), .blk b17 36 [(.slice pB pd.length pcB), (.slice none 0 0), (.int .i64 x.e), (.int .i64 x.v), (.int .i64 x.a), (.int .i64 x.b)], .row 79 2 pB pd.length pcB (phC pd), .pk (pd.map argP)] ∧ (j ≤ x.phis.length) ∧ (pd.map FPhi.e0 = (x.phis.take j).map FPhi.e0)) (n := _) ⟨0, [], none, 0, rfl, fr.kp [1, 2, 5, 7, 15, 16, 17, 27, 28, 29], ((M32.call (Mem.nilrow _ 79 2)).call (Mem.nilpk _)), Nat.zero_le _, rfl⟩ ?_
 clear fr aC M32; rintro n aC w35 ⟨j, pd, pB, pcB, rfl, fr, M36, hj, hpd⟩
 revert aC
 refine zsp <| zsq <| zcD (((j : Int) : Int) < ((x.phis.length : Nat) : Int)) (fun c39 => ?_) (fun c39 => ?_)
 refine zsk <| zsq <| zbk 3 <| zsr ?_
 obtain ⟨p, hpx⟩ := get_of (l := x.phis) (i := j) (by omega)
 have hpl : pd.length = j := by have := map_len hpd; rw [List.length_take] at this; omega
 have hpa := hsm.ap x hxm p (List.mem_of_getElem? hpx)
 obtain ⟨ad40, had41⟩ := rds_some (M36.ro (hA.phis hx)) (i := j) (by rw [List.getElem?_map, hpx]; rfl)
 intro aC fr
 refine From_ixA (some 31) x.pA ad40 x.phis.length 2 (j : Int) fr (by kernel_rfl) had41 (by omega) (by omega) ?_
 intro aC fr
 revert aC
 refine zls ((ad40 : Addr).add (((j : Int)).toNat * 2)) (pV p) (phi_get (M36.ro (hA.phis hx)) had41 hpx) <| zal M36 79 [(.int .i64 0), (.slice none 0 0)] fun b46 w47 hb46 M48 => ?_
 replace M48 := M48.nf
 refine zss M48 7 (pV p) rfl fun w49 M50 => ?_
 replace M50 := M50.nf
 refine zfe <| zkp [(1, (pT b1 0)), (2, (pT b4 0)), (5, (pT b17 0)), (7, (.slice x.iA x.insts.length x.ic)), (9, (pT b46 0)), (15, (.slice (some ad16) ((bsOf fs).length) c)), (16, (.int .i64 (((bsOf fs).length : Nat) : Int))), (17, (nV k)), (27, (.slice x.pA x.phis.length x.pc)), (28, (.int .i64 ((x.phis.length : Nat) : Int))), (29, (nV j))] ?_
 intro aC fr
 refine zdj (N := 72) (env0 := [(1, (pT b1 0)), (2, (pT b4 0)), (5, (pT b17 0)), (7, (.slice x.iA x.insts.length x.ic)), (9, (pT b46 0)), (15, (.slice (some ad16) ((bsOf fs).length) c)), (16, (.int .i64 (((bsOf fs).length : Nat) : Int))), (17, (nV k)), (27, (.slice x.pA x.phis.length x.pc)), (28, (.int .i64 ((x.phis.length : Nat) : Int))), (29, (nV j))]) (specAt [.det (pT b17 0), .det (.slice pB pd.length pcB), .det (pT b46 0), .det (.int .i64 p.dst), Spec.free, .det (pT b46 1), .det (.slice p.A p.args.length p.c), Spec.free, Spec.free, Spec.free, Spec.free, .det (pT b17 0), .det undef]) (fun ls vs w_ => match ls 12 with | true => (∃ (g51 : Nat) (A52 : Option Addr) (c53 : Nat) (g54 : Nat) (A55 : Option Addr) (c56 : Nat), vs 4 = (.slice (sM g51) 0 0) ∧ vs 7 = (.slice A52 (0 + p.args.length) c53) ∧ vs 8 = (.agg #[(.int .i64 p.dst), (.slice A52 (0 + p.args.length) c53)]) ∧ vs 9 = (.slice (sM g54) 1 1) ∧ vs 10 = (.slice A55 (pd.length + 1) c56) ∧ Mem noS w w_ [.blk b1 24 [(.string nm), (.bool wk), (.int .i64 pa), (.int .i64 va), (.slice B gd.length cB)], .blk b4 24 [(.string ⟨#[]⟩), (.bool false), (.int .i64 0), (.int .i64 0), (.slice none 0 0)], .row 36 6 B gd.length cB (blC gd), .pk (gd.map ownB), .blk b17 36 [(.slice A55 (pd.length + 1) c56), (.slice none 0 0), (.int .i64 x.e), (.int .i64 x.v), (.int .i64 x.a), (.int .i64 x.b)], .row 79 2 A55 (pd.length + 1) c56 ((phC pd) ++ [(.int .i64 p.dst), (.slice A52 (0 + p.args.length) c53)]), .pk (pd.map argP), .blk b46 79 (pV p), .row 3 1 A52 (0 + p.args.length) c53 ([] ++ (ints p.args)), .row 79 2 (sM g54) 1 1 [(.int .i64 p.dst), (.slice A52 (0 + p.args.length) c53)]]) | false => (match ls 10 with | true => (∃ (g51 : Nat) (A52 : Option Addr) (c53 : Nat) (g54 : Nat) (A55 : Option Addr) (c56 : Nat), vs 4 = (.slice (sM g51) 0 0) ∧ vs 7 = (.slice A52 (0 + p.args.length) c53) ∧ vs 8 = (.agg #[(.int .i64 p.dst), (.slice A52 (0 + p.args.length) c53)]) ∧ vs 9 = (.slice (sM g54) 1 1) ∧ vs 10 = (.slice A55 (pd.length + 1) c56) ∧ Mem noS w w_ [.blk b1 24 [(.string nm), (.bool wk), (.int .i64 pa), (.int .i64 va), (.slice B gd.length cB)], .blk b4 24 [(.string ⟨#[]⟩), (.bool false), (.int .i64 0), (.int .i64 0), (.slice none 0 0)], .row 36 6 B gd.length cB (blC gd), .pk (gd.map ownB), .blk b17 36 [(.slice pB pd.length pcB), (.slice none 0 0), (.int .i64 x.e), (.int .i64 x.v), (.int .i64 x.a), (.int .i64 x.b)], .row 79 2 A55 (pd.length + 1) c56 ((phC pd) ++ [(.int .i64 p.dst), (.slice A52 (0 + p.args.length) c53)]), .pk (pd.map argP), .blk b46 79 (pV p), .row 3 1 A52 (0 + p.args.length) c53 ([] ++ (ints p.args)), .row 79 2 (sM g54) 1 1 [(.int .i64 p.dst), (.slice A52 (0 + p.args.length) c53)]]) | false => (match ls 9 with | true => (∃ (g51 : Nat) (A52 : Option Addr) (c53 : Nat) (g54 : Nat), vs 4 = (.slice (sM g51) 0 0) ∧ vs 7 = (.slice A52 (0 + p.args.length) c53) ∧ vs 8 = (.agg #[(.int .i64 p.dst), (.slice A52 (0 + p.args.length) c53)]) ∧ vs 9 = (.slice (sM g54) 1 1) ∧ Mem noS w w_ [.blk b1 24 [(.string nm), (.bool wk), (.int .i64 pa), (.int .i64 va), (.slice B gd.length cB)], .blk b4 24 [(.string ⟨#[]⟩), (.bool false), (.int .i64 0), (.int .i64 0), (.slice none 0 0)], .row 36 6 B gd.length cB (blC gd), .pk (gd.map ownB), .blk b17 36 [(.slice pB pd.length pcB), (.slice none 0 0), (.int .i64 x.e), (.int .i64 x.v), (.int .i64 x.a), (.int .i64 x.b)], .row 79 2 pB pd.length pcB (phC pd), .pk (pd.map argP), .blk b46 79 (pV p), .row 3 1 A52 (0 + p.args.length) c53 ([] ++ (ints p.args)), .row 79 2 (sM g54) 1 1 [(.int .i64 p.dst), (.slice A52 (0 + p.args.length) c53)]]) | false => (match ls 8 with | true => (∃ (g51 : Nat) (A52 : Option Addr) (c53 : Nat), vs 4 = (.slice (sM g51) 0 0) ∧ vs 7 = (.slice A52 (0 + p.args.length) c53) ∧ vs 8 = (.agg #[(.int .i64 p.dst), (.slice A52 (0 + p.args.length) c53)]) ∧ Mem noS w w_ [.blk b1 24 [(.string nm), (.bool wk), (.int .i64 pa), (.int .i64 va), (.slice B gd.length cB)], .blk b4 24 [(.string ⟨#[]⟩), (.bool false), (.int .i64 0), (.int .i64 0), (.slice none 0 0)], .row 36 6 B gd.length cB (blC gd), .pk (gd.map ownB), .blk b17 36 [(.slice pB pd.length pcB), (.slice none 0 0), (.int .i64 x.e), (.int .i64 x.v), (.int .i64 x.a), (.int .i64 x.b)], .row 79 2 pB pd.length pcB (phC pd), .pk (pd.map argP), .blk b46 79 (pV p), .row 3 1 A52 (0 + p.args.length) c53 ([] ++ (ints p.args))]) | false => (match ls 7 with | true => (∃ (g51 : Nat) (A52 : Option Addr) (c53 : Nat), vs 4 = (.slice (sM g51) 0 0) ∧ vs 7 = (.slice A52 (0 + p.args.length) c53) ∧ Mem noS w w_ [.blk b1 24 [(.string nm), (.bool wk), (.int .i64 pa), (.int .i64 va), (.slice B gd.length cB)], .blk b4 24 [(.string ⟨#[]⟩), (.bool false), (.int .i64 0), (.int .i64 0), (.slice none 0 0)], .row 36 6 B gd.length cB (blC gd), .pk (gd.map ownB), .blk b17 36 [(.slice pB pd.length pcB), (.slice none 0 0), (.int .i64 x.e), (.int .i64 x.v), (.int .i64 x.a), (.int .i64 x.b)], .row 79 2 pB pd.length pcB (phC pd), .pk (pd.map argP), .blk b46 79 (pV p), .row 3 1 A52 (0 + p.args.length) c53 ([] ++ (ints p.args))]) | false => (match ls 4 with | true => (∃ (g51 : Nat), vs 4 = (.slice (sM g51) 0 0) ∧ Mem noS w w_ [.blk b1 24 [(.string nm), (.bool wk), (.int .i64 pa), (.int .i64 va), (.slice B gd.length cB)], .blk b4 24 [(.string ⟨#[]⟩), (.bool false), (.int .i64 0), (.int .i64 0), (.slice none 0 0)], .row 36 6 B gd.length cB (blC gd), .pk (gd.map ownB), .blk b17 36 [(.slice pB pd.length pcB), (.slice none 0 0), (.int .i64 x.e), (.int .i64 x.v), (.int .i64 x.a), (.int .i64 x.b)], .row 79 2 pB pd.length pcB (phC pd), .pk (pd.map argP), .blk b46 79 (pV p), .row 3 1 (sM g51) 0 0 []]) | false => (Mem noS w w_ [.blk b1 24 [(.string nm), (.bool wk), (.int .i64 pa), (.int .i64 va), (.slice B gd.length cB)], .blk b4 24 [(.string ⟨#[]⟩), (.bool false), (.int .i64 0), (.int .i64 0), (.slice none 0 0)], .row 36 6 B gd.length cB (blC gd), .pk (gd.map ownB), .blk b17 36 [(.slice pB pd.length pcB), (.slice none 0 0), (.int .i64 x.e), (.int .i64 x.v), (.int .i64 x.a), (.int .i64 x.b)], .row 79 2 pB pd.length pcB (phC pd), .pk (pd.map argP), .blk b46 79 (pV p)]))))))) fr (plain_ok (.det (.det (.det (.det (.free (.det (.det (.free (.free (.free (.free (.det (.det .nil)))))))))))))) (M50.then_ (Mem.drew _)) (la (la (la (la (la (la (la (la (la (la (la (la (la lz (dPJ fun _ _ _ _ h => h)) (dLJ ⟨b17, 0, none⟩ (.slice pB pd.length pcB) (fun _ _ _ _ h => h) ?_)) (dPJ fun _ _ _ _ h => h)) (dLJ ⟨b46, 0, none⟩ (.int .i64 p.dst) (fun _ _ _ _ h => h) ?_)) ?_) (dPJ fun _ _ _ _ h => h)) (dLJ ⟨b46, 1, none⟩ (.slice p.A p.args.length p.c) (fun _ _ _ _ h => h) ?_)) ?_) ?_) ?_) ?_) (dPJ fun _ _ _ _ h => h)) ?_) ?_
 intro w_ ls vs hJ hi_ hc_ hp
 have f10 : ls 10 = false := notyet hc_ hi_ (n := 13) (by kernel_rfl)
 have f12 : ls 12 = false := notyet hc_ hi_ (n := 13) (by kernel_rfl)
 have hM_ := hJ
 simp only [f10, f12] at hM_
 cases fu9 : ls 9
 simp only [fu9] at hM_
 cases fu8 : ls 8
 simp only [fu8] at hM_
 cases fu7 : ls 7
 simp only [fu7] at hM_
 cases fu4 : ls 4
 simp only [fu4] at hM_
 exact (blk_cell (hM_.get 4 rfl) rfl)
 simp only [fu4] at hM_
 obtain ⟨_, _, hM_⟩ := hM_
 exact (blk_cell (hM_.get 4 rfl) rfl)
 simp only [fu7] at hM_
 obtain ⟨_, _, _, _, _, hM_⟩ := hM_
 exact (blk_cell (hM_.get 4 rfl) rfl)
 simp only [fu8] at hM_
 obtain ⟨_, _, _, _, _, _, hM_⟩ := hM_
 exact (blk_cell (hM_.get 4 rfl) rfl)
 simp only [fu9] at hM_
 obtain ⟨_, _, _, _, _, _, _, _, hM_⟩ := hM_
 exact (blk_cell (hM_.get 4 rfl) rfl)
 intro w_ ls vs hJ hi_ hc_ hp
 have f8 : ls 8 = false := notyet hc_ hi_ (n := 13) (by kernel_rfl)
 have f9 : ls 9 = false := notyet hc_ hi_ (n := 13) (by kernel_rfl)
 have f10 : ls 10 = false := notyet hc_ hi_ (n := 13) (by kernel_rfl)
 have f12 : ls 12 = false := notyet hc_ hi_ (n := 13) (by kernel_rfl)
 have hM_ := hJ
 simp only [f8, f9, f10, f12] at hM_
 cases fu7 : ls 7
 simp only [fu7] at hM_
 cases fu4 : ls 4
 simp only [fu4] at hM_
 exact (blk_cell (hM_.get 7 rfl) rfl)
 simp only [fu4] at hM_
 obtain ⟨_, _, hM_⟩ := hM_
 exact (blk_cell (hM_.get 7 rfl) rfl)
 simp only [fu7] at hM_
 obtain ⟨_, _, _, _, _, hM_⟩ := hM_
 exact (blk_cell (hM_.get 7 rfl) rfl)
 intro aa_ w_ ls vs rest_ hJ hi_ hc_ hp hF
 refine okG (g0 := none) ?_
 replace hF : Fr aa_ 72 [] := hF.kp []
 have f4 : ls 4 = false := hi_
 have f7 : ls 7 = false := notyet hc_ hi_ (n := 13) (by kernel_rfl)
 have f8 : ls 8 = false := notyet hc_ hi_ (n := 13) (by kernel_rfl)
 have f9 : ls 9 = false := notyet hc_ hi_ (n := 13) (by kernel_rfl)
 have f10 : ls 10 = false := notyet hc_ hi_ (n := 13) (by kernel_rfl)
 have f12 : ls 12 = false := notyet hc_ hi_ (n := 13) (by kernel_rfl)
 have hM_ := hJ
 simp only [f4, f7, f8, f9, f10, f12] at hM_
 refine zB0 37 37 37 hF (e := 3) (size := 1) hM_ ?_
 intro g51p w2 _ _ hm2 _ a2 ea _
 refine From_end (by kernel_rfl) ?_; refine op_doneJ (d := some 37) (by kernel_rfl) ea trivial ?_
 show match ls 12 with | true => _ | false => (match ls 10 with | true => _ | false => (match ls 9 with | true => _ | false => (match ls 8 with | true => _ | false => (match ls 7 with | true => _ | false => (∃ (g51 : Nat), _)))))
 rw [f12, f10, f9, f8, f7]
 exact ⟨g51p, rfl, hm2⟩
 intro w_ ls vs hJ hi_ hc_ hp
 have f7 : ls 7 = false := notyet hc_ hi_ (n := 13) (by kernel_rfl)
 have f8 : ls 8 = false := notyet hc_ hi_ (n := 13) (by kernel_rfl)
 have f9 : ls 9 = false := notyet hc_ hi_ (n := 13) (by kernel_rfl)
 have f10 : ls 10 = false := notyet hc_ hi_ (n := 13) (by kernel_rfl)
 have f12 : ls 12 = false := notyet hc_ hi_ (n := 13) (by kernel_rfl)
 have hM_ := hJ
 simp only [f7, f8, f9, f10, f12] at hM_
 cases fu : ls 4
 simp only [fu] at hM_
 exact (blk_cell (hM_.get 7 rfl) rfl)
 simp only [fu] at hM_
 obtain ⟨_, _, hM_⟩ := hM_
 exact (blk_cell (hM_.get 7 rfl) rfl)
 intro aa_ w_ ls vs rest_ hJ hi_ hc_ hp hF
 refine okG (g0 := none) ?_
 replace hF : Fr aa_ 72 [(37, vs 4), (39, (.slice p.A p.args.length p.c))] := hF.kp [37, 39]
 have f4 : ls 4 = true := donebefore hc_ (fun k hk => (hp k hk).1) (n := 13) (by kernel_rfl)
 have f7 : ls 7 = false := hi_
 have f8 : ls 8 = false := notyet hc_ hi_ (n := 13) (by kernel_rfl)
 have f9 : ls 9 = false := notyet hc_ hi_ (n := 13) (by kernel_rfl)
 have f10 : ls 10 = false := notyet hc_ hi_ (n := 13) (by kernel_rfl)
 have f12 : ls 12 = false := notyet hc_ hi_ (n := 13) (by kernel_rfl)
 have hM_ := hJ
 simp only [f4, f7, f8, f9, f10, f12] at hM_
 obtain ⟨g51p, e4_, hM_⟩ := hM_
 try rw [e4_] at hF
 refine zAp 40 (.tmp 37) (.tmp 39) 37 37 hF (e := 3) (size := 1) (bytes := 8) (z := (.int .i64 0)) (A := (sM g51p)) (B := p.A) (n := 0) (cap := 0) (m := p.args.length) (cap' := p.c) (xs := []) (news := (ints p.args)) hM_ 8 rfl (hM_.ro (hA.phi hx hpx)) (by rw [ints_len, Nat.mul_one]) (ints_one _) (by omega) (by simp only [maxLen]; omega) ?_
 intro A52p c53p w2 hm2 _ a2 ea _
 refine From_end (by kernel_rfl) ?_; refine op_doneJ (d := some 40) (by kernel_rfl) ea trivial ?_
 show match ls 12 with | true => _ | false => (match ls 10 with | true => _ | false => (match ls 9 with | true => _ | false => (match ls 8 with | true => _ | false => (∃ (g51 : Nat) (A52 : Option Addr) (c53 : Nat), _))))
 rw [f12, f10, f9, f8]
 exact ⟨g51p, A52p, c53p, e4_, rfl, hm2⟩
 intro aa_ w_ ls vs rest_ hJ hi_ hc_ hp hF
 refine okG (g0 := none) ?_
 replace hF : Fr aa_ 72 [(36, (.int .i64 p.dst)), (40, vs 7)] := hF.kp [36, 40]
 have f4 : ls 4 = true := donebefore hc_ (fun k hk => (hp k hk).1) (n := 13) (by kernel_rfl)
 have f7 : ls 7 = true := donebefore hc_ (fun k hk => (hp k hk).1) (n := 13) (by kernel_rfl)
 have f8 : ls 8 = false := hi_
 have f9 : ls 9 = false := notyet hc_ hi_ (n := 13) (by kernel_rfl)
 have f10 : ls 10 = false := notyet hc_ hi_ (n := 13) (by kernel_rfl)
 have f12 : ls 12 = false := notyet hc_ hi_ (n := 13) (by kernel_rfl)
 have hM_ := hJ
 simp only [f4, f7, f8, f9, f10, f12] at hM_
 obtain ⟨g51p, A52p, c53p, e4_, e7_, hM_⟩ := hM_
 try rw [e4_] at hF
 try rw [e7_] at hF
 have hm2 := hM_
 refine From_pure1 (by kernel_rfl : coreAt _ 0 = some (some 41, (.build 79 #[(0, (.tmp 36)), (1, (.tmp 40))]), 79, none)) hF (by kernel_rfl) (by kernel_rfl) (k' := 1) rfl (v := (.agg #[(.int .i64 p.dst), (.slice A52p (0 + p.args.length) c53p)])) (by kernel_rfl) ?_
 intro a2 ea _
 refine From_end (by kernel_rfl) ?_; refine op_doneJ (d := some 41) (by kernel_rfl) ea trivial ?_
 show match ls 12 with | true => _ | false => (match ls 10 with | true => _ | false => (match ls 9 with | true => _ | false => (∃ (g51 : Nat) (A52 : Option Addr) (c53 : Nat), _)))
 rw [f12, f10, f9]
 exact ⟨g51p, A52p, c53p, e4_, e7_, rfl, hm2⟩
 intro aa_ w_ ls vs rest_ hJ hi_ hc_ hp hF
 refine okG (g0 := none) ?_
 replace hF : Fr aa_ 72 [(41, vs 8)] := hF.kp [41]
 have f4 : ls 4 = true := donebefore hc_ (fun k hk => (hp k hk).1) (n := 13) (by kernel_rfl)
 have f7 : ls 7 = true := donebefore hc_ (fun k hk => (hp k hk).1) (n := 13) (by kernel_rfl)
 have f8 : ls 8 = true := donebefore hc_ (fun k hk => (hp k hk).1) (n := 13) (by kernel_rfl)
 have f9 : ls 9 = false := hi_
 have f10 : ls 10 = false := notyet hc_ hi_ (n := 13) (by kernel_rfl)
 have f12 : ls 12 = false := notyet hc_ hi_ (n := 13) (by kernel_rfl)
 have hM_ := hJ
 simp only [f4, f7, f8, f9, f10, f12] at hM_
 obtain ⟨g51p, A52p, c53p, e4_, e7_, e8_, hM_⟩ := hM_
 try rw [e4_] at hF
 try rw [e7_] at hF
 try rw [e8_] at hF
 refine zBs 42 33 1 #[(0, (.tmp 41))] 33 hF (e := 79) (size := 2) (zs := [(.int .i64 0), (.slice none 0 0)]) (vs := [(0, (.agg #[(.int .i64 p.dst), (.slice A52p (0 + p.args.length) c53p)]))]) (cs := [(.int .i64 p.dst), (.slice A52p (0 + p.args.length) c53p)]) hM_ ?_
 intro g54p w2 _ _ hm2 _ a2 ea _
 refine From_end (by kernel_rfl) ?_; refine op_doneJ (d := some 42) (by kernel_rfl) ea trivial ?_
 show match ls 12 with | true => _ | false => (match ls 10 with | true => _ | false => (∃ (g51 : Nat) (A52 : Option Addr) (c53 : Nat) (g54 : Nat), _))
 rw [f12, f10]
 exact ⟨g51p, A52p, c53p, g54p, e4_, e7_, e8_, rfl, hm2⟩
 intro aa_ w_ ls vs rest_ hJ hi_ hc_ hp hF
 refine okG (g0 := none) ?_
 replace hF : Fr aa_ 72 [(34, (.slice pB pd.length pcB)), (42, vs 9)] := hF.kp [34, 42]
 have f4 : ls 4 = true := donebefore hc_ (fun k hk => (hp k hk).1) (n := 13) (by kernel_rfl)
 have f7 : ls 7 = true := donebefore hc_ (fun k hk => (hp k hk).1) (n := 13) (by kernel_rfl)
 have f8 : ls 8 = true := donebefore hc_ (fun k hk => (hp k hk).1) (n := 13) (by kernel_rfl)
 have f9 : ls 9 = true := donebefore hc_ (fun k hk => (hp k hk).1) (n := 13) (by kernel_rfl)
 have f10 : ls 10 = false := hi_
 have f12 : ls 12 = false := notyet hc_ hi_ (n := 13) (by kernel_rfl)
 have hM_ := hJ
 simp only [f4, f7, f8, f9, f10, f12] at hM_
 obtain ⟨g51p, A52p, c53p, g54p, e4_, e7_, e8_, e9_, hM_⟩ := hM_
 try rw [e4_] at hF
 try rw [e7_] at hF
 try rw [e8_] at hF
 try rw [e9_] at hF
 refine zAp 43 (.tmp 34) (.tmp 42) 33 33 hF (e := 79) (size := 2) (bytes := 32) (z := (.agg #[(.int .i64 0), (.slice none 0 0)])) (A := pB) (B := (sM g54p)) (n := pd.length) (cap := pcB) (m := 1) (cap' := 1) (xs := (phC pd)) (news := [(.int .i64 p.dst), (.slice A52p (0 + p.args.length) c53p)]) hM_ 5 rfl (row_rd (hM_.get 9 rfl)) rfl (by simp [Value.oneCell']) (by omega) (by simp only [maxLen]; omega) ?_
 intro A55p c56p w2 hm2 _ a2 ea _
 refine From_end (by kernel_rfl) ?_; refine op_doneJ (d := some 43) (by kernel_rfl) ea trivial ?_
 show match ls 12 with | true => _ | false => (∃ (g51 : Nat) (A52 : Option Addr) (c53 : Nat) (g54 : Nat) (A55 : Option Addr) (c56 : Nat), _)
 rw [f12]
 exact ⟨g51p, A52p, c53p, g54p, A55p, c56p, e4_, e7_, e8_, e9_, rfl, hm2⟩
 intro aa_ w_ ls vs rest_ hJ hi_ hc_ hp hF
 refine okG (g0 := none) ?_
 replace hF : Fr aa_ 72 [(43, vs 10), (44, (pT b17 0))] := hF.kp [43, 44]
 have f4 : ls 4 = true := donebefore hc_ (fun k hk => (hp k hk).1) (n := 13) (by kernel_rfl)
 have f7 : ls 7 = true := donebefore hc_ (fun k hk => (hp k hk).1) (n := 13) (by kernel_rfl)
 have f8 : ls 8 = true := donebefore hc_ (fun k hk => (hp k hk).1) (n := 13) (by kernel_rfl)
 have f9 : ls 9 = true := donebefore hc_ (fun k hk => (hp k hk).1) (n := 13) (by kernel_rfl)
 have f10 : ls 10 = true := donebefore hc_ (fun k hk => (hp k hk).1) (n := 13) (by kernel_rfl)
 have f12 : ls 12 = false := hi_
 have hM_ := hJ
 simp only [f4, f7, f8, f9, f10, f12] at hM_
 obtain ⟨g51p, A52p, c53p, g54p, A55p, c56p, e4_, e7_, e8_, e9_, e10_, hM_⟩ := hM_
 try rw [e4_] at hF
 try rw [e7_] at hF
 try rw [e8_] at hF
 try rw [e9_] at hF
 try rw [e10_] at hF
 refine From_store_blk (by kernel_rfl : coreAt _ 0 = some (none, (.store 33 (.tmp 44) (.tmp 43)), 0, none)) hF (by kernel_rfl) (by kernel_rfl) (k' := 1) rfl (b := b17) (off := 0) (t0 := 36) (v := (.slice A55p (pd.length + 1) c56p)) (cs := [(.slice pB pd.length pcB), (.slice none 0 0), (.int .i64 x.e), (.int .i64 x.v), (.int .i64 x.a), (.int .i64 x.b)]) (by kernel_rfl) (by kernel_rfl) (by kernel_rfl) rfl hM_ 4 rfl (by simp) ?_
 intro w2 hm2 _ a2 ea _
 refine From_end (by kernel_rfl) ?_; refine op_doneJ (d := none) (by kernel_rfl) ea rfl ?_
 show ∃ (g51 : Nat) (A52 : Option Addr) (c53 : Nat) (g54 : Nat) (A55 : Option Addr) (c56 : Nat), _
 exact ⟨g51p, A52p, c53p, g54p, A55p, c56p, e4_, e7_, e8_, e9_, e10_, hm2⟩
 intro aC w61 ls vs hall M62 hv fr
 simp only [show ls 12 = true from hall 12 (by decide)] at M62
 revert aC; refine zkp [(1, (pT b1 0)), (2, (pT b4 0)), (5, (pT b17 0)), (7, (.slice x.iA x.insts.length x.ic)), (15, (.slice (some ad16) ((bsOf fs).length) c)), (16, (.int .i64 (((bsOf fs).length : Nat) : Int))), (17, (nV k)), (27, (.slice x.pA x.phis.length x.pc)), (28, (.int .i64 ((x.phis.length : Nat) : Int))), (29, (nV j))] ?_
 obtain ⟨g51, A52, c53, g54, A55, c56, e4_, e7_, e8_, e9_, e10_, M62⟩ := M62
 try rw [e4_]
 try rw [e7_]
 try rw [e8_]
 try rw [e9_]
 try rw [e10_]
 clear e4_ e7_ e8_ e9_ e10_
 clear hall hv fr aC M50; clear vs ls
 refine zrg <| zar ((j : Int) + 1) <| zpn 1 <| zfe ?_
 have M63 := M62.od [8, 7, 7, 7, 7, 7, 7, 7] 8
 have M64 : Mem noS w w61 [.blk b1 24 [(.string nm), (.bool wk), (.int .i64 pa), (.int .i64 va), (.slice B gd.length cB)], .blk b4 24 [(.string ⟨#[]⟩), (.bool false), (.int .i64 0), (.int .i64 0), (.slice none 0 0)], .row 36 6 B gd.length cB (blC gd), .pk (gd.map ownB), .blk b17 36 [(.slice A55 (pd.length + 1) c56), (.slice none 0 0), (.int .i64 x.e), (.int .i64 x.v), (.int .i64 x.a), (.int .i64 x.b)], .row 79 2 A55 (pd.length + 1) c56 (phC pd ++ FPhi.cells (⟨p.dst, A52, c53, p.args⟩ : FPhi)), .pk (pd.map argP), argP (⟨p.dst, A52, c53, p.args⟩ : FPhi)] := M63.cast (by simp only [Nat.zero_add, List.nil_append]; rfl)
 have M65 := M64.od [5, 5, 5, 5, 5, 5, 7, 7] 8
 have M66 : Mem noS w w61 [.pk (pd.map argP ++ [argP (⟨p.dst, A52, c53, p.args⟩ : FPhi)]), .blk b1 24 [(.string nm), (.bool wk), (.int .i64 pa), (.int .i64 va), (.slice B gd.length cB)], .blk b4 24 [(.string ⟨#[]⟩), (.bool false), (.int .i64 0), (.int .i64 0), (.slice none 0 0)], .row 36 6 B gd.length cB (blC gd), .pk (gd.map ownB), .blk b17 36 [(.slice A55 (pd.length + 1) c56), (.slice none 0 0), (.int .i64 x.e), (.int .i64 x.v), (.int .i64 x.a), (.int .i64 x.b)], .row 79 2 A55 (pd.length + 1) c56 (phC pd ++ FPhi.cells (⟨p.dst, A52, c53, p.args⟩ : FPhi))] := M65.pk_push
 have M67 := M66.od [0, 6, 6, 6, 6, 6, 6] 7
 have M68 : Mem noS w w61 [.blk b1 24 [(.string nm), (.bool wk), (.int .i64 pa), (.int .i64 va), (.slice B gd.length cB)], .blk b4 24 [(.string ⟨#[]⟩), (.bool false), (.int .i64 0), (.int .i64 0), (.slice none 0 0)], .row 36 6 B gd.length cB (blC gd), .pk (gd.map ownB), .blk b17 36 [(.slice A55 ((pd ++ [(⟨p.dst, A52, c53, p.args⟩ : FPhi)]).length) c56), (.slice none 0 0), (.int .i64 x.e), (.int .i64 x.v), (.int .i64 x.a), (.int .i64 x.b)], .row 79 2 A55 ((pd ++ [(⟨p.dst, A52, c53, p.args⟩ : FPhi)]).length) c56 (phC (pd ++ [(⟨p.dst, A52, c53, p.args⟩ : FPhi)])), .pk ((pd ++ [(⟨p.dst, A52, c53, p.args⟩ : FPhi)]).map argP)] := M67.cast (by simp only [len_snoc, phC_snoc, map_snoc])
 intro aC fr
 exact ⟨x.phis.length - (j + 1), by omega, j + 1, pd ++ [(⟨p.dst, A52, c53, p.args⟩ : FPhi)], A55, c56, rfl, fr.kp [1, 2, 5, 7, 15, 16, 17, 27, 28, 29], M68, by omega, p0_take hpd hpx rfl⟩
 refine zex 2 <| zbh <| zsq <| zsr ?_
 rw [List.take_of_length_le (show x.phis.length ≤ j by omega)] at hpd
 refine zpn 3 <| zfe <| zbk 4 ?_
 intro aC fr
 refine zlp (fun n_ a_ w_ => ∃ (m : Nat) (dn : List FIns) (iB : Option Addr) (icB : Nat), n_ = x.insts.length - m ∧ Fr a_ 72 [(1, (pT b1 0)), (2, (pT b4 0)), (5, (pT b17 0)), (15, (.slice (some ad16) ((bsOf fs).length) c)), (16, (.int .i64 (((bsOf fs).length : Nat) : Int))), (17, (nV k)), (46, (.slice x.iA x.insts.length x.ic)), (47, (.int .i64 ((x.insts.length : Nat) : Int))), (48, (nV m))] ∧ Mem noS w w_ [.blk b1 24 [(.string nm), (.bool wk), (.int .i64 pa), (.int .i64 va), (.slice B gd.length cB)], .blk b4 24 [(.string ⟨#[]⟩), (.bool false), (.int .i64 0), (.int .i64 0), (.slice none 0 0)], .row 36 6 B gd.length cB (blC gd), .pk (gd.map ownB), .blk b17 36 [(.slice pB pd.length pcB), (.slice iB dn.length icB), (.int .i64 x.e), (.int .i64 x.v), (.int .i64 x.a), (.int .i64 x.b)], .row 79 2 pB pd.length pcB (phC pd), .pk (pd.map argP), .row 39 5 iB dn.length icB (inC dn), .pk (dn.map argI)] ∧ (m ≤ x.insts.length) ∧ (dn.map FIns.e0 = (x.insts.take m).map FIns.e0)) (n := _) ⟨0, [], none, 0, rfl, fr.kp [1, 2, 5, 15, 16, 17, 46, 47, 48], ((M36.call (Mem.nilrow _ 39 5)).call (Mem.nilpk _)), Nat.zero_le _, rfl⟩ ?_
 clear fr aC M36; rintro n aC w73 ⟨m, dn, iB, icB, rfl, fr, M74, hm9, hid⟩
 revert aC
 refine zsp <| zsq <| zcD (((m : Int) : Int) < ((x.insts.length : Nat) : Int)) (fun c77 => ?_) (fun c77 => ?_)
 refine zsk <| zsq <| zbk 5 <| zsr ?_
 obtain ⟨i, hi⟩ := get_of (l := x.insts) (i := m) (by omega)
 have hil : dn.length = m := by have := map_len hid; rw [List.length_take] at this; omega
 have hia := hsm.ai x hxm i (List.mem_of_getElem? hi)
 obtain ⟨ad78, had79⟩ := rds_some (M74.ro (hA.insts hx)) (i := m) (by rw [List.getElem?_map, hi]; rfl)
 intro aC fr
 refine From_ixA (some 50) x.iA ad78 x.insts.length 5 (m : Int) fr (by kernel_rfl) had79 (by omega) (by omega) ?_
 intro aC fr
 revert aC
 refine zls ((ad78 : Addr).add (((m : Int)).toNat * 5)) (iV i) (ins_get (M74.ro (hA.insts hx)) had79 hi) <| zal M74 39 [(.int .i64 0), (.int .i64 0), (.int .i64 0), (.string ⟨#[]⟩), (.slice none 0 0)] fun b84 w85 hb84 M86 => ?_
 replace M86 := M86.nf
 refine zss M86 9 (iV i) rfl fun w87 M88 => ?_
 replace M88 := M88.nf
 refine zfe <| zsr ?_
 intro aC fr
 refine From_build0 (by kernel_rfl : coreAt _ 0 = some (some 52, (.buildSlice 37 0 #[]), 37, none)) fr (by kernel_rfl) (by kernel_rfl) (k' := 1) rfl (e := 3) (size := 1) (by kernel_rfl) (by kernel_rfl) M88 ?_
 intro b89 w90 hb89 _ M91 _ aC ea fr; clear ea
 replace M91 := M91.nf
 revert aC
 refine zpn 1 <| zld ⟨b84, 4, none⟩ (.slice i.A i.args.length i.c) (blk_cell (M91.get 9 rfl) rfl) ?_
 intro aC fr
 refine zAp 55 (.tmp 52) (.tmp 54) 37 37 fr (e := 3) (size := 1) (bytes := 8) (z := (.int .i64 0)) (A := (sM b89)) (B := i.A) (n := 0) (cap := 0) (m := i.args.length) (cap' := i.c) (xs := []) (news := (ints i.args)) M91 10 rfl (M91.ro (hA.inst hx hi)) (by rw [ints_len, Nat.mul_one]) (ints_one _) (by omega) (by simp only [maxLen]; omega) ?_
 intro A96 c97 w98 M99 _ aC ea fr; clear ea
 replace M99 := M99.nf
 revert aC
 refine zpn 1 <| zsb (ho := (by simp)) M99 9 4 (.slice A96 (0 + i.args.length) c97) rfl fun w104 M105 => ?_
 replace M105 := M105.nf
 refine zfe <| zrg <| zpn 1 <| zld ⟨b17, 1, none⟩ (.slice iB dn.length icB) (blk_cell (M105.get 4 rfl) rfl) <| zkp [(1, (pT b1 0)), (2, (pT b4 0)), (5, (pT b17 0)), (11, (pT b84 0)), (15, (.slice (some ad16) ((bsOf fs).length) c)), (16, (.int .i64 (((bsOf fs).length : Nat) : Int))), (17, (nV k)), (46, (.slice x.iA x.insts.length x.ic)), (47, (.int .i64 ((x.insts.length : Nat) : Int))), (48, (nV m)), (58, (.slice iB dn.length icB))] <| zls ⟨b84, 0, none⟩ [(.int .i64 i.op), (.int .i64 i.dst), (.int .i64 i.n), (.string i.name), (.slice A96 (0 + i.args.length) c97)] (blk_cells (M105.get 9 rfl)) ?_
 intro aC fr
 refine zBs 60 34 1 #[(0, (.tmp 59))] 34 fr (e := 39) (size := 5) (zs := [(.int .i64 0), (.int .i64 0), (.int .i64 0), (.string ⟨#[]⟩), (.slice none 0 0)]) (vs := [(0, (.agg #[(.int .i64 i.op), (.int .i64 i.dst), (.int .i64 i.n), (.string i.name), (.slice A96 (0 + i.args.length) c97)]))]) (cs := [(.int .i64 i.op), (.int .i64 i.dst), (.int .i64 i.n), (.string i.name), (.slice A96 (0 + i.args.length) c97)]) M105 ?_
 intro b106 w107 hb106 _ M108 _ aC ea fr; clear ea
 replace M108 := M108.nf
 refine zAp 61 (.tmp 58) (.tmp 60) 34 34 fr (e := 39) (size := 5) (bytes := 64) (z := (.agg #[(.int .i64 0), (.int .i64 0), (.int .i64 0), (.string ⟨#[]⟩), (.slice none 0 0)])) (A := iB) (B := (sM b106)) (n := dn.length) (cap := icB) (m := 1) (cap' := 1) (xs := (inC dn)) (news := [(.int .i64 i.op), (.int .i64 i.dst), (.int .i64 i.n), (.string i.name), (.slice A96 (0 + i.args.length) c97)]) M108 7 rfl (row_rd (M108.get 11 rfl)) rfl (by simp [Value.oneCell']) (by omega) (by simp only [maxLen]; omega) ?_
 intro A113 c114 w115 M116 _ aC ea fr; clear ea
 replace M116 := M116.nf
 have M119 := M116.od [10, 10, 10, 10, 10, 10, 10, 10, 10, 10, 10] 11
 revert aC
 refine zpn 1 <| zsb (ho := (by simp)) M119 4 1 (.slice A113 (dn.length + 1) c114) rfl fun w120 M121 => ?_
 replace M121 := M121.nf
 refine zfe <| zrg <| zar ((m : Int) + 1) <| zpn 1 <| zfe ?_
 have M122 := M121.od [10, 9, 9, 9, 9, 9, 9, 9, 9, 9] 10
 have M123 : Mem noS w w120 [.blk b1 24 [(.string nm), (.bool wk), (.int .i64 pa), (.int .i64 va), (.slice B gd.length cB)], .blk b4 24 [(.string ⟨#[]⟩), (.bool false), (.int .i64 0), (.int .i64 0), (.slice none 0 0)], .row 36 6 B gd.length cB (blC gd), .pk (gd.map ownB), .blk b17 36 [(.slice pB pd.length pcB), (.slice A113 (dn.length + 1) c114), (.int .i64 x.e), (.int .i64 x.v), (.int .i64 x.a), (.int .i64 x.b)], .row 79 2 pB pd.length pcB (phC pd), .pk (pd.map argP), .row 39 5 A113 (dn.length + 1) c114 (inC dn ++ FIns.cells (⟨i.op, i.dst, i.n, i.name, A96, c97, i.args⟩ : FIns)), .pk (dn.map argI), argI (⟨i.op, i.dst, i.n, i.name, A96, c97, i.args⟩ : FIns)] := M122.cast (by simp only [Nat.zero_add, List.nil_append]; rfl)
 have M124 := M123.od [7, 7, 7, 7, 7, 7, 7, 7, 9, 9] 10
 have M125 : Mem noS w w120 [.pk (dn.map argI ++ [argI (⟨i.op, i.dst, i.n, i.name, A96, c97, i.args⟩ : FIns)]), .blk b1 24 [(.string nm), (.bool wk), (.int .i64 pa), (.int .i64 va), (.slice B gd.length cB)], .blk b4 24 [(.string ⟨#[]⟩), (.bool false), (.int .i64 0), (.int .i64 0), (.slice none 0 0)], .row 36 6 B gd.length cB (blC gd), .pk (gd.map ownB), .blk b17 36 [(.slice pB pd.length pcB), (.slice A113 (dn.length + 1) c114), (.int .i64 x.e), (.int .i64 x.v), (.int .i64 x.a), (.int .i64 x.b)], .row 79 2 pB pd.length pcB (phC pd), .pk (pd.map argP), .row 39 5 A113 (dn.length + 1) c114 (inC dn ++ FIns.cells (⟨i.op, i.dst, i.n, i.name, A96, c97, i.args⟩ : FIns))] := M124.pk_push
 have M126 := M125.od [0, 8, 8, 8, 8, 8, 8, 8, 8] 9
 have M127 : Mem noS w w120 [.blk b1 24 [(.string nm), (.bool wk), (.int .i64 pa), (.int .i64 va), (.slice B gd.length cB)], .blk b4 24 [(.string ⟨#[]⟩), (.bool false), (.int .i64 0), (.int .i64 0), (.slice none 0 0)], .row 36 6 B gd.length cB (blC gd), .pk (gd.map ownB), .blk b17 36 [(.slice pB pd.length pcB), (.slice A113 ((dn ++ [(⟨i.op, i.dst, i.n, i.name, A96, c97, i.args⟩ : FIns)]).length) c114), (.int .i64 x.e), (.int .i64 x.v), (.int .i64 x.a), (.int .i64 x.b)], .row 79 2 pB pd.length pcB (phC pd), .pk (pd.map argP), .row 39 5 A113 ((dn ++ [(⟨i.op, i.dst, i.n, i.name, A96, c97, i.args⟩ : FIns)]).length) c114 (inC (dn ++ [(⟨i.op, i.dst, i.n, i.name, A96, c97, i.args⟩ : FIns)])), .pk ((dn ++ [(⟨i.op, i.dst, i.n, i.name, A96, c97, i.args⟩ : FIns)]).map argI)] := M126.cast (by simp only [len_snoc, inC_snoc, map_snoc])
 intro aC fr
 exact ⟨x.insts.length - (m + 1), by omega, m + 1, dn ++ [(⟨i.op, i.dst, i.n, i.name, A96, c97, i.args⟩ : FIns)], A113, c114, rfl, fr.kp [1, 2, 5, 15, 16, 17, 46, 47, 48], M127, by omega, i0_take hid hi rfl⟩
 refine zex 4 <| zbh <| zrg ?_
 rw [List.take_of_length_le (show x.insts.length ≤ m by omega)] at hid
 refine zpn 1 <| zld ⟨b1, 4, none⟩ (.slice B gd.length cB) (blk_cell (M74.get 0 rfl) rfl) <| zls ⟨b17, 0, none⟩ [(.slice pB pd.length pcB), (.slice iB dn.length icB), (.int .i64 x.e), (.int .i64 x.v), (.int .i64 x.a), (.int .i64 x.b)] (blk_cells (M74.get 4 rfl)) ?_
 intro aC fr
 refine zBs 67 22 1 #[(0, (.tmp 66))] 22 fr (e := 36) (size := 6) (zs := [(.slice none 0 0), (.slice none 0 0), (.int .i64 0), (.int .i64 0), (.int .i64 0), (.int .i64 0)]) (vs := [(0, (.agg #[(.slice pB pd.length pcB), (.slice iB dn.length icB), (.int .i64 x.e), (.int .i64 x.v), (.int .i64 x.a), (.int .i64 x.b)]))]) (cs := [(.slice pB pd.length pcB), (.slice iB dn.length icB), (.int .i64 x.e), (.int .i64 x.v), (.int .i64 x.a), (.int .i64 x.b)]) M74 ?_
 intro b130 w131 hb130 _ M132 _ aC ea fr; clear ea
 replace M132 := M132.nf
 refine zAp 68 (.tmp 65) (.tmp 67) 22 22 fr (e := 36) (size := 6) (bytes := 80) (z := (.agg #[(.slice none 0 0), (.slice none 0 0), (.int .i64 0), (.int .i64 0), (.int .i64 0), (.int .i64 0)])) (A := B) (B := (sM b130)) (n := gd.length) (cap := cB) (m := 1) (cap' := 1) (xs := (blC gd)) (news := [(.slice pB pd.length pcB), (.slice iB dn.length icB), (.int .i64 x.e), (.int .i64 x.v), (.int .i64 x.a), (.int .i64 x.b)]) M132 2 rfl (row_rd (M132.get 9 rfl)) rfl (by simp [Value.oneCell']) (by omega) (by simp only [maxLen]; omega) ?_
 intro A137 c138 w139 M140 _ aC ea fr; clear ea
 replace M140 := M140.nf
 have M143 := M140.od [8, 8, 8, 8, 8, 8, 8, 8, 8] 9
 revert aC
 refine zpn 1 <| zsb (ho := (by simp)) M143 0 4 (.slice A137 (gd.length + 1) c138) rfl fun w144 M145 => ?_
 replace M145 := M145.nf
 refine zfe <| zrg ?_
 have M146 := M145.od [4, 4, 4, 4, 4, 8, 7, 8, 8] 9
 have M147 : Mem noS w w144 [ownB (⟨pB, pcB, pd, iB, icB, dn, x.e, x.v, x.a, x.b⟩ : FBlk), .blk b1 24 [(.string nm), (.bool wk), (.int .i64 pa), (.int .i64 va), (.slice A137 (gd.length + 1) c138)], .blk b4 24 [(.string ⟨#[]⟩), (.bool false), (.int .i64 0), (.int .i64 0), (.slice none 0 0)], .row 36 6 A137 (gd.length + 1) c138 ((blC gd) ++ [(.slice pB pd.length pcB), (.slice iB dn.length icB), (.int .i64 x.e), (.int .i64 x.v), (.int .i64 x.a), (.int .i64 x.b)]), .pk (gd.map ownB), .blk b17 36 [(.slice pB pd.length pcB), (.slice iB dn.length icB), (.int .i64 x.e), (.int .i64 x.v), (.int .i64 x.a), (.int .i64 x.b)]] := Mem.pack (l := ownL (⟨pB, pcB, pd, iB, icB, dn, x.e, x.v, x.a, x.b⟩ : FBlk)) M146
 have M148 := M147.od [5, 4, 4, 4, 4, 5] 6
 have M149 : Mem noS w w144 [.pk (gd.map ownB ++ [ownB (⟨pB, pcB, pd, iB, icB, dn, x.e, x.v, x.a, x.b⟩ : FBlk)]), .blk b1 24 [(.string nm), (.bool wk), (.int .i64 pa), (.int .i64 va), (.slice A137 (gd.length + 1) c138)], .blk b4 24 [(.string ⟨#[]⟩), (.bool false), (.int .i64 0), (.int .i64 0), (.slice none 0 0)], .row 36 6 A137 (gd.length + 1) c138 ((blC gd) ++ [(.slice pB pd.length pcB), (.slice iB dn.length icB), (.int .i64 x.e), (.int .i64 x.v), (.int .i64 x.a), (.int .i64 x.b)]), .blk b17 36 [(.slice pB pd.length pcB), (.slice iB dn.length icB), (.int .i64 x.e), (.int .i64 x.v), (.int .i64 x.a), (.int .i64 x.b)]] := M148.pk_push
 refine zar ((k : Int) + 1) <| zpn 1 <| zfe ?_
 have M150 := M149.od [0, 3, 3, 3] 4
 have M151 : Mem noS w w144 [.blk b1 24 [(.string nm), (.bool wk), (.int .i64 pa), (.int .i64 va), (.slice A137 ((gd ++ [(⟨pB, pcB, pd, iB, icB, dn, x.e, x.v, x.a, x.b⟩ : FBlk)]).length) c138)], .blk b4 24 [(.string ⟨#[]⟩), (.bool false), (.int .i64 0), (.int .i64 0), (.slice none 0 0)], .row 36 6 A137 ((gd ++ [(⟨pB, pcB, pd, iB, icB, dn, x.e, x.v, x.a, x.b⟩ : FBlk)]).length) c138 (blC (gd ++ [(⟨pB, pcB, pd, iB, icB, dn, x.e, x.v, x.a, x.b⟩ : FBlk)])), .pk ((gd ++ [(⟨pB, pcB, pd, iB, icB, dn, x.e, x.v, x.a, x.b⟩ : FBlk)]).map ownB)] := M150.cast (by simp only [len_snoc, blC_snoc, map_snoc])
 intro aC fr
 exact ⟨fs.length - (k + 1), by omega, k + 1, gd ++ [(⟨pB, pcB, pd, iB, icB, dn, x.e, x.v, x.a, x.b⟩ : FBlk)], A137, c138, rfl, fr.kp [1, 2, 15, 16, 17], M151, by omega, e0_take hg hx (by simp only [FBlk.e0]; rw [hpd, hid])⟩
 refine zex 0 <| zbh <| zsr <| zls ⟨b1, 0, none⟩ [(.string nm), (.bool wk), (.int .i64 pa), (.int .i64 va), (.slice B gd.length cB)] (blk_cells (M12.get 0 rfl)) <| zss M12 1 [(.string nm), (.bool wk), (.int .i64 pa), (.int .i64 va), (.slice B gd.length cB)] rfl fun w154 M155 => ?_
 replace M155 := M155.nf
 refine zfe <| zre ?_
 intro aC fr
 refine outC (ad := ⟨b4, 0, none⟩) (vs := [(.string nm), (.bool wk), (.int .i64 pa), (.int .i64 va), (.slice B gd.length cB)]) fr rfl (by kernel_rfl) (by kernel_rfl) (blk_cells (M155.get 1 rfl)) ?_
 refine ⟨_, rfl, ?_⟩
 have M158 := M155.od [3, 3] 2
 rw [List.take_of_length_le (show fs.length ≤ k by omega)] at hg
 refine ⟨B, cB, gd, ?_, hg, M158⟩
 show _ = Value.agg #[.string nm, .bool wk, .int .i64 pa, .int .i64 va, .slice B (bsOf gd).length cB]; rw [bsOf_len]
end Go.Proofs.Ytejbeeaomokjpaa
