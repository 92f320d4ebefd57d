/-
  Texts of the proof, part 11.
-/
import Derived.Test.YtlfbloadopeamaaDoorZD10
namespace Go.Proofs.YtlfbloadopeamaaDoor
open Go.Mor
set_option maxRecDepth 10000 in
set_option maxHeartbeats 2000000 in
theorem of_c (n : Nat) (nm : ByteArray) (wk : Bool) (pa va : Int) (A : Option Addr) (c : Nat) (fs : List FBlk) (w : World) (hN : fs.length ≤ 1000) (hok : FOk fs) (hA : RO noS w (.fn A fs)) (hva : va = (n : Int)) (hn2 : n ≤ 20000) (hgood : GoodQ nm pa va fs) :
    Calls Tryd.prog 23 #[(fA nm wk pa va A c fs)] w (Ret fun v w' => ∃ A1 c1 A2 c2 rI rO SI SO, v = .agg #[.slice A1 (bsOf fs).length c1, .slice A2 (bsOf fs).length c2] ∧ SetsR n fs.length rI SI ∧ SetsR n fs.length rO SO ∧ LiveS n fs SI SO ∧ Mem noS w w' [.fam 86 rI, .row 83 1 A1 (bsOf fs).length c1 (slv rI), .fam 86 rO, .row 83 1 A2 (bsOf fs).length c2 (slv rO)]) := by
 have hbl := bsOf_len fs
 have hm : (bsOf fs).length ≤ 1000000 := by omega
 have hB := hA.bs
 have hvr := good_vr hgood hva
 have hpos := hgood.pos
 have hnw := fun (w0 : World) => newset_c n w0 (by omega)
 simp only [nV, ← hva] at hnw
 refine zen 164 [(fA nm wk pa va A c fs)] Tryd.func23 ?_
 have hM := Mem.init w
 refine zsr <| zbx hM 24 (fA nm wk pa va A c fs) (fV nm wk pa va A c fs) fun b1 w2 hb1 hM3 => ?_
 replace hM3 := hM3.nf
 clear hM
 refine zal hM3 50 [(.slice none 0 0), (.slice none 0 0)] fun b4 w5 hb4 hM6 => ?_
 replace hM6 := hM6.nf
 refine zfe <| zsr <| zpn 1 <| zld ⟨b1, 4, none⟩ (.slice A ((bsOf fs).length) c) (blk_cell (hM6.get 0 rfl) rfl) <| zpn 2 <| zfe <| zsq <| zkp [(1, (pT b1 0)), (2, (pT b4 0)), (3, (.int .i64 (((bsOf fs).length : Nat) : Int)))] ?_
 intro aC fr
 refine zdj (N := 164) (env0 := [(1, (pT b1 0)), (2, (pT b4 0)), (3, (.int .i64 (((bsOf fs).length : Nat) : Int)))]) (specAt [.det (.int .i64 (((bsOf fs).length : Nat) : Int)), Spec.free, .det (.int .i64 (((bsOf fs).length : Nat) : Int)), Spec.free, Spec.free, Spec.free, .det undef]) (fun ls vs w_ => match ls 6 with | true => (∃ (g7 : Nat) (g8 : Nat) (b9 : Nat), vs 1 = (.slice (sM g7) ((bsOf fs).length) ((bsOf fs).length)) ∧ vs 3 = (.slice (sM g8) ((bsOf fs).length) ((bsOf fs).length)) ∧ vs 4 = (.agg #[(.slice (sM g7) ((bsOf fs).length) ((bsOf fs).length)), (.slice (sM g8) ((bsOf fs).length) ((bsOf fs).length))]) ∧ vs 5 = (pT b9 0) ∧ Mem noS w w_ [.blk b1 24 (fV nm wk pa va A c fs), .blk b4 50 [(.slice none 0 0), (.slice none 0 0)], .row 83 1 (sM g7) ((bsOf fs).length) ((bsOf fs).length) (List.replicate ((bsOf fs).length) (.slice none 0 0)), .row 83 1 (sM g8) ((bsOf fs).length) ((bsOf fs).length) (List.replicate ((bsOf fs).length) (.slice none 0 0)), .blk b9 50 [(.slice (sM g7) ((bsOf fs).length) ((bsOf fs).length)), (.slice (sM g8) ((bsOf fs).length) ((bsOf fs).length))]]) | false => (∃ (g7 : Nat) (g8 : Nat) (b9 : Nat), (ls 1 = true → vs 1 = (.slice (sM g7) ((bsOf fs).length) ((bsOf fs).length))) ∧ (ls 3 = true → vs 3 = (.slice (sM g8) ((bsOf fs).length) ((bsOf fs).length))) ∧ (ls 4 = true → vs 4 = (.agg #[(.slice (sM g7) ((bsOf fs).length) ((bsOf fs).length)), (.slice (sM g8) ((bsOf fs).length) ((bsOf fs).length))])) ∧ (ls 5 = true → vs 5 = (pT b9 0)) ∧ Mem noS w w_ ([.blk b1 24 (fV nm wk pa va A c fs), .blk b4 50 [(.slice none 0 0), (.slice none 0 0)]] ++ groupL [(ls 1, .row 83 1 (sM g7) ((bsOf fs).length) ((bsOf fs).length) (List.replicate ((bsOf fs).length) (.slice none 0 0))), (ls 3, .row 83 1 (sM g8) ((bsOf fs).length) ((bsOf fs).length) (List.replicate ((bsOf fs).length) (.slice none 0 0))), (ls 5, .blk b9 50 [(.slice none 0 0), (.slice none 0 0)])]))) fr (plain_ok (.det (.free (.det (.free (.free (.free (.det .nil)))))))) ⟨0, 0, 0, fun h => Bool.noConfusion h, fun h => Bool.noConfusion h, fun h => Bool.noConfusion h, fun h => Bool.noConfusion h, hM6.then_ (Mem.drew _)⟩ (la (la (la (la (la (la (la lz (dPJ fun _ _ _ _ h => h)) ?_) (dPJ fun _ _ _ _ h => h)) ?_) ?_) ?_) ?_) ?_
 intro aa_ w_ ls vs rest_ hJ hi_ hc_ hp hF
 refine ⟨true, opok_guard (g0 := none) (by kernel_rfl) (by kernel_rfl), fun _ => ?_, fun h => Bool.noConfusion h⟩
 replace hF : Fr aa_ 164 [(25, (.int .i64 (((bsOf fs).length : Nat) : Int)))] := hF.kp [25]
 have f6 : ls 6 = false := notyet hc_ hi_ (n := 7) (by kernel_rfl)
 have f1 : ls 1 = false := hi_
 have f4 : ls 4 = false := notyet hc_ hi_ (n := 7) (by kernel_rfl)
 have hM_ := hJ
 simp only [f6] at hM_
 obtain ⟨g7p, g8p, b9p, e1_, e3_, e4_, e5_, hM_⟩ := hM_
 rw [f1] at hM_
 refine From_make1 (by kernel_rfl : coreAt _ 0 = some (some 26, (.makeSlice 48 (.tmp 25) (.tmp 25)), 48, none)) hF (by kernel_rfl) (by kernel_rfl) (k' := 1) rfl (e := 83) (bytes := 24) (z := (.slice none 0 0)) (n := ((bsOf fs).length)) (i := (((bsOf fs).length : Nat) : Int)) (by kernel_rfl) (by kernel_rfl) rfl (by kernel_rfl) (by kernel_rfl) rfl (by omega) (by simp only [maxLen]; omega) hM_ ?_
 intro g7q w2 _ _ hm2 _ a2 ea _
 refine From_end (by kernel_rfl) ?_; refine op_doneJ (d := some 26) (by kernel_rfl) ea trivial ?_
 show match ls 6 with | true => (∃ (g7 : Nat) (g8 : Nat) (b9 : Nat), ((.slice (sM g7q) ((bsOf fs).length) ((bsOf fs).length)) : Value) = (.slice (sM g7) ((bsOf fs).length) ((bsOf fs).length)) ∧ vs 3 = (.slice (sM g8) ((bsOf fs).length) ((bsOf fs).length)) ∧ vs 4 = (.agg #[(.slice (sM g7) ((bsOf fs).length) ((bsOf fs).length)), (.slice (sM g8) ((bsOf fs).length) ((bsOf fs).length))]) ∧ vs 5 = (pT b9 0) ∧ Mem noS w w2 [.blk b1 24 (fV nm wk pa va A c fs), .blk b4 50 [(.slice none 0 0), (.slice none 0 0)], .row 83 1 (sM g7) ((bsOf fs).length) ((bsOf fs).length) (List.replicate ((bsOf fs).length) (.slice none 0 0)), .row 83 1 (sM g8) ((bsOf fs).length) ((bsOf fs).length) (List.replicate ((bsOf fs).length) (.slice none 0 0)), .blk b9 50 [(.slice (sM g7) ((bsOf fs).length) ((bsOf fs).length)), (.slice (sM g8) ((bsOf fs).length) ((bsOf fs).length))]]) | false => (∃ (g7 : Nat) (g8 : Nat) (b9 : Nat), (true = true → ((.slice (sM g7q) ((bsOf fs).length) ((bsOf fs).length)) : Value) = (.slice (sM g7) ((bsOf fs).length) ((bsOf fs).length))) ∧ (ls 3 = true → vs 3 = (.slice (sM g8) ((bsOf fs).length) ((bsOf fs).length))) ∧ (ls 4 = true → vs 4 = (.agg #[(.slice (sM g7) ((bsOf fs).length) ((bsOf fs).length)), (.slice (sM g8) ((bsOf fs).length) ((bsOf fs).length))])) ∧ (ls 5 = true → vs 5 = (pT b9 0)) ∧ Mem noS w w2 ([.blk b1 24 (fV nm wk pa va A c fs), .blk b4 50 [(.slice none 0 0), (.slice none 0 0)]] ++ groupL [(true, .row 83 1 (sM g7) ((bsOf fs).length) ((bsOf fs).length) (List.replicate ((bsOf fs).length) (.slice none 0 0))), (ls 3, .row 83 1 (sM g8) ((bsOf fs).length) ((bsOf fs).length) (List.replicate ((bsOf fs).length) (.slice none 0 0))), (ls 5, .blk b9 50 [(.slice none 0 0), (.slice none 0 0)])]))
 rw [f6]
 exact ⟨g7q, g8p, b9p, fun _ => rfl, e3_, fun h => Bool.noConfusion (f4.symm.trans h), e5_, hm2.group 0 rfl⟩
 intro aa_ w_ ls vs rest_ hJ hi_ hc_ hp hF
 refine ⟨true, opok_guard (g0 := none) (by kernel_rfl) (by kernel_rfl), fun _ => ?_, fun h => Bool.noConfusion h⟩
 replace hF : Fr aa_ 164 [(27, (.int .i64 (((bsOf fs).length : Nat) : Int)))] := hF.kp [27]
 have f6 : ls 6 = false := notyet hc_ hi_ (n := 7) (by kernel_rfl)
 have f3 : ls 3 = false := hi_
 have f4 : ls 4 = false := notyet hc_ hi_ (n := 7) (by kernel_rfl)
 have hM_ := hJ
 simp only [f6] at hM_
 obtain ⟨g7p, g8p, b9p, e1_, e3_, e4_, e5_, hM_⟩ := hM_
 rw [f3] at hM_
 refine From_make1 (by kernel_rfl : coreAt _ 0 = some (some 28, (.makeSlice 48 (.tmp 27) (.tmp 27)), 48, none)) hF (by kernel_rfl) (by kernel_rfl) (k' := 1) rfl (e := 83) (bytes := 24) (z := (.slice none 0 0)) (n := ((bsOf fs).length)) (i := (((bsOf fs).length : Nat) : Int)) (by kernel_rfl) (by kernel_rfl) rfl (by kernel_rfl) (by kernel_rfl) rfl (by omega) (by simp only [maxLen]; omega) hM_ ?_
 intro g8q w2 _ _ hm2 _ a2 ea _
 refine From_end (by kernel_rfl) ?_; refine op_doneJ (d := some 28) (by kernel_rfl) ea trivial ?_
 show match ls 6 with | true => (∃ (g7 : Nat) (g8 : Nat) (b9 : Nat), vs 1 = (.slice (sM g7) ((bsOf fs).length) ((bsOf fs).length)) ∧ ((.slice (sM g8q) ((bsOf fs).length) ((bsOf fs).length)) : Value) = (.slice (sM g8) ((bsOf fs).length) ((bsOf fs).length)) ∧ vs 4 = (.agg #[(.slice (sM g7) ((bsOf fs).length) ((bsOf fs).length)), (.slice (sM g8) ((bsOf fs).length) ((bsOf fs).length))]) ∧ vs 5 = (pT b9 0) ∧ Mem noS w w2 [.blk b1 24 (fV nm wk pa va A c fs), .blk b4 50 [(.slice none 0 0), (.slice none 0 0)], .row 83 1 (sM g7) ((bsOf fs).length) ((bsOf fs).length) (List.replicate ((bsOf fs).length) (.slice none 0 0)), .row 83 1 (sM g8) ((bsOf fs).length) ((bsOf fs).length) (List.replicate ((bsOf fs).length) (.slice none 0 0)), .blk b9 50 [(.slice (sM g7) ((bsOf fs).length) ((bsOf fs).length)), (.slice (sM g8) ((bsOf fs).length) ((bsOf fs).length))]]) | false => (∃ (g7 : Nat) (g8 : Nat) (b9 : Nat), (ls 1 = true → vs 1 = (.slice (sM g7) ((bsOf fs).length) ((bsOf fs).length))) ∧ (true = true → ((.slice (sM g8q) ((bsOf fs).length) ((bsOf fs).length)) : Value) = (.slice (sM g8) ((bsOf fs).length) ((bsOf fs).length))) ∧ (ls 4 = true → vs 4 = (.agg #[(.slice (sM g7) ((bsOf fs).length) ((bsOf fs).length)), (.slice (sM g8) ((bsOf fs).length) ((bsOf fs).length))])) ∧ (ls 5 = true → vs 5 = (pT b9 0)) ∧ Mem noS w w2 ([.blk b1 24 (fV nm wk pa va A c fs), .blk b4 50 [(.slice none 0 0), (.slice none 0 0)]] ++ groupL [(ls 1, .row 83 1 (sM g7) ((bsOf fs).length) ((bsOf fs).length) (List.replicate ((bsOf fs).length) (.slice none 0 0))), (true, .row 83 1 (sM g8) ((bsOf fs).length) ((bsOf fs).length) (List.replicate ((bsOf fs).length) (.slice none 0 0))), (ls 5, .blk b9 50 [(.slice none 0 0), (.slice none 0 0)])]))
 rw [f6]
 exact ⟨g7p, g8q, b9p, e1_, fun _ => rfl, fun h => Bool.noConfusion (f4.symm.trans h), e5_, hm2.group 1 rfl⟩
 intro aa_ w_ ls vs rest_ hJ hi_ hc_ hp hF
 refine ⟨true, opok_guard (g0 := none) (by kernel_rfl) (by kernel_rfl), fun _ => ?_, fun h => Bool.noConfusion h⟩
 replace hF : Fr aa_ 164 [(26, vs 1), (28, vs 3)] := hF.kp [26, 28]
 have f6 : ls 6 = false := notyet hc_ hi_ (n := 7) (by kernel_rfl)
 have f1 : ls 1 = true := donebefore hc_ (fun k hk => (hp k hk).1) (n := 7) (by kernel_rfl)
 have f3 : ls 3 = true := donebefore hc_ (fun k hk => (hp k hk).1) (n := 7) (by kernel_rfl)
 have f4 : ls 4 = false := hi_
 have hM_ := hJ
 simp only [f6] at hM_
 obtain ⟨g7p, g8p, b9p, e1_, e3_, e4_, e5_, hM_⟩ := hM_
 replace e1_ := e1_ f1; try rw [e1_] at hF
 replace e3_ := e3_ f3; try rw [e3_] at hF
 refine From_pure1 (by kernel_rfl : coreAt _ 0 = some (some 29, (.build 50 #[(0, (.tmp 26)), (1, (.tmp 28))]), 50, none)) hF (by kernel_rfl) (by kernel_rfl) (k' := 1) rfl (v := (.agg #[(.slice (sM g7p) ((bsOf fs).length) ((bsOf fs).length)), (.slice (sM g8p) ((bsOf fs).length) ((bsOf fs).length))])) (by kernel_rfl) ?_
 intro a2 ea _
 refine From_end (by kernel_rfl) ?_; refine op_doneJ (d := some 29) (by kernel_rfl) ea trivial ?_
 show match ls 6 with | true => (∃ (g7 : Nat) (g8 : Nat) (b9 : Nat), vs 1 = (.slice (sM g7) ((bsOf fs).length) ((bsOf fs).length)) ∧ vs 3 = (.slice (sM g8) ((bsOf fs).length) ((bsOf fs).length)) ∧ ((.agg #[(.slice (sM g7p) ((bsOf fs).length) ((bsOf fs).length)), (.slice (sM g8p) ((bsOf fs).length) ((bsOf fs).length))]) : Value) = (.agg #[(.slice (sM g7) ((bsOf fs).length) ((bsOf fs).length)), (.slice (sM g8) ((bsOf fs).length) ((bsOf fs).length))]) ∧ vs 5 = (pT b9 0) ∧ Mem noS w w_ [.blk b1 24 (fV nm wk pa va A c fs), .blk b4 50 [(.slice none 0 0), (.slice none 0 0)], .row 83 1 (sM g7) ((bsOf fs).length) ((bsOf fs).length) (List.replicate ((bsOf fs).length) (.slice none 0 0)), .row 83 1 (sM g8) ((bsOf fs).length) ((bsOf fs).length) (List.replicate ((bsOf fs).length) (.slice none 0 0)), .blk b9 50 [(.slice (sM g7) ((bsOf fs).length) ((bsOf fs).length)), (.slice (sM g8) ((bsOf fs).length) ((bsOf fs).length))]]) | false => (∃ (g7 : Nat) (g8 : Nat) (b9 : Nat), (ls 1 = true → vs 1 = (.slice (sM g7) ((bsOf fs).length) ((bsOf fs).length))) ∧ (ls 3 = true → vs 3 = (.slice (sM g8) ((bsOf fs).length) ((bsOf fs).length))) ∧ (true = true → ((.agg #[(.slice (sM g7p) ((bsOf fs).length) ((bsOf fs).length)), (.slice (sM g8p) ((bsOf fs).length) ((bsOf fs).length))]) : Value) = (.agg #[(.slice (sM g7) ((bsOf fs).length) ((bsOf fs).length)), (.slice (sM g8) ((bsOf fs).length) ((bsOf fs).length))])) ∧ (ls 5 = true → vs 5 = (pT b9 0)) ∧ Mem noS w w_ ([.blk b1 24 (fV nm wk pa va A c fs), .blk b4 50 [(.slice none 0 0), (.slice none 0 0)]] ++ groupL [(ls 1, .row 83 1 (sM g7) ((bsOf fs).length) ((bsOf fs).length) (List.replicate ((bsOf fs).length) (.slice none 0 0))), (ls 3, .row 83 1 (sM g8) ((bsOf fs).length) ((bsOf fs).length) (List.replicate ((bsOf fs).length) (.slice none 0 0))), (ls 5, .blk b9 50 [(.slice none 0 0), (.slice none 0 0)])]))
 rw [f6]
 exact ⟨g7p, g8p, b9p, fun _ => e1_, fun _ => e3_, fun _ => rfl, e5_, hM_⟩
 intro aa_ w_ ls vs rest_ hJ hi_ hc_ hp hF
 refine ⟨true, opok_guard (g0 := none) (by kernel_rfl) (by kernel_rfl), fun _ => ?_, fun h => Bool.noConfusion h⟩
 replace hF : Fr aa_ 164 [] := hF.kp []
 have f6 : ls 6 = false := notyet hc_ hi_ (n := 7) (by kernel_rfl)
 have f5 : ls 5 = false := hi_
 have hM_ := hJ
 simp only [f6] at hM_
 obtain ⟨g7p, g8p, b9p, e1_, e3_, e4_, e5_, hM_⟩ := hM_
 rw [f5] at hM_
 refine From_alloc (by kernel_rfl : coreAt _ 0 = some (some 4, (.alloc 50), 0, none)) hF (by kernel_rfl) (by kernel_rfl) (k' := 1) rfl (cs := [(.slice none 0 0), (.slice none 0 0)]) (by kernel_rfl) hM_ ?_
 intro b9q w2 _ _ hm2 _ a2 ea _
 refine From_end (by kernel_rfl) ?_; refine op_doneJ (d := some 4) (by kernel_rfl) ea trivial ?_
 show match ls 6 with | true => (∃ (g7 : Nat) (g8 : Nat) (b9 : Nat), vs 1 = (.slice (sM g7) ((bsOf fs).length) ((bsOf fs).length)) ∧ vs 3 = (.slice (sM g8) ((bsOf fs).length) ((bsOf fs).length)) ∧ vs 4 = (.agg #[(.slice (sM g7) ((bsOf fs).length) ((bsOf fs).length)), (.slice (sM g8) ((bsOf fs).length) ((bsOf fs).length))]) ∧ ((pT b9q 0) : Value) = (pT b9 0) ∧ Mem noS w w2 [.blk b1 24 (fV nm wk pa va A c fs), .blk b4 50 [(.slice none 0 0), (.slice none 0 0)], .row 83 1 (sM g7) ((bsOf fs).length) ((bsOf fs).length) (List.replicate ((bsOf fs).length) (.slice none 0 0)), .row 83 1 (sM g8) ((bsOf fs).length) ((bsOf fs).length) (List.replicate ((bsOf fs).length) (.slice none 0 0)), .blk b9 50 [(.slice (sM g7) ((bsOf fs).length) ((bsOf fs).length)), (.slice (sM g8) ((bsOf fs).length) ((bsOf fs).length))]]) | false => (∃ (g7 : Nat) (g8 : Nat) (b9 : Nat), (ls 1 = true → vs 1 = (.slice (sM g7) ((bsOf fs).length) ((bsOf fs).length))) ∧ (ls 3 = true → vs 3 = (.slice (sM g8) ((bsOf fs).length) ((bsOf fs).length))) ∧ (ls 4 = true → vs 4 = (.agg #[(.slice (sM g7) ((bsOf fs).length) ((bsOf fs).length)), (.slice (sM g8) ((bsOf fs).length) ((bsOf fs).length))])) ∧ (true = true → ((pT b9q 0) : Value) = (pT b9 0)) ∧ Mem noS w w2 ([.blk b1 24 (fV nm wk pa va A c fs), .blk b4 50 [(.slice none 0 0), (.slice none 0 0)]] ++ groupL [(ls 1, .row 83 1 (sM g7) ((bsOf fs).length) ((bsOf fs).length) (List.replicate ((bsOf fs).length) (.slice none 0 0))), (ls 3, .row 83 1 (sM g8) ((bsOf fs).length) ((bsOf fs).length) (List.replicate ((bsOf fs).length) (.slice none 0 0))), (true, .blk b9 50 [(.slice none 0 0), (.slice none 0 0)])]))
 rw [f6]
 exact ⟨g7p, g8p, b9q, e1_, e3_, e4_, fun _ => rfl, hm2.group 2 rfl⟩
 intro aa_ w_ ls vs rest_ hJ hi_ hc_ hp hF
 refine ⟨true, opok_guard (g0 := none) (by kernel_rfl) (by kernel_rfl), fun _ => ?_, fun h => Bool.noConfusion h⟩
 replace hF : Fr aa_ 164 [(4, vs 5), (29, vs 4)] := hF.kp [4, 29]
 have f6 : ls 6 = false := hi_
 have f1 : ls 1 = true := donebefore hc_ (fun k hk => (hp k hk).1) (n := 7) (by kernel_rfl)
 have f3 : ls 3 = true := donebefore hc_ (fun k hk => (hp k hk).1) (n := 7) (by kernel_rfl)
 have f4 : ls 4 = true := donebefore hc_ (fun k hk => (hp k hk).1) (n := 7) (by kernel_rfl)
 have f5 : ls 5 = true := donebefore hc_ (fun k hk => (hp k hk).1) (n := 7) (by kernel_rfl)
 have hM_ := hJ
 simp only [f6] at hM_
 obtain ⟨g7p, g8p, b9p, e1_, e3_, e4_, e5_, hM_⟩ := hM_
 replace e1_ := e1_ f1; try rw [e1_] at hF
 replace e3_ := e3_ f3; try rw [e3_] at hF
 replace e4_ := e4_ f4; try rw [e4_] at hF
 replace e5_ := e5_ f5; try rw [e5_] at hF
 rw [f1, f3, f5] at hM_
 change Mem noS w w_ [.blk b1 24 (fV nm wk pa va A c fs), .blk b4 50 [(.slice none 0 0), (.slice none 0 0)], .row 83 1 (sM g7p) ((bsOf fs).length) ((bsOf fs).length) (List.replicate ((bsOf fs).length) (.slice none 0 0)), .row 83 1 (sM g8p) ((bsOf fs).length) ((bsOf fs).length) (List.replicate ((bsOf fs).length) (.slice none 0 0)), .blk b9p 50 [(.slice none 0 0), (.slice none 0 0)]] at hM_
 refine From_storeS_blk (by kernel_rfl : coreAt _ 0 = some (none, (.store 50 (.tmp 4) (.tmp 29)), 0, none)) hF (by kernel_rfl) (by kernel_rfl) (k' := 1) rfl (b := b9p) (t0 := 50) (vs := [(.slice (sM g7p) ((bsOf fs).length) ((bsOf fs).length)), (.slice (sM g8p) ((bsOf fs).length) ((bsOf fs).length))]) (cs := [(.slice none 0 0), (.slice none 0 0)]) (by kernel_rfl) (by kernel_rfl) (by kernel_rfl) (by simp only [List.mem_cons, List.not_mem_nil, or_false]; intro v hv; rcases hv with rfl | rfl <;> first | rfl | assumption) hM_ 4 rfl rfl ?_
 intro w2 hm2 _ a2 ea _
 refine From_end (by kernel_rfl) ?_; refine op_doneJ (d := none) (by kernel_rfl) ea rfl ?_
 show ∃ (g7 : Nat) (g8 : Nat) (b9 : Nat), _
 exact ⟨g7p, g8p, b9p, e1_, e3_, e4_, e5_, hm2⟩
 intro aC w14 ls vs hall hM15 hv fr
 simp only [show ls 6 = true from hall 6 (by decide)] at hM15
 revert aC; refine zkp [(1, (pT b1 0)), (2, (pT b4 0)), (3, (.int .i64 (((bsOf fs).length : Nat) : Int))), (4, vs 5)] ?_
 obtain ⟨g7, g8, b9, e1_, e3_, e4_, e5_, hM15⟩ := hM15
 try rw [e1_]
 try rw [e3_]
 try rw [e4_]
 try rw [e5_]
 clear e1_ e3_ e4_ e5_
 clear hall hv fr aC hM6; clear vs ls
 refine zsr <| zls ⟨b1, 0, none⟩ (fV nm wk pa va A c fs) (blk_cells (hM15.get 0 rfl)) <| zcl (vs := #[(fA nm wk pa va A c fs)]) (all_c _ _ _ _ A c (bsOf fs) w14 hm (hB.at_ hM15)) ?_
 rintro _ w19 ⟨A16, c17, rows18, rfl, hfrows18, hM20x⟩
 have hM20 := hM15.cl hM20x
 refine zpn 1 <| zfe <| zsq <| zsp <| zbk 0 ?_
 intro aC fr
 refine zlp (fun n_ a_ w_ => ∃ (k : Nat) (rowsI : List RowV) (rowsO : List RowV), n_ = fs.length - k ∧ Fr a_ 164 [(1, (pT b1 0)), (2, (pT b4 0)), (4, (pT b9 0)), (5, (.slice A16 ((bsOf fs).length) c17)), (32, (.int .i64 (((bsOf fs).length : Nat) : Int))), (33, (nV k))] ∧ Mem noS w w_ [.fam 86 rowsI, .fam 86 rowsO, .blk b1 24 (fV nm wk pa va A c fs), .blk b4 50 [(.slice none 0 0), (.slice none 0 0)], .row 83 1 (sM g7) ((bsOf fs).length) ((bsOf fs).length) (slv rowsI), .row 83 1 (sM g8) ((bsOf fs).length) ((bsOf fs).length) (slv rowsO), .blk b9 50 [(.slice (sM g7) ((bsOf fs).length) ((bsOf fs).length)), (.slice (sM g8) ((bsOf fs).length) ((bsOf fs).length))], .fam 3 rows18, .row 36 1 A16 ((bsOf fs).length) c17 (slv rows18)] ∧ (k ≤ fs.length) ∧ (SetsTo n fs.length k rowsI) ∧ (SetsTo n fs.length k rowsO)) (n := _) ⟨0, List.replicate (bsOf fs).length nilV, List.replicate (bsOf fs).length nilV, rfl, fr.kp [1, 2, 4, 5, 32, 33], (((((hM20.call (Mem.nilfam _ 86 (bsOf fs).length)).call (Mem.nilfam _ 86 (bsOf fs).length)).front 7 rfl).front 8 rfl).cast (by simp [slv, nilV])), by omega, by rw [hbl]; exact SetsTo.start, by rw [hbl]; exact SetsTo.start⟩ ?_
 clear fr aC hM20; rintro n aC w23 ⟨k, rowsI, rowsO, rfl, fr, hM24, hk, hRI, hRO⟩
 revert aC
 refine zsp <| zsq <| zcD (((k : Int) : Int) < (((bsOf fs).length : Nat) : Int)) (fun c27 => ?_) (fun c27 => ?_)
 refine zsk <| zsq <| zbk 1 <| zsp <| zkp [(1, (pT b1 0)), (2, (pT b4 0)), (4, (pT b9 0)), (5, (.slice A16 ((bsOf fs).length) c17)), (6, (nV k)), (32, (.int .i64 (((bsOf fs).length : Nat) : Int))), (33, (nV k))] ?_
 intro aC fr
 refine zdj (N := 164) (env0 := [(1, (pT b1 0)), (2, (pT b4 0)), (4, (pT b9 0)), (5, (.slice A16 ((bsOf fs).length) c17)), (6, (nV k)), (32, (.int .i64 (((bsOf fs).length : Nat) : Int))), (33, (nV k))]) (specAt [.det (pT b9 0), .det (.slice (sM g7) ((bsOf fs).length) ((bsOf fs).length)), .det (nV k), .det (pT b9 1), .det (.slice (sM g8) ((bsOf fs).length) ((bsOf fs).length)), .det (nV k), .det (pT b1 3), .det (.int .i64 va), Spec.free, .det (pT b1 3), .det (.int .i64 va), Spec.free, .det (.pointer (some ((⟨g7, 0, none⟩ : Addr).add (((k : Int)).toNat * 1)))), .det undef, .det (.pointer (some ((⟨g8, 0, none⟩ : Addr).add (((k : Int)).toNat * 1)))), .det undef]) (fun ls vs w_ => match ls 15 with | true => (∃ (g28 : Nat) (g29 : Nat), vs 8 = (.slice (sM g28) ((n + 63) / 64) ((n + 63) / 64)) ∧ vs 11 = (.slice (sM g29) ((n + 63) / 64) ((n + 63) / 64)) ∧ Mem noS w w_ [.fam 86 rowsI, .fam 86 rowsO, .blk b1 24 (fV nm wk pa va A c fs), .blk b4 50 [(.slice none 0 0), (.slice none 0 0)], .row 83 1 (sM g7) ((bsOf fs).length) ((bsOf fs).length) ((slv rowsI).set (((k : Int)).toNat * 1) (.slice (sM g28) ((n + 63) / 64) ((n + 63) / 64))), .row 83 1 (sM g8) ((bsOf fs).length) ((bsOf fs).length) ((slv rowsO).set (((k : Int)).toNat * 1) (.slice (sM g29) ((n + 63) / 64) ((n + 63) / 64))), .blk b9 50 [(.slice (sM g7) ((bsOf fs).length) ((bsOf fs).length)), (.slice (sM g8) ((bsOf fs).length) ((bsOf fs).length))], .fam 3 rows18, .row 36 1 A16 ((bsOf fs).length) c17 (slv rows18), .row 86 1 (sM g28) ((n + 63) / 64) ((n + 63) / 64) (u64s (List.replicate ((n + 63) / 64) 0)), .row 86 1 (sM g29) ((n + 63) / 64) ((n + 63) / 64) (u64s (List.replicate ((n + 63) / 64) 0))]) | false => (match ls 13 with | true => (∃ (g28 : Nat) (g29 : Nat), vs 8 = (.slice (sM g28) ((n + 63) / 64) ((n + 63) / 64)) ∧ vs 11 = (.slice (sM g29) ((n + 63) / 64) ((n + 63) / 64)) ∧ Mem noS w w_ [.fam 86 rowsI, .fam 86 rowsO, .blk b1 24 (fV nm wk pa va A c fs), .blk b4 50 [(.slice none 0 0), (.slice none 0 0)], .row 83 1 (sM g7) ((bsOf fs).length) ((bsOf fs).length) ((slv rowsI).set (((k : Int)).toNat * 1) (.slice (sM g28) ((n + 63) / 64) ((n + 63) / 64))), .row 83 1 (sM g8) ((bsOf fs).length) ((bsOf fs).length) (slv rowsO), .blk b9 50 [(.slice (sM g7) ((bsOf fs).length) ((bsOf fs).length)), (.slice (sM g8) ((bsOf fs).length) ((bsOf fs).length))], .fam 3 rows18, .row 36 1 A16 ((bsOf fs).length) c17 (slv rows18), .row 86 1 (sM g28) ((n + 63) / 64) ((n + 63) / 64) (u64s (List.replicate ((n + 63) / 64) 0)), .row 86 1 (sM g29) ((n + 63) / 64) ((n + 63) / 64) (u64s (List.replicate ((n + 63) / 64) 0))]) | false => (match ls 11 with | true => (∃ (g28 : Nat) (g29 : Nat), vs 8 = (.slice (sM g28) ((n + 63) / 64) ((n + 63) / 64)) ∧ vs 11 = (.slice (sM g29) ((n + 63) / 64) ((n + 63) / 64)) ∧ Mem noS w w_ [.fam 86 rowsI, .fam 86 rowsO, .blk b1 24 (fV nm wk pa va A c fs), .blk b4 50 [(.slice none 0 0), (.slice none 0 0)], .row 83 1 (sM g7) ((bsOf fs).length) ((bsOf fs).length) (slv rowsI), .row 83 1 (sM g8) ((bsOf fs).length) ((bsOf fs).length) (slv rowsO), .blk b9 50 [(.slice (sM g7) ((bsOf fs).length) ((bsOf fs).length)), (.slice (sM g8) ((bsOf fs).length) ((bsOf fs).length))], .fam 3 rows18, .row 36 1 A16 ((bsOf fs).length) c17 (slv rows18), .row 86 1 (sM g28) ((n + 63) / 64) ((n + 63) / 64) (u64s (List.replicate ((n + 63) / 64) 0)), .row 86 1 (sM g29) ((n + 63) / 64) ((n + 63) / 64) (u64s (List.replicate ((n + 63) / 64) 0))]) | false => (match ls 8 with | true => (∃ (g28 : Nat), vs 8 = (.slice (sM g28) ((n + 63) / 64) ((n + 63) / 64)) ∧ Mem noS w w_ [.fam 86 rowsI, .fam 86 rowsO, .blk b1 24 (fV nm wk pa va A c fs), .blk b4 50 [(.slice none 0 0), (.slice none 0 0)], .row 83 1 (sM g7) ((bsOf fs).length) ((bsOf fs).length) (slv rowsI), .row 83 1 (sM g8) ((bsOf fs).length) ((bsOf fs).length) (slv rowsO), .blk b9 50 [(.slice (sM g7) ((bsOf fs).length) ((bsOf fs).length)), (.slice (sM g8) ((bsOf fs).length) ((bsOf fs).length))], .fam 3 rows18, .row 36 1 A16 ((bsOf fs).length) c17 (slv rows18), .row 86 1 (sM g28) ((n + 63) / 64) ((n + 63) / 64) (u64s (List.replicate ((n + 63) / 64) 0))]) | false => (Mem noS w w_ [.fam 86 rowsI, .fam 86 rowsO, .blk b1 24 (fV nm wk pa va A c fs), .blk b4 50 [(.slice none 0 0), (.slice none 0 0)], .row 83 1 (sM g7) ((bsOf fs).length) ((bsOf fs).length) (slv rowsI), .row 83 1 (sM g8) ((bsOf fs).length) ((bsOf fs).length) (slv rowsO), .blk b9 50 [(.slice (sM g7) ((bsOf fs).length) ((bsOf fs).length)), (.slice (sM g8) ((bsOf fs).length) ((bsOf fs).length))], .fam 3 rows18, .row 36 1 A16 ((bsOf fs).length) c17 (slv rows18)]))))) fr (plain_ok (.det (.det (.det (.det (.det (.det (.det (.det (.free (.det (.det (.free (.det (.det (.det (.det .nil))))))))))))))))) (hM24.then_ (Mem.drew _)) (la (la (la (la (la (la (la (la (la (la (la (la (la (la (la (la lz (dPJ fun _ _ _ _ h => h)) (dLJ ⟨b9, 0, none⟩ (.slice (sM g7) ((bsOf fs).length) ((bsOf fs).length)) (fun _ _ _ _ h => h) ?_)) (dPJ fun _ _ _ _ h => h)) (dPJ fun _ _ _ _ h => h)) (dLJ ⟨b9, 1, none⟩ (.slice (sM g8) ((bsOf fs).length) ((bsOf fs).length)) (fun _ _ _ _ h => h) ?_)) (dPJ fun _ _ _ _ h => h)) (dPJ fun _ _ _ _ h => h)) (dLJ ⟨b1, 3, none⟩ (.int .i64 va) (fun _ _ _ _ h => h) ?_)) ?_) (dPJ fun _ _ _ _ h => h)) (dLJ ⟨b1, 3, none⟩ (.int .i64 va) (fun _ _ _ _ h => h) ?_)) ?_) (dIJ ⟨g7, 0, none⟩ ((bsOf fs).length) 1 (k : Int) fun _ _ _ _ h => h)) ?_) (dIJ ⟨g8, 0, none⟩ ((bsOf fs).length) 1 (k : Int) fun _ _ _ _ h => h)) ?_) ?_
 intro w_ ls vs hJ hi_ hc_ hp
 have f13 : ls 13 = false := notyet hc_ hi_ (n := 16) (by kernel_rfl)
 have f15 : ls 15 = false := notyet hc_ hi_ (n := 16) (by kernel_rfl)
 have hM_ := hJ
 simp only [f13, f15] at hM_
 cases fu11 : ls 11
 simp only [fu11] at hM_
 cases fu8 : ls 8
 simp only [fu8] at hM_
 exact (blk_cell (hM_.get 6 rfl) rfl)
 simp only [fu8] at hM_
 obtain ⟨_, _, hM_⟩ := hM_
 exact (blk_cell (hM_.get 6 rfl) rfl)
 simp only [fu11] at hM_
 obtain ⟨_, _, _, _, hM_⟩ := hM_
 exact (blk_cell (hM_.get 6 rfl) rfl)
 intro w_ ls vs hJ hi_ hc_ hp
 have f15 : ls 15 = false := notyet hc_ hi_ (n := 16) (by kernel_rfl)
 have hM_ := hJ
 simp only [f15] at hM_
 cases fu13 : ls 13
 simp only [fu13] at hM_
 cases fu11 : ls 11
 simp only [fu11] at hM_
 cases fu8 : ls 8
 simp only [fu8] at hM_
 exact (blk_cell (hM_.get 6 rfl) rfl)
 simp only [fu8] at hM_
 obtain ⟨_, _, hM_⟩ := hM_
 exact (blk_cell (hM_.get 6 rfl) rfl)
 simp only [fu11] at hM_
 obtain ⟨_, _, _, _, hM_⟩ := hM_
 exact (blk_cell (hM_.get 6 rfl) rfl)
 simp only [fu13] at hM_
 obtain ⟨_, _, _, _, hM_⟩ := hM_
 exact (blk_cell (hM_.get 6 rfl) rfl)
 intro w_ ls vs hJ hi_ hc_ hp
 have f8 : ls 8 = false := notyet hc_ hi_ (n := 16) (by kernel_rfl)
 have f11 : ls 11 = false := notyet hc_ hi_ (n := 16) (by kernel_rfl)
 have f13 : ls 13 = false := notyet hc_ hi_ (n := 16) (by kernel_rfl)
 have f15 : ls 15 = false := notyet hc_ hi_ (n := 16) (by kernel_rfl)
 have hM_ := hJ
 simp only [f8, f11, f13, f15] at hM_
 exact (blk_cell (hM_.get 2 rfl) rfl)
 intro aa_ w_ ls vs rest_ hJ hi_ hc_ hp hF
 refine ⟨true, opok_guard (g0 := none) (by kernel_rfl) (by kernel_rfl), fun _ => ?_, fun h => Bool.noConfusion h⟩
 replace hF : Fr aa_ 164 [(43, (.int .i64 va))] := hF.kp [43]
 have f8 : ls 8 = false := hi_
 have f11 : ls 11 = false := notyet hc_ hi_ (n := 16) (by kernel_rfl)
 have f13 : ls 13 = false := notyet hc_ hi_ (n := 16) (by kernel_rfl)
 have f15 : ls 15 = false := notyet hc_ hi_ (n := 16) (by kernel_rfl)
 have hM_ := hJ
 simp only [f8, f11, f13, f15] at hM_
 refine From_call (by kernel_rfl : coreAt _ 0 = some (some 44, (.call { callee := (.value (.func 51)), args := #[(.tmp 43)], argTypes := #[3] }), 83, none)) hF (by kernel_rfl) (by kernel_rfl) (k' := 1) rfl (f := 51) (vs := [(.int .i64 va)]) (cap := []) (by kernel_rfl) (by kernel_rfl) (by kernel_rfl) (hnw w_) ?_
 rintro _ w2 ⟨g28p, rfl, hm2⟩ a2 ea _
 have hm3 := hM_.call hm2
 refine From_end (by kernel_rfl) ?_; refine op_doneJ (d := some 44) (by kernel_rfl) ea trivial ?_
 show match ls 15 with | true => _ | false => (match ls 13 with | true => _ | false => (match ls 11 with | true => _ | false => (∃ (g28 : Nat), _)))
 rw [f15, f13, f11]
 exact ⟨g28p, rfl, hm3⟩
 intro w_ ls vs hJ hi_ hc_ hp
 have f11 : ls 11 = false := notyet hc_ hi_ (n := 16) (by kernel_rfl)
 have f13 : ls 13 = false := notyet hc_ hi_ (n := 16) (by kernel_rfl)
 have f15 : ls 15 = false := notyet hc_ hi_ (n := 16) (by kernel_rfl)
 have hM_ := hJ
 simp only [f11, f13, f15] at hM_
 cases fu : ls 8
 simp only [fu] at hM_
 exact (blk_cell (hM_.get 2 rfl) rfl)
 simp only [fu] at hM_
 obtain ⟨_, _, hM_⟩ := hM_
 exact (blk_cell (hM_.get 2 rfl) rfl)
 intro aa_ w_ ls vs rest_ hJ hi_ hc_ hp hF
 refine ⟨true, opok_guard (g0 := none) (by kernel_rfl) (by kernel_rfl), fun _ => ?_, fun h => Bool.noConfusion h⟩
 replace hF : Fr aa_ 164 [(46, (.int .i64 va))] := hF.kp [46]
 have f8 : ls 8 = true := donebefore hc_ (fun k hk => (hp k hk).1) (n := 16) (by kernel_rfl)
 have f11 : ls 11 = false := hi_
 have f13 : ls 13 = false := notyet hc_ hi_ (n := 16) (by kernel_rfl)
 have f15 : ls 15 = false := notyet hc_ hi_ (n := 16) (by kernel_rfl)
 have hM_ := hJ
 simp only [f8, f11, f13, f15] at hM_
 obtain ⟨g28p, e8_, hM_⟩ := hM_
 try rw [e8_] at hF
 refine From_call (by kernel_rfl : coreAt _ 0 = some (some 47, (.call { callee := (.value (.func 51)), args := #[(.tmp 46)], argTypes := #[3] }), 83, none)) hF (by kernel_rfl) (by kernel_rfl) (k' := 1) rfl (f := 51) (vs := [(.int .i64 va)]) (cap := []) (by kernel_rfl) (by kernel_rfl) (by kernel_rfl) (hnw w_) ?_
 rintro _ w2 ⟨g29p, rfl, hm2⟩ a2 ea _
 have hm3 := hM_.call hm2
 refine From_end (by kernel_rfl) ?_; refine op_doneJ (d := some 47) (by kernel_rfl) ea trivial ?_
 show match ls 15 with | true => _ | false => (match ls 13 with | true => _ | false => (∃ (g28 : Nat) (g29 : Nat), _))
 rw [f15, f13]
 exact ⟨g28p, g29p, e8_, rfl, hm3⟩
 intro aa_ w_ ls vs rest_ hJ hi_ hc_ hp hF
 refine ⟨true, opok_guard (g0 := none) (by kernel_rfl) (by kernel_rfl), fun _ => ?_, fun h => Bool.noConfusion h⟩
 replace hF : Fr aa_ 164 [(44, vs 8), (48, (.pointer (some ((⟨g7, 0, none⟩ : Addr).add (((k : Int)).toNat * 1)))))] := hF.kp [44, 48]
 have f8 : ls 8 = true := donebefore hc_ (fun k hk => (hp k hk).1) (n := 16) (by kernel_rfl)
 have f11 : ls 11 = true := donebefore hc_ (fun k hk => (hp k hk).1) (n := 16) (by kernel_rfl)
 have f13 : ls 13 = false := hi_
 have f15 : ls 15 = false := notyet hc_ hi_ (n := 16) (by kernel_rfl)
 have hM_ := hJ
 simp only [f8, f11, f13, f15] at hM_
 obtain ⟨g28p, g29p, e8_, e11_, hM_⟩ := hM_
 try rw [e8_] at hF
 try rw [e11_] at hF
 refine From_store_row (by kernel_rfl : coreAt _ 0 = some (none, (.store 83 (.tmp 48) (.tmp 44)), 0, none)) hF (by kernel_rfl) (by kernel_rfl) (k' := 1) rfl (ad := (⟨g7, 0, none⟩ : Addr)) (j := (((k : Int)).toNat * 1)) (e := 83) (size := 1) (n := ((bsOf fs).length)) (cap := ((bsOf fs).length)) (v := (.slice (sM g28p) ((n + 63) / 64) ((n + 63) / 64))) (xs := (slv rowsI)) (ad' := ((⟨g7, 0, none⟩ : Addr).add (((k : Int)).toNat * 1))) (by kernel_rfl) rfl (by kernel_rfl) (by kernel_rfl) rfl hM_ 4 rfl (by omega) ?_
 intro w2 hm2 _ a2 ea _
 refine From_end (by kernel_rfl) ?_; refine op_doneJ (d := none) (by kernel_rfl) ea rfl ?_
 show match ls 15 with | true => _ | false => (∃ (g28 : Nat) (g29 : Nat), _)
 rw [f15]
 exact ⟨g28p, g29p, e8_, e11_, hm2⟩
 intro aa_ w_ ls vs rest_ hJ hi_ hc_ hp hF
 refine ⟨true, opok_guard (g0 := none) (by kernel_rfl) (by kernel_rfl), fun _ => ?_, fun h => Bool.noConfusion h⟩
 replace hF : Fr aa_ 164 [(47, vs 11), (49, (.pointer (some ((⟨g8, 0, none⟩ : Addr).add (((k : Int)).toNat * 1)))))] := hF.kp [47, 49]
 have f8 : ls 8 = true := donebefore hc_ (fun k hk => (hp k hk).1) (n := 16) (by kernel_rfl)
 have f11 : ls 11 = true := donebefore hc_ (fun k hk => (hp k hk).1) (n := 16) (by kernel_rfl)
 have f13 : ls 13 = true := donebefore hc_ (fun k hk => (hp k hk).1) (n := 16) (by kernel_rfl)
 have f15 : ls 15 = false := hi_
 have hM_ := hJ
 simp only [f8, f11, f13, f15] at hM_
 obtain ⟨g28p, g29p, e8_, e11_, hM_⟩ := hM_
 try rw [e8_] at hF
 try rw [e11_] at hF
 refine From_store_row (by kernel_rfl : coreAt _ 0 = some (none, (.store 83 (.tmp 49) (.tmp 47)), 0, none)) hF (by kernel_rfl) (by kernel_rfl) (k' := 1) rfl (ad := (⟨g8, 0, none⟩ : Addr)) (j := (((k : Int)).toNat * 1)) (e := 83) (size := 1) (n := ((bsOf fs).length)) (cap := ((bsOf fs).length)) (v := (.slice (sM g29p) ((n + 63) / 64) ((n + 63) / 64))) (xs := (slv rowsO)) (ad' := ((⟨g8, 0, none⟩ : Addr).add (((k : Int)).toNat * 1))) (by kernel_rfl) rfl (by kernel_rfl) (by kernel_rfl) rfl hM_ 5 rfl (by omega) ?_
 intro w2 hm2 _ a2 ea _
 refine From_end (by kernel_rfl) ?_; refine op_doneJ (d := none) (by kernel_rfl) ea rfl ?_
 show ∃ (g28 : Nat) (g29 : Nat), _
 exact ⟨g28p, g29p, e8_, e11_, hm2⟩
 intro aC w34 ls vs hall hM35 hv fr
 simp only [show ls 15 = true from hall 15 (by decide)] at hM35
 revert aC; refine zkp [(1, (pT b1 0)), (2, (pT b4 0)), (4, (pT b9 0)), (5, (.slice A16 ((bsOf fs).length) c17)), (32, (.int .i64 (((bsOf fs).length : Nat) : Int))), (33, (nV k))] ?_
 obtain ⟨g28, g29, e8_, e11_, hM35⟩ := hM35
 try rw [e8_]
 try rw [e11_]
 clear e8_ e11_
 clear hall hv fr aC hM24; clear vs ls
 refine zrg ?_
 have hM36 := hM35.od [10, 9, 9, 9, 9, 9, 9, 9, 9, 10, 10] 11
 have hM37 : Mem noS w w34 [.fam 86 (rowsI.set k ⟨(sM g28), ((n + 63) / 64), ((n + 63) / 64), u64s (List.replicate ((n + 63) / 64) 0)⟩), .fam 86 rowsO, .blk b1 24 (fV nm wk pa va A c fs), .blk b4 50 [(.slice none 0 0), (.slice none 0 0)], .row 83 1 (sM g7) ((bsOf fs).length) ((bsOf fs).length) ((slv rowsI).set (((k : Int)).toNat * 1) (.slice (sM g28) ((n + 63) / 64) ((n + 63) / 64))), .row 83 1 (sM g8) ((bsOf fs).length) ((bsOf fs).length) ((slv rowsO).set (((k : Int)).toNat * 1) (.slice (sM g29) ((n + 63) / 64) ((n + 63) / 64))), .blk b9 50 [(.slice (sM g7) ((bsOf fs).length) ((bsOf fs).length)), (.slice (sM g8) ((bsOf fs).length) ((bsOf fs).length))], .fam 3 rows18, .row 36 1 A16 ((bsOf fs).length) c17 (slv rows18), .row 86 1 (sM g29) ((n + 63) / 64) ((n + 63) / 64) (u64s (List.replicate ((n + 63) / 64) 0))] := hM36.unfocus k (hRI.nil k (Nat.le_refl _) (by omega))
 have hM38 : Mem noS w w34 [.fam 86 (rowsI.set k ⟨(sM g28), ((n + 63) / 64), ((n + 63) / 64), u64s (List.replicate ((n + 63) / 64) 0)⟩), .fam 86 rowsO, .blk b1 24 (fV nm wk pa va A c fs), .blk b4 50 [(.slice none 0 0), (.slice none 0 0)], .row 83 1 (sM g7) ((bsOf fs).length) ((bsOf fs).length) (slv (rowsI.set k ⟨(sM g28), ((n + 63) / 64), ((n + 63) / 64), u64s (List.replicate ((n + 63) / 64) 0)⟩)), .row 83 1 (sM g8) ((bsOf fs).length) ((bsOf fs).length) ((slv rowsO).set (((k : Int)).toNat * 1) (.slice (sM g29) ((n + 63) / 64) ((n + 63) / 64))), .blk b9 50 [(.slice (sM g7) ((bsOf fs).length) ((bsOf fs).length)), (.slice (sM g8) ((bsOf fs).length) ((bsOf fs).length))], .fam 3 rows18, .row 36 1 A16 ((bsOf fs).length) c17 (slv rows18), .row 86 1 (sM g29) ((n + 63) / 64) ((n + 63) / 64) (u64s (List.replicate ((n + 63) / 64) 0))] := hM37.cast (by simp only [slv_set, Int.toNat_natCast, Nat.mul_one])
 have hM39 := hM38.od [8, 8, 8, 8, 8, 8, 8, 7, 9, 9] 10
 have hM40 : Mem noS w w34 [.fam 86 (rowsO.set k ⟨(sM g29), ((n + 63) / 64), ((n + 63) / 64), u64s (List.replicate ((n + 63) / 64) 0)⟩), .fam 86 (rowsI.set k ⟨(sM g28), ((n + 63) / 64), ((n + 63) / 64), u64s (List.replicate ((n + 63) / 64) 0)⟩), .blk b1 24 (fV nm wk pa va A c fs), .blk b4 50 [(.slice none 0 0), (.slice none 0 0)], .row 83 1 (sM g7) ((bsOf fs).length) ((bsOf fs).length) (slv (rowsI.set k ⟨(sM g28), ((n + 63) / 64), ((n + 63) / 64), u64s (List.replicate ((n + 63) / 64) 0)⟩)), .row 83 1 (sM g8) ((bsOf fs).length) ((bsOf fs).length) ((slv rowsO).set (((k : Int)).toNat * 1) (.slice (sM g29) ((n + 63) / 64) ((n + 63) / 64))), .blk b9 50 [(.slice (sM g7) ((bsOf fs).length) ((bsOf fs).length)), (.slice (sM g8) ((bsOf fs).length) ((bsOf fs).length))], .fam 3 rows18, .row 36 1 A16 ((bsOf fs).length) c17 (slv rows18)] := hM39.unfocus k (hRO.nil k (Nat.le_refl _) (by omega))
 have hM41 : Mem noS w w34 [.fam 86 (rowsO.set k ⟨(sM g29), ((n + 63) / 64), ((n + 63) / 64), u64s (List.replicate ((n + 63) / 64) 0)⟩), .fam 86 (rowsI.set k ⟨(sM g28), ((n + 63) / 64), ((n + 63) / 64), u64s (List.replicate ((n + 63) / 64) 0)⟩), .blk b1 24 (fV nm wk pa va A c fs), .blk b4 50 [(.slice none 0 0), (.slice none 0 0)], .row 83 1 (sM g7) ((bsOf fs).length) ((bsOf fs).length) (slv (rowsI.set k ⟨(sM g28), ((n + 63) / 64), ((n + 63) / 64), u64s (List.replicate ((n + 63) / 64) 0)⟩)), .row 83 1 (sM g8) ((bsOf fs).length) ((bsOf fs).length) (slv (rowsO.set k ⟨(sM g29), ((n + 63) / 64), ((n + 63) / 64), u64s (List.replicate ((n + 63) / 64) 0)⟩)), .blk b9 50 [(.slice (sM g7) ((bsOf fs).length) ((bsOf fs).length)), (.slice (sM g8) ((bsOf fs).length) ((bsOf fs).length))], .fam 3 rows18, .row 36 1 A16 ((bsOf fs).length) c17 (slv rows18)] := hM40.cast (by simp only [slv_set, Int.toNat_natCast, Nat.mul_one])
 have hM42 := hM41.od [8, 8, 8, 8, 8, 8, 8, 7, 8] 9
 refine zar ((k : Int) + 1) <| zpn 1 <| zfe ?_
 intro aC fr
 exact ⟨fs.length - (k + 1), by omega, k + 1, (rowsI.set k ⟨(sM g28), ((n + 63) / 64), ((n + 63) / 64), u64s (List.replicate ((n + 63) / 64) 0)⟩), (rowsO.set k ⟨(sM g29), ((n + 63) / 64), ((n + 63) / 64), u64s (List.replicate ((n + 63) / 64) 0)⟩), rfl, fr.kp [1, 2, 4, 5, 32, 33], hM42, by omega, hRI.next (by omega), hRO.next (by omega)⟩
 refine zex 0 <| zbh <| zsq <| zsr ?_
 have hRI0 := hRI.all (by omega)
 have hRO0 := hRO.all (by omega)
 refine zpn 1 <| zld ⟨b1, 4, none⟩ (.slice A ((bsOf fs).length) c) (blk_cell (hM24.get 2 rfl) rfl) <| zpn 2 <| zfe <| zbk 2 ?_
 intro aC fr
 refine zlp (fun n_ a_ w_ => ∃ (m : Nat) (rowsP : List RowV) (SP : Int → Int → Bool), n_ = fs.length - m ∧ Fr a_ 164 [(1, (pT b1 0)), (2, (pT b4 0)), (4, (pT b9 0)), (5, (.slice A16 ((bsOf fs).length) c17)), (52, (.slice A ((bsOf fs).length) c)), (53, (.int .i64 (((bsOf fs).length : Nat) : Int))), (54, (nV m))] ∧ Mem noS w w_ [.fam 86 rowsI, .fam 86 rowsP, .blk b1 24 (fV nm wk pa va A c fs), .blk b4 50 [(.slice none 0 0), (.slice none 0 0)], .row 83 1 (sM g7) ((bsOf fs).length) ((bsOf fs).length) (slv rowsI), .row 83 1 (sM g8) ((bsOf fs).length) ((bsOf fs).length) (slv rowsP), .blk b9 50 [(.slice (sM g7) ((bsOf fs).length) ((bsOf fs).length)), (.slice (sM g8) ((bsOf fs).length) ((bsOf fs).length))], .fam 3 rows18, .row 36 1 A16 ((bsOf fs).length) c17 (slv rows18)] ∧ (m ≤ fs.length) ∧ (SetsR n fs.length rowsP SP) ∧ (PhiDone fs m 0 0 SP)) (n := _) ⟨0, rowsO, (fun _ _ => false), rfl, fr.kp [1, 2, 4, 5, 52, 53, 54], hM24, by omega, hRO0, PhiDone.start⟩ ?_
 clear fr aC hM24; rintro n aC w47 ⟨m, rowsP, SP, rfl, fr, hM48, hlem, hRP, hPD⟩
 revert aC
 refine zsp <| zsq <| zcD (((m : Int) : Int) < (((bsOf fs).length : Nat) : Int)) (fun c51 => ?_) (fun c51 => ?_)
 refine zsk <| zsq <| zbk 3 <| zsr ?_
 obtain ⟨x, hx⟩ := get_of (l := fs) (i := m) (by omega)
 have hl1 : x.phis.length ≤ 281474976710656 := (hok.get hx).lp
 have hl2 : x.insts.length ≤ 281474976710656 := (hok.get hx).li
 refine zpn 1 ?_
 obtain ⟨ad52, rfl⟩ := blocks_some (hM48.ro hB) (bsOf_get hx)
 refine zix ad52 ((bsOf fs).length) 6 (m : Int) <| zls ((ad52 : Addr).add (((m : Int)).toNat * 6)) (xV x) (fblk_get (hM48.ro hB) rfl hx) <| zal hM48 44 [(.slice none 0 0), (.slice none 0 0), (.int .i64 0), (.int .i64 0), (.int .i64 0), (.int .i64 0)] fun b53 w54 hb53 hM55 => ?_
 replace hM55 := hM55.nf
 refine zpn 1 <| zss hM55 9 (xV x) rfl fun w56 hM57 => ?_
 replace hM57 := hM57.nf
 refine zfe <| zsr <| zpn 1 <| zld ⟨b53, 0, none⟩ (.slice x.pA x.phis.length x.pc) (blk_cell (hM57.get 9 rfl) rfl) <| zpn 2 <| zfe <| zbk 4 ?_
 intro aC fr
 refine zlp (fun n_ a_ w_ => ∃ (j : Nat) (rowsQ : List RowV) (SQ : Int → Int → Bool), n_ = x.phis.length - j ∧ Fr a_ 164 [(1, (pT b1 0)), (2, (pT b4 0)), (4, (pT b9 0)), (5, (.slice A16 ((bsOf fs).length) c17)), (7, (nV m)), (52, (.slice (some ad52) ((bsOf fs).length) c)), (53, (.int .i64 (((bsOf fs).length : Nat) : Int))), (54, (nV m)), (60, (.slice x.pA x.phis.length x.pc)), (61, (.int .i64 ((x.phis.length : Nat) : Int))), (62, (nV j))] ∧ Mem noS w w_ [.fam 86 rowsI, .fam 86 rowsQ, .blk b1 24 (fV nm wk pa va (some ad52) c fs), .blk b4 50 [(.slice none 0 0), (.slice none 0 0)], .row 83 1 (sM g7) ((bsOf fs).length) ((bsOf fs).length) (slv rowsI), .row 83 1 (sM g8) ((bsOf fs).length) ((bsOf fs).length) (slv rowsQ), .blk b9 50 [(.slice (sM g7) ((bsOf fs).length) ((bsOf fs).length)), (.slice (sM g8) ((bsOf fs).length) ((bsOf fs).length))], .fam 3 rows18, .row 36 1 A16 ((bsOf fs).length) c17 (slv rows18), .blk b53 44 (xV x)] ∧ (j ≤ x.phis.length) ∧ (SetsR n fs.length rowsQ SQ) ∧ (PhiDone fs m j 0 SQ)) (n := _) ⟨0, rowsP, SP, rfl, fr.kp [1, 2, 4, 5, 7, 52, 53, 54, 60, 61, 62], hM57, by omega, hRP, hPD⟩ ?_
 clear fr aC hM57; rintro n aC w60 ⟨j, rowsQ, SQ, rfl, fr, hM61, hlej, hRQ, hPQ⟩
 revert aC
 refine zsp <| zsq <| zcD (((j : Int) : Int) < ((x.phis.length : Nat) : Int)) (fun c64 => ?_) (fun c64 => ?_)
 refine zsk <| zsq <| zbk 5 <| zsr ?_
 obtain ⟨p, hph⟩ := get_of (l := x.phis) (i := j) (by omega)
 have hpl : p.args.length ≤ 281474976710656 := ((hok.get hx).phis p (List.mem_of_getElem? hph)).len
 obtain ⟨xq, hxq, hrq⟩ := hgood.reads m (by omega)
 rw [hx] at hxq
 injection hxq with hxq
 subst hxq
 have hpa := hrq.phis j p hph
 obtain ⟨Ak, ck, hrk⟩ := hfrows18.get (allL_get (bs := bsOf fs) (t := m) (by omega))
 have hslk := srcsTo_len (bsOf fs) (m : Int) (bsOf fs).length
 obtain ⟨ad65, had66⟩ := rds_some (hM61.ro (hA.phis hx)) (cs := p.cells) (i := j) (by simp [hph])
 intro aC fr
 refine From_ixA (some 64) x.pA ad65 x.phis.length 2 (j : Int) fr (by kernel_rfl) had66 (by omega) (by omega) ?_
 intro aC fr
 revert aC
 refine zls ((ad65 : Addr).add (((j : Int)).toNat * 2)) (pV p) (phi_get (hM61.ro (hA.phis hx)) had66 hph) <| zal hM61 65 [(.int .i64 0), (.slice none 0 0)] fun b71 w72 hb71 hM73 => ?_
 replace hM73 := hM73.nf
 refine zss hM73 10 (pV p) rfl fun w74 hM75 => ?_
 replace hM75 := hM75.nf
 refine zfe <| zsr <| zpn 2 ?_
 obtain ⟨g77, rfl⟩ := row_some (hM75.get 8 rfl) (by omega)
 refine zix ⟨g77, 0, none⟩ ((bsOf fs).length) 1 (m : Int) <| zld ((⟨g77, 0, none⟩ : Addr).add (((m : Int)).toNat * 1)) (.slice Ak ((srcs (bsOf fs) (m : Int)).length) ck) (rd_get1 (row_rd (hM75.get 8 rfl)) rfl (slv_get hrk)) <| zpn 2 <| zfe <| zbk 6 ?_
 intro aC fr
 refine zlp (fun n_ a_ w_ => ∃ (i : Nat) (rowsT : List RowV) (ST : Int → Int → Bool), n_ = (srcs (bsOf fs) (m : Int)).length - i ∧ Fr a_ 164 [(1, (pT b1 0)), (2, (pT b4 0)), (4, (pT b9 0)), (5, (.slice (sM g77) ((bsOf fs).length) c17)), (7, (nV m)), (10, (pT b71 0)), (52, (.slice (some ad52) ((bsOf fs).length) c)), (53, (.int .i64 (((bsOf fs).length : Nat) : Int))), (54, (nV m)), (60, (.slice x.pA x.phis.length x.pc)), (61, (.int .i64 ((x.phis.length : Nat) : Int))), (62, (nV j)), (69, (.slice Ak ((srcs (bsOf fs) (m : Int)).length) ck)), (70, (.int .i64 (((srcs (bsOf fs) (m : Int)).length : Nat) : Int))), (71, (nV i))] ∧ Mem noS w w_ [.fam 86 rowsI, .fam 86 rowsT, .blk b1 24 (fV nm wk pa va (some ad52) c fs), .blk b4 50 [(.slice none 0 0), (.slice none 0 0)], .row 83 1 (sM g7) ((bsOf fs).length) ((bsOf fs).length) (slv rowsI), .row 83 1 (sM g8) ((bsOf fs).length) ((bsOf fs).length) (slv rowsT), .blk b9 50 [(.slice (sM g7) ((bsOf fs).length) ((bsOf fs).length)), (.slice (sM g8) ((bsOf fs).length) ((bsOf fs).length))], .fam 3 rows18, .row 36 1 (sM g77) ((bsOf fs).length) c17 (slv rows18), .blk b53 44 (xV x), .blk b71 65 (pV p)] ∧ (i ≤ (srcs (bsOf fs) (m : Int)).length) ∧ (SetsR n fs.length rowsT ST) ∧ (PhiDone fs m j i ST)) (n := _) ⟨0, rowsQ, SQ, rfl, fr.kp [1, 2, 4, 5, 7, 10, 52, 53, 54, 60, 61, 62, 69, 70, 71], hM75, by omega, hRQ, hPQ⟩ ?_
 clear fr aC hM75; rintro n aC w80 ⟨i, rowsT, ST, rfl, fr, hM81, hlei, hRT, hPT⟩
 revert aC
 refine zsp <| zsq <| zcD (((i : Int) : Int) < (((srcs (bsOf fs) (m : Int)).length : Nat) : Int)) (fun c84 => ?_) (fun c84 => ?_)
 refine zsk <| zsq <| zbk 7 <| zsr ?_
 obtain ⟨si, hsi, hsn⟩ := srcs_at (bs := bsOf fs) (b := (m : Int)) (q := i) (by omega)
 obtain ⟨a0, ha⟩ := get_of (l := p.args) (i := i) (by omega)
 obtain ⟨ha0, ha1, _⟩ := hpa.2 i a0 (si : Int) ha hsi
 obtain ⟨an, rfl⟩ := Int.eq_ofNat_of_zero_le ha0
 obtain ⟨Ab, cb, wsb, hrb, hSb⟩ := hRT.at_ si (by omega)
 refine zpn 1 ?_
 obtain ⟨ad85, rfl⟩ := rd_some (fam_rd (hM81.get 7 rfl) hrk) (by simp; omega)
 refine zix ad85 ((srcs (bsOf fs) (m : Int)).length) 1 (i : Int) <| zld ((ad85 : Addr).add (((i : Int)).toNat * 1)) (nV si) (rd_at (fam_rd (hM81.get 7 rfl) hrk) rfl hsi) <| zpn 2 <| zfe ?_
 have hM86 := hM81.od [10, 10, 10, 10, 10, 10, 10, 10, 10, 9, 10] 11
 have hM87 : Mem noS w w80 [.fam 86 (rowsT.set si nilV), .row 86 1 Ab ((n + 63) / 64) cb (u64s wsb), .fam 86 rowsI, .blk b1 24 (fV nm wk pa va (some ad52) c fs), .blk b4 50 [(.slice none 0 0), (.slice none 0 0)], .row 83 1 (sM g7) ((bsOf fs).length) ((bsOf fs).length) (slv rowsI), .row 83 1 (sM g8) ((bsOf fs).length) ((bsOf fs).length) (slv rowsT), .blk b9 50 [(.slice (sM g7) ((bsOf fs).length) ((bsOf fs).length)), (.slice (sM g8) ((bsOf fs).length) ((bsOf fs).length))], .fam 3 rows18, .row 36 1 (sM g77) ((bsOf fs).length) c17 (slv rows18), .blk b53 44 (xV x), .blk b71 65 (pV p)] := hM86.focus si hrb
 obtain ⟨adp, hadp⟩ := rd_some (hM87.ro (hA.phi hx hph)) (by simp [ints]; omega)
 refine zkp [(1, (pT b1 0)), (2, (pT b4 0)), (4, (pT b9 0)), (5, (.slice (sM g77) ((bsOf fs).length) c17)), (7, (nV m)), (10, (pT b71 0)), (11, (nV i)), (12, (nV si)), (52, (.slice (some ad52) ((bsOf fs).length) c)), (53, (.int .i64 (((bsOf fs).length : Nat) : Int))), (54, (nV m)), (60, (.slice x.pA x.phis.length x.pc)), (61, (.int .i64 ((x.phis.length : Nat) : Int))), (62, (nV j)), (69, (.slice (some ad85) ((srcs (bsOf fs) (m : Int)).length) ck)), (70, (.int .i64 (((srcs (bsOf fs) (m : Int)).length : Nat) : Int))), (71, (nV i))] ?_
 intro aC fr
 refine zdj (N := 164) (env0 := [(1, (pT b1 0)), (2, (pT b4 0)), (4, (pT b9 0)), (5, (.slice (sM g77) ((bsOf fs).length) c17)), (7, (nV m)), (10, (pT b71 0)), (11, (nV i)), (12, (nV si)), (52, (.slice (some ad52) ((bsOf fs).length) c)), (53, (.int .i64 (((bsOf fs).length : Nat) : Int))), (54, (nV m)), (60, (.slice x.pA x.phis.length x.pc)), (61, (.int .i64 ((x.phis.length : Nat) : Int))), (62, (nV j)), (69, (.slice (some ad85) ((srcs (bsOf fs) (m : Int)).length) ck)), (70, (.int .i64 (((srcs (bsOf fs) (m : Int)).length : Nat) : Int))), (71, (nV i))]) (specAt [.det (pT b9 1), .det (.slice (sM g8) ((bsOf fs).length) ((bsOf fs).length)), .det (nV si), .det (.pointer (some ((⟨g8, 0, none⟩ : Addr).add (((si : Int)).toNat * 1)))), .det (.slice Ab ((n + 63) / 64) cb), .det (pT b71 1), .det (.slice (some adp) p.args.length p.c), .det (nV i), .det (.pointer (some ((adp : Addr).add (((i : Int)).toNat * 1)))), .det (nV an), Spec.free]) (fun ls vs w_ => match ls 10 with | true => (vs 10 = (.tuple #[]) ∧ Mem noS w w_ [.fam 86 (rowsT.set si nilV), .row 86 1 Ab ((n + 63) / 64) cb (u64s (putw wsb an)), .fam 86 rowsI, .blk b1 24 (fV nm wk pa va (some ad52) c fs), .blk b4 50 [(.slice none 0 0), (.slice none 0 0)], .row 83 1 (sM g7) ((bsOf fs).length) ((bsOf fs).length) (slv rowsI), .row 83 1 (sM g8) ((bsOf fs).length) ((bsOf fs).length) (slv rowsT), .blk b9 50 [(.slice (sM g7) ((bsOf fs).length) ((bsOf fs).length)), (.slice (sM g8) ((bsOf fs).length) ((bsOf fs).length))], .fam 3 rows18, .row 36 1 (sM g77) ((bsOf fs).length) c17 (slv rows18), .blk b53 44 (xV x), .blk b71 65 (pV p)]) | false => (Mem noS w w_ [.fam 86 (rowsT.set si nilV), .row 86 1 Ab ((n + 63) / 64) cb (u64s wsb), .fam 86 rowsI, .blk b1 24 (fV nm wk pa va (some ad52) c fs), .blk b4 50 [(.slice none 0 0), (.slice none 0 0)], .row 83 1 (sM g7) ((bsOf fs).length) ((bsOf fs).length) (slv rowsI), .row 83 1 (sM g8) ((bsOf fs).length) ((bsOf fs).length) (slv rowsT), .blk b9 50 [(.slice (sM g7) ((bsOf fs).length) ((bsOf fs).length)), (.slice (sM g8) ((bsOf fs).length) ((bsOf fs).length))], .fam 3 rows18, .row 36 1 (sM g77) ((bsOf fs).length) c17 (slv rows18), .blk b53 44 (xV x), .blk b71 65 (pV p)])) fr (plain_ok (.det (.det (.det (.det (.det (.det (.det (.det (.det (.det (.free .nil)))))))))))) (hM87.then_ (Mem.drew _)) (la (la (la (la (la (la (la (la (la (la (la lz (dPJ fun _ _ _ _ h => h)) (dLJ ⟨b9, 1, none⟩ (.slice (sM g8) ((bsOf fs).length) ((bsOf fs).length)) (fun _ _ _ _ h => h) ?_)) (dPJ fun _ _ _ _ h => h)) (dIJ ⟨g8, 0, none⟩ ((bsOf fs).length) 1 (si : Int) fun _ _ _ _ h => h)) (dLJ ((⟨g8, 0, none⟩ : Addr).add (((si : Int)).toNat * 1)) (.slice Ab ((n + 63) / 64) cb) (fun _ _ _ _ h => h) ?_)) (dPJ fun _ _ _ _ h => h)) (dLJ ⟨b71, 1, none⟩ (.slice (some adp) p.args.length p.c) (fun _ _ _ _ h => h) ?_)) (dPJ fun _ _ _ _ h => h)) (dIJ adp p.args.length 1 (i : Int) fun _ _ _ _ h => h)) (dLJ ((adp : Addr).add (((i : Int)).toNat * 1)) (nV an) (fun _ _ _ _ h => h) ?_)) ?_) ?_
 intro w_ ls vs hJ hi_ hc_ hp
 have f10 : ls 10 = false := notyet hc_ hi_ (n := 11) (by kernel_rfl)
 have hM_ := hJ
 simp only [f10] at hM_
 exact (blk_cell (hM_.get 7 rfl) rfl)
 intro w_ ls vs hJ hi_ hc_ hp
 have f10 : ls 10 = false := notyet hc_ hi_ (n := 11) (by kernel_rfl)
 have hM_ := hJ
 simp only [f10] at hM_
 exact (rd_get1 (row_rd (hM_.get 6 rfl)) rfl (slv_get hrb))
 intro w_ ls vs hJ hi_ hc_ hp
 have f10 : ls 10 = false := notyet hc_ hi_ (n := 11) (by kernel_rfl)
 have hM_ := hJ
 simp only [f10] at hM_
 exact (by rw [← hadp]; exact blk_cell (hM_.get 11 rfl) rfl)
 intro w_ ls vs hJ hi_ hc_ hp
 have f10 : ls 10 = false := notyet hc_ hi_ (n := 11) (by kernel_rfl)
 have hM_ := hJ
 simp only [f10] at hM_
 exact (rd_at (hadp ▸ hM_.ro (hA.phi hx hph)) rfl ha)
 intro aa_ w_ ls vs rest_ hJ hi_ hc_ hp hF
 refine ⟨true, opok_guard (g0 := none) (by kernel_rfl) (by kernel_rfl), fun _ => ?_, fun h => Bool.noConfusion h⟩
 replace hF : Fr aa_ 164 [(80, (.slice Ab ((n + 63) / 64) cb)), (85, (nV an))] := hF.kp [80, 85]
 have f10 : ls 10 = false := hi_
 have hM_ := hJ
 simp only [f10] at hM_
 refine From_call (by kernel_rfl : coreAt _ 0 = some (some 86, (.call { callee := (.value (.func 52)), args := #[(.tmp 80), (.tmp 85)], argTypes := #[83, 3] }), 0, none)) hF (by kernel_rfl) (by kernel_rfl) (k' := 1) rfl (f := 52) (vs := [(.slice Ab ((n + 63) / 64) cb), (nV an)]) (cap := []) (by kernel_rfl) (by kernel_rfl) (by kernel_rfl) (lput_c wsb ((n + 63) / 64) an Ab cb w_ hSb.fit (by omega) hSb.len.symm (hSb.idx (by omega)) (hM_.get 1 rfl)) ?_
 rintro _ w2 ⟨rfl, hm2⟩ a2 ea _
 have hm3 := hM_.mod 1 rfl hm2
 refine From_end (by kernel_rfl) ?_; refine op_doneJ (d := some 86) (by kernel_rfl) ea trivial ?_
 show _
 exact ⟨rfl, hm3⟩
 intro aC w92 ls vs hall hM93 hv fr
 simp only [show ls 10 = true from hall 10 (by decide)] at hM93
 revert aC; refine zkp [(1, (pT b1 0)), (2, (pT b4 0)), (4, (pT b9 0)), (5, (.slice (sM g77) ((bsOf fs).length) c17)), (7, (nV m)), (10, (pT b71 0)), (52, (.slice (some ad52) ((bsOf fs).length) c)), (53, (.int .i64 (((bsOf fs).length : Nat) : Int))), (54, (nV m)), (60, (.slice x.pA x.phis.length x.pc)), (61, (.int .i64 ((x.phis.length : Nat) : Int))), (62, (nV j)), (69, (.slice (some ad85) ((srcs (bsOf fs) (m : Int)).length) ck)), (70, (.int .i64 (((srcs (bsOf fs) (m : Int)).length : Nat) : Int))), (71, (nV i))] ?_
 obtain ⟨e10_, hM93⟩ := hM93
 try rw [e10_]
 clear e10_
 clear hall hv fr aC hM87; clear vs ls
 refine zrg ?_
 have hM94 := hM93.od [11, 11, 11, 11, 11, 11, 11, 11, 11, 11, 11, 11] 12
 have hrl : si < rowsT.length := (List.getElem?_eq_some_iff.1 hrb).1
 have hM95 : Mem noS w w92 [.fam 86 (rowsT.set si ⟨Ab, ((n + 63) / 64), cb, u64s (putw wsb an)⟩), .fam 86 rowsI, .blk b1 24 (fV nm wk pa va (some ad52) c fs), .blk b4 50 [(.slice none 0 0), (.slice none 0 0)], .row 83 1 (sM g7) ((bsOf fs).length) ((bsOf fs).length) (slv rowsI), .row 83 1 (sM g8) ((bsOf fs).length) ((bsOf fs).length) (slv rowsT), .blk b9 50 [(.slice (sM g7) ((bsOf fs).length) ((bsOf fs).length)), (.slice (sM g8) ((bsOf fs).length) ((bsOf fs).length))], .fam 3 rows18, .row 36 1 (sM g77) ((bsOf fs).length) c17 (slv rows18), .blk b53 44 (xV x), .blk b71 65 (pV p)] := (hM94.unfocus si (List.getElem?_set_self hrl)).cast (by rw [set_twice])
 have hM96 : Mem noS w w92 [.fam 86 (rowsT.set si ⟨Ab, ((n + 63) / 64), cb, u64s (putw wsb an)⟩), .fam 86 rowsI, .blk b1 24 (fV nm wk pa va (some ad52) c fs), .blk b4 50 [(.slice none 0 0), (.slice none 0 0)], .row 83 1 (sM g7) ((bsOf fs).length) ((bsOf fs).length) (slv rowsI), .row 83 1 (sM g8) ((bsOf fs).length) ((bsOf fs).length) (slv (rowsT.set si ⟨Ab, ((n + 63) / 64), cb, u64s (putw wsb an)⟩)), .blk b9 50 [(.slice (sM g7) ((bsOf fs).length) ((bsOf fs).length)), (.slice (sM g8) ((bsOf fs).length) ((bsOf fs).length))], .fam 3 rows18, .row 36 1 (sM g77) ((bsOf fs).length) c17 (slv rows18), .blk b53 44 (xV x), .blk b71 65 (pV p)] := hM95.cast (by rw [slv_same hrb (u64s (putw wsb an))])
 have hM97 := hM96.od [10, 10, 10, 10, 10, 10, 10, 10, 10, 9, 10] 11
 refine zar ((i : Int) + 1) <| zpn 1 <| zfe ?_
 intro aC fr
 exact ⟨(srcs (bsOf fs) (m : Int)).length - (i + 1), by omega, i + 1, (rowsT.set si ⟨Ab, ((n + 63) / 64), cb, u64s (putw wsb an)⟩), (updS ST (si : Int) (addS (ST (si : Int)) (an : Int))), rfl, fr.kp [1, 2, 4, 5, 7, 10, 52, 53, 54, 60, 61, 62, 69, 70, 71], hM97, by omega, hRT.set (hSb.put (by omega)), hPT.arg hx hph hsi ha⟩
 refine zex 6 <| zbh <| zrg <| zar ((j : Int) + 1) <| zpn 1 <| zfe ?_
 intro aC fr
 exact ⟨x.phis.length - (j + 1), by omega, j + 1, rowsT, ST, rfl, fr.kp [1, 2, 4, 5, 7, 52, 53, 54, 60, 61, 62], (hM81.tk 10), by omega, hRT, hPT.phi hx (by omega)⟩
 refine zex 4 <| zbh <| zrg <| zar ((m : Int) + 1) <| zpn 1 <| zfe ?_
 intro aC fr
 exact ⟨fs.length - (m + 1), by omega, m + 1, rowsQ, SQ, rfl, fr.kp [1, 2, 4, 5, 52, 53, 54], (hM61.tk 9), by omega, hRQ, hPQ.blk hx (by omega)⟩
 refine zex 2 <| zbh <| zsr ?_
 have hLO0 : LOk n fs (fun _ _ => false) SP := LOk.start hPD (by omega)
 have hol := orderL_len (bsOf fs)
 refine zls ⟨b1, 0, none⟩ (fV nm wk pa va A c fs) (blk_cells (hM48.get 2 rfl)) <| zcl (vs := #[(fA nm wk pa va A c fs)]) (order_c _ _ _ _ A c (bsOf fs) w47 hm (hB.at_ hM48)) ?_
 rintro _ w106 ⟨A104, c105, rfl, hM107x⟩
 have hM107 := hM48.cl hM107x
 refine zpn 1 <| zfe <| zsq <| zsp <| zbk 8 ?_
 intro aC fr
 refine zlp (fun n_ a_ w_ => ∃ (tb : Bool) (rI : List RowV) (rO : List RowV) (SI : Int → Int → Bool) (SO : Int → Int → Bool), n_ = 2 * unmetA n fs.length SI + cond tb 1 0 ∧ Fr a_ 164 [(1, (pT b1 0)), (2, (pT b4 0)), (4, (pT b9 0)), (13, (.slice A104 ((orderL (bsOf fs)).length) c105)), (14, (.bool tb))] ∧ Mem noS w w_ [.fam 86 rI, .fam 86 rO, .blk b1 24 (fV nm wk pa va A c fs), .blk b4 50 [(.slice none 0 0), (.slice none 0 0)], .row 83 1 (sM g7) ((bsOf fs).length) ((bsOf fs).length) (slv rI), .row 83 1 (sM g8) ((bsOf fs).length) ((bsOf fs).length) (slv rO), .blk b9 50 [(.slice (sM g7) ((bsOf fs).length) ((bsOf fs).length)), (.slice (sM g8) ((bsOf fs).length) ((bsOf fs).length))], .fam 3 rows18, .row 36 1 A16 ((bsOf fs).length) c17 (slv rows18), .row 3 1 A104 ((orderL (bsOf fs)).length) c105 (ints (orderL (bsOf fs)))] ∧ (SetsR n fs.length rI SI) ∧ (SetsR n fs.length rO SO) ∧ (LOk n fs SI SO) ∧ (tb = false → ∀ (q : Nat) (b : Int), q < (orderL (bsOf fs)).length → (orderL (bsOf fs))[q]? = some b → CloseAt n fs SI SO b)) (n := _) ⟨true, rowsI, rowsP, (fun _ _ => false), SP, rfl, fr.kp [1, 2, 4, 13, 14], hM107, hRI0, hRP, hLO0, fun h => Bool.noConfusion h⟩ ?_
 clear fr aC hM107; rintro n aC w110 ⟨tb, rI, rO, SI, SO, rfl, fr, hM111, hRI1, hRO1, hLO, hcl⟩
 revert aC
 refine zsq <| zsp <| zcP tb (tb = true) Iff.rfl (fun c114 => ?_) (fun c114 => ?_)
 have hbt : tb = true := c114
 refine zsk <| zbk 9 <| zsp <| zsr <| zpn 2 <| zar (((orderL (bsOf fs)).length : Int) - 1) <| zpn 1 <| zfe <| zbk 10 ?_
 intro aC fr
 refine zlp (fun n_ a_ w_ => ∃ (j : Nat) (iv : Int) (tb2 : Bool) (rI2 : List RowV) (rO2 : List RowV) (SI2 : Int → Int → Bool) (SO2 : Int → Int → Bool), n_ = 2 * j ∧ Fr a_ 164 [(1, (pT b1 0)), (2, (pT b4 0)), (4, (pT b9 0)), (13, (.slice A104 ((orderL (bsOf fs)).length) c105)), (14, (.bool tb2)), (15, (.int .i64 iv))] ∧ Mem noS w w_ [.fam 86 rI2, .fam 86 rO2, .blk b1 24 (fV nm wk pa va A c fs), .blk b4 50 [(.slice none 0 0), (.slice none 0 0)], .row 83 1 (sM g7) ((bsOf fs).length) ((bsOf fs).length) (slv rI2), .row 83 1 (sM g8) ((bsOf fs).length) ((bsOf fs).length) (slv rO2), .blk b9 50 [(.slice (sM g7) ((bsOf fs).length) ((bsOf fs).length)), (.slice (sM g8) ((bsOf fs).length) ((bsOf fs).length))], .fam 3 rows18, .row 36 1 A16 ((bsOf fs).length) c17 (slv rows18), .row 3 1 A104 ((orderL (bsOf fs)).length) c105 (ints (orderL (bsOf fs)))] ∧ (j ≤ (orderL (bsOf fs)).length) ∧ (iv = (j : Int) - 1) ∧ (SetsR n fs.length rI2 SI2) ∧ (SetsR n fs.length rO2 SO2) ∧ (LOk n fs SI2 SO2) ∧ (unmetA n fs.length SI2 ≤ unmetA n fs.length SI ∧ (tb2 = true → unmetA n fs.length SI2 < unmetA n fs.length SI)) ∧ (tb2 = false → ∀ (q : Nat) (b : Int), j ≤ q → q < (orderL (bsOf fs)).length → (orderL (bsOf fs))[q]? = some b → CloseAt n fs SI2 SO2 b)) (n := _) ⟨(orderL (bsOf fs)).length, (((orderL (bsOf fs)).length : Int) - 1), false, rI, rO, SI, SO, rfl, fr.kp [1, 2, 4, 13, 14, 15], hM111, by omega, by omega, hRI1, hRO1, hLO, ⟨Nat.le_refl _, fun h => Bool.noConfusion h⟩, fun _ q b h1 h2 => absurd h2 (by omega)⟩ ?_
 clear fr aC hM111; rintro n aC w117 ⟨j, iv, tb2, rI2, rO2, SI2, SO2, rfl, fr, hM118, hj, hiv, hRI2, hRO2, hLO2, hU, hcl2⟩
 revert aC
 refine zsq <| zsp <| zcD ((iv : Int) ≥ 0) (fun c121 => ?_) (fun c121 => ?_)
 refine zsk <| zsq <| zbk 11 <| zsr ?_
 obtain ⟨j0, rfl⟩ : ∃ j0, j = j0 + 1 := ⟨j - 1, by omega⟩
 obtain rfl : iv = (j0 : Int) := by omega
 obtain ⟨b, hbo, hbn, _⟩ := ord_get (bs := bsOf fs) (k := j0) (by omega)
 obtain ⟨x, hx⟩ := get_of (l := fs) (i := b) (by omega)
 obtain ⟨Ao, co, wso, hro, hSo⟩ := hRO2.at_ b (by omega)
 obtain ⟨Ai, ci, wsi, hri, hSi⟩ := hRI2.at_ b (by omega)
 have htl := tg_len (bsOf fs) (b : Int)
 refine zpn 2 ?_
 obtain ⟨g123, rfl⟩ := row_some (hM118.get 9 rfl) (by omega)
 refine zix ⟨g123, 0, none⟩ ((orderL (bsOf fs)).length) 1 (j0 : Int) <| zld ((⟨g123, 0, none⟩ : Addr).add (((j0 : Int)).toNat * 1)) (nV b) (rd_at (row_rd (hM118.get 9 rfl)) rfl hbo) <| zpn 1 <| zfe <| zsq <| zsr <| zls ⟨b1, 0, none⟩ (fV nm wk pa va A c fs) (blk_cells (hM118.get 2 rfl)) <| zpn 1 <| zcl (vs := #[(fA nm wk pa va A c fs), (nV b)]) (targets_c _ _ _ _ A c (bsOf fs) (b : Int) w117 hm (hB.at_ hM118)) ?_
 rintro _ w126 ⟨A124, c125, rfl, hM127x⟩
 have hM127 := hM118.cl hM127x
 refine zpn 2 <| zfe <| zbk 12 ?_
 have hM128 := hM127.od [10, 10, 10, 10, 10, 10, 10, 10, 10, 9, 10] 11
 have hM129 : Mem noS w w126 [.fam 86 (rO2.set b nilV), .row 86 1 Ao ((n + 63) / 64) co (u64s wso), .fam 86 rI2, .blk b1 24 (fV nm wk pa va A c fs), .blk b4 50 [(.slice none 0 0), (.slice none 0 0)], .row 83 1 (sM g7) ((bsOf fs).length) ((bsOf fs).length) (slv rI2), .row 83 1 (sM g8) ((bsOf fs).length) ((bsOf fs).length) (slv rO2), .blk b9 50 [(.slice (sM g7) ((bsOf fs).length) ((bsOf fs).length)), (.slice (sM g8) ((bsOf fs).length) ((bsOf fs).length))], .fam 3 rows18, .row 36 1 A16 ((bsOf fs).length) c17 (slv rows18), .row 3 1 (sM g123) ((orderL (bsOf fs)).length) c105 (ints (orderL (bsOf fs))), .row 3 1 A124 ((tg (bsOf fs) (b : Int)).length) c125 (ints (tg (bsOf fs) (b : Int)))] := hM128.focus b hro
 intro aC fr
 refine zlp (fun n_ a_ w_ => ∃ (q : Nat) (wsk : List Nat) (Sk : Int → Bool), n_ = (tg (bsOf fs) (b : Int)).length - q ∧ Fr a_ 164 [(1, (pT b1 0)), (2, (pT b4 0)), (4, (pT b9 0)), (13, (.slice (sM g123) ((orderL (bsOf fs)).length) c105)), (14, (.bool tb2)), (15, (nV j0)), (16, (nV b)), (106, (.slice A124 ((tg (bsOf fs) (b : Int)).length) c125)), (107, (.int .i64 (((tg (bsOf fs) (b : Int)).length : Nat) : Int))), (108, (nV q))] ∧ Mem noS w w_ [.fam 86 (rO2.set b nilV), .row 86 1 Ao ((n + 63) / 64) co (u64s wsk), .fam 86 rI2, .blk b1 24 (fV nm wk pa va A c fs), .blk b4 50 [(.slice none 0 0), (.slice none 0 0)], .row 83 1 (sM g7) ((bsOf fs).length) ((bsOf fs).length) (slv rI2), .row 83 1 (sM g8) ((bsOf fs).length) ((bsOf fs).length) (slv rO2), .blk b9 50 [(.slice (sM g7) ((bsOf fs).length) ((bsOf fs).length)), (.slice (sM g8) ((bsOf fs).length) ((bsOf fs).length))], .fam 3 rows18, .row 36 1 A16 ((bsOf fs).length) c17 (slv rows18), .row 3 1 (sM g123) ((orderL (bsOf fs)).length) c105 (ints (orderL (bsOf fs))), .row 3 1 A124 ((tg (bsOf fs) (b : Int)).length) c125 (ints (tg (bsOf fs) (b : Int)))] ∧ (q ≤ (tg (bsOf fs) (b : Int)).length) ∧ (SetW n wsk Sk) ∧ (LOk n fs SI2 (updS SO2 (b : Int) Sk)) ∧ (∀ (r : Nat) (t v : Int), r < q → (tg (bsOf fs) (b : Int))[r]? = some t → SI2 t v = true → Sk v = true)) (n := _) ⟨0, wso, (SO2 (b : Int)), rfl, fr.kp [1, 2, 4, 13, 14, 15, 16, 106, 107, 108], hM129, by omega, hSo, by rw [updS_self]; exact hLO2, fun _ _ _ h => absurd h (Nat.not_lt_zero _)⟩ ?_
 clear fr aC hM129; rintro n aC w132 ⟨q, wsk, Sk, rfl, fr, hM133, hq, hSk, hLk, htg⟩
 revert aC
 refine zsp <| zsq <| zcD (((q : Int) : Int) < (((tg (bsOf fs) (b : Int)).length : Nat) : Int)) (fun c136 => ?_) (fun c136 => ?_)
 refine zsk <| zsq <| zbk 13 <| zsr ?_
 obtain ⟨ti, hti, htn⟩ := tg_at (bs := bsOf fs) (b := (b : Int)) (k := q) (by omega)
 obtain ⟨At, ct, wst, hrt, hSt⟩ := hRI2.at_ ti (by omega)
 have hwl := hSt.len
 have hkl := hSk.len
 obtain ⟨g138, rfl⟩ := row_some (hM133.get 11 rfl) (by omega)
 refine zix ⟨g138, 0, none⟩ ((tg (bsOf fs) (b : Int)).length) 1 (q : Int) <| zld ((⟨g138, 0, none⟩ : Addr).add (((q : Int)).toNat * 1)) (nV ti) (rd_at (row_rd (hM133.get 11 rfl)) rfl hti) <| zpn 1 <| zfe <| zsr <| zpn 1 <| zld ⟨b9, 0, none⟩ (.slice (sM g7) ((bsOf fs).length) ((bsOf fs).length)) (blk_cell (hM133.get 7 rfl) rfl) <| zpn 1 <| zix ⟨g7, 0, none⟩ ((bsOf fs).length) 1 (ti : Int) <| zld ((⟨g7, 0, none⟩ : Addr).add (((ti : Int)).toNat * 1)) (.slice At ((n + 63) / 64) ct) (rd_get1 (row_rd (hM133.get 5 rfl)) rfl (slv_get hrt)) ?_
 refine zpn 2 <| zfe <| zbk 14 ?_
 intro aC fr
 refine zlp (fun n_ a_ w_ => ∃ (u : Nat) (wsm : List Nat), n_ = ((n + 63) / 64) - u ∧ Fr a_ 164 [(1, (pT b1 0)), (2, (pT b4 0)), (4, (pT b9 0)), (13, (.slice (sM g123) ((orderL (bsOf fs)).length) c105)), (14, (.bool tb2)), (15, (nV j0)), (16, (nV b)), (106, (.slice (sM g138) ((tg (bsOf fs) (b : Int)).length) c125)), (107, (.int .i64 (((tg (bsOf fs) (b : Int)).length : Nat) : Int))), (108, (nV q)), (116, (.slice At ((n + 63) / 64) ct)), (117, (.int .i64 ((((n + 63) / 64) : Nat) : Int))), (118, (nV u))] ∧ Mem noS w w_ [.fam 86 (rO2.set b nilV), .row 86 1 Ao ((n + 63) / 64) co (u64s wsm), .fam 86 rI2, .blk b1 24 (fV nm wk pa va A c fs), .blk b4 50 [(.slice none 0 0), (.slice none 0 0)], .row 83 1 (sM g7) ((bsOf fs).length) ((bsOf fs).length) (slv rI2), .row 83 1 (sM g8) ((bsOf fs).length) ((bsOf fs).length) (slv rO2), .blk b9 50 [(.slice (sM g7) ((bsOf fs).length) ((bsOf fs).length)), (.slice (sM g8) ((bsOf fs).length) ((bsOf fs).length))], .fam 3 rows18, .row 36 1 A16 ((bsOf fs).length) c17 (slv rows18), .row 3 1 (sM g123) ((orderL (bsOf fs)).length) c105 (ints (orderL (bsOf fs))), .row 3 1 (sM g138) ((tg (bsOf fs) (b : Int)).length) c125 (ints (tg (bsOf fs) (b : Int)))] ∧ (u ≤ ((n + 63) / 64)) ∧ (wsm = orTo wsk wst u)) (n := _) ⟨0, wsk, rfl, fr.kp [1, 2, 4, 13, 14, 15, 16, 106, 107, 108, 116, 117, 118], hM133, by omega, rfl⟩ ?_
 clear fr aC hM133; rintro n aC w141 ⟨u, wsm, rfl, fr, hM142, hu, hwm⟩
 revert aC
 refine zsp <| zsq <| zcD (((u : Int) : Int) < ((((n + 63) / 64) : Nat) : Int)) (fun c145 => ?_) (fun c145 => ?_)
 refine zsk <| zsq <| zbk 15 <| zsr ?_
 have hml : wsm.length = ((n + 63) / 64) := by rw [hwm, orTo_len]; exact hkl
 have hmf : Fit wsm := by rw [hwm]; exact orTo_fit hSk.fit hSt.fit _
 refine zpn 1 ?_
 obtain ⟨ad146, rfl⟩ := rd_some (fam_rd (hM142.get 2 rfl) hrt) (by rw [u64s_len]; omega)
 refine zix ad146 ((n + 63) / 64) 1 (u : Int) <| zld ((ad146 : Addr).add (((u : Int)).toNat * 1)) (.int .u64 ((wst.getD u 0 : Nat) : Int)) (rd_get1 (fam_rd (hM142.get 2 rfl) hrt) rfl (u64s_get (by omega))) <| zpn 2 <| zfe <| zrg <| zpn 1 <| zld ⟨b9, 1, none⟩ (.slice (sM g8) ((bsOf fs).length) ((bsOf fs).length)) (blk_cell (hM142.get 7 rfl) rfl) <| zpn 1 <| zix ⟨g8, 0, none⟩ ((bsOf fs).length) 1 (b : Int) <| zld ((⟨g8, 0, none⟩ : Addr).add (((b : Int)).toNat * 1)) (.slice Ao ((n + 63) / 64) co) (rd_get1 (row_rd (hM142.get 6 rfl)) rfl (slv_get hro)) ?_
 refine zpn 1 ?_
 obtain ⟨g148, rfl⟩ := row_some (hM142.get 1 rfl) (by omega)
 refine zix ⟨g148, 0, none⟩ ((n + 63) / 64) 1 (u : Int) <| zkp [(1, (pT b1 0)), (2, (pT b4 0)), (4, (pT b9 0)), (13, (.slice (sM g123) ((orderL (bsOf fs)).length) c105)), (14, (.bool tb2)), (15, (nV j0)), (16, (nV b)), (20, (.int .u64 ((wst.getD u 0 : Nat) : Int))), (106, (.slice (sM g138) ((tg (bsOf fs) (b : Int)).length) c125)), (107, (.int .i64 (((tg (bsOf fs) (b : Int)).length : Nat) : Int))), (108, (nV q)), (116, (.slice (some ad146) ((n + 63) / 64) ct)), (117, (.int .i64 ((((n + 63) / 64) : Nat) : Int))), (118, (nV u)), (127, (.slice (sM g148) ((n + 63) / 64) co)), (128, (nV u)), (129, (.pointer (some ((⟨g148, 0, none⟩ : Addr).add (((u : Int)).toNat * 1)))))] <| zld ((⟨g148, 0, none⟩ : Addr).add (((u : Int)).toNat * 1)) (.int .u64 ((wsm.getD u 0 : Nat) : Int)) (rd_get1 (row_rd (hM142.get 1 rfl)) rfl (u64s_get (by omega))) <| zpn 1 ?_
 intro aC fr
 refine From_binI (by kernel_rfl : coreAt _ 9 = some (some 132, (.binOp .or 86 (.tmp 130) (.tmp 131) 86), 86, none)) fr (by kernel_rfl) (by kernel_rfl) (k' := 10) rfl (kd := .u64) (kd' := .u64) (i := ((wsm.getD u 0 : Nat) : Int)) (j := ((wst.getD u 0 : Nat) : Int)) (z := .int .u64 ((wsm.getD u 0 ||| wst.getD u 0 : Nat) : Int)) (by kernel_rfl) (by kernel_rfl) (fun w => bin_or (hmf.get _) (hSt.fit.get _) w) ?_
 intro aC ea fr; clear ea
 revert aC
 refine zix ⟨g148, 0, none⟩ ((n + 63) / 64) 1 (u : Int) <| zsw hM142 1 ((⟨g148, 0, none⟩ : Addr).add (((u : Int)).toNat * 1)) (((u : Int)).toNat * 1) (.int .u64 ((wsm.getD u 0 ||| wst.getD u 0 : Nat) : Int)) rfl rfl (by omega) fun w153 hM154 => ?_
 replace hM154 := hM154.nf
 refine zfe <| zrg <| zar ((u : Int) + 1) <| zpn 1 <| zfe ?_
 intro aC fr
 exact ⟨((n + 63) / 64) - (u + 1), by omega, u + 1, (wsm.set u (wsm.getD u 0 ||| wst.getD u 0)), rfl, fr.kp [1, 2, 4, 13, 14, 15, 16, 106, 107, 108, 116, 117, 118], (hM154.cast (by rw [u64s_set, Int.toNat_natCast, Nat.mul_one])), by omega, by rw [hwm, orTo]⟩
 refine zex 14 <| zbh <| zrg <| zar ((q : Int) + 1) <| zpn 1 <| zfe ?_
 intro aC fr
 exact ⟨(tg (bsOf fs) (b : Int)).length - (q + 1), by omega, q + 1, wsm, (orS Sk (SI2 (ti : Int))), rfl, fr.kp [1, 2, 4, 13, 14, 15, 16, 106, 107, 108], hM142, by omega, by have hq3 := hSk.or hSt; rw [hwm, show u = wst.length by omega]; exact hq3, by have hq3 := hLk.or (List.mem_of_getElem? hti); rw [updS_at, updS_twice] at hq3; exact hq3, tg_next htg hti⟩
 refine zex 12 <| zbh <| zsr ?_
 intro aC fr
 refine From_build0 (by kernel_rfl : coreAt _ 0 = some (some 136, (.buildSlice 83 0 #[]), 83, none)) fr (by kernel_rfl) (by kernel_rfl) (k' := 1) rfl (e := 86) (size := 1) (by kernel_rfl) (by kernel_rfl) hM133 ?_
 intro b159 w160 hb159 _ hM161 _ aC ea fr; clear ea
 replace hM161 := hM161.nf
 revert aC
 refine zpn 1 <| zld ⟨b9, 1, none⟩ (.slice (sM g8) ((bsOf fs).length) ((bsOf fs).length)) (blk_cell (hM161.get 7 rfl) rfl) <| zpn 1 <| zix ⟨g8, 0, none⟩ ((bsOf fs).length) 1 (b : Int) <| zld ((⟨g8, 0, none⟩ : Addr).add (((b : Int)).toNat * 1)) (.slice Ao ((n + 63) / 64) co) (rd_get1 (row_rd (hM161.get 6 rfl)) rfl (slv_get hro)) ?_
 intro aC fr
 refine From_append (by kernel_rfl : coreAt _ 6 = some (some 142, (.call { callee := (.builtin .append), args := #[(.tmp 136), (.tmp 141)], argTypes := #[83, 83] }), 83, none)) fr (by kernel_rfl) (by kernel_rfl) (k' := 7) rfl (e := 86) (size := 1) (bytes := 8) (z := (.int .u64 0)) (by kernel_rfl) (by kernel_rfl) (by kernel_rfl) (by kernel_rfl) (A := (sM b159)) (B := Ao) (n := 0) (cap := 0) (m := ((n + 63) / 64)) (cap' := co) (xs := []) (news := (u64s wsk)) (by kernel_rfl) (by kernel_rfl) hM161 12 rfl (row_rd (hM161.get 1 rfl)) (by rw [u64s_len, hSk.len, Nat.mul_one]) (by intro v hv; obtain ⟨x, _, rfl⟩ := List.mem_map.1 hv; rfl) (by omega) (by simp only [maxLen]; omega) ?_
 intro A166 c167 w168 hM169 _ aC ea fr; clear ea
 replace hM169 := hM169.nf
 revert aC
 refine zkp [(1, (pT b1 0)), (2, (pT b4 0)), (4, (pT b9 0)), (13, (.slice (sM g123) ((orderL (bsOf fs)).length) c105)), (14, (.bool tb2)), (15, (nV j0)), (16, (nV b)), (142, (.slice A166 (0 + ((n + 63) / 64)) c167))] ?_
 rw [Nat.zero_add]
 have hM174 : Mem noS w w168 [.fam 86 (rO2.set b nilV), .row 86 1 Ao ((n + 63) / 64) co (u64s wsk), .fam 86 rI2, .blk b1 24 (fV nm wk pa va A c fs), .blk b4 50 [(.slice none 0 0), (.slice none 0 0)], .row 83 1 (sM g7) ((bsOf fs).length) ((bsOf fs).length) (slv rI2), .row 83 1 (sM g8) ((bsOf fs).length) ((bsOf fs).length) (slv rO2), .blk b9 50 [(.slice (sM g7) ((bsOf fs).length) ((bsOf fs).length)), (.slice (sM g8) ((bsOf fs).length) ((bsOf fs).length))], .fam 3 rows18, .row 36 1 A16 ((bsOf fs).length) c17 (slv rows18), .row 3 1 (sM g123) ((orderL (bsOf fs)).length) c105 (ints (orderL (bsOf fs))), .row 3 1 A124 ((tg (bsOf fs) (b : Int)).length) c125 (ints (tg (bsOf fs) (b : Int))), .row 86 1 A166 ((n + 63) / 64) c167 (u64s wsk)] := hM169.cast (by simp only [Nat.zero_add])
 refine zpn 1 <| zfe <| zsr <| zpn 1 <| zld ⟨b1, 4, none⟩ (.slice A ((bsOf fs).length) c) (blk_cell (hM174.get 3 rfl) rfl) <| zpn 1 ?_
 obtain ⟨ad175, rfl⟩ := blocks_some (hM174.ro hB) (bsOf_get hx)
 refine zix ad175 ((bsOf fs).length) 6 (b : Int) <| zls ((ad175 : Addr).add (((b : Int)).toNat * 6)) (xV x) (fblk_get (hM174.ro hB) rfl hx) <| zpn 1 ?_
 refine zcl (into_c n A166 c167 wsk Sk (some ad175) fs b x w168 (by omega) hok hx (hvr x (List.mem_of_getElem? hx)) hSk (hA.but hM174 12 rfl) (hM174.get 12 rfl)) ?_
 rintro _ w176 ⟨ws2, rfl, hS2, hM177x⟩
 have hM177 := hM174.md 12 rfl hM177x
 refine zfe <| zsr ?_
 have hM178 := hM177.od [12, 12, 12, 12, 12, 12, 12, 12, 12, 12, 12, 12, 12] 13
 have hrl : b < rO2.length := (List.getElem?_eq_some_iff.1 hro).1
 have hM179 : Mem noS w w176 [.fam 86 (rO2.set b ⟨Ao, ((n + 63) / 64), co, u64s wsk⟩), .fam 86 rI2, .blk b1 24 (fV nm wk pa va (some ad175) c fs), .blk b4 50 [(.slice none 0 0), (.slice none 0 0)], .row 83 1 (sM g7) ((bsOf fs).length) ((bsOf fs).length) (slv rI2), .row 83 1 (sM g8) ((bsOf fs).length) ((bsOf fs).length) (slv rO2), .blk b9 50 [(.slice (sM g7) ((bsOf fs).length) ((bsOf fs).length)), (.slice (sM g8) ((bsOf fs).length) ((bsOf fs).length))], .fam 3 rows18, .row 36 1 A16 ((bsOf fs).length) c17 (slv rows18), .row 3 1 (sM g123) ((orderL (bsOf fs)).length) c105 (ints (orderL (bsOf fs))), .row 3 1 A124 ((tg (bsOf fs) (b : Int)).length) c125 (ints (tg (bsOf fs) (b : Int))), .row 86 1 A166 ((n + 63) / 64) c167 (u64s ws2)] := (hM178.unfocus b (List.getElem?_set_self hrl)).cast (by rw [set_twice])
 have hM180 : Mem noS w w176 [.fam 86 (rO2.set b ⟨Ao, ((n + 63) / 64), co, u64s wsk⟩), .fam 86 rI2, .blk b1 24 (fV nm wk pa va (some ad175) c fs), .blk b4 50 [(.slice none 0 0), (.slice none 0 0)], .row 83 1 (sM g7) ((bsOf fs).length) ((bsOf fs).length) (slv rI2), .row 83 1 (sM g8) ((bsOf fs).length) ((bsOf fs).length) (slv (rO2.set b ⟨Ao, ((n + 63) / 64), co, u64s wsk⟩)), .blk b9 50 [(.slice (sM g7) ((bsOf fs).length) ((bsOf fs).length)), (.slice (sM g8) ((bsOf fs).length) ((bsOf fs).length))], .fam 3 rows18, .row 36 1 A16 ((bsOf fs).length) c17 (slv rows18), .row 3 1 (sM g123) ((orderL (bsOf fs)).length) c105 (ints (orderL (bsOf fs))), .row 3 1 A124 ((tg (bsOf fs) (b : Int)).length) c125 (ints (tg (bsOf fs) (b : Int))), .row 86 1 A166 ((n + 63) / 64) c167 (u64s ws2)] := hM179.cast (by rw [slv_same hro (u64s wsk)])
 have hM181 := hM180.od [11, 11, 11, 11, 11, 11, 11, 11, 11, 11, 10, 11] 12
 have htga : ∀ (r : Nat) (t v : Int), r < (tg (bsOf fs) (b : Int)).length → (tg (bsOf fs) (b : Int))[r]? = some t → SI2 t v = true → Sk v = true := (show q = (tg (bsOf fs) (b : Int)).length by omega) ▸ htg
 refine zpn 2 <| zld ⟨b9, 0, none⟩ (.slice (sM g7) ((bsOf fs).length) ((bsOf fs).length)) (blk_cell (hM181.get 6 rfl) rfl) <| zpn 1 <| zix ⟨g7, 0, none⟩ ((bsOf fs).length) 1 (b : Int) <| zkp [(1, (pT b1 0)), (2, (pT b4 0)), (4, (pT b9 0)), (13, (.slice (sM g123) ((orderL (bsOf fs)).length) c105)), (14, (.bool tb2)), (15, (nV j0)), (16, (nV b)), (21, (.slice A166 ((n + 63) / 64) c167)), (150, (.slice A166 ((n + 63) / 64) c167)), (154, (.pointer (some ((⟨g7, 0, none⟩ : Addr).add (((b : Int)).toNat * 1)))))] <| zld ((⟨g7, 0, none⟩ : Addr).add (((b : Int)).toNat * 1)) (.slice Ai ((n + 63) / 64) ci) (rd_get1 (row_rd (hM181.get 4 rfl)) rfl (slv_get hri)) <| zcl (lsame_c ws2 wsi ((n + 63) / 64) A166 Ai c167 ci w176 hS2.len.symm hSi.len.symm (by omega) (RO.row_rd (hM181.own_ro 11 rfl)) (RO.row_rd (RO.fam_rd (hM181.own_ro 0 rfl) hri))) ?_
 rintro _ w182 ⟨rfl, hM183x⟩
 have hM183 := hM181.cl hM183x
 refine zpn 1 <| zfe <| zcP (!(decide (ws2 = wsi))) (¬ (ws2 = wsi)) (by simp only [notT, decide_eq_true_eq]) (fun c184 => ?_) (fun c184 => ?_)
 have hne : ¬ ∀ i : Nat, i < n → innS x Sk (i : Int) = SI2 (b : Int) (i : Int) := fun e => c184 (((innS_set hS2).same hSi).2 e)
 refine zsr <| zpn 1 <| zld ⟨b9, 0, none⟩ (.slice (sM g7) ((bsOf fs).length) ((bsOf fs).length)) (blk_cell (hM183.get 6 rfl) rfl) <| zpn 2 <| zix ⟨g7, 0, none⟩ ((bsOf fs).length) 1 (b : Int) <| zsw hM183 4 ((⟨g7, 0, none⟩ : Addr).add (((b : Int)).toNat * 1)) (((b : Int)).toNat * 1) (.slice A166 ((n + 63) / 64) c167) rfl rfl (by omega) fun w185 hM186 => ?_
 replace hM186 := hM186.nf
 refine zfe <| zrg ?_
 have hM187 := hM186.od [11, 11, 11, 11, 11, 11, 11, 11, 11, 11, 11, 11] 12
 have hM188 : Mem noS w w185 [.fam 86 (rI2.set b nilV), .row 86 1 Ai ((n + 63) / 64) ci (u64s wsi), .fam 86 (rO2.set b ⟨Ao, ((n + 63) / 64), co, u64s wsk⟩), .blk b1 24 (fV nm wk pa va (some ad175) c fs), .blk b4 50 [(.slice none 0 0), (.slice none 0 0)], .row 83 1 (sM g7) ((bsOf fs).length) ((bsOf fs).length) ((slv rI2).set (((b : Int)).toNat * 1) (.slice A166 ((n + 63) / 64) c167)), .row 83 1 (sM g8) ((bsOf fs).length) ((bsOf fs).length) (slv (rO2.set b ⟨Ao, ((n + 63) / 64), co, u64s wsk⟩)), .blk b9 50 [(.slice (sM g7) ((bsOf fs).length) ((bsOf fs).length)), (.slice (sM g8) ((bsOf fs).length) ((bsOf fs).length))], .fam 3 rows18, .row 36 1 A16 ((bsOf fs).length) c17 (slv rows18), .row 3 1 (sM g123) ((orderL (bsOf fs)).length) c105 (ints (orderL (bsOf fs))), .row 3 1 A124 ((tg (bsOf fs) (b : Int)).length) c125 (ints (tg (bsOf fs) (b : Int))), .row 86 1 A166 ((n + 63) / 64) c167 (u64s ws2)] := hM187.focus b hri
 have hM189 := hM188.od [11, 11, 11, 11, 11, 11, 11, 11, 11, 11, 12, 11] 12
 have hrl2 : b < rI2.length := (List.getElem?_eq_some_iff.1 hri).1
 have hM190 : Mem noS w w185 [.fam 86 (rI2.set b ⟨A166, ((n + 63) / 64), c167, u64s ws2⟩), .fam 86 (rO2.set b ⟨Ao, ((n + 63) / 64), co, u64s wsk⟩), .blk b1 24 (fV nm wk pa va (some ad175) c fs), .blk b4 50 [(.slice none 0 0), (.slice none 0 0)], .row 83 1 (sM g7) ((bsOf fs).length) ((bsOf fs).length) ((slv rI2).set (((b : Int)).toNat * 1) (.slice A166 ((n + 63) / 64) c167)), .row 83 1 (sM g8) ((bsOf fs).length) ((bsOf fs).length) (slv (rO2.set b ⟨Ao, ((n + 63) / 64), co, u64s wsk⟩)), .blk b9 50 [(.slice (sM g7) ((bsOf fs).length) ((bsOf fs).length)), (.slice (sM g8) ((bsOf fs).length) ((bsOf fs).length))], .fam 3 rows18, .row 36 1 A16 ((bsOf fs).length) c17 (slv rows18), .row 3 1 (sM g123) ((orderL (bsOf fs)).length) c105 (ints (orderL (bsOf fs))), .row 3 1 A124 ((tg (bsOf fs) (b : Int)).length) c125 (ints (tg (bsOf fs) (b : Int)))] := (hM189.unfocus b (List.getElem?_set_self hrl2)).cast (by rw [set_twice])
 have hM191 : Mem noS w w185 [.fam 86 (rI2.set b ⟨A166, ((n + 63) / 64), c167, u64s ws2⟩), .fam 86 (rO2.set b ⟨Ao, ((n + 63) / 64), co, u64s wsk⟩), .blk b1 24 (fV nm wk pa va (some ad175) c fs), .blk b4 50 [(.slice none 0 0), (.slice none 0 0)], .row 83 1 (sM g7) ((bsOf fs).length) ((bsOf fs).length) (slv (rI2.set b ⟨A166, ((n + 63) / 64), c167, u64s ws2⟩)), .row 83 1 (sM g8) ((bsOf fs).length) ((bsOf fs).length) (slv (rO2.set b ⟨Ao, ((n + 63) / 64), co, u64s wsk⟩)), .blk b9 50 [(.slice (sM g7) ((bsOf fs).length) ((bsOf fs).length)), (.slice (sM g8) ((bsOf fs).length) ((bsOf fs).length))], .fam 3 rows18, .row 36 1 A16 ((bsOf fs).length) c17 (slv rows18), .row 3 1 (sM g123) ((orderL (bsOf fs)).length) c105 (ints (orderL (bsOf fs))), .row 3 1 A124 ((tg (bsOf fs) (b : Int)).length) c125 (ints (tg (bsOf fs) (b : Int)))] := hM190.cast (by simp only [slv_set, Int.toNat_natCast, Nat.mul_one])
 refine zpn 1 <| zfe <| zrg <| zpn 1 <| zar ((j0 : Int) - 1) <| zpn 1 <| zfe ?_
 have hlt := turn_less hx hLk hne
 intro aC fr
 exact ⟨2 * j0, by omega, j0, ((j0 : Int) - 1), true, (rI2.set b ⟨A166, ((n + 63) / 64), c167, u64s ws2⟩), (rO2.set b ⟨Ao, ((n + 63) / 64), co, u64s wsk⟩), (updS SI2 (b : Int) (innS x Sk)), (updS SO2 (b : Int) Sk), rfl, fr.kp [1, 2, 4, 13, 14, 15], (hM191.tk 10), by omega, by omega, hRI2.set (innS_set hS2), hRO2.set hSk, hLk.inn_ hx (fun v hv => by rw [updS_at]; exact innS_at hv), ⟨by omega, fun _ => by omega⟩, fun h => Bool.noConfusion h⟩
 have heq := (hS2.same hSi).1 (Classical.not_not.1 c184)
 refine zsk <| zrg <| zpn 1 <| zar ((j0 : Int) - 1) <| zpn 1 <| zfe ?_
 intro aC fr
 exact ⟨2 * j0, by omega, j0, ((j0 : Int) - 1), tb2, rI2, (rO2.set b ⟨Ao, ((n + 63) / 64), co, u64s wsk⟩), SI2, (updS SO2 (b : Int) Sk), rfl, fr.kp [1, 2, 4, 13, 14, 15], (hM183.tk 10), by omega, by omega, hRI2, hRO2.set hSk, hLk, hU, turn_same (by omega) hx hbo hcl2 htga heq⟩
 refine zex 10 <| zbh ?_
 intro aC fr
 exact ⟨2 * unmetA n fs.length SI2 + cond tb2 1 0, by rw [hbt]; have h1 := hU.1; have h2 := hU.2; cases tb2 with | false => (simp only [cond_true, cond_false]; omega) | true => (have := h2 rfl; simp only [cond_true]; omega), tb2, rI2, rO2, SI2, SO2, rfl, fr.kp [1, 2, 4, 13, 14], hM118, hRI2, hRO2, hLO2, fun h q b hq hb => hcl2 h q b (by omega) hq hb⟩
 replace c114 : tb = false := Bool.eq_false_iff.2 c114
 have hbt : tb = false := c114
 refine zex 8 <| zbh <| zsr <| zls ⟨b9, 0, none⟩ [(.slice (sM g7) ((bsOf fs).length) ((bsOf fs).length)), (.slice (sM g8) ((bsOf fs).length) ((bsOf fs).length))] (blk_cells (hM111.get 6 rfl)) <| zss hM111 3 [(.slice (sM g7) ((bsOf fs).length) ((bsOf fs).length)), (.slice (sM g8) ((bsOf fs).length) ((bsOf fs).length))] rfl fun w198 hM199 => ?_
 replace hM199 := hM199.nf
 refine zfe <| zre ?_
 intro aC fr
 refine outC (ad := ⟨b4, 0, none⟩) (vs := [(.slice (sM g7) ((bsOf fs).length) ((bsOf fs).length)), (.slice (sM g8) ((bsOf fs).length) ((bsOf fs).length))]) fr rfl (by kernel_rfl) (by kernel_rfl) (blk_cells (hM199.get 3 rfl)) ?_
 refine ⟨_, rfl, ?_⟩
 have hlive := close_all hgood hva hLO (hcl hbt)
 have hM202 := hM199.od [5, 2, 5, 3] 4
 exact ⟨(sM g7), (bsOf fs).length, (sM g8), (bsOf fs).length, rI, rO, SI, SO, rfl, hRI1, hRO1, hlive, hM202⟩
end Go.Proofs.YtlfbloadopeamaaDoor
namespace Go.Proofs.YtlfbloadopeamaaDoor
open Go.Mor
set_option maxRecDepth 10000 in
theorem lists_c (n nb : Nat) (SS : Int → Int → Bool) (rows : List RowV) (A : Option Addr) (c : Nat) (w : World) (hn : n ≤ 20000) (hnb : nb ≤ 1000000) (hR : SetsR n nb rows SS) (hA : RO noS w (.rd A (slv rows))) (hF : RO noS w (.fam 86 rows)) (hT : RO noS w (.rd (sM 0) tabL)) :
    Calls Tryd.prog 22 #[(.slice A nb c)] w (Ret fun v w' => ∃ A' c' rows', v = .slice A' nb c' ∧ FamOf (Value.int .i64) rows' (liveL n nb SS) ∧ Mem noS w w' [.fam 3 rows', .row 36 1 A' nb c' (slv rows')]) := by
 refine zen 23 [(.slice A nb c)] Tryd.func22 ?_
 have hM := Mem.init w
 refine zsp <| zsr <| zpn 2 ?_
 intro aC fr
 refine From_make1 (by kernel_rfl : coreAt _ 2 = some (some 8, (.makeSlice 27 (.tmp 7) (.tmp 7)), 27, none)) fr (by kernel_rfl) (by kernel_rfl) (k' := 3) rfl (e := 36) (bytes := 24) (z := (.slice none 0 0)) (n := nb) (i := ((nb : Nat) : Int)) (by kernel_rfl) (by kernel_rfl) rfl (by kernel_rfl) (by kernel_rfl) rfl (by omega) (by simp only [maxLen]; omega) hM ?_
 intro b1 w2 hb1 _ hM3 _ aC ea fr; clear ea
 replace hM3 := hM3.nf
 clear hM
 revert aC
 refine zpn 1 <| zfe <| zsq <| zsp <| zbk 0 ?_
 have hM8 := hM3.od [] 1
 intro aC fr
 refine zlp (fun n_ a_ w_ => ∃ (k : Nat) (rows2 : List RowV), n_ = nb - k ∧ Fr a_ 23 [(3, (.slice (sM b1) nb nb)), (9, (.slice A nb c)), (10, (.int .i64 ((nb : Nat) : Int))), (11, (nV k))] ∧ Mem noS w w_ [.fam 3 rows2, .row 36 1 (sM b1) nb nb (slv rows2)] ∧ (k ≤ nb) ∧ (FamOf (Value.int .i64) rows2 (liveTo n nb SS k))) (n := _) ⟨0, List.replicate nb nilV, rfl, fr.kp [3, 9, 10, 11], ((hM8.call (Mem.nilfam _ 3 nb)).front 1 rfl).cast (by simp [slv, nilV]), by omega, by rw [liveTo_start]; exact FamOf.nils _⟩ ?_
 clear fr aC hM8; rintro n aC w11 ⟨k, rows2, rfl, fr, hM12, hk, hf⟩
 revert aC
 refine zsp <| zsq <| zcD (((k : Int) : Int) < ((nb : Nat) : Int)) (fun c15 => ?_) (fun c15 => ?_)
 refine zsk <| zsq <| zbk 1 <| zsr ?_
 obtain ⟨As, cs, ws, hrk, hSk⟩ := hR.at_ k (by omega)
 have hwl := hSk.len
 obtain ⟨A9, c9, h9⟩ := hf.get (liveTo_nil (n := n) (SS := SS) (show k < nb by omega))
 refine zpn 1 ?_
 obtain ⟨ad16, rfl⟩ := rd_some (hM12.ro hA) (by rw [slv_len, hR.len]; omega)
 refine zix ad16 nb 1 (k : Int) <| zld ((ad16 : Addr).add (((k : Int)).toNat * 1)) (.slice As ((n + 63) / 64) cs) (rd_get1 (hM12.ro hA) rfl (slv_get hrk)) <| zpn 2 <| zfe <| zrg <| zpn 3 <| zcl (each_c ws ((n + 63) / 64) As cs w11 hSk.fit hwl.symm (by omega) (RO.row_rd (RO.fam_rd (hF.at_ hM12) hrk)) (hT.at_ hM12)) ?_
 rintro _ w19 ⟨A17, c18, rfl, hM20x⟩
 have hM20 := hM12.cl hM20x
 refine zix ⟨b1, 0, none⟩ nb 1 (k : Int) <| zsw hM20 1 ((⟨b1, 0, none⟩ : Addr).add (((k : Int)).toNat * 1)) (((k : Int)).toNat * 1) (.slice A17 (((eachN ws 0).map (fun i : Nat => (i : Int))).length) c18) rfl rfl (by omega) fun w21 hM22 => ?_
 replace hM22 := hM22.nf
 refine zfe <| zrg ?_
 have he := hSk.each
 have hrl : k < rows2.length := (List.getElem?_eq_some_iff.1 h9).1
 have hM23 := hM22.od [2, 2, 2] 3
 have hM24 : Mem noS w w21 [.fam 3 (rows2.set k nilV), .row 3 1 A9 0 c9 [], .row 36 1 (sM b1) nb nb ((slv rows2).set (((k : Int)).toNat * 1) (.slice A17 (((eachN ws 0).map (fun i : Nat => (i : Int))).length) c18)), .row 3 1 A17 (((eachN ws 0).map (fun i : Nat => (i : Int))).length) c18 (ints ((eachN ws 0).map (fun i : Nat => (i : Int))))] := hM23.focus k h9
 have hM25 := hM24.od [1, 2, 3, 3] 4
 have hM26 : Mem noS w w21 [.fam 3 ((rows2.set k nilV).set k ⟨A17, ((eachN ws 0).map (fun i : Nat => (i : Int))).length, c18, ints ((eachN ws 0).map (fun i : Nat => (i : Int)))⟩), .row 36 1 (sM b1) nb nb ((slv rows2).set (((k : Int)).toNat * 1) (.slice A17 (((eachN ws 0).map (fun i : Nat => (i : Int))).length) c18)), .row 3 1 A9 0 c9 []] := hM25.unfocus k (List.getElem?_set_self hrl)
 have hM27 : Mem noS w w21 [.fam 3 (rows2.set k ⟨A17, (listS n (SS (k : Int))).length, c18, ints (listS n (SS (k : Int)))⟩), .row 36 1 (sM b1) nb nb (slv (rows2.set k ⟨A17, (listS n (SS (k : Int))).length, c18, ints (listS n (SS (k : Int)))⟩)), .row 3 1 A9 0 c9 []] := hM26.cast (by simp only [set_twice, slv_set, he, Int.toNat_natCast, Nat.mul_one])
 refine zar ((k : Int) + 1) <| zpn 1 <| zfe ?_
 intro aC fr
 exact ⟨nb - (k + 1), by omega, k + 1, (rows2.set k ⟨A17, (listS n (SS (k : Int))).length, c18, ints (listS n (SS (k : Int)))⟩), rfl, fr.kp [3, 9, 10, 11], (hM27.pick [true, true, false] rfl), by omega, by rw [liveTo_next (by omega)]; exact hf.set rfl rfl⟩
 refine zex 0 <| zbh <| zsp <| zre <| zo1 (.slice (sM b1) nb nb) ?_
 rw [liveTo_end (show nb ≤ k by omega)] at hf
 have hM30 := hM12.od [1, 1] 2
 exact ⟨_, _, rows2, rfl, hf, hM30⟩
end Go.Proofs.YtlfbloadopeamaaDoor
namespace Go.Proofs.YtlfbloadopeamaaDoor
open Go.Mor
set_option maxRecDepth 10000 in
theorem in_c (nm : ByteArray) (wk : Bool) (pa va : Int) (A : Option Addr) (c : Nat) (fs : List FBlk) (w : World) (hN : fs.length ≤ 1000) (hok : FOk fs) (hA : RO noS w (.fn A fs)) (hT : RO noS w (.rd (sM 0) tabL)) :
    Calls Tryd.prog 9 #[(fA nm wk pa va A c fs)] w (Ret fun v w' => ∃ A' n' c' rows', v = .slice A' n' c' ∧ n' = (ioL true nm pa va fs).length ∧ FamOf (Value.int .i64) rows' (ioL true nm pa va fs) ∧ Mem noS w w' [.fam 3 rows', .row 36 1 A' n' c' (slv rows')]) := by
 have hbl := bsOf_len fs
 have hm : (bsOf fs).length ≤ 1000000 := by omega
 have hB := hA.bs
 refine zen 10 [(fA nm wk pa va A c fs)] Tryd.func9 ?_
 have hM := Mem.init w
 refine zsr <| zbx hM 24 (fA nm wk pa va A c fs) (fV nm wk pa va A c fs) fun b1 w2 hb1 hM3 => ?_
 replace hM3 := hM3.nf
 clear hM
 refine zpn 1 <| zfe <| zsq <| zsr <| zls ⟨b1, 0, none⟩ (fV nm wk pa va A c fs) (blk_cells (hM3.get 0 rfl)) <| zcl (valid_c nm wk pa va A c fs w2 hN hok (hA.at_ hM3)) ?_
 rintro _ w4 ⟨rfl, hM5x⟩
 have hM5 := hM3.cl hM5x
 refine zpn 1 <| zfe <| zcP ((validN nm pa va fs : Int) != 0) ((validN nm pa va fs : Int) ≠ 0) (by simp only [bne_iff_ne]) (fun c6 => ?_) (fun c6 => ?_)
 refine zsp <| zre <| zo1 (.slice none 0 0) ?_
 have hv0 : validN nm pa va fs ≠ 0 := by omega
 have hM7 := hM5.od [] 0
 exact ⟨none, 0, 0, [], rfl, by rw [ioL_no hv0]; rfl, by rw [ioL_no hv0]; exact FamOf.nil, ((hM7.call (Mem.nilfam _ 3 0)).call (Mem.nilrow _ 36 1))⟩
 refine zsk <| zsr ?_
 have hv0 : validN nm pa va fs = 0 := by omega
 obtain ⟨hgood, hvl, _⟩ := valid_good hv0
 have hpar := hgood.par
 obtain ⟨n, hva⟩ := Int.eq_ofNat_of_zero_le (show 0 ≤ va by omega)
 have hn2 : n ≤ 20000 := by omega
 refine zls ⟨b1, 0, none⟩ (fV nm wk pa va A c fs) (blk_cells (hM5.get 0 rfl)) <| zcl (of_c n nm wk pa va A c fs w4 hN hok (hA.at_ hM5) hva hn2 hgood) ?_
 rintro _ w14 ⟨A8, c9, A10, c11, rI12, rO13, SI, SO, rfl, hRI, hRO, hLV, hM15x⟩
 have hM15 := hM5.cl hM15x
 refine zpn 1 <| zcl (lists_c n (bsOf fs).length SI rI12 A8 c9 w14 hn2 (by omega) (by rw [hbl]; exact hRI) (RO.row_rd (hM15.own_ro 2 rfl)) (hM15.own_ro 1 rfl) (hT.at_ hM15)) ?_
 rintro _ w19 ⟨A16, c17, rows18, rfl, hfl, hM20x⟩
 have hM20 := hM15.cl hM20x
 refine zpn 1 <| zfe <| zre <| zo1 (.slice A16 ((bsOf fs).length) c17) ?_
 have hM21 := hM20.od [6, 6] 2
 have hvn : va.toNat = n := by omega
 rw [hbl] at hfl
 exact ⟨A16, (bsOf fs).length, c17, rows18, rfl, by rw [ioL_yes hv0, liveB_len, hbl], by rw [ioL_yes hv0, hvn, ← live_in hLV]; exact hfl, hM21⟩
set_option maxRecDepth 10000 in
theorem out_c (nm : ByteArray) (wk : Bool) (pa va : Int) (A : Option Addr) (c : Nat) (fs : List FBlk) (w : World) (hN : fs.length ≤ 1000) (hok : FOk fs) (hA : RO noS w (.fn A fs)) (hT : RO noS w (.rd (sM 0) tabL)) :
    Calls Tryd.prog 10 #[(fA nm wk pa va A c fs)] w (Ret fun v w' => ∃ A' n' c' rows', v = .slice A' n' c' ∧ n' = (ioL false nm pa va fs).length ∧ FamOf (Value.int .i64) rows' (ioL false nm pa va fs) ∧ Mem noS w w' [.fam 3 rows', .row 36 1 A' n' c' (slv rows')]) := by
 have hbl := bsOf_len fs
 have hm : (bsOf fs).length ≤ 1000000 := by omega
 have hB := hA.bs
 refine zen 10 [(fA nm wk pa va A c fs)] Tryd.func10 ?_
 have hM := Mem.init w
 refine zsr <| zbx hM 24 (fA nm wk pa va A c fs) (fV nm wk pa va A c fs) fun b1 w2 hb1 hM3 => ?_
 replace hM3 := hM3.nf
 clear hM
 refine zpn 1 <| zfe <| zsq <| zsr <| zls ⟨b1, 0, none⟩ (fV nm wk pa va A c fs) (blk_cells (hM3.get 0 rfl)) <| zcl (valid_c nm wk pa va A c fs w2 hN hok (hA.at_ hM3)) ?_
 rintro _ w4 ⟨rfl, hM5x⟩
 have hM5 := hM3.cl hM5x
 refine zpn 1 <| zfe <| zcP ((validN nm pa va fs : Int) != 0) ((validN nm pa va fs : Int) ≠ 0) (by simp only [bne_iff_ne]) (fun c6 => ?_) (fun c6 => ?_)
 refine zsp <| zre <| zo1 (.slice none 0 0) ?_
 have hv0 : validN nm pa va fs ≠ 0 := by omega
 have hM7 := hM5.od [] 0
 exact ⟨none, 0, 0, [], rfl, by rw [ioL_no hv0]; rfl, by rw [ioL_no hv0]; exact FamOf.nil, ((hM7.call (Mem.nilfam _ 3 0)).call (Mem.nilrow _ 36 1))⟩
 refine zsk <| zsr ?_
 have hv0 : validN nm pa va fs = 0 := by omega
 obtain ⟨hgood, hvl, _⟩ := valid_good hv0
 have hpar := hgood.par
 obtain ⟨n, hva⟩ := Int.eq_ofNat_of_zero_le (show 0 ≤ va by omega)
 have hn2 : n ≤ 20000 := by omega
 refine zls ⟨b1, 0, none⟩ (fV nm wk pa va A c fs) (blk_cells (hM5.get 0 rfl)) <| zcl (of_c n nm wk pa va A c fs w4 hN hok (hA.at_ hM5) hva hn2 hgood) ?_
 rintro _ w14 ⟨A8, c9, A10, c11, rI12, rO13, SI, SO, rfl, hRI, hRO, hLV, hM15x⟩
 have hM15 := hM5.cl hM15x
 refine zpn 1 <| zcl (lists_c n (bsOf fs).length SO rO13 A10 c11 w14 hn2 (by omega) (by rw [hbl]; exact hRO) (RO.row_rd (hM15.own_ro 4 rfl)) (hM15.own_ro 3 rfl) (hT.at_ hM15)) ?_
 rintro _ w19 ⟨A16, c17, rows18, rfl, hfl, hM20x⟩
 have hM20 := hM15.cl hM20x
 refine zpn 1 <| zfe <| zre <| zo1 (.slice A16 ((bsOf fs).length) c17) ?_
 have hM21 := hM20.od [6, 6] 2
 have hvn : va.toNat = n := by omega
 rw [hbl] at hfl
 exact ⟨A16, (bsOf fs).length, c17, rows18, rfl, by rw [ioL_yes hv0, liveB_len, hbl], by rw [ioL_yes hv0, hvn, ← live_out hLV]; exact hfl, hM21⟩
end Go.Proofs.YtlfbloadopeamaaDoor
namespace Go.Proofs.YtlfbloadopeamaaDoor
open Go.Mor
set_option maxRecDepth 10000 in
theorem more_c (n v p8 p5 p q : Nat) (As : Option Addr) (cs : Nat) (ws : List Nat) (S : Int → Bool) (w : World) (hn : n ≤ 1000000) (hv : v < n) (hS : SetW n ws S) (hp8 : RO ((Res.row 86 1 As ((n + 63) / 64) cs (u64s ws)).and (Res.blk q 3 [.int .i64 ((cardS n S : Nat) : Int)])).fp w (.blk p8 83 [(.slice As ((n + 63) / 64) cs)])) (hp5 : RO ((Res.row 86 1 As ((n + 63) / 64) cs (u64s ws)).and (Res.blk q 3 [.int .i64 ((cardS n S : Nat) : Int)])).fp w (.blk p5 72 [(.func (.func 36) #[] #[(pT q 0)]), (.func (.func 37) #[] #[(pT q 0)]), (.func (.func 38) #[] #[(pT q 0)]), (.func (.func 39) #[] #[(pT p 0), (pT q 0)])])) (hrow : (Res.row 86 1 As ((n + 63) / 64) cs (u64s ws)).holds w) (hq : (Res.blk q 3 [.int .i64 ((cardS n S : Nat) : Int)]).holds w) (hfar : ∀ g, (Res.row 86 1 As ((n + 63) / 64) cs (u64s ws)).fp g → ¬ (Res.blk q 3 [.int .i64 ((cardS n S : Nat) : Int)]).fp g) :
    Calls Tryd.prog 59 #[(nV v), (pT p8 0), (pT p5 0)] w (Ret fun u w' => ∃ ws2, u = .tuple #[] ∧ SetW n ws2 (addS S (v : Int)) ∧ Mem ((Res.row 86 1 As ((n + 63) / 64) cs (u64s ws)).and (Res.blk q 3 [.int .i64 ((cardS n S : Nat) : Int)])).fp w w' [.row 86 1 As ((n + 63) / 64) cs (u64s ws2), .blk q 3 [.int .i64 ((cardS n (addS S (v : Int)) : Nat) : Int)]]) := by
 have hcl := cardS_le (n := n) (S := S)
 refine zen 15 [(nV v), (pT p8 0), (pT p5 0)] Tryd.func59 ?_
 have hM := Mem.init2 hrow hq hfar
 refine zsr <| zld ⟨p8, 0, none⟩ (.slice As ((n + 63) / 64) cs) (blk_cell (hM.ro hp8) rfl) <| zpn 1 <| zcl (lhas_c ws ((n + 63) / 64) v As cs w hS.fit (by omega) hS.len.symm (hS.idx (by omega)) (RO.row_rd (hM.own_ro 0 rfl))) ?_
 rintro _ w1 ⟨rfl, hM2x⟩
 have hM2 := hM.cl hM2x
 clear hM2x hM
 refine zpn 1 <| zfe <| zcP (!(tb ws v)) (¬ ((tb ws v) = true)) (by simp only [notT]) (fun c3 => ?_) (fun c3 => ?_)
 replace c3 : (tb ws v) = false := Bool.eq_false_iff.2 c3
 refine zsr <| zld ⟨p8, 0, none⟩ (.slice As ((n + 63) / 64) cs) (blk_cell (hM2.ro hp8) rfl) <| zpn 1 <| zcl (lput_c ws ((n + 63) / 64) v As cs w1 hS.fit (by omega) hS.len.symm (hS.idx (by omega)) (hM2.get 0 rfl)) ?_
 rintro _ w4 ⟨rfl, hM5x⟩
 have hM5 := hM2.md 0 rfl hM5x
 refine zfe <| zrg <| zpn 1 <| zld ⟨p5, 1, none⟩ (.func (.func 37) #[] #[(pT q 0)]) (blk_cell (hM5.ro hp5) rfl) <| zpn 1 <| zcl (up_c (nV v) q ((cardS n S : Nat) : Int) w4 (by omega) (hM5.get 1 rfl)) ?_
 rintro _ w6 ⟨rfl, hM7x⟩
 have hM7 := hM5.md 1 rfl hM7x
 refine zfe <| zo0 ?_
 have hM8 := hM7.od [1, 1] 2
 have hv9 : S (v : Int) = false := by rw [← hS.bits v (by omega)]; exact c3
 have hcd := cardS_put (n := n) (S := S) (i := v) (by omega) hv9
 exact ⟨(putw ws v), rfl, hS.put (by omega), hM8.cast (by rw [show (((cardS n S : Nat) : Int) + 1 : Int) = ((cardS n (addS S (v : Int)) : Nat) : Int) by omega])⟩
 replace c3 : (tb ws v) = true := Classical.not_not.1 c3
 refine zsk <| zo0 ?_
 have hM9 := hM2.od [1, 1] 2
 have hv9 : S (v : Int) = true := by rw [← hS.bits v (by omega)]; exact c3
 exact ⟨ws, rfl, by rw [addS_have hv9]; exact hS, by rw [addS_have hv9]; exact hM9⟩
set_option maxRecDepth 10000 in
theorem less_c (n v p8 p5 p q : Nat) (As : Option Addr) (cs : Nat) (ws : List Nat) (S : Int → Bool) (w : World) (hn : n ≤ 1000000) (hv : v < n) (hS : SetW n ws S) (hp8 : RO ((Res.row 86 1 As ((n + 63) / 64) cs (u64s ws)).and (Res.blk q 3 [.int .i64 ((cardS n S : Nat) : Int)])).fp w (.blk p8 83 [(.slice As ((n + 63) / 64) cs)])) (hp5 : RO ((Res.row 86 1 As ((n + 63) / 64) cs (u64s ws)).and (Res.blk q 3 [.int .i64 ((cardS n S : Nat) : Int)])).fp w (.blk p5 72 [(.func (.func 36) #[] #[(pT q 0)]), (.func (.func 37) #[] #[(pT q 0)]), (.func (.func 38) #[] #[(pT q 0)]), (.func (.func 39) #[] #[(pT p 0), (pT q 0)])])) (hrow : (Res.row 86 1 As ((n + 63) / 64) cs (u64s ws)).holds w) (hq : (Res.blk q 3 [.int .i64 ((cardS n S : Nat) : Int)]).holds w) (hfar : ∀ g, (Res.row 86 1 As ((n + 63) / 64) cs (u64s ws)).fp g → ¬ (Res.blk q 3 [.int .i64 ((cardS n S : Nat) : Int)]).fp g) :
    Calls Tryd.prog 61 #[(nV v), (pT p8 0), (pT p5 0)] w (Ret fun u w' => ∃ ws2, u = .tuple #[] ∧ SetW n ws2 (remS S (v : Int)) ∧ Mem ((Res.row 86 1 As ((n + 63) / 64) cs (u64s ws)).and (Res.blk q 3 [.int .i64 ((cardS n S : Nat) : Int)])).fp w w' [.row 86 1 As ((n + 63) / 64) cs (u64s ws2), .blk q 3 [.int .i64 ((cardS n (remS S (v : Int)) : Nat) : Int)]]) := by
 have hcl := cardS_le (n := n) (S := S)
 refine zen 14 [(nV v), (pT p8 0), (pT p5 0)] Tryd.func61 ?_
 have hM := Mem.init2 hrow hq hfar
 refine zsr <| zld ⟨p8, 0, none⟩ (.slice As ((n + 63) / 64) cs) (blk_cell (hM.ro hp8) rfl) <| zpn 1 <| zcl (lhas_c ws ((n + 63) / 64) v As cs w hS.fit (by omega) hS.len.symm (hS.idx (by omega)) (RO.row_rd (hM.own_ro 0 rfl))) ?_
 rintro _ w1 ⟨rfl, hM2x⟩
 have hM2 := hM.cl hM2x
 clear hM2x hM
 refine zfe <| zcP (tb ws v) ((tb ws v) = true) Iff.rfl (fun c3 => ?_) (fun c3 => ?_)
 refine zsr <| zld ⟨p8, 0, none⟩ (.slice As ((n + 63) / 64) cs) (blk_cell (hM2.ro hp8) rfl) <| zpn 1 <| zcl (ltake_c ws ((n + 63) / 64) v As cs w1 hS.fit (by omega) hS.len.symm (hS.idx (by omega)) (hM2.get 0 rfl)) ?_
 rintro _ w4 ⟨rfl, hM5x⟩
 have hM5 := hM2.md 0 rfl hM5x
 refine zfe <| zrg <| zpn 1 <| zld ⟨p5, 2, none⟩ (.func (.func 38) #[] #[(pT q 0)]) (blk_cell (hM5.ro hp5) rfl) <| zpn 1 <| zcl (down_c (nV v) q ((cardS n S : Nat) : Int) w4 (by omega) (hM5.get 1 rfl)) ?_
 rintro _ w6 ⟨rfl, hM7x⟩
 have hM7 := hM5.md 1 rfl hM7x
 refine zfe <| zo0 ?_
 have hM8 := hM7.od [1, 1] 2
 have hv9 : S (v : Int) = true := by rw [← hS.bits v (by omega)]; exact c3
 have hcd := cardS_take (n := n) (S := S) (i := v) (by omega) hv9
 exact ⟨(takew ws v), rfl, hS.take (by omega), hM8.cast (by rw [show (((cardS n S : Nat) : Int) - 1 : Int) = ((cardS n (remS S (v : Int)) : Nat) : Int) by omega])⟩
 replace c3 : (tb ws v) = false := Bool.eq_false_iff.2 c3
 refine zsk <| zo0 ?_
 have hM9 := hM2.od [1, 1] 2
 have hv9 : S (v : Int) = false := by rw [← hS.bits v (by omega)]; exact c3
 exact ⟨ws, rfl, by rw [remS_none hv9]; exact hS, by rw [remS_none hv9]; exact hM9⟩
end Go.Proofs.YtlfbloadopeamaaDoor
namespace Go.Proofs.YtlfbloadopeamaaDoor
open Go.Mor
set_option maxRecDepth 10000 in
theorem through_c (n pn p q : Nat) (nm : ByteArray) (wk : Bool) (pa va : Int) (A : Option Addr) (c : Nat) (fs : List FBlk) (A1 A2 : Option Addr) (n1 c1 c2 : Nat) (c0 : Int) (rO : List RowV) (SO : Int → Int → Bool) (w : World) (hN : fs.length ≤ 1000) (hok : FOk fs) (hA : RO ((Res.blk q 3 [.int .i64 c0]).and (Res.blk p 3 [.int .i64 0])).fp w (.fn A fs)) (hpn : pa = (pn : Int)) (hpn2 : pn ≤ n) (hn2 : n ≤ 20000) (hvr : ∀ x, x ∈ fs → VR n x) (hR : SetsR n fs.length rO SO) (hO : RO ((Res.blk q 3 [.int .i64 c0]).and (Res.blk p 3 [.int .i64 0])).fp w (.rd A2 (slv rO))) (hF : RO ((Res.blk q 3 [.int .i64 c0]).and (Res.blk p 3 [.int .i64 0])).fp w (.fam 86 rO)) (hT : RO ((Res.blk q 3 [.int .i64 c0]).and (Res.blk p 3 [.int .i64 0])).fp w (.rd (sM 0) tabL)) (hq : (Res.blk q 3 [.int .i64 c0]).holds w) (hp : (Res.blk p 3 [.int .i64 0]).holds w) (hfar : ∀ g, (Res.blk q 3 [.int .i64 c0]).fp g → ¬ (Res.blk p 3 [.int .i64 0]).fp g) :
    Calls Tryd.prog 35 #[(fA nm wk pa va A c fs), (.agg #[(.slice A1 n1 c1), (.slice A2 ((bsOf fs).length) c2)]), (.agg #[(.func (.func 36) #[] #[(pT q 0)]), (.func (.func 37) #[] #[(pT q 0)]), (.func (.func 38) #[] #[(pT q 0)]), (.func (.func 39) #[] #[(pT p 0), (pT q 0)])])] w (Ret fun u w' => ∃ c2', u = .tuple #[] ∧ Mem ((Res.blk q 3 [.int .i64 c0]).and (Res.blk p 3 [.int .i64 0])).fp w w' [.blk q 3 [.int .i64 c2'], .blk p 3 [.int .i64 ((mxl (besTo n pn fs SO fs.length) : Nat) : Int)]]) := by
 have hbl := bsOf_len fs
 have hm : (bsOf fs).length ≤ 1000000 := by omega
 have hB := hA.bs
 have hn1 : n ≤ 1000000 := by omega
 refine zen 137 [(fA nm wk pa va A c fs), (.agg #[(.slice A1 n1 c1), (.slice A2 ((bsOf fs).length) c2)]), (.agg #[(.func (.func 36) #[] #[(pT q 0)]), (.func (.func 37) #[] #[(pT q 0)]), (.func (.func 38) #[] #[(pT q 0)]), (.func (.func 39) #[] #[(pT p 0), (pT q 0)])])] Tryd.func35 ?_
 have hM := Mem.init2 hq hp hfar
 refine zsr <| zbx hM 24 (fA nm wk pa va A c fs) (fV nm wk pa va A c fs) fun b1 w2 hb1 hM3 => ?_
 replace hM3 := hM3.nf
 clear hM
 refine zbx hM3 50 (.agg #[(.slice A1 n1 c1), (.slice A2 ((bsOf fs).length) c2)]) [(.slice A1 n1 c1), (.slice A2 ((bsOf fs).length) c2)] fun b4 w5 hb4 hM6 => ?_
 replace hM6 := hM6.nf
 refine zbx hM6 72 (.agg #[(.func (.func 36) #[] #[(pT q 0)]), (.func (.func 37) #[] #[(pT q 0)]), (.func (.func 38) #[] #[(pT q 0)]), (.func (.func 39) #[] #[(pT p 0), (pT q 0)])]) [(.func (.func 36) #[] #[(pT q 0)]), (.func (.func 37) #[] #[(pT q 0)]), (.func (.func 38) #[] #[(pT q 0)]), (.func (.func 39) #[] #[(pT p 0), (pT q 0)])] fun b7 w8 hb7 hM9 => ?_
 replace hM9 := hM9.nf
 refine zfe <| zsr <| zpn 1 <| zld ⟨b1, 4, none⟩ (.slice A ((bsOf fs).length) c) (blk_cell (hM9.get 2 rfl) rfl) <| zpn 2 <| zfe <| zbk 0 ?_
 have hM10 := hM9.od [4, 4, 4, 4, 4] 5
 intro aC fr
 refine zlp (fun n_ a_ w_ => ∃ (k : Nat) (cK : Int), n_ = fs.length - k ∧ Fr a_ 137 [(3, (pT b1 0)), (4, (pT b4 0)), (5, (pT b7 0)), (21, (.slice A ((bsOf fs).length) c)), (22, (.int .i64 (((bsOf fs).length : Nat) : Int))), (23, (nV k))] ∧ Mem ((Res.blk q 3 [.int .i64 c0]).and (Res.blk p 3 [.int .i64 0])).fp w w_ [.blk q 3 [(.int .i64 cK)], .blk p 3 [(.int .i64 ((mxl (besTo n pn fs SO k) : Nat) : Int))], .blk b1 24 (fV nm wk pa va A c fs), .blk b4 50 [(.slice A1 n1 c1), (.slice A2 ((bsOf fs).length) c2)], .blk b7 72 [(.func (.func 36) #[] #[(pT q 0)]), (.func (.func 37) #[] #[(pT q 0)]), (.func (.func 38) #[] #[(pT q 0)]), (.func (.func 39) #[] #[(pT p 0), (pT q 0)])]] ∧ (k ≤ fs.length)) (n := _) ⟨0, c0, rfl, fr.kp [3, 4, 5, 21, 22, 23], hM10, by omega⟩ ?_
 clear fr aC hM10; rintro n aC w13 ⟨k, cK, rfl, fr, hM14, hk⟩
 revert aC
 refine zsp <| zsq <| zcD (((k : Int) : Int) < (((bsOf fs).length : Nat) : Int)) (fun c17 => ?_) (fun c17 => ?_)
 refine zsk <| zsq <| zbk 1 <| zsr ?_
 obtain ⟨x, hx⟩ := get_of (l := fs) (i := k) (by omega)
 have hl1 : x.phis.length ≤ 281474976710656 := (hok.get hx).lp
 have hl2 : x.insts.length ≤ 281474976710656 := (hok.get hx).li
 have hv := hvr x (List.mem_of_getElem? hx)
 refine zpn 1 ?_
 obtain ⟨ad18, rfl⟩ := blocks_some (hM14.ro hB) (bsOf_get hx)
 refine zix ad18 ((bsOf fs).length) 6 (k : Int) <| zls ((ad18 : Addr).add (((k : Int)).toNat * 6)) (xV x) (fblk_get (hM14.ro hB) rfl hx) <| zal hM14 44 [(.slice none 0 0), (.slice none 0 0), (.int .i64 0), (.int .i64 0), (.int .i64 0), (.int .i64 0)] fun b19 w20 hb19 hM21 => ?_
 replace hM21 := hM21.nf
 refine zpn 1 <| zss hM21 5 (xV x) rfl fun w22 hM23 => ?_
 replace hM23 := hM23.nf
 refine zfe <| zsr <| zpn 1 <| zld ⟨b7, 0, none⟩ (.func (.func 36) #[] #[(pT q 0)]) (blk_cell (hM23.get 4 rfl) rfl) <| zcl (begin0_c q cK w22 (hM23.get 0 rfl)) ?_
 rintro _ w24 ⟨rfl, hM25x⟩
 have hM25 := hM23.md 0 rfl hM25x
 refine zfe <| zsr ?_
 obtain ⟨Ak, ck, wsk, hrk, hSk⟩ := hR.at_ k (by omega)
 have hwl := hSk.len
 intro aC fr
 refine From_build0 (by kernel_rfl : coreAt _ 0 = some (some 31, (.buildSlice 83 0 #[]), 83, none)) fr (by kernel_rfl) (by kernel_rfl) (k' := 1) rfl (e := 86) (size := 1) (by kernel_rfl) (by kernel_rfl) hM25 ?_
 intro b26 w27 hb26 _ hM28 _ aC ea fr; clear ea
 replace hM28 := hM28.nf
 revert aC
 refine zpn 1 <| zld ⟨b4, 1, none⟩ (.slice A2 ((bsOf fs).length) c2) (blk_cell (hM28.get 3 rfl) rfl) <| zkp [(3, (pT b1 0)), (4, (pT b4 0)), (5, (pT b7 0)), (6, (nV k)), (7, (pT b19 0)), (21, (.slice (some ad18) ((bsOf fs).length) c)), (22, (.int .i64 (((bsOf fs).length : Nat) : Int))), (23, (nV k)), (31, (.slice (sM b26) 0 0)), (33, (.slice A2 ((bsOf fs).length) c2))] <| zpn 1 ?_
 obtain ⟨ad33, rfl⟩ := rd_some (hM28.ro hO) (by rw [slv_len, hR.len]; omega)
 refine zix ad33 ((bsOf fs).length) 1 (k : Int) <| zld ((ad33 : Addr).add (((k : Int)).toNat * 1)) (.slice Ak ((n + 63) / 64) ck) (rd_get1 (hM28.ro hO) rfl (slv_get hrk)) ?_
 intro aC fr
 refine From_append (by kernel_rfl : coreAt _ 6 = some (some 37, (.call { callee := (.builtin .append), args := #[(.tmp 31), (.tmp 36)], argTypes := #[83, 83] }), 83, none)) fr (by kernel_rfl) (by kernel_rfl) (k' := 7) rfl (e := 86) (size := 1) (bytes := 8) (z := (.int .u64 0)) (by kernel_rfl) (by kernel_rfl) (by kernel_rfl) (by kernel_rfl) (A := (sM b26)) (B := Ak) (n := 0) (cap := 0) (m := ((n + 63) / 64)) (cap' := ck) (xs := []) (news := (u64s wsk)) (by kernel_rfl) (by kernel_rfl) hM28 6 rfl (fam_rd (hM28.ro hF) hrk) (by rw [u64s_len, hSk.len, Nat.mul_one]) (by intro v hv; obtain ⟨x, _, rfl⟩ := List.mem_map.1 hv; rfl) (by omega) (by simp only [maxLen]; omega) ?_
 intro A34 c35 w36 hM37 _ aC ea fr; clear ea
 replace hM37 := hM37.nf
 revert aC
 refine zkp [(3, (pT b1 0)), (4, (pT b4 0)), (5, (pT b7 0)), (6, (nV k)), (7, (pT b19 0)), (21, (.slice (some ad18) ((bsOf fs).length) c)), (22, (.int .i64 (((bsOf fs).length : Nat) : Int))), (23, (nV k)), (37, (.slice A34 (0 + ((n + 63) / 64)) c35))] ?_
 rw [Nat.zero_add]
 have hM42 : Mem ((Res.blk q 3 [.int .i64 c0]).and (Res.blk p 3 [.int .i64 0])).fp w w36 [.blk q 3 [(.int .i64 0)], .blk p 3 [(.int .i64 ((mxl (besTo n pn fs SO k) : Nat) : Int))], .blk b1 24 (fV nm wk pa va (some ad18) c fs), .blk b4 50 [(.slice A1 n1 c1), (.slice (some ad33) ((bsOf fs).length) c2)], .blk b7 72 [(.func (.func 36) #[] #[(pT q 0)]), (.func (.func 37) #[] #[(pT q 0)]), (.func (.func 38) #[] #[(pT q 0)]), (.func (.func 39) #[] #[(pT p 0), (pT q 0)])], .blk b19 44 (xV x), .row 86 1 A34 ((n + 63) / 64) c35 (u64s wsk)] := hM37.cast (by simp only [Nat.zero_add])
 refine zal hM42 83 [(.slice none 0 0)] fun b43 w44 hb43 hM45 => ?_
 replace hM45 := hM45.nf
 refine zsb hM45 7 0 (.slice A34 ((n + 63) / 64) c35) rfl fun w46 hM47 => ?_
 replace hM47 := hM47.nf
 refine zfe <| zsq <| zsr <| zld ⟨b43, 0, none⟩ (.slice A34 ((n + 63) / 64) c35) (blk_cell (hM47.get 7 rfl) rfl) <| zcl (each_c wsk ((n + 63) / 64) A34 c35 w46 hSk.fit hwl.symm (by omega) (RO.row_rd (hM47.own_ro 6 rfl)) (hT.at_ hM47)) ?_
 rintro _ w50 ⟨A48, c49, rfl, hM51x⟩
 have hM51 := hM47.cl hM51x
 refine zkp [(3, (pT b1 0)), (4, (pT b4 0)), (5, (pT b7 0)), (6, (nV k)), (7, (pT b19 0)), (8, (pT b43 0)), (21, (.slice (some ad18) ((bsOf fs).length) c)), (22, (.int .i64 (((bsOf fs).length : Nat) : Int))), (23, (nV k)), (39, (.slice A48 (((eachN wsk 0).map (fun i : Nat => (i : Int))).length) c49))] ?_
 rw [hSk.each]
 have hM52 : Mem ((Res.blk q 3 [.int .i64 c0]).and (Res.blk p 3 [.int .i64 0])).fp w w50 [.blk q 3 [(.int .i64 0)], .blk p 3 [(.int .i64 ((mxl (besTo n pn fs SO k) : Nat) : Int))], .blk b1 24 (fV nm wk pa va (some ad18) c fs), .blk b4 50 [(.slice A1 n1 c1), (.slice (some ad33) ((bsOf fs).length) c2)], .blk b7 72 [(.func (.func 36) #[] #[(pT q 0)]), (.func (.func 37) #[] #[(pT q 0)]), (.func (.func 38) #[] #[(pT q 0)]), (.func (.func 39) #[] #[(pT p 0), (pT q 0)])], .blk b19 44 (xV x), .row 86 1 A34 ((n + 63) / 64) c35 (u64s wsk), .blk b43 83 [(.slice A34 ((n + 63) / 64) c35)], .row 3 1 A48 ((listS n (SO (k : Int))).length) c49 (ints (listS n (SO (k : Int))))] := hM51.cast (by rw [hSk.each])
 have hll : (listS n (SO (k : Int))).length ≤ n := cardS_le
 refine zpn 2 <| zfe <| zbk 2 ?_
 intro aC fr
 refine zlp (fun n_ a_ w_ => ∃ (i : Nat), n_ = (listS n (SO (k : Int))).length - i ∧ Fr a_ 137 [(3, (pT b1 0)), (4, (pT b4 0)), (5, (pT b7 0)), (6, (nV k)), (7, (pT b19 0)), (8, (pT b43 0)), (21, (.slice (some ad18) ((bsOf fs).length) c)), (22, (.int .i64 (((bsOf fs).length : Nat) : Int))), (23, (nV k)), (39, (.slice A48 ((listS n (SO (k : Int))).length) c49)), (40, (.int .i64 (((listS n (SO (k : Int))).length : Nat) : Int))), (41, (nV i))] ∧ Mem ((Res.blk q 3 [.int .i64 c0]).and (Res.blk p 3 [.int .i64 0])).fp w w_ [.blk q 3 [(nV i)], .blk p 3 [(.int .i64 ((mxl (besTo n pn fs SO k) : Nat) : Int))], .blk b1 24 (fV nm wk pa va (some ad18) c fs), .blk b4 50 [(.slice A1 n1 c1), (.slice (some ad33) ((bsOf fs).length) c2)], .blk b7 72 [(.func (.func 36) #[] #[(pT q 0)]), (.func (.func 37) #[] #[(pT q 0)]), (.func (.func 38) #[] #[(pT q 0)]), (.func (.func 39) #[] #[(pT p 0), (pT q 0)])], .blk b19 44 (xV x), .row 86 1 A34 ((n + 63) / 64) c35 (u64s wsk), .blk b43 83 [(.slice A34 ((n + 63) / 64) c35)], .row 3 1 A48 ((listS n (SO (k : Int))).length) c49 (ints (listS n (SO (k : Int))))] ∧ (i ≤ (listS n (SO (k : Int))).length)) (n := _) ⟨0, rfl, fr.kp [3, 4, 5, 6, 7, 8, 21, 22, 23, 39, 40, 41], hM52, by omega⟩ ?_
 clear fr aC hM52; rintro n aC w55 ⟨i, rfl, fr, hM56, hi⟩
 revert aC
 refine zsp <| zsq <| zcD (((i : Int) : Int) < (((listS n (SO (k : Int))).length : Nat) : Int)) (fun c59 => ?_) (fun c59 => ?_)
 refine zsk <| zsq <| zbk 3 <| zsr ?_
 obtain ⟨a1, ha1⟩ := get_of (l := (listS n (SO (k : Int)))) (i := i) (by omega)
 obtain ⟨g61, rfl⟩ := row_some (hM56.get 8 rfl) (by omega)
 refine zix ⟨g61, 0, none⟩ ((listS n (SO (k : Int))).length) 1 (i : Int) <| zld ((⟨g61, 0, none⟩ : Addr).add (((i : Int)).toNat * 1)) (.int .i64 a1) (rd_at (row_rd (hM56.get 8 rfl)) rfl ha1) <| zpn 1 <| zfe <| zrg <| zpn 1 <| zld ⟨b7, 1, none⟩ (.func (.func 37) #[] #[(pT q 0)]) (blk_cell (hM56.get 4 rfl) rfl) <| zpn 1 <| zcl (up_c (.int .i64 a1) q (i : Int) w55 (by omega) (hM56.get 0 rfl)) ?_
 rintro _ w62 ⟨rfl, hM63x⟩
 have hM63 := hM56.md 0 rfl hM63x
 refine zfe <| zrg <| zar ((i : Int) + 1) <| zpn 1 <| zfe ?_
 have hM64 : Mem ((Res.blk q 3 [.int .i64 c0]).and (Res.blk p 3 [.int .i64 0])).fp w w62 [.blk q 3 [(.int .i64 ((i + 1 : Nat) : Int))], .blk p 3 [(.int .i64 ((mxl (besTo n pn fs SO k) : Nat) : Int))], .blk b1 24 (fV nm wk pa va (some ad18) c fs), .blk b4 50 [(.slice A1 n1 c1), (.slice (some ad33) ((bsOf fs).length) c2)], .blk b7 72 [(.func (.func 36) #[] #[(pT q 0)]), (.func (.func 37) #[] #[(pT q 0)]), (.func (.func 38) #[] #[(pT q 0)]), (.func (.func 39) #[] #[(pT p 0), (pT q 0)])], .blk b19 44 (xV x), .row 86 1 A34 ((n + 63) / 64) c35 (u64s wsk), .blk b43 83 [(.slice A34 ((n + 63) / 64) c35)], .row 3 1 (sM g61) ((listS n (SO (k : Int))).length) c49 (ints (listS n (SO (k : Int))))] := hM63.cast (by rw [show ((i : Int) + 1) = ((i + 1 : Nat) : Int) by omega])
 intro aC fr
 exact ⟨(listS n (SO (k : Int))).length - (i + 1), by omega, i + 1, rfl, fr.kp [3, 4, 5, 6, 7, 8, 21, 22, 23, 39, 40, 41], hM64, by omega⟩
 refine zex 2 <| zbh <| zsr ?_
 have hM67 : Mem ((Res.blk q 3 [.int .i64 c0]).and (Res.blk p 3 [.int .i64 0])).fp w w55 [.blk q 3 [(.int .i64 ((cardS n (SO (k : Int)) : Nat) : Int))], .blk p 3 [(.int .i64 ((mxl (besTo n pn fs SO k) : Nat) : Int))], .blk b1 24 (fV nm wk pa va (some ad18) c fs), .blk b4 50 [(.slice A1 n1 c1), (.slice (some ad33) ((bsOf fs).length) c2)], .blk b7 72 [(.func (.func 36) #[] #[(pT q 0)]), (.func (.func 37) #[] #[(pT q 0)]), (.func (.func 38) #[] #[(pT q 0)]), (.func (.func 39) #[] #[(pT p 0), (pT q 0)])], .blk b19 44 (xV x), .row 86 1 A34 ((n + 63) / 64) c35 (u64s wsk), .blk b43 83 [(.slice A34 ((n + 63) / 64) c35)], .row 3 1 A48 ((listS n (SO (k : Int))).length) c49 (ints (listS n (SO (k : Int))))] := hM56.cast (by rw [show i = cardS n (SO (k : Int)) by unfold cardS; omega])
 have hM68 := hM67.od [7, 7, 7, 7, 7, 7, 7, 7] 8
 have hM69 := hM68.od [7, 6, 6, 6, 6, 6, 6, 7] 8
 refine zpn 2 <| zfe <| zsp <| zsq ?_
 intro aC fr
 refine W_cut (fun a_ w_ => ∃ (wsA : List Nat), Fr a_ 137 [(3, (pT b1 0)), (4, (pT b4 0)), (5, (pT b7 0)), (6, (nV k)), (7, (pT b19 0)), (11, (.func (.func 59) #[] #[(pT b43 0), (pT b7 0)])), (12, (.func (.func 61) #[] #[(pT b43 0), (pT b7 0)])), (21, (.slice (some ad18) ((bsOf fs).length) c)), (22, (.int .i64 (((bsOf fs).length : Nat) : Int))), (23, (nV k))] ∧ Mem ((Res.blk q 3 [.int .i64 c0]).and (Res.blk p 3 [.int .i64 0])).fp w w_ [.row 86 1 A34 ((n + 63) / 64) c35 (u64s wsA), .blk q 3 [(.int .i64 ((cardS n (endR x (SO (k : Int))) : Nat) : Int))], .blk p 3 [(.int .i64 ((mxl (besTo n pn fs SO k) : Nat) : Int))], .blk b1 24 (fV nm wk pa va (some ad18) c fs), .blk b4 50 [(.slice A1 n1 c1), (.slice (some ad33) ((bsOf fs).length) c2)], .blk b7 72 [(.func (.func 36) #[] #[(pT q 0)]), (.func (.func 37) #[] #[(pT q 0)]), (.func (.func 38) #[] #[(pT q 0)]), (.func (.func 39) #[] #[(pT p 0), (pT q 0)])], .blk b19 44 (xV x), .blk b43 83 [(.slice A34 ((n + 63) / 64) c35)]] ∧ (SetW n wsA (endR x (SO (k : Int))))) ?_ ?_
 clear fr aC hM69; rintro aC w72 ⟨wsA, fr, hM73, hSA⟩
 revert aC
 refine zsq <| zsr <| zpn 1 <| zld ⟨b19, 1, none⟩ (.slice x.iA x.insts.length x.ic) (blk_cell (hM73.get 6 rfl) rfl) <| zpn 1 <| zar (((x.insts.length : Nat) : Int) - 1) <| zpn 1 <| zfe <| zbk 4 ?_
 intro aC fr
 refine zlp (fun n_ a_ w_ => ∃ (j : Nat) (iv : Int) (ws2 : List Nat), n_ = 2 * j ∧ Fr a_ 137 [(3, (pT b1 0)), (4, (pT b4 0)), (5, (pT b7 0)), (6, (nV k)), (7, (pT b19 0)), (11, (.func (.func 59) #[] #[(pT b43 0), (pT b7 0)])), (12, (.func (.func 61) #[] #[(pT b43 0), (pT b7 0)])), (13, (.int .i64 iv)), (21, (.slice (some ad18) ((bsOf fs).length) c)), (22, (.int .i64 (((bsOf fs).length : Nat) : Int))), (23, (nV k))] ∧ Mem ((Res.blk q 3 [.int .i64 c0]).and (Res.blk p 3 [.int .i64 0])).fp w w_ [.row 86 1 A34 ((n + 63) / 64) c35 (u64s ws2), .blk q 3 [(.int .i64 ((cardS n (intoB (x.insts.drop j) (endR x (SO (k : Int)))) : Nat) : Int))], .blk p 3 [(.int .i64 ((max (mxl (besTo n pn fs SO k)) (mxl (plL n (x.insts.drop j) (endR x (SO (k : Int))))) : Nat) : Int))], .blk b1 24 (fV nm wk pa va (some ad18) c fs), .blk b4 50 [(.slice A1 n1 c1), (.slice (some ad33) ((bsOf fs).length) c2)], .blk b7 72 [(.func (.func 36) #[] #[(pT q 0)]), (.func (.func 37) #[] #[(pT q 0)]), (.func (.func 38) #[] #[(pT q 0)]), (.func (.func 39) #[] #[(pT p 0), (pT q 0)])], .blk b19 44 (xV x), .blk b43 83 [(.slice A34 ((n + 63) / 64) c35)]] ∧ (j ≤ x.insts.length) ∧ (iv = (j : Int) - 1) ∧ (SetW n ws2 (intoB (x.insts.drop j) (endR x (SO (k : Int)))))) (n := _) ⟨x.insts.length, (((x.insts.length : Nat) : Int) - 1), wsA, rfl, fr.kp [3, 4, 5, 6, 7, 11, 12, 13, 21, 22, 23], (hM73.cast (by rw [intoB_end, List.drop_length, plL, mxl_nil, Nat.max_zero])), by omega, by omega, by rw [intoB_end]; exact hSA⟩ ?_
 clear fr aC hM73; rintro n aC w78 ⟨j, iv, ws2, rfl, fr, hM79, hj, hiv, hS2⟩
 revert aC
 refine zsq <| zsp <| zcD ((iv : Int) ≥ 0) (fun c82 => ?_) (fun c82 => ?_)
 refine zsk <| zsq <| zbk 5 <| zsr ?_
 obtain ⟨j0, rfl⟩ : ∃ j0, j = j0 + 1 := ⟨j - 1, by omega⟩
 obtain rfl : iv = (j0 : Int) := by omega
 obtain ⟨p3, hp3⟩ := get_of (l := x.insts) (i := j0) (by omega)
 obtain ⟨hpd0, hpd1, hpa⟩ := hv.insts p3 (List.mem_of_getElem? hp3)
 have hpl3 : p3.args.length ≤ 281474976710656 := ((hok.get hx).insts p3 (List.mem_of_getElem? hp3)).len
 refine zpn 1 <| zld ⟨b19, 1, none⟩ (.slice x.iA x.insts.length x.ic) (blk_cell (hM79.get 6 rfl) rfl) <| zpn 1 ?_
 obtain ⟨ad83, had84⟩ := rds_some (hM79.ro (hA.insts hx)) (cs := p3.cells) (i := j0) (by simp [hp3])
 intro aC fr
 refine From_ixA (some 80) x.iA ad83 x.insts.length 5 (j0 : Int) fr (by kernel_rfl) had84 (by omega) (by omega) ?_
 intro aC fr
 revert aC
 refine zls ((ad83 : Addr).add (((j0 : Int)).toNat * 5)) (iV p3) (ins_get (hM79.ro (hA.insts hx)) had84 hp3) <| zal hM79 40 [(.int .i64 0), (.int .i64 0), (.int .i64 0), (.string ⟨#[]⟩), (.slice none 0 0)] fun b89 w90 hb89 hM91 => ?_
 replace hM91 := hM91.nf
 refine zss hM91 8 (iV p3) rfl fun w92 hM93 => ?_
 replace hM93 := hM93.nf
 refine zfe <| zsq ?_
 intro aC fr
 refine W_cut (fun a_ w_ => ∃ (wsB : List Nat), Fr a_ 137 [(3, (pT b1 0)), (4, (pT b4 0)), (5, (pT b7 0)), (6, (nV k)), (7, (pT b19 0)), (11, (.func (.func 59) #[] #[(pT b43 0), (pT b7 0)])), (12, (.func (.func 61) #[] #[(pT b43 0), (pT b7 0)])), (13, (nV j0)), (14, (pT b89 0)), (21, (.slice (some ad18) ((bsOf fs).length) c)), (22, (.int .i64 (((bsOf fs).length : Nat) : Int))), (23, (nV k))] ∧ Mem ((Res.blk q 3 [.int .i64 c0]).and (Res.blk p 3 [.int .i64 0])).fp w w_ [.row 86 1 A34 ((n + 63) / 64) c35 (u64s wsB), .blk q 3 [(.int .i64 ((cardS n (putD (intoB (x.insts.drop (j0 + 1)) (endR x (SO (k : Int)))) p3.dst) : Nat) : Int))], .blk p 3 [(.int .i64 ((max (mxl (besTo n pn fs SO k)) (mxl (plL n (x.insts.drop (j0 + 1)) (endR x (SO (k : Int))))) : Nat) : Int))], .blk b1 24 (fV nm wk pa va (some ad18) c fs), .blk b4 50 [(.slice A1 n1 c1), (.slice (some ad33) ((bsOf fs).length) c2)], .blk b7 72 [(.func (.func 36) #[] #[(pT q 0)]), (.func (.func 37) #[] #[(pT q 0)]), (.func (.func 38) #[] #[(pT q 0)]), (.func (.func 39) #[] #[(pT p 0), (pT q 0)])], .blk b19 44 (xV x), .blk b43 83 [(.slice A34 ((n + 63) / 64) c35)], .blk b89 40 (iV p3)] ∧ (SetW n wsB (putD (intoB (x.insts.drop (j0 + 1)) (endR x (SO (k : Int)))) p3.dst))) ?_ ?_
 clear fr aC hM93; rintro aC w96 ⟨wsB, fr, hM97, hSB⟩
 revert aC
 refine zsr <| zpn 1 <| zld ⟨b7, 3, none⟩ (.func (.func 39) #[] #[(pT p 0), (pT q 0)]) (blk_cell (hM97.get 5 rfl) rfl) <| zcl (mplace_c p q ((max (mxl (besTo n pn fs SO k)) (mxl (plL n (x.insts.drop (j0 + 1)) (endR x (SO (k : Int))))) : Nat) : Int) ((cardS n (putD (intoB (x.insts.drop (j0 + 1)) (endR x (SO (k : Int)))) p3.dst) : Nat) : Int) w96 (hM97.get 2 rfl) (hM97.own_but 1 2 rfl rfl (by decide))) ?_
 rintro _ w100 ⟨rfl, hM101x⟩
 have hM101 := hM97.md 2 rfl hM101x
 refine zfe <| zsq ?_
 intro aC fr
 refine W_cut (fun a_ w_ => ∃ (wsC : List Nat), Fr a_ 137 [(3, (pT b1 0)), (4, (pT b4 0)), (5, (pT b7 0)), (6, (nV k)), (7, (pT b19 0)), (11, (.func (.func 59) #[] #[(pT b43 0), (pT b7 0)])), (12, (.func (.func 61) #[] #[(pT b43 0), (pT b7 0)])), (13, (nV j0)), (14, (pT b89 0)), (21, (.slice (some ad18) ((bsOf fs).length) c)), (22, (.int .i64 (((bsOf fs).length : Nat) : Int))), (23, (nV k))] ∧ Mem ((Res.blk q 3 [.int .i64 c0]).and (Res.blk p 3 [.int .i64 0])).fp w w_ [.row 86 1 A34 ((n + 63) / 64) c35 (u64s wsC), .blk q 3 [(.int .i64 ((cardS n (takeD (intoB (x.insts.drop (j0 + 1)) (endR x (SO (k : Int)))) p3.dst) : Nat) : Int))], .blk p 3 [(.int .i64 (max ((max (mxl (besTo n pn fs SO k)) (mxl (plL n (x.insts.drop (j0 + 1)) (endR x (SO (k : Int))))) : Nat) : Int) ((cardS n (putD (intoB (x.insts.drop (j0 + 1)) (endR x (SO (k : Int)))) p3.dst) : Nat) : Int)))], .blk b1 24 (fV nm wk pa va (some ad18) c fs), .blk b4 50 [(.slice A1 n1 c1), (.slice (some ad33) ((bsOf fs).length) c2)], .blk b7 72 [(.func (.func 36) #[] #[(pT q 0)]), (.func (.func 37) #[] #[(pT q 0)]), (.func (.func 38) #[] #[(pT q 0)]), (.func (.func 39) #[] #[(pT p 0), (pT q 0)])], .blk b19 44 (xV x), .blk b43 83 [(.slice A34 ((n + 63) / 64) c35)], .blk b89 40 (iV p3)] ∧ (SetW n wsC (takeD (intoB (x.insts.drop (j0 + 1)) (endR x (SO (k : Int)))) p3.dst))) ?_ ?_
 clear fr aC hM101; rintro aC w104 ⟨wsC, fr, hM105, hSC⟩
 revert aC
 refine zsr <| zpn 1 <| zld ⟨b89, 4, none⟩ (.slice p3.A p3.args.length p3.c) (blk_cell (hM105.get 8 rfl) rfl) <| zpn 2 <| zfe <| zbk 6 ?_
 intro aC fr
 refine zlp (fun n_ a_ w_ => ∃ (kk : Nat) (ws6 : List Nat), n_ = p3.args.length - kk ∧ Fr a_ 137 [(3, (pT b1 0)), (4, (pT b4 0)), (5, (pT b7 0)), (6, (nV k)), (7, (pT b19 0)), (11, (.func (.func 59) #[] #[(pT b43 0), (pT b7 0)])), (12, (.func (.func 61) #[] #[(pT b43 0), (pT b7 0)])), (13, (nV j0)), (21, (.slice (some ad18) ((bsOf fs).length) c)), (22, (.int .i64 (((bsOf fs).length : Nat) : Int))), (23, (nV k)), (100, (.slice p3.A p3.args.length p3.c)), (101, (.int .i64 ((p3.args.length : Nat) : Int))), (102, (nV kk))] ∧ Mem ((Res.blk q 3 [.int .i64 c0]).and (Res.blk p 3 [.int .i64 0])).fp w w_ [.row 86 1 A34 ((n + 63) / 64) c35 (u64s ws6), .blk q 3 [(.int .i64 ((cardS n (addL (takeD (intoB (x.insts.drop (j0 + 1)) (endR x (SO (k : Int)))) p3.dst) (p3.args.take kk)) : Nat) : Int))], .blk p 3 [(.int .i64 (max ((max (mxl (besTo n pn fs SO k)) (mxl (plL n (x.insts.drop (j0 + 1)) (endR x (SO (k : Int))))) : Nat) : Int) ((cardS n (putD (intoB (x.insts.drop (j0 + 1)) (endR x (SO (k : Int)))) p3.dst) : Nat) : Int)))], .blk b1 24 (fV nm wk pa va (some ad18) c fs), .blk b4 50 [(.slice A1 n1 c1), (.slice (some ad33) ((bsOf fs).length) c2)], .blk b7 72 [(.func (.func 36) #[] #[(pT q 0)]), (.func (.func 37) #[] #[(pT q 0)]), (.func (.func 38) #[] #[(pT q 0)]), (.func (.func 39) #[] #[(pT p 0), (pT q 0)])], .blk b19 44 (xV x), .blk b43 83 [(.slice A34 ((n + 63) / 64) c35)], .blk b89 40 (iV p3)] ∧ (kk ≤ p3.args.length) ∧ (SetW n ws6 (addL (takeD (intoB (x.insts.drop (j0 + 1)) (endR x (SO (k : Int)))) p3.dst) (p3.args.take kk)))) (n := _) ⟨0, wsC, rfl, fr.kp [3, 4, 5, 6, 7, 11, 12, 13, 21, 22, 23, 100, 101, 102], (hM105.cast (by rw [List.take_zero, addL_nil])), by omega, by rw [List.take_zero, addL_nil]; exact hSC⟩ ?_
 clear fr aC hM105; rintro n aC w110 ⟨kk, ws6, rfl, fr, hM111, hkk, hS6⟩
 revert aC
 refine zsp <| zsq <| zcD (((kk : Int) : Int) < ((p3.args.length : Nat) : Int)) (fun c114 => ?_) (fun c114 => ?_)
 refine zsk <| zsq <| zbk 7 <| zsr ?_
 obtain ⟨a0, ha⟩ := get_of (l := p3.args) (i := kk) (by omega)
 obtain ⟨ha0, ha1⟩ := hpa a0 (List.mem_of_getElem? ha)
 obtain ⟨an, rfl⟩ := Int.eq_ofNat_of_zero_le ha0
 obtain ⟨ad115, had116⟩ := rd_some (hM111.ro (hA.inst hx hp3)) (by simp [ints]; omega)
 intro aC fr
 refine From_ixA (some 104) p3.A ad115 p3.args.length 1 (kk : Int) fr (by kernel_rfl) had116 (by omega) (by omega) ?_
 intro aC fr
 revert aC
 refine zld ((ad115 : Addr).add (((kk : Int)).toNat * 1)) (nV an) (rd_at (hM111.ro (hA.inst hx hp3)) had116 ha) <| zpn 1 <| zfe <| zrg <| zpn 2 <| zcl (more_c n an b43 b7 p q A34 c35 ws6 (addL (takeD (intoB (x.insts.drop (j0 + 1)) (endR x (SO (k : Int)))) p3.dst) (p3.args.take kk)) w110 hn1 (by omega) hS6 (hM111.join.own_but 6 0 rfl rfl (by decide)) (hM111.join.own_but 4 0 rfl rfl (by decide)) (hM111.get 0 rfl) (hM111.get 1 rfl) (hM111.far (i := 0) (j := 1) rfl rfl (by decide))) ?_
 rintro _ w123 ⟨ws121, rfl, hS122, hM124x⟩
 have hM124 := hM111.md2 hM124x
 refine zfe <| zrg <| zar ((kk : Int) + 1) <| zpn 1 <| zfe ?_
 have hM125 : Mem ((Res.blk q 3 [.int .i64 c0]).and (Res.blk p 3 [.int .i64 0])).fp w w123 [.row 86 1 A34 ((n + 63) / 64) c35 (u64s ws121), .blk q 3 [(.int .i64 ((cardS n (addL (takeD (intoB (x.insts.drop (j0 + 1)) (endR x (SO (k : Int)))) p3.dst) (p3.args.take (kk + 1))) : Nat) : Int))], .blk p 3 [(.int .i64 (max ((max (mxl (besTo n pn fs SO k)) (mxl (plL n (x.insts.drop (j0 + 1)) (endR x (SO (k : Int))))) : Nat) : Int) ((cardS n (putD (intoB (x.insts.drop (j0 + 1)) (endR x (SO (k : Int)))) p3.dst) : Nat) : Int)))], .blk b1 24 (fV nm wk pa va (some ad18) c fs), .blk b4 50 [(.slice A1 n1 c1), (.slice (some ad33) ((bsOf fs).length) c2)], .blk b7 72 [(.func (.func 36) #[] #[(pT q 0)]), (.func (.func 37) #[] #[(pT q 0)]), (.func (.func 38) #[] #[(pT q 0)]), (.func (.func 39) #[] #[(pT p 0), (pT q 0)])], .blk b19 44 (xV x), .blk b43 83 [(.slice A34 ((n + 63) / 64) c35)], .blk b89 40 (iV p3)] := hM124.cast (by rw [addL_next ha])
 intro aC fr
 exact ⟨p3.args.length - (kk + 1), by omega, kk + 1, ws121, rfl, fr.kp [3, 4, 5, 6, 7, 11, 12, 13, 21, 22, 23, 100, 101, 102], hM125, by omega, by rw [← addL_next ha]; exact hS122⟩
 refine zex 6 <| zbh <| zrg ?_
 have hBj : (addL (takeD (intoB (x.insts.drop (j0 + 1)) (endR x (SO (k : Int)))) p3.dst) (p3.args.take kk)) = (intoB (x.insts.drop j0) (endR x (SO (k : Int)))) := by rw [intoB_drop hp3, insS, show kk = p3.args.length by omega, List.take_length]
 have hPj : max ((max (mxl (besTo n pn fs SO k)) (mxl (plL n (x.insts.drop (j0 + 1)) (endR x (SO (k : Int))))) : Nat) : Int) ((cardS n (putD (intoB (x.insts.drop (j0 + 1)) (endR x (SO (k : Int)))) p3.dst) : Nat) : Int) = ((max (mxl (besTo n pn fs SO k)) (mxl (plL n (x.insts.drop j0) (endR x (SO (k : Int))))) : Nat) : Int) := by rw [plL_drop hp3, mxl_cons, ← cardS]; omega
 refine zpn 1 <| zar ((j0 : Int) - 1) <| zpn 1 <| zfe ?_
 have hM128 : Mem ((Res.blk q 3 [.int .i64 c0]).and (Res.blk p 3 [.int .i64 0])).fp w w110 [.row 86 1 A34 ((n + 63) / 64) c35 (u64s ws6), .blk q 3 [(.int .i64 ((cardS n (intoB (x.insts.drop j0) (endR x (SO (k : Int)))) : Nat) : Int))], .blk p 3 [(.int .i64 ((max (mxl (besTo n pn fs SO k)) (mxl (plL n (x.insts.drop j0) (endR x (SO (k : Int))))) : Nat) : Int))], .blk b1 24 (fV nm wk pa va (some ad18) c fs), .blk b4 50 [(.slice A1 n1 c1), (.slice (some ad33) ((bsOf fs).length) c2)], .blk b7 72 [(.func (.func 36) #[] #[(pT q 0)]), (.func (.func 37) #[] #[(pT q 0)]), (.func (.func 38) #[] #[(pT q 0)]), (.func (.func 39) #[] #[(pT p 0), (pT q 0)])], .blk b19 44 (xV x), .blk b43 83 [(.slice A34 ((n + 63) / 64) c35)], .blk b89 40 (iV p3)] := hM111.cast (by rw [hBj, hPj])
 intro aC fr
 exact ⟨2 * j0, by omega, j0, ((j0 : Int) - 1), ws6, rfl, fr.kp [3, 4, 5, 6, 7, 11, 12, 13, 21, 22, 23], (hM128.tk 8), by omega, by omega, by rw [← hBj]; exact hS6⟩
 revert aC
 refine zsr <| zpn 1 <| zld ⟨b89, 1, none⟩ (.int .i64 p3.dst) (blk_cell (hM101.get 8 rfl) rfl) <| zpn 1 <| zfe <| zcD ((p3.dst : Int) ≥ 0) (fun c131 => ?_) (fun c131 => ?_)
 obtain ⟨dn, hdn⟩ := Int.eq_ofNat_of_zero_le (show 0 ≤ p3.dst by omega)
 refine zrg <| zpn 2 <| zld ⟨b89, 1, none⟩ (.int .i64 (dn : Int)) (by rw [← hdn]; exact blk_cell (hM101.get 8 rfl) rfl) <| zcl (less_c n dn b43 b7 p q A34 c35 wsB (putD (intoB (x.insts.drop (j0 + 1)) (endR x (SO (k : Int)))) p3.dst) w100 hn1 (by omega) hSB (hM101.join.own_but 6 0 rfl rfl (by decide)) (hM101.join.own_but 4 0 rfl rfl (by decide)) (hM101.get 0 rfl) (hM101.get 1 rfl) (hM101.far (i := 0) (j := 1) rfl rfl (by decide))) ?_
 rintro _ w134 ⟨ws132, rfl, hS133, hM135x⟩
 have hM135 := hM101.md2 hM135x
 refine zfe ?_
 have hEq : (remS (putD (intoB (x.insts.drop (j0 + 1)) (endR x (SO (k : Int)))) p3.dst) (dn : Int)) = (takeD (intoB (x.insts.drop (j0 + 1)) (endR x (SO (k : Int)))) p3.dst) := (by rw [← take_put]; unfold takeD; rw [if_pos (show 0 ≤ p3.dst by omega), hdn])
 rw [hEq] at hS133
 have hM136 : Mem ((Res.blk q 3 [.int .i64 c0]).and (Res.blk p 3 [.int .i64 0])).fp w w134 [.row 86 1 A34 ((n + 63) / 64) c35 (u64s ws132), .blk q 3 [(.int .i64 ((cardS n (takeD (intoB (x.insts.drop (j0 + 1)) (endR x (SO (k : Int)))) p3.dst) : Nat) : Int))], .blk p 3 [(.int .i64 (max ((max (mxl (besTo n pn fs SO k)) (mxl (plL n (x.insts.drop (j0 + 1)) (endR x (SO (k : Int))))) : Nat) : Int) ((cardS n (putD (intoB (x.insts.drop (j0 + 1)) (endR x (SO (k : Int)))) p3.dst) : Nat) : Int)))], .blk b1 24 (fV nm wk pa va (some ad18) c fs), .blk b4 50 [(.slice A1 n1 c1), (.slice (some ad33) ((bsOf fs).length) c2)], .blk b7 72 [(.func (.func 36) #[] #[(pT q 0)]), (.func (.func 37) #[] #[(pT q 0)]), (.func (.func 38) #[] #[(pT q 0)]), (.func (.func 39) #[] #[(pT p 0), (pT q 0)])], .blk b19 44 (xV x), .blk b43 83 [(.slice A34 ((n + 63) / 64) c35)], .blk b89 40 (iV p3)] := hM135.cast (by rw [← hEq])
 intro aC fr
 exact ⟨ws132, fr.kp [3, 4, 5, 6, 7, 11, 12, 13, 14, 21, 22, 23], hM136, hS133⟩
 refine zsk ?_
 have hEq : (putD (intoB (x.insts.drop (j0 + 1)) (endR x (SO (k : Int)))) p3.dst) = (takeD (intoB (x.insts.drop (j0 + 1)) (endR x (SO (k : Int)))) p3.dst) := (by rw [← take_put]; unfold takeD; rw [if_neg (show ¬ 0 ≤ p3.dst by omega)])
 rw [hEq] at hSB
 have hM139 : Mem ((Res.blk q 3 [.int .i64 c0]).and (Res.blk p 3 [.int .i64 0])).fp w w100 [.row 86 1 A34 ((n + 63) / 64) c35 (u64s wsB), .blk q 3 [(.int .i64 ((cardS n (takeD (intoB (x.insts.drop (j0 + 1)) (endR x (SO (k : Int)))) p3.dst) : Nat) : Int))], .blk p 3 [(.int .i64 (max ((max (mxl (besTo n pn fs SO k)) (mxl (plL n (x.insts.drop (j0 + 1)) (endR x (SO (k : Int))))) : Nat) : Int) ((cardS n (putD (intoB (x.insts.drop (j0 + 1)) (endR x (SO (k : Int)))) p3.dst) : Nat) : Int)))], .blk b1 24 (fV nm wk pa va (some ad18) c fs), .blk b4 50 [(.slice A1 n1 c1), (.slice (some ad33) ((bsOf fs).length) c2)], .blk b7 72 [(.func (.func 36) #[] #[(pT q 0)]), (.func (.func 37) #[] #[(pT q 0)]), (.func (.func 38) #[] #[(pT q 0)]), (.func (.func 39) #[] #[(pT p 0), (pT q 0)])], .blk b19 44 (xV x), .blk b43 83 [(.slice A34 ((n + 63) / 64) c35)], .blk b89 40 (iV p3)] := hM101.cast (by rw [← hEq])
 intro aC fr
 exact ⟨wsB, fr.kp [3, 4, 5, 6, 7, 11, 12, 13, 14, 21, 22, 23], hM139, hSB⟩
 revert aC
 refine zsr <| zpn 1 <| zld ⟨b89, 1, none⟩ (.int .i64 p3.dst) (blk_cell (hM93.get 8 rfl) rfl) <| zpn 1 <| zfe <| zcD ((p3.dst : Int) ≥ 0) (fun c142 => ?_) (fun c142 => ?_)
 obtain ⟨dn, hdn⟩ := Int.eq_ofNat_of_zero_le (show 0 ≤ p3.dst by omega)
 refine zrg <| zpn 2 <| zld ⟨b89, 1, none⟩ (.int .i64 (dn : Int)) (by rw [← hdn]; exact blk_cell (hM93.get 8 rfl) rfl) <| zkp [(3, (pT b1 0)), (4, (pT b4 0)), (5, (pT b7 0)), (6, (nV k)), (7, (pT b19 0)), (11, (.func (.func 59) #[] #[(pT b43 0), (pT b7 0)])), (12, (.func (.func 61) #[] #[(pT b43 0), (pT b7 0)])), (13, (nV j0)), (14, (pT b89 0)), (21, (.slice (some ad18) ((bsOf fs).length) c)), (22, (.int .i64 (((bsOf fs).length : Nat) : Int))), (23, (nV k)), (85, (.func (.func 59) #[] #[(pT b43 0), (pT b7 0)])), (87, (nV dn))] <| zcl (more_c n dn b43 b7 p q A34 c35 ws2 (intoB (x.insts.drop (j0 + 1)) (endR x (SO (k : Int)))) w92 hn1 (by omega) hS2 (hM93.join.own_but 6 0 rfl rfl (by decide)) (hM93.join.own_but 4 0 rfl rfl (by decide)) (hM93.get 0 rfl) (hM93.get 1 rfl) (hM93.far (i := 0) (j := 1) rfl rfl (by decide))) ?_
 rintro _ w145 ⟨ws143, rfl, hS144, hM146x⟩
 have hM146 := hM93.md2 hM146x
 refine zfe ?_
 have hEq : (addS (intoB (x.insts.drop (j0 + 1)) (endR x (SO (k : Int)))) (dn : Int)) = (putD (intoB (x.insts.drop (j0 + 1)) (endR x (SO (k : Int)))) p3.dst) := (by unfold putD; rw [if_pos (show 0 ≤ p3.dst by omega), hdn])
 rw [hEq] at hS144
 have hM147 : Mem ((Res.blk q 3 [.int .i64 c0]).and (Res.blk p 3 [.int .i64 0])).fp w w145 [.row 86 1 A34 ((n + 63) / 64) c35 (u64s ws143), .blk q 3 [(.int .i64 ((cardS n (putD (intoB (x.insts.drop (j0 + 1)) (endR x (SO (k : Int)))) p3.dst) : Nat) : Int))], .blk p 3 [(.int .i64 ((max (mxl (besTo n pn fs SO k)) (mxl (plL n (x.insts.drop (j0 + 1)) (endR x (SO (k : Int))))) : Nat) : Int))], .blk b1 24 (fV nm wk pa va (some ad18) c fs), .blk b4 50 [(.slice A1 n1 c1), (.slice (some ad33) ((bsOf fs).length) c2)], .blk b7 72 [(.func (.func 36) #[] #[(pT q 0)]), (.func (.func 37) #[] #[(pT q 0)]), (.func (.func 38) #[] #[(pT q 0)]), (.func (.func 39) #[] #[(pT p 0), (pT q 0)])], .blk b19 44 (xV x), .blk b43 83 [(.slice A34 ((n + 63) / 64) c35)], .blk b89 40 (iV p3)] := hM146.cast (by rw [← hEq])
 intro aC fr
 exact ⟨ws143, fr.kp [3, 4, 5, 6, 7, 11, 12, 13, 14, 21, 22, 23], hM147, hS144⟩
 refine zsk ?_
 have hEq : (intoB (x.insts.drop (j0 + 1)) (endR x (SO (k : Int)))) = (putD (intoB (x.insts.drop (j0 + 1)) (endR x (SO (k : Int)))) p3.dst) := (by unfold putD; rw [if_neg (show ¬ 0 ≤ p3.dst by omega)])
 rw [hEq] at hS2
 have hM150 : Mem ((Res.blk q 3 [.int .i64 c0]).and (Res.blk p 3 [.int .i64 0])).fp w w92 [.row 86 1 A34 ((n + 63) / 64) c35 (u64s ws2), .blk q 3 [(.int .i64 ((cardS n (putD (intoB (x.insts.drop (j0 + 1)) (endR x (SO (k : Int)))) p3.dst) : Nat) : Int))], .blk p 3 [(.int .i64 ((max (mxl (besTo n pn fs SO k)) (mxl (plL n (x.insts.drop (j0 + 1)) (endR x (SO (k : Int))))) : Nat) : Int))], .blk b1 24 (fV nm wk pa va (some ad18) c fs), .blk b4 50 [(.slice A1 n1 c1), (.slice (some ad33) ((bsOf fs).length) c2)], .blk b7 72 [(.func (.func 36) #[] #[(pT q 0)]), (.func (.func 37) #[] #[(pT q 0)]), (.func (.func 38) #[] #[(pT q 0)]), (.func (.func 39) #[] #[(pT p 0), (pT q 0)])], .blk b19 44 (xV x), .blk b43 83 [(.slice A34 ((n + 63) / 64) c35)], .blk b89 40 (iV p3)] := hM93.cast (by rw [← hEq])
 intro aC fr
 exact ⟨ws2, fr.kp [3, 4, 5, 6, 7, 11, 12, 13, 14, 21, 22, 23], hM150, hS2⟩
 refine zex 4 <| zbh <| zsq <| zsr ?_
 obtain rfl : j = 0 := by omega
 rw [List.drop_zero] at hS2
 have hM153 : Mem ((Res.blk q 3 [.int .i64 c0]).and (Res.blk p 3 [.int .i64 0])).fp w w78 [.row 86 1 A34 ((n + 63) / 64) c35 (u64s ws2), .blk q 3 [(.int .i64 ((cardS n (intoB x.insts (endR x (SO (k : Int)))) : Nat) : Int))], .blk p 3 [(.int .i64 ((max (mxl (besTo n pn fs SO k)) (mxl (plL n x.insts (endR x (SO (k : Int))))) : Nat) : Int))], .blk b1 24 (fV nm wk pa va (some ad18) c fs), .blk b4 50 [(.slice A1 n1 c1), (.slice (some ad33) ((bsOf fs).length) c2)], .blk b7 72 [(.func (.func 36) #[] #[(pT q 0)]), (.func (.func 37) #[] #[(pT q 0)]), (.func (.func 38) #[] #[(pT q 0)]), (.func (.func 39) #[] #[(pT p 0), (pT q 0)])], .blk b19 44 (xV x), .blk b43 83 [(.slice A34 ((n + 63) / 64) c35)]] := hM79.cast (by rw [List.drop_zero])
 refine zpn 1 <| zld ⟨b19, 0, none⟩ (.slice x.pA x.phis.length x.pc) (blk_cell (hM153.get 6 rfl) rfl) <| zpn 2 <| zfe <| zbk 8 ?_
 intro aC fr
 refine zlp (fun n_ a_ w_ => ∃ (q1 : Nat) (ws7 : List Nat), n_ = x.phis.length - q1 ∧ Fr a_ 137 [(3, (pT b1 0)), (4, (pT b4 0)), (5, (pT b7 0)), (6, (nV k)), (11, (.func (.func 59) #[] #[(pT b43 0), (pT b7 0)])), (21, (.slice (some ad18) ((bsOf fs).length) c)), (22, (.int .i64 (((bsOf fs).length : Nat) : Int))), (23, (nV k)), (111, (.slice x.pA x.phis.length x.pc)), (112, (.int .i64 ((x.phis.length : Nat) : Int))), (113, (nV q1))] ∧ Mem ((Res.blk q 3 [.int .i64 c0]).and (Res.blk p 3 [.int .i64 0])).fp w w_ [.row 86 1 A34 ((n + 63) / 64) c35 (u64s ws7), .blk q 3 [(.int .i64 ((cardS n (phS (x.phis.take q1) (intoB x.insts (endR x (SO (k : Int))))) : Nat) : Int))], .blk p 3 [(.int .i64 ((max (mxl (besTo n pn fs SO k)) (mxl (plL n x.insts (endR x (SO (k : Int))))) : Nat) : Int))], .blk b1 24 (fV nm wk pa va (some ad18) c fs), .blk b4 50 [(.slice A1 n1 c1), (.slice (some ad33) ((bsOf fs).length) c2)], .blk b7 72 [(.func (.func 36) #[] #[(pT q 0)]), (.func (.func 37) #[] #[(pT q 0)]), (.func (.func 38) #[] #[(pT q 0)]), (.func (.func 39) #[] #[(pT p 0), (pT q 0)])], .blk b19 44 (xV x), .blk b43 83 [(.slice A34 ((n + 63) / 64) c35)]] ∧ (q1 ≤ x.phis.length) ∧ (SetW n ws7 (phS (x.phis.take q1) (intoB x.insts (endR x (SO (k : Int))))))) (n := _) ⟨0, ws2, rfl, fr.kp [3, 4, 5, 6, 11, 21, 22, 23, 111, 112, 113], (hM153.cast (by rw [List.take_zero, phS, List.foldl_nil])), by omega, by rw [List.take_zero, phS, List.foldl_nil]; exact hS2⟩ ?_
 clear fr aC hM153; rintro n aC w156 ⟨q1, ws7, rfl, fr, hM157, hq1, hS7⟩
 revert aC
 refine zsp <| zsq <| zcD (((q1 : Int) : Int) < ((x.phis.length : Nat) : Int)) (fun c160 => ?_) (fun c160 => ?_)
 refine zsk <| zsq <| zbk 9 <| zsr ?_
 obtain ⟨p2, hph⟩ := get_of (l := x.phis) (i := q1) (by omega)
 obtain ⟨hd0, hd1⟩ := hv.phis p2 (List.mem_of_getElem? hph)
 obtain ⟨dn, hdn⟩ := Int.eq_ofNat_of_zero_le hd0
 obtain ⟨ad161, had162⟩ := rds_some (hM157.ro (hA.phis hx)) (cs := p2.cells) (i := q1) (by simp [hph])
 intro aC fr
 refine From_ixA (some 115) x.pA ad161 x.phis.length 2 (q1 : Int) fr (by kernel_rfl) had162 (by omega) (by omega) ?_
 intro aC fr
 revert aC
 refine zls ((ad161 : Addr).add (((q1 : Int)).toNat * 2)) (pV p2) (phi_get (hM157.ro (hA.phis hx)) had162 hph) <| zal hM157 65 [(.int .i64 0), (.slice none 0 0)] fun b167 w168 hb167 hM169 => ?_
 replace hM169 := hM169.nf
 refine zss hM169 8 (pV p2) rfl fun w170 hM171 => ?_
 replace hM171 := hM171.nf
 refine zfe <| zrg <| zpn 2 <| zld ⟨b167, 0, none⟩ (.int .i64 (dn : Int)) (by rw [← hdn]; exact blk_cell (hM171.get 8 rfl) rfl) <| zcl (more_c n dn b43 b7 p q A34 c35 ws7 (phS (x.phis.take q1) (intoB x.insts (endR x (SO (k : Int))))) w170 hn1 (by omega) hS7 (hM171.join.own_but 6 0 rfl rfl (by decide)) (hM171.join.own_but 4 0 rfl rfl (by decide)) (hM171.get 0 rfl) (hM171.get 1 rfl) (hM171.far (i := 0) (j := 1) rfl rfl (by decide))) ?_
 rintro _ w174 ⟨ws172, rfl, hS173, hM175x⟩
 have hM175 := hM171.md2 hM175x
 refine zfe <| zrg <| zar ((q1 : Int) + 1) <| zpn 1 <| zfe ?_
 have hM176 : Mem ((Res.blk q 3 [.int .i64 c0]).and (Res.blk p 3 [.int .i64 0])).fp w w174 [.row 86 1 A34 ((n + 63) / 64) c35 (u64s ws172), .blk q 3 [(.int .i64 ((cardS n (phS (x.phis.take (q1 + 1)) (intoB x.insts (endR x (SO (k : Int))))) : Nat) : Int))], .blk p 3 [(.int .i64 ((max (mxl (besTo n pn fs SO k)) (mxl (plL n x.insts (endR x (SO (k : Int))))) : Nat) : Int))], .blk b1 24 (fV nm wk pa va (some ad18) c fs), .blk b4 50 [(.slice A1 n1 c1), (.slice (some ad33) ((bsOf fs).length) c2)], .blk b7 72 [(.func (.func 36) #[] #[(pT q 0)]), (.func (.func 37) #[] #[(pT q 0)]), (.func (.func 38) #[] #[(pT q 0)]), (.func (.func 39) #[] #[(pT p 0), (pT q 0)])], .blk b19 44 (xV x), .blk b43 83 [(.slice A34 ((n + 63) / 64) c35)], .blk b167 65 (pV p2)] := hM175.cast (by rw [phS_next hph, hdn])
 intro aC fr
 exact ⟨x.phis.length - (q1 + 1), by omega, q1 + 1, ws172, rfl, fr.kp [3, 4, 5, 6, 11, 21, 22, 23, 111, 112, 113], (hM176.tk 8), by omega, by rw [phS_next hph, hdn]; exact hS173⟩
 refine zex 8 <| zbh <| zsq ?_
 intro aC fr
 refine W_cut (fun a_ w_ => ∃ (wsD : List Nat), Fr a_ 137 [(3, (pT b1 0)), (4, (pT b4 0)), (5, (pT b7 0)), (21, (.slice (some ad18) ((bsOf fs).length) c)), (22, (.int .i64 (((bsOf fs).length : Nat) : Int))), (23, (nV k))] ∧ Mem ((Res.blk q 3 [.int .i64 c0]).and (Res.blk p 3 [.int .i64 0])).fp w w_ [.row 86 1 A34 ((n + 63) / 64) c35 (u64s wsD), .blk q 3 [(.int .i64 ((cardS n (firstS pn k x (SO (k : Int))) : Nat) : Int))], .blk p 3 [(.int .i64 ((max (mxl (besTo n pn fs SO k)) (mxl (plL n x.insts (endR x (SO (k : Int))))) : Nat) : Int))], .blk b1 24 (fV nm wk pa va (some ad18) c fs), .blk b4 50 [(.slice A1 n1 c1), (.slice (some ad33) ((bsOf fs).length) c2)], .blk b7 72 [(.func (.func 36) #[] #[(pT q 0)]), (.func (.func 37) #[] #[(pT q 0)]), (.func (.func 38) #[] #[(pT q 0)]), (.func (.func 39) #[] #[(pT p 0), (pT q 0)])], .blk b19 44 (xV x), .blk b43 83 [(.slice A34 ((n + 63) / 64) c35)]] ∧ (SetW n wsD (firstS pn k x (SO (k : Int))))) ?_ ?_
 clear fr aC hM157; rintro aC w181 ⟨wsD, fr, hM182, hSD⟩
 revert aC
 refine zrg <| zpn 1 <| zld ⟨b7, 3, none⟩ (.func (.func 39) #[] #[(pT p 0), (pT q 0)]) (blk_cell (hM182.get 5 rfl) rfl) <| zcl (mplace_c p q ((max (mxl (besTo n pn fs SO k)) (mxl (plL n x.insts (endR x (SO (k : Int))))) : Nat) : Int) ((cardS n (firstS pn k x (SO (k : Int))) : Nat) : Int) w181 (hM182.get 2 rfl) (hM182.own_but 1 2 rfl rfl (by decide))) ?_
 rintro _ w185 ⟨rfl, hM186x⟩
 have hM186 := hM182.md 2 rfl hM186x
 refine zfe <| zrg <| zar ((k : Int) + 1) <| zpn 1 <| zfe ?_
 have hM187 := hM186.od [5, 5, 5, 5, 5] 5
 have hM188 : Mem ((Res.blk q 3 [.int .i64 c0]).and (Res.blk p 3 [.int .i64 0])).fp w w185 [.blk q 3 [(.int .i64 ((cardS n (firstS pn k x (SO (k : Int))) : Nat) : Int))], .blk p 3 [(.int .i64 ((mxl (besTo n pn fs SO (k + 1)) : Nat) : Int))], .blk b1 24 (fV nm wk pa va (some ad18) c fs), .blk b4 50 [(.slice A1 n1 c1), (.slice (some ad33) ((bsOf fs).length) c2)], .blk b7 72 [(.func (.func 36) #[] #[(pT q 0)]), (.func (.func 37) #[] #[(pT q 0)]), (.func (.func 38) #[] #[(pT q 0)]), (.func (.func 39) #[] #[(pT p 0), (pT q 0)])]] := hM187.cast (by rw [show max ((max (mxl (besTo n pn fs SO k)) (mxl (plL n x.insts (endR x (SO (k : Int))))) : Nat) : Int) ((cardS n (firstS pn k x (SO (k : Int))) : Nat) : Int) = ((mxl (besTo n pn fs SO (k + 1)) : Nat) : Int) by rw [besTo_next hx, mxl_append, blkC, mxl_cons, ← cardS]; omega])
 intro aC fr
 exact ⟨fs.length - (k + 1), by omega, k + 1, ((cardS n (firstS pn k x (SO (k : Int))) : Nat) : Int), rfl, fr.kp [3, 4, 5, 21, 22, 23], hM188, by omega⟩
 revert aC
 refine zsr ?_
 rw [show q1 = x.phis.length by omega, List.take_length] at hS7
 have hM191 : Mem ((Res.blk q 3 [.int .i64 c0]).and (Res.blk p 3 [.int .i64 0])).fp w w156 [.row 86 1 A34 ((n + 63) / 64) c35 (u64s ws7), .blk q 3 [(.int .i64 ((cardS n (phS x.phis (intoB x.insts (endR x (SO (k : Int))))) : Nat) : Int))], .blk p 3 [(.int .i64 ((max (mxl (besTo n pn fs SO k)) (mxl (plL n x.insts (endR x (SO (k : Int))))) : Nat) : Int))], .blk b1 24 (fV nm wk pa va (some ad18) c fs), .blk b4 50 [(.slice A1 n1 c1), (.slice (some ad33) ((bsOf fs).length) c2)], .blk b7 72 [(.func (.func 36) #[] #[(pT q 0)]), (.func (.func 37) #[] #[(pT q 0)]), (.func (.func 38) #[] #[(pT q 0)]), (.func (.func 39) #[] #[(pT p 0), (pT q 0)])], .blk b19 44 (xV x), .blk b43 83 [(.slice A34 ((n + 63) / 64) c35)]] := hM157.cast (by rw [show q1 = x.phis.length by omega, List.take_length])
 refine zpn 2 <| zfe <| zcP (((k : Int) : Int) == 0) (((k : Int) : Int) = 0) (by simp only [beq_iff_eq]) (fun c192 => ?_) (fun c192 => ?_)
 have hk0 : k = 0 := by omega
 refine zsr <| zpn 1 <| zld ⟨b1, 2, none⟩ (.int .i64 pa) (blk_cell (hM191.get 3 rfl) rfl) <| zpn 1 <| zfe <| zbk 10 ?_
 intro aC fr
 refine zlp (fun n_ a_ w_ => ∃ (u : Nat) (ws8 : List Nat), n_ = pn - u ∧ Fr a_ 137 [(3, (pT b1 0)), (4, (pT b4 0)), (5, (pT b7 0)), (11, (.func (.func 59) #[] #[(pT b43 0), (pT b7 0)])), (21, (.slice (some ad18) ((bsOf fs).length) c)), (22, (.int .i64 (((bsOf fs).length : Nat) : Int))), (23, (nV k)), (125, (.int .i64 pa)), (126, (nV u))] ∧ Mem ((Res.blk q 3 [.int .i64 c0]).and (Res.blk p 3 [.int .i64 0])).fp w w_ [.row 86 1 A34 ((n + 63) / 64) c35 (u64s ws8), .blk q 3 [(.int .i64 ((cardS n (loS u (phS x.phis (intoB x.insts (endR x (SO (k : Int)))))) : Nat) : Int))], .blk p 3 [(.int .i64 ((max (mxl (besTo n pn fs SO k)) (mxl (plL n x.insts (endR x (SO (k : Int))))) : Nat) : Int))], .blk b1 24 (fV nm wk pa va (some ad18) c fs), .blk b4 50 [(.slice A1 n1 c1), (.slice (some ad33) ((bsOf fs).length) c2)], .blk b7 72 [(.func (.func 36) #[] #[(pT q 0)]), (.func (.func 37) #[] #[(pT q 0)]), (.func (.func 38) #[] #[(pT q 0)]), (.func (.func 39) #[] #[(pT p 0), (pT q 0)])], .blk b19 44 (xV x), .blk b43 83 [(.slice A34 ((n + 63) / 64) c35)]] ∧ (u ≤ pn) ∧ (SetW n ws8 (loS u (phS x.phis (intoB x.insts (endR x (SO (k : Int)))))))) (n := _) ⟨0, ws7, rfl, fr.kp [3, 4, 5, 11, 21, 22, 23, 125, 126], (hM191.cast (by rw [loS_zero])), by omega, by rw [loS_zero]; exact hS7⟩ ?_
 clear fr aC hM191; rintro n aC w195 ⟨u, ws8, rfl, fr, hM196, hu, hS8⟩
 revert aC
 refine zsp <| zsq <| zcD (((u : Int) : Int) < pa) (fun c199 => ?_) (fun c199 => ?_)
 refine zsk <| zsq <| zbk 11 <| zsp <| zrg <| zpn 2 <| zcl (more_c n u b43 b7 p q A34 c35 ws8 (loS u (phS x.phis (intoB x.insts (endR x (SO (k : Int)))))) w195 hn1 (by omega) hS8 (hM196.join.own_but 6 0 rfl rfl (by decide)) (hM196.join.own_but 4 0 rfl rfl (by decide)) (hM196.get 0 rfl) (hM196.get 1 rfl) (hM196.far (i := 0) (j := 1) rfl rfl (by decide))) ?_
 rintro _ w202 ⟨ws200, rfl, hS201, hM203x⟩
 have hM203 := hM196.md2 hM203x
 refine zfe <| zrg <| zar ((u : Int) + 1) <| zpn 1 <| zfe ?_
 have hM204 : Mem ((Res.blk q 3 [.int .i64 c0]).and (Res.blk p 3 [.int .i64 0])).fp w w202 [.row 86 1 A34 ((n + 63) / 64) c35 (u64s ws200), .blk q 3 [(.int .i64 ((cardS n (loS (u + 1) (phS x.phis (intoB x.insts (endR x (SO (k : Int)))))) : Nat) : Int))], .blk p 3 [(.int .i64 ((max (mxl (besTo n pn fs SO k)) (mxl (plL n x.insts (endR x (SO (k : Int))))) : Nat) : Int))], .blk b1 24 (fV nm wk pa va (some ad18) c fs), .blk b4 50 [(.slice A1 n1 c1), (.slice (some ad33) ((bsOf fs).length) c2)], .blk b7 72 [(.func (.func 36) #[] #[(pT q 0)]), (.func (.func 37) #[] #[(pT q 0)]), (.func (.func 38) #[] #[(pT q 0)]), (.func (.func 39) #[] #[(pT p 0), (pT q 0)])], .blk b19 44 (xV x), .blk b43 83 [(.slice A34 ((n + 63) / 64) c35)]] := hM203.cast (by rw [loS_next])
 intro aC fr
 exact ⟨pn - (u + 1), by omega, u + 1, ws200, rfl, fr.kp [3, 4, 5, 11, 21, 22, 23, 125, 126], hM204, by omega, by rw [loS_next]; exact hS201⟩
 refine zex 10 <| zbh ?_
 have hEq : (loS u (phS x.phis (intoB x.insts (endR x (SO (k : Int)))))) = (firstS pn k x (SO (k : Int))) := (by unfold firstS; rw [if_pos hk0, show u = pn by omega])
 rw [hEq] at hS8
 have hM207 : Mem ((Res.blk q 3 [.int .i64 c0]).and (Res.blk p 3 [.int .i64 0])).fp w w195 [.row 86 1 A34 ((n + 63) / 64) c35 (u64s ws8), .blk q 3 [(.int .i64 ((cardS n (firstS pn k x (SO (k : Int))) : Nat) : Int))], .blk p 3 [(.int .i64 ((max (mxl (besTo n pn fs SO k)) (mxl (plL n x.insts (endR x (SO (k : Int))))) : Nat) : Int))], .blk b1 24 (fV nm wk pa va (some ad18) c fs), .blk b4 50 [(.slice A1 n1 c1), (.slice (some ad33) ((bsOf fs).length) c2)], .blk b7 72 [(.func (.func 36) #[] #[(pT q 0)]), (.func (.func 37) #[] #[(pT q 0)]), (.func (.func 38) #[] #[(pT q 0)]), (.func (.func 39) #[] #[(pT p 0), (pT q 0)])], .blk b19 44 (xV x), .blk b43 83 [(.slice A34 ((n + 63) / 64) c35)]] := hM196.cast (by rw [← hEq])
 intro aC fr
 exact ⟨ws8, fr.kp [3, 4, 5, 21, 22, 23], hM207, hS8⟩
 have hk0 : ¬ k = 0 := by omega
 refine zsk ?_
 have hEq : (phS x.phis (intoB x.insts (endR x (SO (k : Int))))) = (firstS pn k x (SO (k : Int))) := (by unfold firstS; rw [if_neg hk0])
 rw [hEq] at hS7
 have hM210 : Mem ((Res.blk q 3 [.int .i64 c0]).and (Res.blk p 3 [.int .i64 0])).fp w w156 [.row 86 1 A34 ((n + 63) / 64) c35 (u64s ws7), .blk q 3 [(.int .i64 ((cardS n (firstS pn k x (SO (k : Int))) : Nat) : Int))], .blk p 3 [(.int .i64 ((max (mxl (besTo n pn fs SO k)) (mxl (plL n x.insts (endR x (SO (k : Int))))) : Nat) : Int))], .blk b1 24 (fV nm wk pa va (some ad18) c fs), .blk b4 50 [(.slice A1 n1 c1), (.slice (some ad33) ((bsOf fs).length) c2)], .blk b7 72 [(.func (.func 36) #[] #[(pT q 0)]), (.func (.func 37) #[] #[(pT q 0)]), (.func (.func 38) #[] #[(pT q 0)]), (.func (.func 39) #[] #[(pT p 0), (pT q 0)])], .blk b19 44 (xV x), .blk b43 83 [(.slice A34 ((n + 63) / 64) c35)]] := hM191.cast (by rw [← hEq])
 intro aC fr
 exact ⟨ws7, fr.kp [3, 4, 5, 21, 22, 23], hM210, hS7⟩
 revert aC
 refine zsr <| zpn 1 <| zld ⟨b19, 2, none⟩ (.int .i64 x.e) (blk_cell (hM69.get 6 rfl) rfl) <| zpn 2 ?_
 obtain ⟨B213, hB213⟩ : ∃ B : Bool, B = ((x.e : Int) == 1) := ⟨_, rfl⟩
 refine zkp [(3, (pT b1 0)), (4, (pT b4 0)), (5, (pT b7 0)), (6, (nV k)), (7, (pT b19 0)), (11, (.func (.func 59) #[] #[(pT b43 0), (pT b7 0)])), (12, (.func (.func 61) #[] #[(pT b43 0), (pT b7 0)])), (21, (.slice (some ad18) ((bsOf fs).length) c)), (22, (.int .i64 (((bsOf fs).length : Nat) : Int))), (23, (nV k)), (55, (.bool ((x.e : Int) == 1)))] ?_
 rw [← hB213]
 have iB213 : B213 = true ↔ ((x.e : Int) = 1) := by rw [hB213]; simp only [beq_iff_eq]
 clear hB213
 intro aC fr
 refine zpk 1 5 [56] fr (news := [(56, (cond (!B213) (pT b19 2) undef))]) (by cases B213 <;> kernel_rfl) ?_
 intro aC fr
 refine From_either (B := (!B213)) (d := (some 57)) (.int .i64 x.e) fr (by cases B213 <;> kernel_rfl) (fun hB hh => ?_) ?_
 cases B213 <;> first | (exact absurd hB (by decide)) | skip
 have c213 : ¬ ((x.e : Int) = 1) := (fun h => Bool.noConfusion (iB213.2 h) : ¬ ((x.e : Int) = 1))
 exact From_ld (some 57) ⟨b19, 2, none⟩ fr (by kernel_rfl) (.int .i64 x.e) (blk_cell (hM69.get 6 rfl) rfl) hh
 intro aC fr
 refine zpk 2 8 [59] fr (news := [(59, (cond (!B213) (.bool ((x.e : Int) == 2)) undef))]) (by cases B213 <;> kernel_rfl) ?_
 intro aC fr
 obtain ⟨B222, hB222⟩ : ∃ B : Bool, B = ((x.e : Int) == 2) := ⟨_, rfl⟩
 revert aC
 refine zkp [(3, (pT b1 0)), (4, (pT b4 0)), (5, (pT b7 0)), (6, (nV k)), (7, (pT b19 0)), (11, (.func (.func 59) #[] #[(pT b43 0), (pT b7 0)])), (12, (.func (.func 61) #[] #[(pT b43 0), (pT b7 0)])), (21, (.slice (some ad18) ((bsOf fs).length) c)), (22, (.int .i64 (((bsOf fs).length : Nat) : Int))), (23, (nV k)), (55, (.bool B213)), (59, (cond (!B213) (.bool ((x.e : Int) == 2)) undef))] ?_
 rw [← hB222]
 have iB222 : B222 = true ↔ ((x.e : Int) = 2) := by rw [hB222]; simp only [beq_iff_eq]
 clear hB222
 intro aC fr
 refine zpk 1 9 [60] fr (news := [(60, (cond (!B213 && B222) (pT b19 3) undef))]) (by cases B213 <;> cases B222 <;> kernel_rfl) ?_
 intro aC fr
 refine From_either (B := (!B213 && B222)) (d := (some 61)) (.int .i64 x.v) fr (by cases B213 <;> cases B222 <;> kernel_rfl) (fun hB hh => ?_) ?_
 cases B213 <;> cases B222 <;> first | (exact absurd hB (by decide)) | skip
 have c213 : ¬ ((x.e : Int) = 1) := (fun h => Bool.noConfusion (iB213.2 h) : ¬ ((x.e : Int) = 1))
 have c222 : ((x.e : Int) = 2) := iB222.1 rfl
 exact From_ld (some 61) ⟨b19, 3, none⟩ fr (by kernel_rfl) (.int .i64 x.v) (blk_cell (hM69.get 6 rfl) rfl) hh
 intro aC fr
 refine zpk 3 13 [64] fr (news := [(64, (.bool (B213 || (B222 && decide ((x.v : Int) ≥ 0)))))]) (by cases B213 <;> cases B222 <;> kernel_rfl) ?_
 intro aC fr
 revert aC
 refine zfe <| zcP (B213 || (B222 && decide ((x.v : Int) ≥ 0))) (((x.e : Int) = 1) ∨ (((x.e : Int) = 2) ∧ ((x.v : Int) ≥ 0))) (by simp only [Bool.or_eq_true, Bool.and_eq_true, decide_eq_true_eq, iB213, iB222]) (fun c231 => ?_) (fun c231 => ?_)
 have hfin : finS x := by unfold finS; omega
 obtain ⟨vn, hvn⟩ := Int.eq_ofNat_of_zero_le (hv.fin hfin).1
 have hvl := (hv.fin hfin).2
 refine zrg <| zpn 2 <| zld ⟨b19, 3, none⟩ (.int .i64 (vn : Int)) (by rw [← hvn]; exact blk_cell (hM69.get 6 rfl) rfl) <| zcl (more_c n vn b43 b7 p q A34 c35 wsk (SO (k : Int)) w55 hn1 (by omega) hSk (hM69.join.own_but 6 0 rfl rfl (by decide)) (hM69.join.own_but 4 0 rfl rfl (by decide)) (hM69.get 0 rfl) (hM69.get 1 rfl) (hM69.far (i := 0) (j := 1) rfl rfl (by decide))) ?_
 rintro _ w234 ⟨ws232, rfl, hS233, hM235x⟩
 have hM235 := hM69.md2 hM235x
 refine zfe ?_
 have hEq : (addS (SO (k : Int)) (vn : Int)) = (endR x (SO (k : Int))) := (by rw [← hvn]; exact endR_yes hfin (SO (k : Int)))
 rw [hEq] at hS233
 have hM236 : Mem ((Res.blk q 3 [.int .i64 c0]).and (Res.blk p 3 [.int .i64 0])).fp w w234 [.row 86 1 A34 ((n + 63) / 64) c35 (u64s ws232), .blk q 3 [(.int .i64 ((cardS n (endR x (SO (k : Int))) : Nat) : Int))], .blk p 3 [(.int .i64 ((mxl (besTo n pn fs SO k) : Nat) : Int))], .blk b1 24 (fV nm wk pa va (some ad18) c fs), .blk b4 50 [(.slice A1 n1 c1), (.slice (some ad33) ((bsOf fs).length) c2)], .blk b7 72 [(.func (.func 36) #[] #[(pT q 0)]), (.func (.func 37) #[] #[(pT q 0)]), (.func (.func 38) #[] #[(pT q 0)]), (.func (.func 39) #[] #[(pT p 0), (pT q 0)])], .blk b19 44 (xV x), .blk b43 83 [(.slice A34 ((n + 63) / 64) c35)]] := hM235.cast (by rw [← hEq])
 intro aC fr
 exact ⟨ws232, fr.kp [3, 4, 5, 6, 7, 11, 12, 21, 22, 23], hM236, hS233⟩
 have hfin : ¬ finS x := by unfold finS; omega
 refine zsk ?_
 have hEq : (SO (k : Int)) = (endR x (SO (k : Int))) := endR_no hfin (SO (k : Int))
 rw [hEq] at hSk
 have hM239 : Mem ((Res.blk q 3 [.int .i64 c0]).and (Res.blk p 3 [.int .i64 0])).fp w w55 [.row 86 1 A34 ((n + 63) / 64) c35 (u64s wsk), .blk q 3 [(.int .i64 ((cardS n (endR x (SO (k : Int))) : Nat) : Int))], .blk p 3 [(.int .i64 ((mxl (besTo n pn fs SO k) : Nat) : Int))], .blk b1 24 (fV nm wk pa va (some ad18) c fs), .blk b4 50 [(.slice A1 n1 c1), (.slice (some ad33) ((bsOf fs).length) c2)], .blk b7 72 [(.func (.func 36) #[] #[(pT q 0)]), (.func (.func 37) #[] #[(pT q 0)]), (.func (.func 38) #[] #[(pT q 0)]), (.func (.func 39) #[] #[(pT p 0), (pT q 0)])], .blk b19 44 (xV x), .blk b43 83 [(.slice A34 ((n + 63) / 64) c35)]] := hM69.cast (by rw [← hEq])
 intro aC fr
 exact ⟨wsk, fr.kp [3, 4, 5, 6, 7, 11, 12, 21, 22, 23], hM239, hSk⟩
 refine zex 0 <| zbh <| zo0 ?_
 have hM242 := hM14.od [1, 1] 2
 exact ⟨cK, rfl, hM242.cast (by rw [show k = fs.length by omega])⟩
end Go.Proofs.YtlfbloadopeamaaDoor
namespace Go.Proofs.YtlfbloadopeamaaDoor
open Go.Mor
set_option maxRecDepth 10000 in
theorem most_c (nm : ByteArray) (wk : Bool) (pa va : Int) (A : Option Addr) (c : Nat) (fs : List FBlk) (w : World) (hN : fs.length ≤ 1000) (hok : FOk fs) (hA : RO noS w (.fn A fs)) (hT : RO noS w (.rd (sM 0) tabL)) :
    Calls Tryd.prog 15 #[(fA nm wk pa va A c fs)] w (Ret fun v w' => v = .int .i64 ((mostN nm pa va fs : Nat) : Int) ∧ Mem noS w w' []) := by
 have hbl := bsOf_len fs
 have hm : (bsOf fs).length ≤ 1000000 := by omega
 have hB := hA.bs
 refine zen 18 [(fA nm wk pa va A c fs)] Tryd.func15 ?_
 have hM := Mem.init w
 refine zsr <| zbx hM 24 (fA nm wk pa va A c fs) (fV nm wk pa va A c fs) fun b1 w2 hb1 hM3 => ?_
 replace hM3 := hM3.nf
 clear hM
 refine zpn 1 <| zfe <| zsq <| zsr <| zls ⟨b1, 0, none⟩ (fV nm wk pa va A c fs) (blk_cells (hM3.get 0 rfl)) <| zcl (valid_c nm wk pa va A c fs w2 hN hok (hA.at_ hM3)) ?_
 rintro _ w4 ⟨rfl, hM5x⟩
 have hM5 := hM3.cl hM5x
 refine zpn 1 <| zfe <| zcP ((validN nm pa va fs : Int) != 0) ((validN nm pa va fs : Int) ≠ 0) (by simp only [bne_iff_ne]) (fun c6 => ?_) (fun c6 => ?_)
 refine zsp <| zre <| zo1 (.int .i64 0) ?_
 have hv0 : validN nm pa va fs ≠ 0 := by omega
 have hM7 := hM5.od [] 0
 exact ⟨by unfold mostN; rw [if_neg hv0]; rfl, hM7⟩
 refine zsk <| zsr ?_
 have hv0 : validN nm pa va fs = 0 := by omega
 obtain ⟨hgood, hvl, _⟩ := valid_good hv0
 have hpar := hgood.par
 obtain ⟨n, hva⟩ := Int.eq_ofNat_of_zero_le (show 0 ≤ va by omega)
 obtain ⟨pn, hpn⟩ := Int.eq_ofNat_of_zero_le hpar.1
 have hn2 : n ≤ 20000 := by omega
 have hvr := good_vr hgood hva
 refine zal hM5 3 [(.int .i64 0)] fun b8 w9 hb8 hM10 => ?_
 replace hM10 := hM10.nf
 refine zal hM10 3 [(.int .i64 0)] fun b11 w12 hb11 hM13 => ?_
 replace hM13 := hM13.nf
 refine zsb hM13 1 0 (.int .i64 0) rfl fun w14 hM15 => ?_
 replace hM15 := hM15.nf
 refine zsb hM15 2 0 (.int .i64 0) rfl fun w16 hM17 => ?_
 replace hM17 := hM17.nf
 refine zfe <| zsq ?_
 have hM18 := hM17.od [0, 2, 2] 3
 refine zkp [(1, (pT b1 0)), (3, (pT b8 0)), (4, (pT b11 0))] ?_
 intro aC fr
 refine zdj (N := 18) (env0 := [(1, (pT b1 0)), (3, (pT b8 0)), (4, (pT b11 0))]) (specAt [.det (fA nm wk pa va A c fs), .det (fA nm wk pa va A c fs), Spec.free, .det (.func (.func 36) #[] #[(pT b8 0)]), .det (.func (.func 37) #[] #[(pT b8 0)]), .det (.func (.func 38) #[] #[(pT b8 0)]), .det (.func (.func 39) #[] #[(pT b11 0), (pT b8 0)]), .det (.agg #[(.func (.func 36) #[] #[(pT b8 0)]), (.func (.func 37) #[] #[(pT b8 0)]), (.func (.func 38) #[] #[(pT b8 0)]), (.func (.func 39) #[] #[(pT b11 0), (pT b8 0)])]), Spec.free]) (fun ls vs w_ => match ls 8 with | true => (∃ (A19 : Option Addr) (c20 : Nat) (A21 : Option Addr) (c22 : Nat) (rI23 : List RowV) (rO24 : List RowV) (SI : Int → Int → Bool) (SO : Int → Int → Bool) (cc25 : Int), vs 2 = (.agg #[(.slice A19 ((bsOf fs).length) c20), (.slice A21 ((bsOf fs).length) c22)]) ∧ vs 8 = (.tuple #[]) ∧ (SetsR n fs.length rI23 SI) ∧ (SetsR n fs.length rO24 SO) ∧ (LiveS n fs SI SO) ∧ Mem noS w w_ [.blk b8 3 [(.int .i64 cc25)], .blk b11 3 [(.int .i64 ((mxl (besTo n pn fs SO fs.length) : Nat) : Int))], .blk b1 24 (fV nm wk pa va A c fs), .fam 86 rI23, .row 83 1 A19 ((bsOf fs).length) c20 (slv rI23), .fam 86 rO24, .row 83 1 A21 ((bsOf fs).length) c22 (slv rO24)]) | false => (match ls 2 with | true => (∃ (A19 : Option Addr) (c20 : Nat) (A21 : Option Addr) (c22 : Nat) (rI23 : List RowV) (rO24 : List RowV) (SI : Int → Int → Bool) (SO : Int → Int → Bool), vs 2 = (.agg #[(.slice A19 ((bsOf fs).length) c20), (.slice A21 ((bsOf fs).length) c22)]) ∧ (SetsR n fs.length rI23 SI) ∧ (SetsR n fs.length rO24 SO) ∧ (LiveS n fs SI SO) ∧ Mem noS w w_ [.blk b8 3 [(.int .i64 0)], .blk b11 3 [(.int .i64 0)], .blk b1 24 (fV nm wk pa va A c fs), .fam 86 rI23, .row 83 1 A19 ((bsOf fs).length) c20 (slv rI23), .fam 86 rO24, .row 83 1 A21 ((bsOf fs).length) c22 (slv rO24)]) | false => (Mem noS w w_ [.blk b8 3 [(.int .i64 0)], .blk b11 3 [(.int .i64 0)], .blk b1 24 (fV nm wk pa va A c fs)]))) fr (plain_ok (.det (.det (.free (.det (.det (.det (.det (.det (.free .nil)))))))))) (hM18.then_ (Mem.drew _)) (la (la (la (la (la (la (la (la (la lz ?_) ?_) ?_) (dPJ fun _ _ _ _ h => h)) (dPJ fun _ _ _ _ h => h)) (dPJ fun _ _ _ _ h => h)) (dPJ fun _ _ _ _ h => h)) (dPJ fun _ _ _ _ h => h)) ?_) ?_
 intro aa_ w_ ls vs rest_ hJ hi_ hc_ hp hF
 refine ⟨true, opok_guard (g0 := none) (by kernel_rfl) (by kernel_rfl), fun _ => ?_, fun h => Bool.noConfusion h⟩
 replace hF : Fr aa_ 18 [(1, (pT b1 0))] := hF.kp [1]
 have f8 : ls 8 = false := notyet hc_ hi_ (n := 9) (by kernel_rfl)
 have hM_ := hJ
 simp only [f8] at hM_
 cases fu : ls 2
 simp only [fu] at hM_
 refine From_loadS (by kernel_rfl : coreAt _ 0 = some (some 8, (.load 24 (.tmp 1)), 24, none)) hF (by kernel_rfl) (by kernel_rfl) (k' := 1) rfl (ad := ⟨b1, 0, none⟩) (vs := (fV nm wk pa va A c fs)) (by kernel_rfl) (by kernel_rfl) (blk_cells (hM_.get 2 rfl)) ?_
 intro a2 ea _
 refine From_end (by kernel_rfl) ?_; exact op_doneJ (d := some 8) (by kernel_rfl) ea rfl hJ
 simp only [fu] at hM_
 obtain ⟨_, _, _, _, _, _, _, _, _, _, _, _, hM_⟩ := hM_
 refine From_loadS (by kernel_rfl : coreAt _ 0 = some (some 8, (.load 24 (.tmp 1)), 24, none)) hF (by kernel_rfl) (by kernel_rfl) (k' := 1) rfl (ad := ⟨b1, 0, none⟩) (vs := (fV nm wk pa va A c fs)) (by kernel_rfl) (by kernel_rfl) (blk_cells (hM_.get 2 rfl)) ?_
 intro a2 ea _
 refine From_end (by kernel_rfl) ?_; exact op_doneJ (d := some 8) (by kernel_rfl) ea rfl hJ
 intro aa_ w_ ls vs rest_ hJ hi_ hc_ hp hF
 refine ⟨true, opok_guard (g0 := none) (by kernel_rfl) (by kernel_rfl), fun _ => ?_, fun h => Bool.noConfusion h⟩
 replace hF : Fr aa_ 18 [(1, (pT b1 0))] := hF.kp [1]
 have f2 : ls 2 = false := notyet hc_ hi_ (n := 9) (by kernel_rfl)
 have f8 : ls 8 = false := notyet hc_ hi_ (n := 9) (by kernel_rfl)
 have hM_ := hJ
 simp only [f2, f8] at hM_
 refine From_loadS (by kernel_rfl : coreAt _ 0 = some (some 9, (.load 24 (.tmp 1)), 24, none)) hF (by kernel_rfl) (by kernel_rfl) (k' := 1) rfl (ad := ⟨b1, 0, none⟩) (vs := (fV nm wk pa va A c fs)) (by kernel_rfl) (by kernel_rfl) (blk_cells (hM_.get 2 rfl)) ?_
 intro a2 ea _
 refine From_end (by kernel_rfl) ?_; exact op_doneJ (d := some 9) (by kernel_rfl) ea rfl hJ
 intro aa_ w_ ls vs rest_ hJ hi_ hc_ hp hF
 refine ⟨true, opok_guard (g0 := none) (by kernel_rfl) (by kernel_rfl), fun _ => ?_, fun h => Bool.noConfusion h⟩
 replace hF : Fr aa_ 18 [(9, (fA nm wk pa va A c fs))] := hF.kp [9]
 have f2 : ls 2 = false := hi_
 have f8 : ls 8 = false := notyet hc_ hi_ (n := 9) (by kernel_rfl)
 have hM_ := hJ
 simp only [f2, f8] at hM_
 refine From_call (by kernel_rfl : coreAt _ 0 = some (some 10, (.call { callee := (.value (.func 23)), args := #[(.tmp 9)], argTypes := #[24] }), 50, none)) hF (by kernel_rfl) (by kernel_rfl) (k' := 1) rfl (f := 23) (vs := [(fA nm wk pa va A c fs)]) (cap := []) (by kernel_rfl) (by kernel_rfl) (by kernel_rfl) (of_c n nm wk pa va A c fs w_ hN hok (hA.at_ hM_) hva hn2 hgood) ?_
 rintro _ w2 ⟨A19p, c20p, A21p, c22p, rI23p, rO24p, SIp, SOp, rfl, hRI, hRO, hLV, hm2⟩ a2 ea _
 have hm3 := hM_.call hm2
 refine From_end (by kernel_rfl) ?_; refine op_doneJ (d := some 10) (by kernel_rfl) ea trivial ?_
 show match ls 8 with | true => _ | false => (∃ (A19 : Option Addr) (c20 : Nat) (A21 : Option Addr) (c22 : Nat) (rI23 : List RowV) (rO24 : List RowV) (SI : Int → Int → Bool) (SO : Int → Int → Bool), _)
 rw [f8]
 exact ⟨A19p, c20p, A21p, c22p, rI23p, rO24p, SIp, SOp, rfl, hRI, hRO, hLV, hm3⟩
 intro aa_ w_ ls vs rest_ hJ hi_ hc_ hp hF
 refine ⟨true, opok_guard (g0 := none) (by kernel_rfl) (by kernel_rfl), fun _ => ?_, fun h => Bool.noConfusion h⟩
 replace hF : Fr aa_ 18 [(8, (fA nm wk pa va A c fs)), (10, vs 2), (15, (.agg #[(.func (.func 36) #[] #[(pT b8 0)]), (.func (.func 37) #[] #[(pT b8 0)]), (.func (.func 38) #[] #[(pT b8 0)]), (.func (.func 39) #[] #[(pT b11 0), (pT b8 0)])]))] := hF.kp [8, 10, 15]
 have f2 : ls 2 = true := donebefore hc_ (fun k hk => (hp k hk).1) (n := 9) (by kernel_rfl)
 have f8 : ls 8 = false := hi_
 have hM_ := hJ
 simp only [f2, f8] at hM_
 obtain ⟨A19p, c20p, A21p, c22p, rI23p, rO24p, SIp, SOp, e2_, hRI, hRO, hLV, hM_⟩ := hM_
 try rw [e2_] at hF
 refine From_call (by kernel_rfl : coreAt _ 0 = some (some 16, (.call { callee := (.value (.func 35)), args := #[(.tmp 8), (.tmp 10), (.tmp 15)], argTypes := #[24, 50, 72] }), 0, none)) hF (by kernel_rfl) (by kernel_rfl) (k' := 1) rfl (f := 35) (vs := [(fA nm wk pa va A c fs), (.agg #[(.slice A19p ((bsOf fs).length) c20p), (.slice A21p ((bsOf fs).length) c22p)]), (.agg #[(.func (.func 36) #[] #[(pT b8 0)]), (.func (.func 37) #[] #[(pT b8 0)]), (.func (.func 38) #[] #[(pT b8 0)]), (.func (.func 39) #[] #[(pT b11 0), (pT b8 0)])])]) (cap := []) (by kernel_rfl) (by kernel_rfl) (by kernel_rfl) (through_c n pn b11 b8 nm wk pa va A c fs A19p A21p ((bsOf fs).length) c20p c22p 0 rO24p SOp w_ hN hok (hA.but hM_.join 0 rfl) hpn (by omega) hn2 hvr hRO (RO.row_rd (hM_.join.own_but 5 0 rfl rfl (by decide))) (hM_.join.own_but 4 0 rfl rfl (by decide)) (hT.but hM_.join 0 rfl) (hM_.get 0 rfl) (hM_.get 1 rfl) (hM_.far (i := 0) (j := 1) rfl rfl (by decide))) ?_
 rintro _ w2 ⟨cc25p, rfl, hm2⟩ a2 ea _
 have hm3 := hM_.mod2 hm2
 refine From_end (by kernel_rfl) ?_; refine op_doneJ (d := some 16) (by kernel_rfl) ea trivial ?_
 show ∃ (A19 : Option Addr) (c20 : Nat) (A21 : Option Addr) (c22 : Nat) (rI23 : List RowV) (rO24 : List RowV) (SI : Int → Int → Bool) (SO : Int → Int → Bool) (cc25 : Int), _
 exact ⟨A19p, c20p, A21p, c22p, rI23p, rO24p, SIp, SOp, cc25p, e2_, rfl, hRI, hRO, hLV, hm3⟩
 intro aC w30 ls vs hall hM31 hv fr
 simp only [show ls 8 = true from hall 8 (by decide)] at hM31
 revert aC; refine zkp [(4, (pT b11 0))] ?_
 obtain ⟨A19, c20, A21, c22, rI23, rO24, SI, SO, cc25, e2_, e8_, hRI, hRO, hLV, hM31⟩ := hM31
 try rw [e2_]
 try rw [e8_]
 clear e2_ e8_
 clear hall hv fr aC hM18; clear vs ls
 refine zsr <| zld ⟨b11, 0, none⟩ (.int .i64 ((mxl (besTo n pn fs SO fs.length) : Nat) : Int)) (blk_cell (hM31.get 1 rfl) rfl) <| zpn 1 <| zfe <| zre <| zo1 (.int .i64 ((mxl (besTo n pn fs SO fs.length) : Nat) : Int)) ?_
 have hM32 := hM31.od [] 0
 exact ⟨by unfold mostN; rw [if_pos hv0, show va.toNat = n by omega, show pa.toNat = pn by omega, ← most_live hLV], hM32⟩
end Go.Proofs.YtlfbloadopeamaaDoor
namespace Go.Proofs.YtlfbloadopeamaaDoor
open Go.Mor
set_option maxRecDepth 10000 in
theorem great19_c (nm : ByteArray) (wk : Bool) (pa va : Int) (A : Option Addr) (c : Nat) (fs : List FBlk) (w : World) (hok : FOk fs) (hA : RO noS w (.fn A fs)) :
    Calls Tryd.prog 19 #[(fA nm wk pa va A c fs)] w (Ret fun v w' => v = .bool (decide (greatQ va fs)) ∧ Mem noS w w' []) := by
 have hbl := bsOf_len fs
 have hB := hA.bs
 refine zen 51 [(fA nm wk pa va A c fs)] Tryd.func19 ?_
 have hM := Mem.init w
 refine zsr <| zbx hM 24 (fA nm wk pa va A c fs) (fV nm wk pa va A c fs) fun b1 w2 hb1 hM3 => ?_
 replace hM3 := hM3.nf
 clear hM
 refine zpn 1 <| zfe <| zsq <| zsr <| zpn 1 <| zld ⟨b1, 4, none⟩ (.slice A ((bsOf fs).length) c) (blk_cell (hM3.get 0 rfl) rfl) <| zpn 3 ?_
 obtain ⟨B4, hB4⟩ : ∃ B : Bool, B = decide (((((bsOf fs).length : Nat) : Int) : Int) > 60) := ⟨_, rfl⟩
 refine zkp [(1, (pT b1 0)), (9, (.bool (decide (((((bsOf fs).length : Nat) : Int) : Int) > 60))))] ?_
 rw [← hB4]
 have iB4 : B4 = true ↔ (((((bsOf fs).length : Nat) : Int) : Int) > 60) := by rw [hB4]; simp only [decide_eq_true_eq]
 clear hB4
 intro aC fr
 refine zpk 1 6 [10] fr (news := [(10, (cond (!B4) (pT b1 3) undef))]) (by cases B4 <;> kernel_rfl) ?_
 intro aC fr
 refine From_either (B := (!B4)) (d := (some 11)) (.int .i64 va) fr (by cases B4 <;> kernel_rfl) (fun hB hh => ?_) ?_
 cases B4 <;> first | (exact absurd hB (by decide)) | skip
 have c4 : ¬ (((((bsOf fs).length : Nat) : Int) : Int) > 60) := (fun h => Bool.noConfusion (iB4.2 h) : ¬ (((((bsOf fs).length : Nat) : Int) : Int) > 60))
 exact From_ld (some 11) ⟨b1, 3, none⟩ fr (by kernel_rfl) (.int .i64 va) (blk_cell (hM3.get 0 rfl) rfl) hh
 intro aC fr
 refine zpk 2 9 [13] fr (news := [(13, (.bool (B4 || decide ((va : Int) > 3000))))]) (by cases B4 <;> kernel_rfl) ?_
 intro aC fr
 revert aC
 refine zfe <| zcP (B4 || decide ((va : Int) > 3000)) ((((((bsOf fs).length : Nat) : Int) : Int) > 60) ∨ ((va : Int) > 3000)) (by simp only [Bool.or_eq_true, decide_eq_true_eq, iB4]) (fun c13 => ?_) (fun c13 => ?_)
 refine zsr <| zpn 1 <| zld ⟨b1, 3, none⟩ (.int .i64 va) (blk_cell (hM3.get 0 rfl) rfl) <| zpn 2 ?_
 obtain ⟨B14, hB14⟩ : ∃ B : Bool, B = decide ((va : Int) ≤ 20000) := ⟨_, rfl⟩
 refine zkp [(1, (pT b1 0)), (17, (.bool (decide ((va : Int) ≤ 20000))))] ?_
 rw [← hB14]
 have iB14 : B14 = true ↔ ((va : Int) ≤ 20000) := by rw [hB14]; simp only [decide_eq_true_eq]
 clear hB14
 intro aC fr
 refine zpk 1 5 [18] fr (news := [(18, (cond (!B14) (pT b1 4) undef))]) (by cases B14 <;> kernel_rfl) ?_
 intro aC fr
 refine From_either (B := (!B14)) (d := (some 19)) (.slice A ((bsOf fs).length) c) fr (by cases B14 <;> kernel_rfl) (fun hB hh => ?_) ?_
 cases B14 <;> first | (exact absurd hB (by decide)) | skip
 have c14 : ¬ ((va : Int) ≤ 20000) := (fun h => Bool.noConfusion (iB14.2 h) : ¬ ((va : Int) ≤ 20000))
 exact From_ld (some 19) ⟨b1, 4, none⟩ fr (by kernel_rfl) (.slice A ((bsOf fs).length) c) (blk_cell (hM3.get 0 rfl) rfl) hh
 intro aC fr
 refine zpk 4 10 [2, 22] fr (news := [(2, (.bool (B14 || decide (((((bsOf fs).length : Nat) : Int) : Int) > 60)))), (22, (.bool (B14 || decide (((((bsOf fs).length : Nat) : Int) : Int) > 60))))]) (by cases B14 <;> kernel_rfl) ?_
 intro aC fr
 revert aC
 refine zfe <| zre <| zo1 (.bool (B14 || decide (((((bsOf fs).length : Nat) : Int) : Int) > 60))) ?_
 have hR : (B14 || decide (((((bsOf fs).length : Nat) : Int) : Int) > 60)) = true ↔ (((va : Int) ≤ 20000) ∨ (((((bsOf fs).length : Nat) : Int) : Int) > 60)) := by simp only [Bool.or_eq_true, decide_eq_true_eq, iB14]
 have hM23 := hM3.od [] 0
 exact ⟨bool_dec hR (by unfold greatQ; omega), hM23⟩
 have hl60 : fs.length ≤ 60 := by omega
 refine zsk <| zsp <| zsq <| zsp <| zbk 0 ?_
 intro aC fr
 refine zlp (fun n_ a_ w_ => ∃ (k : Nat), n_ = fs.length - k ∧ Fr a_ 51 [(1, (pT b1 0)), (3, (.int .i64 ((greatTo fs k : Nat) : Int))), (4, (nV k))] ∧ Mem noS w w_ [.blk b1 24 (fV nm wk pa va A c fs)] ∧ (k ≤ fs.length)) (n := _) ⟨0, rfl, fr.kp [1, 3, 4], hM3, by omega⟩ ?_
 clear fr aC hM3; rintro n aC w26 ⟨k, rfl, fr, hM27, hk⟩
 revert aC
 refine zsq <| zsr <| zpn 2 <| zld ⟨b1, 4, none⟩ (.slice A ((bsOf fs).length) c) (blk_cell (hM27.get 0 rfl) rfl) <| zpn 2 <| zfe <| zcD (((k : Int) : Int) < (((bsOf fs).length : Nat) : Int)) (fun c30 => ?_) (fun c30 => ?_)
 refine zsk <| zsq <| zbk 1 ?_
 obtain ⟨x, hx⟩ := get_of (l := fs) (i := k) (by omega)
 have hl1 : x.phis.length ≤ 281474976710656 := (hok.get hx).lp
 have hl2 : x.insts.length ≤ 281474976710656 := (hok.get hx).li
 have hgl := greatTo_le fs k hk
 have hgs := greatTo_succ hx
 obtain ⟨ad31, rfl⟩ := blocks_some (hM27.ro hB) (bsOf_get hx)
 refine zkp [(1, (pT b1 0)), (3, (.int .i64 ((greatTo fs k : Nat) : Int))), (4, (nV k))] ?_
 intro aC fr
 refine zdr (N := 51) (env0 := [(1, (pT b1 0)), (3, (.int .i64 ((greatTo fs k : Nat) : Int))), (4, (nV k))]) (specAt [.det (.int .i64 ((greatTo fs k : Nat) : Int)), .det (pT b1 4), .det (.slice (some ad31) ((bsOf fs).length) c), .det (nV k), .det (.pointer (some ((ad31 : Addr).add (((k : Int)).toNat * 6)))), .det (.pointer (some ((ad31 : Addr).add (((k : Int)).toNat * 6)))), .det (.slice x.pA x.phis.length x.pc), .det (.int .i64 ((x.phis.length : Nat) : Int)), .det (.int .i64 ((min x.phis.length 5000 : Nat) : Int)), .det (.int .i64 (((greatTo fs k : Nat) : Int) + ((min x.phis.length 5000 : Nat) : Int))), .det (pT b1 4), .det (.slice (some ad31) ((bsOf fs).length) c), .det (nV k), .det (.pointer (some ((ad31 : Addr).add (((k : Int)).toNat * 6)))), .det (.pointer (some (((ad31 : Addr).add (((k : Int)).toNat * 6)).add 1))), .det (.slice x.iA x.insts.length x.ic), .det (.int .i64 ((x.insts.length : Nat) : Int)), .det (.int .i64 ((min x.insts.length 5000 : Nat) : Int)), .det (.int .i64 (((greatTo fs (k + 1) : Nat) : Int))), .det (.int .i64 (((greatTo fs (k + 1) : Nat) : Int)))]) fr (la (la (la (la (la (la (la (la (la (la (la (la (la (la (la (la (la (la (la (la lz dP) dP) (dL ⟨b1, 4, none⟩ (.slice (some ad31) ((bsOf fs).length) c) fun w_ hK => (blk_cell ((hM27.then_ hK).get 0 rfl) rfl))) dP) (dI ad31 ((bsOf fs).length) 6 (k : Int))) dP) (dL ((ad31 : Addr).add (((k : Int)).toNat * 6)) (.slice x.pA x.phis.length x.pc) fun w_ hK => (fblk_get ((hM27.then_ hK).ro hB) rfl hx 0 _ rfl))) dP) (dMN .i64 ((x.phis.length : Nat) : Int) 5000 ((min x.phis.length 5000 : Nat) : Int) (.tmp 37) (.const (.int .i64 5000)) #[3, 3] 3 none (by split <;> omega))) (dA (((greatTo fs k : Nat) : Int) + ((min x.phis.length 5000 : Nat) : Int)))) dP) (dL ⟨b1, 4, none⟩ (.slice (some ad31) ((bsOf fs).length) c) fun w_ hK => (blk_cell ((hM27.then_ hK).get 0 rfl) rfl))) dP) (dI ad31 ((bsOf fs).length) 6 (k : Int))) dP) (dL (((ad31 : Addr).add (((k : Int)).toNat * 6)).add 1) (.slice x.iA x.insts.length x.ic) fun w_ hK => (fblk_get ((hM27.then_ hK).ro hB) rfl hx 1 _ rfl))) dP) (dMN .i64 ((x.insts.length : Nat) : Int) 5000 ((min x.insts.length 5000 : Nat) : Int) (.tmp 46) (.const (.int .i64 5000)) #[3, 3] 3 none (by split <;> omega))) ?_) dP) ?_
 intro aa_ w_ vs rest_ hK hp hF
 refine ⟨true, opok_guard (g0 := none) (by kernel_rfl) (by kernel_rfl), fun _ => ?_, fun h => Bool.noConfusion h⟩
 replace hF : Fr aa_ 51 [(39, (.int .i64 (((greatTo fs k : Nat) : Int) + ((min x.phis.length 5000 : Nat) : Int)))), (47, (.int .i64 ((min x.insts.length 5000 : Nat) : Int)))] := hF.kp [39, 47]
 refine From_arith (by kernel_rfl : coreAt _ 0 = some (some 48, (.binOp .add 3 (.tmp 39) (.tmp 47) 3), 3, none)) hF (by kernel_rfl) (by kernel_rfl) (k' := 1) rfl (i := (((greatTo fs k : Nat) : Int) + ((min x.phis.length 5000 : Nat) : Int))) (j := ((min x.insts.length 5000 : Nat) : Int)) (z := (((greatTo fs (k + 1) : Nat) : Int))) (by kernel_rfl) (by kernel_rfl) (congrArg some (by omega)) (by omega) (by omega) ?_
 intro a2 ea _
 refine From_end (by kernel_rfl) ?_; exact op_done (d := some 48) (by kernel_rfl) ea (Kp.refl _) rfl
 intro aC w36 vs hK hv fr
 revert aC; refine zkp [(1, (pT b1 0)), (3, (.int .i64 (((greatTo fs (k + 1) : Nat) : Int)))), (4, (nV k))] ?_
 have hM37 := hM27.then_ hK
 clear hK hv fr aC hM27; clear vs
 refine zrg <| zpn 1 <| zar ((k : Int) + 1) <| zpn 1 <| zfe ?_
 intro aC fr
 exact ⟨fs.length - (k + 1), by omega, k + 1, rfl, fr.kp [1, 3, 4], hM37, by omega⟩
 refine zex 0 <| zbh <| zsp <| zre <| zo1 (.bool (decide ((((greatTo fs k : Nat) : Int) : Int) > 3000))) ?_
 have hR : decide ((((greatTo fs k : Nat) : Int) : Int) > 3000) = true ↔ ((((greatTo fs k : Nat) : Int) : Int) > 3000) := by simp only [decide_eq_true_eq]
 have hM40 := hM27.od [] 0
 exact ⟨bool_dec hR (by unfold greatQ; (try rw [show k = fs.length by omega]); omega), hM40⟩
end Go.Proofs.YtlfbloadopeamaaDoor
namespace Go.Proofs.YtlfbloadopeamaaDoor
open Go.Mor
set_option maxRecDepth 10000 in
theorem great25_c (nm : ByteArray) (wk : Bool) (pa va : Int) (A : Option Addr) (c : Nat) (fs : List FBlk) (w : World) (hok : FOk fs) (hA : RO noS w (.fn A fs)) :
    Calls Tryd.prog 7 #[(fA nm wk pa va A c fs)] w (Ret fun v w' => v = .bool (decide (great5Q va fs)) ∧ Mem noS w w' []) := by
 have hbl := bsOf_len fs
 have hB := hA.bs
 refine zen 15 [(fA nm wk pa va A c fs)] Tryd.func7 ?_
 have hM := Mem.init w
 refine zsr <| zbx hM 24 (fA nm wk pa va A c fs) (fV nm wk pa va A c fs) fun b1 w2 hb1 hM3 => ?_
 replace hM3 := hM3.nf
 clear hM
 refine zpn 1 <| zfe <| zsr <| zls ⟨b1, 0, none⟩ (fV nm wk pa va A c fs) (blk_cells (hM3.get 0 rfl)) <| zcl (vs := #[(fA nm wk pa va A c fs)]) (great19_c _ _ _ va A c fs w2 hok (hA.at_ hM3)) ?_
 rintro _ w4 ⟨rfl, hM5x⟩
 have hM5 := hM3.cl hM5x
 refine zpn 1 ?_
 obtain ⟨B6, hB6⟩ : ∃ B : Bool, B = decide (greatQ va fs) := ⟨_, rfl⟩
 refine zkp [(1, (pT b1 0)), (5, (.bool (decide (greatQ va fs))))] ?_
 rw [← hB6]
 have iB6 : B6 = true ↔ (greatQ va fs) := by rw [hB6]; simp only [decide_eq_true_eq]
 clear hB6
 cases B6
 have c6 : ¬ (greatQ va fs) := (fun h => Bool.noConfusion (iB6.2 h) : ¬ (greatQ va fs))
 refine zls ⟨b1, 0, none⟩ (fV nm wk pa va A c fs) (blk_cells (hM5.get 0 rfl)) <| zcl (vs := #[(fA nm wk pa va A c fs)]) (rsize_c _ _ _ _ A c fs w4 (Nat.le_trans (greatQ_len (by assumption)) (by decide)) hok (hA.at_ hM5)) ?_
 rintro _ w7 ⟨rfl, hM8x⟩
 have hM8 := hM5.cl hM8x
 refine zpn 3 ?_
 obtain ⟨B9, hB9⟩ : ∃ B : Bool, B = decide ((((sizeF fs : Nat) : Int) : Int) > 1500) := ⟨_, rfl⟩
 refine zkp [(1, (pT b1 0)), (10, (.bool (decide ((((sizeF fs : Nat) : Int) : Int) > 1500))))] ?_
 rw [← hB9]
 have iB9 : B9 = true ↔ ((((sizeF fs : Nat) : Int) : Int) > 1500) := by rw [hB9]; simp only [decide_eq_true_eq]
 clear hB9
 intro aC fr
 refine zpk 1 9 [11] fr (news := [(11, (cond (!B9) (pT b1 3) undef))]) (by cases B9 <;> kernel_rfl) ?_
 intro aC fr
 refine From_either (B := (!B9)) (d := (some 12)) (.int .i64 va) fr (by cases B9 <;> kernel_rfl) (fun hB hh => ?_) ?_
 cases B9 <;> first | (exact absurd hB (by decide)) | skip
 have c9 : ¬ ((((sizeF fs : Nat) : Int) : Int) > 1500) := (fun h => Bool.noConfusion (iB9.2 h) : ¬ ((((sizeF fs : Nat) : Int) : Int) > 1500))
 exact From_ld (some 12) ⟨b1, 3, none⟩ fr (by kernel_rfl) (.int .i64 va) (blk_cell (hM8.get 0 rfl) rfl) hh
 intro aC fr
 refine zpk 3 13 [2, 14] fr (news := [(2, (.bool (B9 || decide ((va : Int) > 800)))), (14, (.bool (B9 || decide ((va : Int) > 800))))]) (by cases B9 <;> kernel_rfl) ?_
 intro aC fr
 revert aC
 refine zfe <| zre <| zo1 (.bool (B9 || decide ((va : Int) > 800))) ?_
 have hR : (B9 || decide ((va : Int) > 800)) = true ↔ (((((sizeF fs : Nat) : Int) : Int) > 1500) ∨ ((va : Int) > 800)) := by simp only [Bool.or_eq_true, decide_eq_true_eq, iB9]
 have hM18 := hM8.od [] 0
 exact ⟨bool_dec hR (by first | (have h1 : greatQ va fs := ‹_›; exact ⟨fun _ => .inl h1, fun _ => trivial⟩) | (have h1 : ¬ greatQ va fs := ‹_›; unfold great5Q; simp only [h1, false_or]; omega)), hM18⟩
 have c6 : (greatQ va fs) := iB6.1 rfl
 refine zpn 10 <| zfe <| zre <| zo1 (.bool true) ?_
 have hR : true = true ↔ True := by simp
 have hM19 := hM5.od [] 0
 exact ⟨bool_dec hR (by first | (have h1 : greatQ va fs := ‹_›; exact ⟨fun _ => .inl h1, fun _ => trivial⟩) | (have h1 : ¬ greatQ va fs := ‹_›; unfold great5Q; simp only [h1, false_or]; omega)), hM19⟩
set_option maxRecDepth 10000 in
theorem llists_c (l m : List (List Int)) (rows rows2 : List RowV) (A A2 : Option Addr) (n n2 c c2 : Nat) (w : World) (hn : n = l.length) (hn2 : n2 = m.length) (_hl : l.length ≤ 1000000) (hm : ∀ x, x ∈ l → x.length ≤ 1000000) (hf : FamOf (Value.int .i64) rows l) (hf2 : FamOf (Value.int .i64) rows2 m) (hR : RO noS w (.rd A (slv rows))) (hR2 : RO noS w (.rd A2 (slv rows2))) (hF1 : RO noS w (.fam 3 rows)) (hF2 : RO noS w (.fam 3 rows2)) :
    Calls Tryd.prog 13 #[(.slice A n c), (.slice A2 n2 c2)] w (Ret fun v w' => v = .bool (decide (l = m)) ∧ Mem noS w w' []) := by
 refine zen 27 [(.slice A n c), (.slice A2 n2 c2)] Tryd.func13 ?_
 have hM := Mem.init w
 refine zsp <| zsq <| zsr <| zpn 4 <| zcm (((n : Nat) : Int) != ((n2 : Nat) : Int)) fun Bln hBln => ?_
 refine zfe ?_
 cases Bln
 have cln : ¬ (((n : Nat) : Int) ≠ ((n2 : Nat) : Int)) := znn hBln
 refine zcF <| zsk <| zsq <| zsp <| zbk 0 ?_
 intro aC fr
 refine zlp (fun n_ a_ w_ => ∃ (j : Nat), n_ = n - j ∧ Fr a_ 27 [(0, (.slice A n c)), (1, (.slice A2 n2 c2)), (5, (nV j))] ∧ Mem noS w w_ [] ∧ (j ≤ n) ∧ (l.take j = m.take j)) (n := _) ⟨0, rfl, fr.kp [0, 1, 5], hM, by omega, by simp⟩ ?_
 clear fr aC hM; rintro n aC w3 ⟨j, rfl, fr, hM4, hj, hq⟩
 revert aC
 refine zsq <| zsr <| zpn 3 <| zcm (decide ((j : Int) < ((n : Nat) : Int))) fun Bj hBj => ?_
 refine zfe ?_
 cases Bj
 have cj : ¬ ((j : Int) < ((n : Nat) : Int)) := of_decide_eq_false hBj.symm
 refine zcF <| zex 0 <| zbh <| zsp <| zre <| zo1 (.bool true) ?_
 exact ⟨by rw [ll_yes hq (by omega) (by omega)], hM4⟩
 have cj : (j : Int) < ((n : Nat) : Int) := of_decide_eq_true hBj.symm
 obtain ⟨x, hx⟩ : ∃ x, l[j]? = some x := ⟨_, List.getElem?_eq_getElem (by omega)⟩
 obtain ⟨y, hy⟩ : ∃ y, m[j]? = some y := ⟨_, List.getElem?_eq_getElem (by omega)⟩
 obtain ⟨Ax, cx, hrx⟩ := hf.get hx
 obtain ⟨Ay, cy, hry⟩ := hf2.get hy
 have hxl := hm x (List.mem_of_getElem? hx)
 refine zcT <| zsk <| zsq <| zbk 1 <| zsq ?_
 obtain ⟨ad7, rfl⟩ := rd_some (hM4.ro hR) (by rw [slv_len, hf.len]; omega)
 obtain ⟨ad8, rfl⟩ := rd_some (hM4.ro hR2) (by rw [slv_len, hf2.len]; omega)
 obtain ⟨Bsm, hBsm⟩ : ∃ B : Bool, B = decide (x = y) := ⟨_, rfl⟩
 refine zkp [(0, (.slice (some ad7) n c)), (1, (.slice (some ad8) n2 c2)), (5, (nV j)), (14, (.bool true))] ?_
 intro aC fr
 refine zdr (N := 27) (env0 := [(0, (.slice (some ad7) n c)), (1, (.slice (some ad8) n2 c2)), (5, (nV j)), (14, (.bool true))]) (specAt [.det (.slice (some ad7) n c), .det (nV j), .det (.pointer (some ((ad7 : Addr).add (((j : Int)).toNat * 1)))), .det (.slice Ax x.length cx), .det (.slice (some ad8) n2 c2), .det (nV j), .det (.pointer (some ((ad8 : Addr).add (((j : Int)).toNat * 1)))), .det (.slice Ay y.length cy), .det (.bool Bsm), .det (.bool (!Bsm))]) fr (la (la (la (la (la (la (la (la (la (la lz dP) dP) (dI ad7 n 1 (j : Int))) (dL ((ad7 : Addr).add (((j : Int)).toNat * 1)) (.slice Ax x.length cx) fun w_ hK => (rd_get1 ((hM4.then_ hK).ro hR) rfl (slv_get hrx)))) dP) dP) (dI ad8 n2 1 (j : Int))) (dL ((ad8 : Addr).add (((j : Int)).toNat * 1)) (.slice Ay y.length cy) fun w_ hK => (rd_get1 ((hM4.then_ hK).ro hR2) rfl (slv_get hry)))) (dD (fun w_ hK => same_c x y Ax Ay cx cy w_ hxl (RO.row_rd (RO.fam_rd (hF1.at_ (hM4.then_ hK)) hrx)) (RO.row_rd (RO.fam_rd (hF2.at_ (hM4.then_ hK)) hry))) (congrArg Value.bool hBsm.symm))) dP) ?_
 intro aC w13 vs hK hv fr
 revert aC; refine zkp [(0, (.slice (some ad7) n c)), (1, (.slice (some ad8) n2 c2)), (5, (nV j)), (26, (.bool (!Bsm)))] ?_
 have hM14 := hM4.then_ hK
 clear hK hv fr aC hM4; clear vs
 cases Bsm
 have csm : (decide (x = y)) = false := hBsm.symm
 refine zcT <| zsp <| zre <| zbr <| zbr <| zo1 (.bool false) ?_
 exact ⟨by rw [ll_no hx hy csm], hM14⟩
 have csm : (decide (x = y)) = true := hBsm.symm
 refine zcF <| zsk <| zrg <| zpn 1 <| zar ((j : Int) + 1) <| zpn 1 <| zfe ?_
 intro aC fr
 exact ⟨n - (j + 1), by omega, j + 1, rfl, fr.kp [0, 1, 5], hM14, by omega, ll_next hq hx hy (by simpa using csm)⟩
 have cln : ((n : Nat) : Int) ≠ ((n2 : Nat) : Int) := bne_iff_ne.1 hBln.symm
 refine zcT <| zsp <| zre <| zo1 (.bool false) ?_
 exact ⟨by rw [ll_len (by omega)], hM⟩
set_option maxRecDepth 10000 in
theorem awake25_c (w : World) (hT : RO noS w (.rd (sM 0) tabL)) :
    Calls Tryd.prog 8 #[] w (Ret fun v w' => v = .bool true ∧ Mem noS w w' []) := by
 refine zen 34 [] Tryd.func8 ?_
 have hM := Mem.init w
 refine zsp <| zsr <| zpn 2 ?_
 intro aC fr
 refine From_buildSlice (by kernel_rfl : coreAt _ 2 = some (some 5, (.buildSlice 36 2 #[(0, (.const (.int .i64 0))), (1, (.const (.int .i64 1)))]), 36, none)) fr (by kernel_rfl) (by kernel_rfl) (k' := 3) rfl (e := 3) (size := 1) (zs := [(.int .i64 0)]) (vs := [(0, (.int .i64 0)), (1, (.int .i64 1))]) (cs := [(.int .i64 0), (.int .i64 1)]) (by kernel_rfl) (by kernel_rfl) (by kernel_rfl) (by kernel_rfl) (by kernel_rfl) (by kernel_rfl) hM ?_
 intro b1 w2 hb1 _ hM3 _ aC ea fr; clear ea
 replace hM3 := hM3.nf
 clear hM
 revert aC
 refine zpn 1 ?_
 intro aC fr
 refine From_buildSlice (by kernel_rfl : coreAt _ 4 = some (some 7, (.buildSlice 41 3 #[(0, (.tmp 3)), (1, (.tmp 4)), (2, (.tmp 6))]), 41, none)) fr (by kernel_rfl) (by kernel_rfl) (k' := 5) rfl (e := 40) (size := 5) (zs := [(.int .i64 0), (.int .i64 0), (.int .i64 0), (.string ⟨#[]⟩), (.slice none 0 0)]) (vs := [(0, (.agg #[(.int .i64 1), (.int .i64 0), (.int .i64 1), (.string ⟨#[]⟩), (.slice none 0 0)])), (1, (.agg #[(.int .i64 1), (.int .i64 1), (.int .i64 2), (.string ⟨#[]⟩), (.slice none 0 0)])), (2, (.agg #[(.int .i64 17), (.int .i64 2), (.int .i64 0), (.string ⟨#[]⟩), (.slice (sM b1) 2 2)]))]) (cs := [(.int .i64 1), (.int .i64 0), (.int .i64 1), (.string ⟨#[]⟩), (.slice none 0 0), (.int .i64 1), (.int .i64 1), (.int .i64 2), (.string ⟨#[]⟩), (.slice none 0 0), (.int .i64 17), (.int .i64 2), (.int .i64 0), (.string ⟨#[]⟩), (.slice (sM b1) 2 2)]) (by kernel_rfl) (by kernel_rfl) (by kernel_rfl) (by kernel_rfl) (by kernel_rfl) (by kernel_rfl) hM3 ?_
 intro b8 w9 hb8 _ hM10 _ aC ea fr; clear ea
 replace hM10 := hM10.nf
 revert aC
 refine zpn 1 ?_
 intro aC fr
 refine From_buildSlice (by kernel_rfl : coreAt _ 6 = some (some 9, (.buildSlice 22 1 #[(0, (.tmp 8))]), 22, none)) fr (by kernel_rfl) (by kernel_rfl) (k' := 7) rfl (e := 44) (size := 6) (zs := [(.slice none 0 0), (.slice none 0 0), (.int .i64 0), (.int .i64 0), (.int .i64 0), (.int .i64 0)]) (vs := [(0, (.agg #[(.slice none 0 0), (.slice (sM b8) 3 3), (.int .i64 2), (.int .i64 2), (.int .i64 0), (.int .i64 0)]))]) (cs := [(.slice none 0 0), (.slice (sM b8) 3 3), (.int .i64 2), (.int .i64 2), (.int .i64 0), (.int .i64 0)]) (by kernel_rfl) (by kernel_rfl) (by kernel_rfl) (by kernel_rfl) (by kernel_rfl) (by kernel_rfl) hM10 ?_
 intro b15 w16 hb15 _ hM17 _ aC ea fr; clear ea
 replace hM17 := hM17.nf
 revert aC
 refine zpn 1 <| zal hM17 24 [(.string ⟨#[]⟩), (.bool false), (.int .i64 0), (.int .i64 0), (.slice none 0 0)] fun b22 w23 hb22 hM24 => ?_
 replace hM24 := hM24.nf
 refine zss hM24 3 [(.string ⟨#[102]⟩), (.bool false), (.int .i64 0), (.int .i64 3), (.slice (sM b15) 1 1)] rfl fun w25 hM26 => ?_
 replace hM26 := hM26.nf
 refine zfe <| zsr <| zls ⟨b22, 0, none⟩ [(.string ⟨#[102]⟩), (.bool false), (.int .i64 0), (.int .i64 3), (.slice (sM b15) 1 1)] (blk_cells (hM26.get 3 rfl)) <| zcl ((by have h9 := in_c exN false 0 3 (sM b15) 1 [exB (sM b8) (sM b1)] w25 (by simp) ex_ok (ex_ro (A5 := (sM b1)) (A7 := (sM b8)) (A9 := (sM b15)) (hM26.get 0 rfl) (hM26.get 1 rfl) (hM26.get 2 rfl)) (hT.at_ hM26); rw [ex_io] at h9; exact h9)) ?_
 rintro _ w30 ⟨A27, _, c28, rows29, rfl, rfl, hfrows29, hM31x⟩
 have hM31 := hM26.cl hM31x
 refine zkp [(1, (pT b22 0)), (12, (.slice A27 1 c28))] <| zpn 1 <| zfe <| zsr ?_
 obtain ⟨Ax, cx, hrx⟩ := hfrows29.get (i := 0) rfl
 refine zls ⟨b22, 0, none⟩ [(.string ⟨#[102]⟩), (.bool false), (.int .i64 0), (.int .i64 3), (.slice (sM b15) 1 1)] (blk_cells (hM31.get 3 rfl)) <| zcl ((by have h9 := most_c exN false 0 3 (sM b15) 1 [exB (sM b8) (sM b1)] w30 (by simp) ex_ok (ex_ro (A5 := (sM b1)) (A7 := (sM b8)) (A9 := (sM b15)) (hM31.get 0 rfl) (hM31.get 1 rfl) (hM31.get 2 rfl)) (hT.at_ hM31); rw [ex_most] at h9; exact h9)) ?_
 rintro _ w32 ⟨rfl, hM33x⟩
 have hM33 := hM31.cl hM33x
 refine zpn 8 ?_
 obtain ⟨g35, rfl⟩ := row_some (hM33.get 5 rfl) (Nat.zero_lt_succ _)
 refine zix ⟨g35, 0, none⟩ 1 1 0 <| zld ((⟨g35, 0, none⟩ : Addr).add ((0 : Int).toNat * 1)) (.slice Ax 0 cx) (rd_get1 (row_rd (hM33.get 5 rfl)) rfl (slv_get hrx)) <| zpn 4 <| zls ⟨b22, 0, none⟩ [(.string ⟨#[102]⟩), (.bool false), (.int .i64 0), (.int .i64 3), (.slice (sM b15) 1 1)] (blk_cells (hM33.get 3 rfl)) <| zcl ((by have h9 := out_c exN false 0 3 (sM b15) 1 [exB (sM b8) (sM b1)] w32 (by simp) ex_ok (ex_ro (A5 := (sM b1)) (A7 := (sM b8)) (A9 := (sM b15)) (hM33.get 0 rfl) (hM33.get 1 rfl) (hM33.get 2 rfl)) (hT.at_ hM33); rw [ex_io] at h9; exact h9)) ?_
 rintro _ w39 ⟨A36, _, c37, rows38, rfl, rfl, hfrows38, hM40x⟩
 have hM40 := hM33.cl hM40x
 refine zpn 4 <| zfe <| zre <| zo1 (.bool true) ?_
 have hM41 := hM40.od [] 0
 exact ⟨rfl, hM41⟩
end Go.Proofs.YtlfbloadopeamaaDoor
namespace Go.Mor
open Go.RowKit
theorem BoolsOf.take {n : Nat} {l : List Bool} {S : Int → Bool} (h : BoolsOf n l S) {i : Nat} : BoolsOf n (l.set i false) (remS S (i : Int)) := by
  refine ⟨by simp [h.1], fun j hj => ?_⟩
  unfold remS
  by_cases e : i = j
  · subst e
    have : i < l.length := by rw [h.1]; exact hj
    simp [List.getD, this]
  · have e2 : ((j : Int) == (i : Int)) = false := by
      rw [beq_eq_false_iff_ne]; omega
    rw [← h.2 j hj, e2]
    simp [List.getD, List.getElem?_set_ne e]
section
variable {n j : Nat} {l : List FIns} {E : Int → Bool}
end
end Go.Mor
namespace Go.Proofs.YtlfbloadopeamaaDoor
open Go.Mor
end Go.Proofs.YtlfbloadopeamaaDoor
namespace Go.Proofs.YtlfbloadopeamaaDoor
open Go.Mor
end Go.Proofs.YtlfbloadopeamaaDoor
namespace Go.Proofs.YtlfbloadopeamaaDoor
open Go.Mor
end Go.Proofs.YtlfbloadopeamaaDoor
namespace Go.Proofs.YtlfbloadopeamaaDoor
open Go.Mor
end Go.Proofs.YtlfbloadopeamaaDoor
namespace Go.Proofs.YtlfbloadopeamaaDoor
open Go.Mor
set_option maxRecDepth 10000 in
theorem liveTwins_c (nm : ByteArray) (wk : Bool) (pa va : Int) (A : Option Addr) (c : Nat) (fs : List FBlk) (w : World) (hok : FOk fs) (hA : RO noS w (.fn A fs)) (hT : RO noS w (.rd (sM 0) tabL)) :
    Calls Tryd.prog 6 #[(fA nm wk pa va A c fs)] w (Ret fun v w' => v = .bool true ∧ Mem noS w w' []) := by
 have hbl := bsOf_len fs
 have hB := hA.bs
 refine zen 78 [(fA nm wk pa va A c fs)] Tryd.func6 ?_
 have hM := Mem.init w
 refine zsr <| zbx hM 24 (fA nm wk pa va A c fs) (fV nm wk pa va A c fs) fun b1 w2 hb1 hM3 => ?_
 replace hM3 := hM3.nf
 clear hM
 refine zpn 1 <| zfe <| zsq <| zsr <| zls ⟨b1, 0, none⟩ (fV nm wk pa va A c fs) (blk_cells (hM3.get 0 rfl)) <| zcl (great25_c nm wk pa va A c fs w2 hok (hA.at_ hM3)) ?_
 rintro _ w4 ⟨rfl, hM5x⟩
 have hM5 := hM3.cl hM5x
 refine zpn 1 ?_
 obtain ⟨B6, hB6⟩ : ∃ B : Bool, B = decide (great5Q va fs) := ⟨_, rfl⟩
 refine zkp [(1, (pT b1 0)), (12, (.bool (decide (great5Q va fs))))] ?_
 rw [← hB6]
 have iB6 : B6 = true ↔ (great5Q va fs) := by rw [hB6]; simp only [decide_eq_true_eq]
 clear hB6
 cases B6
 have c6 : ¬ (great5Q va fs) := (fun h => Bool.noConfusion (iB6.2 h) : ¬ (great5Q va fs))
 refine zls ⟨b1, 0, none⟩ (fV nm wk pa va A c fs) (blk_cells (hM5.get 0 rfl)) <| zcl (rvalid_c nm wk pa va A c fs w4 (great5_len (by assumption)) hok (hA.at_ hM5)) ?_
 rintro _ w7 ⟨rfl, hM8x⟩
 have hM8 := hM5.cl hM8x
 refine zpn 2 <| zfe <| zcP ((validN nm pa va fs : Int) != 0) ((validN nm pa va fs : Int) ≠ 0) (by simp only [bne_iff_ne]) (fun c9 => ?_) (fun c9 => ?_)
 refine zsr <| zcl (awake25_c w7 (hT.at_ hM8)) ?_
 rintro _ w10 ⟨rfl, hM11x⟩
 have hM11 := hM8.cl hM11x
 refine zpn 1 <| zfe <| zre <| zo1 (.bool true) ?_
 have hM12 := hM11.od [] 0
 exact ⟨rfl, hM12⟩
 have hng : ¬ great5Q va fs := by assumption
 have hN : fs.length ≤ 1000 := Nat.le_trans (greatQ_len (fun h => hng (.inl h))) (by decide)
 have hng2 : ¬ (1500 < sizeF fs ∨ 800 < va) := fun h => hng (.inr h)
 have hm : (bsOf fs).length ≤ 1000000 := by omega
 have hv0 : validN nm pa va fs = 0 := Classical.not_not.1 c9
 obtain ⟨hgood, hvl, hsz⟩ := valid_good hv0
 have hpar := hgood.par
 obtain ⟨n, hva⟩ := Int.eq_ofNat_of_zero_le (show 0 ≤ va by omega)
 obtain ⟨pn, hpn⟩ := Int.eq_ofNat_of_zero_le hpar.1
 have hn2 : n ≤ 20000 := by omega
 have hvn : va.toNat = n := by omega
 refine zsk <| zsq <| zkp [(1, (pT b1 0))] ?_
 intro aC fr
 refine zdj (N := 78) (env0 := [(1, (pT b1 0))]) (specAt [.det (fA nm wk pa va A c fs), Spec.free, .det (fA nm wk pa va A c fs), Spec.free, Spec.free, Spec.free]) (fun ls vs w_ => match ls 5 with | true => (∃ (Ai : Option Addr) (ni : Nat) (ci : Nat) (Ri : List RowV) (Ao : Option Addr) (no : Nat) (co : Nat) (Ro : List RowV), vs 1 = (.slice Ai ni ci) ∧ vs 3 = (.slice Ao no co) ∧ vs 4 = (.slice Ai ni ci) ∧ vs 5 = (.slice Ao no co) ∧ (ni = (ioL true nm pa va fs).length) ∧ (FamOf (Value.int .i64) Ri (ioL true nm pa va fs)) ∧ (no = (ioL false nm pa va fs).length) ∧ (FamOf (Value.int .i64) Ro (ioL false nm pa va fs)) ∧ Mem noS w w_ [.blk b1 24 (fV nm wk pa va A c fs), .fam 3 Ri, .row 36 1 Ai ni ci (slv Ri), .fam 3 Ro, .row 36 1 Ao no co (slv Ro)]) | false => (match ls 4 with | true => (∃ (Ai : Option Addr) (ni : Nat) (ci : Nat) (Ri : List RowV) (Ao : Option Addr) (no : Nat) (co : Nat) (Ro : List RowV), vs 1 = (.slice Ai ni ci) ∧ vs 3 = (.slice Ao no co) ∧ vs 4 = (.slice Ai ni ci) ∧ (ni = (ioL true nm pa va fs).length) ∧ (FamOf (Value.int .i64) Ri (ioL true nm pa va fs)) ∧ (no = (ioL false nm pa va fs).length) ∧ (FamOf (Value.int .i64) Ro (ioL false nm pa va fs)) ∧ Mem noS w w_ [.blk b1 24 (fV nm wk pa va A c fs), .fam 3 Ri, .row 36 1 Ai ni ci (slv Ri), .fam 3 Ro, .row 36 1 Ao no co (slv Ro)]) | false => (match ls 3 with | true => (∃ (Ai : Option Addr) (ni : Nat) (ci : Nat) (Ri : List RowV) (Ao : Option Addr) (no : Nat) (co : Nat) (Ro : List RowV), vs 1 = (.slice Ai ni ci) ∧ vs 3 = (.slice Ao no co) ∧ (ni = (ioL true nm pa va fs).length) ∧ (FamOf (Value.int .i64) Ri (ioL true nm pa va fs)) ∧ (no = (ioL false nm pa va fs).length) ∧ (FamOf (Value.int .i64) Ro (ioL false nm pa va fs)) ∧ Mem noS w w_ [.blk b1 24 (fV nm wk pa va A c fs), .fam 3 Ri, .row 36 1 Ai ni ci (slv Ri), .fam 3 Ro, .row 36 1 Ao no co (slv Ro)]) | false => (match ls 1 with | true => (∃ (Ai : Option Addr) (ni : Nat) (ci : Nat) (Ri : List RowV), vs 1 = (.slice Ai ni ci) ∧ (ni = (ioL true nm pa va fs).length) ∧ (FamOf (Value.int .i64) Ri (ioL true nm pa va fs)) ∧ Mem noS w w_ [.blk b1 24 (fV nm wk pa va A c fs), .fam 3 Ri, .row 36 1 Ai ni ci (slv Ri)]) | false => (Mem noS w w_ [.blk b1 24 (fV nm wk pa va A c fs)]))))) fr (plain_ok (.det (.free (.det (.free (.free (.free .nil))))))) (hM8.then_ (Mem.drew _)) (la (la (la (la (la (la lz ?_) ?_) ?_) ?_) ?_) ?_) ?_
 intro aa_ w_ ls vs rest_ hJ hi_ hc_ hp hF
 refine ⟨true, opok_guard (g0 := none) (by kernel_rfl) (by kernel_rfl), fun _ => ?_, fun h => Bool.noConfusion h⟩
 replace hF : Fr aa_ 78 [(1, (pT b1 0))] := hF.kp [1]
 have f1 : ls 1 = false := notyet hc_ hi_ (n := 6) (by kernel_rfl)
 have f3 : ls 3 = false := notyet hc_ hi_ (n := 6) (by kernel_rfl)
 have f4 : ls 4 = false := notyet hc_ hi_ (n := 6) (by kernel_rfl)
 have f5 : ls 5 = false := notyet hc_ hi_ (n := 6) (by kernel_rfl)
 have hM_ := hJ
 simp only [f1, f3, f4, f5] at hM_
 refine From_loadS (by kernel_rfl : coreAt _ 0 = some (some 18, (.load 24 (.tmp 1)), 24, none)) hF (by kernel_rfl) (by kernel_rfl) (k' := 1) rfl (ad := ⟨b1, 0, none⟩) (vs := (fV nm wk pa va A c fs)) (by kernel_rfl) (by kernel_rfl) (blk_cells (hM_.get 0 rfl)) ?_
 intro a2 ea _
 refine From_end (by kernel_rfl) ?_; exact op_doneJ (d := some 18) (by kernel_rfl) ea rfl hJ
 intro aa_ w_ ls vs rest_ hJ hi_ hc_ hp hF
 refine ⟨true, opok_guard (g0 := none) (by kernel_rfl) (by kernel_rfl), fun _ => ?_, fun h => Bool.noConfusion h⟩
 replace hF : Fr aa_ 78 [(18, (fA nm wk pa va A c fs))] := hF.kp [18]
 have f1 : ls 1 = false := hi_
 have f3 : ls 3 = false := notyet hc_ hi_ (n := 6) (by kernel_rfl)
 have f4 : ls 4 = false := notyet hc_ hi_ (n := 6) (by kernel_rfl)
 have f5 : ls 5 = false := notyet hc_ hi_ (n := 6) (by kernel_rfl)
 have hM_ := hJ
 simp only [f1, f3, f4, f5] at hM_
 refine From_call (by kernel_rfl : coreAt _ 0 = some (some 19, (.call { callee := (.value (.func 9)), args := #[(.tmp 18)], argTypes := #[24] }), 27, none)) hF (by kernel_rfl) (by kernel_rfl) (k' := 1) rfl (f := 9) (vs := [(fA nm wk pa va A c fs)]) (cap := []) (by kernel_rfl) (by kernel_rfl) (by kernel_rfl) (in_c nm wk pa va A c fs w_ hN hok (hA.at_ hM_) (hT.at_ hM_)) ?_
 rintro _ w2 ⟨Aip, nip, cip, Rip, rfl, hni, hfi, hm2⟩ a2 ea _
 have hm3 := hM_.call hm2
 refine From_end (by kernel_rfl) ?_; refine op_doneJ (d := some 19) (by kernel_rfl) ea trivial ?_
 show match ls 5 with | true => _ | false => (match ls 4 with | true => _ | false => (match ls 3 with | true => _ | false => (∃ (Ai : Option Addr) (ni : Nat) (ci : Nat) (Ri : List RowV), _)))
 rw [f5, f4, f3]
 exact ⟨Aip, nip, cip, Rip, rfl, hni, hfi, hm3⟩
 intro aa_ w_ ls vs rest_ hJ hi_ hc_ hp hF
 refine ⟨true, opok_guard (g0 := none) (by kernel_rfl) (by kernel_rfl), fun _ => ?_, fun h => Bool.noConfusion h⟩
 replace hF : Fr aa_ 78 [(1, (pT b1 0))] := hF.kp [1]
 have f3 : ls 3 = false := notyet hc_ hi_ (n := 6) (by kernel_rfl)
 have f4 : ls 4 = false := notyet hc_ hi_ (n := 6) (by kernel_rfl)
 have f5 : ls 5 = false := notyet hc_ hi_ (n := 6) (by kernel_rfl)
 have hM_ := hJ
 simp only [f3, f4, f5] at hM_
 cases fu : ls 1
 simp only [fu] at hM_
 refine From_loadS (by kernel_rfl : coreAt _ 0 = some (some 20, (.load 24 (.tmp 1)), 24, none)) hF (by kernel_rfl) (by kernel_rfl) (k' := 1) rfl (ad := ⟨b1, 0, none⟩) (vs := (fV nm wk pa va A c fs)) (by kernel_rfl) (by kernel_rfl) (blk_cells (hM_.get 0 rfl)) ?_
 intro a2 ea _
 refine From_end (by kernel_rfl) ?_; exact op_doneJ (d := some 20) (by kernel_rfl) ea rfl hJ
 simp only [fu] at hM_
 obtain ⟨_, _, _, _, _, _, _, hM_⟩ := hM_
 refine From_loadS (by kernel_rfl : coreAt _ 0 = some (some 20, (.load 24 (.tmp 1)), 24, none)) hF (by kernel_rfl) (by kernel_rfl) (k' := 1) rfl (ad := ⟨b1, 0, none⟩) (vs := (fV nm wk pa va A c fs)) (by kernel_rfl) (by kernel_rfl) (blk_cells (hM_.get 0 rfl)) ?_
 intro a2 ea _
 refine From_end (by kernel_rfl) ?_; exact op_doneJ (d := some 20) (by kernel_rfl) ea rfl hJ
 intro aa_ w_ ls vs rest_ hJ hi_ hc_ hp hF
 refine ⟨true, opok_guard (g0 := none) (by kernel_rfl) (by kernel_rfl), fun _ => ?_, fun h => Bool.noConfusion h⟩
 replace hF : Fr aa_ 78 [(20, (fA nm wk pa va A c fs))] := hF.kp [20]
 have f1 : ls 1 = true := donebefore hc_ (fun k hk => (hp k hk).1) (n := 6) (by kernel_rfl)
 have f3 : ls 3 = false := hi_
 have f4 : ls 4 = false := notyet hc_ hi_ (n := 6) (by kernel_rfl)
 have f5 : ls 5 = false := notyet hc_ hi_ (n := 6) (by kernel_rfl)
 have hM_ := hJ
 simp only [f1, f3, f4, f5] at hM_
 obtain ⟨Aip, nip, cip, Rip, e1_, hni, hfi, hM_⟩ := hM_
 try rw [e1_] at hF
 refine From_call (by kernel_rfl : coreAt _ 0 = some (some 21, (.call { callee := (.value (.func 10)), args := #[(.tmp 20)], argTypes := #[24] }), 27, none)) hF (by kernel_rfl) (by kernel_rfl) (k' := 1) rfl (f := 10) (vs := [(fA nm wk pa va A c fs)]) (cap := []) (by kernel_rfl) (by kernel_rfl) (by kernel_rfl) (out_c nm wk pa va A c fs w_ hN hok (hA.at_ hM_) (hT.at_ hM_)) ?_
 rintro _ w2 ⟨Aop, nop, cop, Rop, rfl, hno, hfo, hm2⟩ a2 ea _
 have hm3 := hM_.call hm2
 refine From_end (by kernel_rfl) ?_; refine op_doneJ (d := some 21) (by kernel_rfl) ea trivial ?_
 show match ls 5 with | true => _ | false => (match ls 4 with | true => _ | false => (∃ (Ai : Option Addr) (ni : Nat) (ci : Nat) (Ri : List RowV) (Ao : Option Addr) (no : Nat) (co : Nat) (Ro : List RowV), _))
 rw [f5, f4]
 exact ⟨Aip, nip, cip, Rip, Aop, nop, cop, Rop, e1_, rfl, hni, hfi, hno, hfo, hm3⟩
 intro aa_ w_ ls vs rest_ hJ hi_ hc_ hp hF
 refine ⟨true, opok_guard (g0 := none) (by kernel_rfl) (by kernel_rfl), fun _ => ?_, fun h => Bool.noConfusion h⟩
 replace hF : Fr aa_ 78 [(19, vs 1)] := hF.kp [19]
 have f1 : ls 1 = true := donebefore hc_ (fun k hk => (hp k hk).1) (n := 6) (by kernel_rfl)
 have f3 : ls 3 = true := donebefore hc_ (fun k hk => (hp k hk).1) (n := 6) (by kernel_rfl)
 have f4 : ls 4 = false := hi_
 have f5 : ls 5 = false := notyet hc_ hi_ (n := 6) (by kernel_rfl)
 have hM_ := hJ
 simp only [f1, f3, f4, f5] at hM_
 obtain ⟨Aip, nip, cip, Rip, Aop, nop, cop, Rop, e1_, e3_, hni, hfi, hno, hfo, hM_⟩ := hM_
 try rw [e1_] at hF
 try rw [e3_] at hF
 have hm2 := hM_
 refine From_pure1 (by kernel_rfl : coreAt _ 0 = some (some 3, (.assign (.tmp 19)), 27, none)) hF (by kernel_rfl) (by kernel_rfl) (k' := 1) rfl (v := (.slice Aip nip cip)) (by kernel_rfl) ?_
 intro a2 ea _
 refine From_end (by kernel_rfl) ?_; refine op_doneJ (d := some 3) (by kernel_rfl) ea trivial ?_
 show match ls 5 with | true => _ | false => (∃ (Ai : Option Addr) (ni : Nat) (ci : Nat) (Ri : List RowV) (Ao : Option Addr) (no : Nat) (co : Nat) (Ro : List RowV), _)
 rw [f5]
 exact ⟨Aip, nip, cip, Rip, Aop, nop, cop, Rop, e1_, e3_, rfl, hni, hfi, hno, hfo, hm2⟩
 intro aa_ w_ ls vs rest_ hJ hi_ hc_ hp hF
 refine ⟨true, opok_guard (g0 := none) (by kernel_rfl) (by kernel_rfl), fun _ => ?_, fun h => Bool.noConfusion h⟩
 replace hF : Fr aa_ 78 [(21, vs 3)] := hF.kp [21]
 have f1 : ls 1 = true := donebefore hc_ (fun k hk => (hp k hk).1) (n := 6) (by kernel_rfl)
 have f3 : ls 3 = true := donebefore hc_ (fun k hk => (hp k hk).1) (n := 6) (by kernel_rfl)
 have f4 : ls 4 = true := donebefore hc_ (fun k hk => (hp k hk).1) (n := 6) (by kernel_rfl)
 have f5 : ls 5 = false := hi_
 have hM_ := hJ
 simp only [f1, f3, f4, f5] at hM_
 obtain ⟨Aip, nip, cip, Rip, Aop, nop, cop, Rop, e1_, e3_, e4_, hni, hfi, hno, hfo, hM_⟩ := hM_
 try rw [e1_] at hF
 try rw [e3_] at hF
 try rw [e4_] at hF
 have hm2 := hM_
 refine From_pure1 (by kernel_rfl : coreAt _ 0 = some (some 4, (.assign (.tmp 21)), 27, none)) hF (by kernel_rfl) (by kernel_rfl) (k' := 1) rfl (v := (.slice Aop nop cop)) (by kernel_rfl) ?_
 intro a2 ea _
 refine From_end (by kernel_rfl) ?_; refine op_doneJ (d := some 4) (by kernel_rfl) ea trivial ?_
 show ∃ (Ai : Option Addr) (ni : Nat) (ci : Nat) (Ri : List RowV) (Ao : Option Addr) (no : Nat) (co : Nat) (Ro : List RowV), _
 exact ⟨Aip, nip, cip, Rip, Aop, nop, cop, Rop, e1_, e3_, e4_, rfl, hni, hfi, hno, hfo, hm2⟩
 intro aC w17 ls vs hall hM18 hv fr
 simp only [show ls 5 = true from hall 5 (by decide)] at hM18
 revert aC; refine zkp [(1, (pT b1 0)), (3, vs 4), (4, vs 5)] ?_
 obtain ⟨Ai, ni, ci, Ri, Ao, no, co, Ro, e1_, e3_, e4_, e5_, hni, hfi, hno, hfo, hM18⟩ := hM18
 try rw [e1_]
 try rw [e3_]
 try rw [e4_]
 try rw [e5_]
 clear e1_ e3_ e4_ e5_
 clear hall hv fr aC hM8; clear vs ls
 refine zsq <| zsr ?_
 have hni2 : ni = fs.length := by rw [hni, ioL_yes hv0, liveB_len]
 have hno2 : no = fs.length := by rw [hno, ioL_yes hv0, liveB_len]
 refine zpn 1 <| zfe <| zbk 0 ?_
 intro aC fr
 refine zlp (fun n_ a_ w_ => ∃ (i : Nat) (R1 : List RowV) (R2 : List RowV) (l1 : List (List Int)) (l2 : List (List Int)), n_ = fs.length - i ∧ Fr a_ 78 [(1, (pT b1 0)), (3, (.slice Ai ni ci)), (4, (.slice Ao no co)), (5, (nV i))] ∧ Mem noS w w_ [.blk b1 24 (fV nm wk pa va A c fs), .fam 3 R1, .row 36 1 Ai ni ci (slv R1), .fam 3 R2, .row 36 1 Ao no co (slv R2)] ∧ (i ≤ fs.length) ∧ (FamOf (Value.int .i64) R1 l1) ∧ (FamOf (Value.int .i64) R2 l2) ∧ (l1.length = fs.length) ∧ (l2.length = fs.length) ∧ (∀ x, x ∈ l1 → x.length ≤ 1000000) ∧ (∀ x, x ∈ l2 → x.length ≤ 1000000)) (n := _) ⟨0, Ri, Ro, (ioL true nm pa va fs), (ioL false nm pa va fs), rfl, fr.kp [1, 3, 4, 5], hM18, by omega, hfi, hfo, by omega, by omega, io_small (by omega), io_small (by omega)⟩ ?_
 clear fr aC hM18; rintro n aC w21 ⟨i, R1, R2, l1, l2, rfl, fr, hM22, hi, hF1, hF2, hl1, hl2, hs1, hs2⟩
 revert aC
 refine zsq <| zsp <| zcD (((i : Int) : Int) < ((ni : Nat) : Int)) (fun c25 => ?_) (fun c25 => ?_)
 refine zsk <| zsq <| zbk 1 <| zsq <| zsr ?_
 obtain ⟨x1, hx1⟩ := get_of (l := l1) (i := i) (by omega)
 obtain ⟨A1, c1, hr1⟩ := hF1.get hx1
 have hxl1 := hs1 x1 (List.mem_of_getElem? hx1)
 have hM26 := hM22.od [4, 4, 4, 3, 4] 5
 have hM27 : Mem noS w w21 [.fam 3 (R1.set i nilV), .row 3 1 A1 x1.length c1 (ints x1), .blk b1 24 (fV nm wk pa va A c fs), .row 36 1 Ai ni ci (slv R1), .fam 3 R2, .row 36 1 Ao no co (slv R2)] := hM26.focus i hr1
 have hrl1 : i < R1.length := (List.getElem?_eq_some_iff.1 hr1).1
 refine zpn 1 <| zfe <| zbk 2 ?_
 intro aC fr
 refine zlp (fun n_ a_ w_ => ∃ (k : Nat) (y1 : List Int), n_ = x1.length - k ∧ Fr a_ 78 [(1, (pT b1 0)), (3, (.slice Ai ni ci)), (4, (.slice Ao no co)), (5, (nV i)), (6, (nV k))] ∧ Mem noS w w_ [.fam 3 (R1.set i nilV), .row 3 1 A1 x1.length c1 (ints y1), .blk b1 24 (fV nm wk pa va A c fs), .row 36 1 Ai ni ci (slv R1), .fam 3 R2, .row 36 1 Ao no co (slv R2)] ∧ (k ≤ x1.length) ∧ (y1.length = x1.length)) (n := _) ⟨0, x1, rfl, fr.kp [1, 3, 4, 5, 6], hM27, by omega, rfl⟩ ?_
 clear fr aC hM27; rintro n aC w30 ⟨k, y1, rfl, fr, hM31, hk, hy1⟩
 revert aC
 refine zsq <| zsr <| zpn 3 ?_
 obtain ⟨g35, rfl⟩ := row_some (hM31.get 3 rfl) (by omega)
 refine zix ⟨g35, 0, none⟩ ni 1 (i : Int) <| zld ((⟨g35, 0, none⟩ : Addr).add (((i : Int)).toNat * 1)) (.slice A1 x1.length c1) (rd_get1 (row_rd (hM31.get 3 rfl)) rfl (slv_get hr1)) <| zpn 2 <| zfe <| zcD (((k : Int) : Int) < ((x1.length : Nat) : Int)) (fun c36 => ?_) (fun c36 => ?_)
 refine zsk <| zsq <| zbk 3 <| zrg <| zpn 2 <| zix ⟨g35, 0, none⟩ ni 1 (i : Int) <| zld ((⟨g35, 0, none⟩ : Addr).add (((i : Int)).toNat * 1)) (.slice A1 x1.length c1) (rd_get1 (row_rd (hM31.get 3 rfl)) rfl (slv_get hr1)) <| zpn 1 ?_
 obtain ⟨g38, rfl⟩ := row_some (hM31.get 1 rfl) (by omega)
 refine zix ⟨g38, 0, none⟩ x1.length 1 (k : Int) <| zsw hM31 1 ((⟨g38, 0, none⟩ : Addr).add (((k : Int)).toNat * 1)) (((k : Int)).toNat * 1) (.int .i64 (-1)) rfl rfl (by omega) fun w39 hM40 => ?_
 replace hM40 := hM40.nf
 refine zfe <| zrg <| zpn 1 <| zar ((k : Int) + 1) <| zkp [(1, (pT b1 0)), (3, (.slice (sM g35) ni ci)), (4, (.slice Ao no co)), (5, (nV i)), (36, (.int .i64 ((k : Int) + 1)))] <| zpn 1 <| zfe ?_
 have hM41 : Mem noS w w39 [.fam 3 (R1.set i nilV), .row 3 1 (sM g38) x1.length c1 (ints (y1.set k (-1))), .blk b1 24 (fV nm wk pa va A c fs), .row 36 1 (sM g35) ni ci (slv R1), .fam 3 R2, .row 36 1 Ao no co (slv R2)] := hM40.cast (by simp only [ints_set, Int.toNat_natCast, Nat.mul_one])
 intro aC fr
 exact ⟨x1.length - (k + 1), by omega, k + 1, (y1.set k (-1)), rfl, fr.kp [1, 3, 4, 5, 6], hM41, by omega, by rw [List.length_set]; exact hy1⟩
 refine zex 2 <| zbh <| zsr ?_
 have hM44 := hM31.od [5, 5, 5, 5, 5, 5] 6
 have hM45 : Mem noS w w30 [.fam 3 (R1.set i ⟨A1, y1.length, c1, ints y1⟩), .blk b1 24 (fV nm wk pa va A c fs), .row 36 1 (sM g35) ni ci (slv R1), .fam 3 R2, .row 36 1 Ao no co (slv R2)] := (hM44.unfocus i (List.getElem?_set_self hrl1)).cast (by rw [set_twice, hy1])
 have hM46 : Mem noS w w30 [.fam 3 (R1.set i ⟨A1, y1.length, c1, ints y1⟩), .blk b1 24 (fV nm wk pa va A c fs), .row 36 1 (sM g35) ni ci (slv (R1.set i ⟨A1, y1.length, c1, ints y1⟩)), .fam 3 R2, .row 36 1 Ao no co (slv R2)] := hM45.cast (by rw [slv_same hr1 (ints y1), hy1])
 obtain ⟨x2, hx2⟩ := get_of (l := l2) (i := i) (by omega)
 obtain ⟨A2, c2, hr2⟩ := hF2.get hx2
 have hxl2 := hs2 x2 (List.mem_of_getElem? hx2)
 have hM47 := hM46.od [4, 3, 3, 3, 4] 5
 have hM48 : Mem noS w w30 [.fam 3 (R2.set i nilV), .row 3 1 A2 x2.length c2 (ints x2), .fam 3 (R1.set i ⟨A1, y1.length, c1, ints y1⟩), .blk b1 24 (fV nm wk pa va A c fs), .row 36 1 (sM g35) ni ci (slv (R1.set i ⟨A1, y1.length, c1, ints y1⟩)), .row 36 1 Ao no co (slv R2)] := hM47.focus i hr2
 have hrl2 : i < R2.length := (List.getElem?_eq_some_iff.1 hr2).1
 refine zpn 1 <| zfe <| zbk 4 ?_
 intro aC fr
 refine zlp (fun n_ a_ w_ => ∃ (k : Nat) (y2 : List Int), n_ = x2.length - k ∧ Fr a_ 78 [(1, (pT b1 0)), (3, (.slice (sM g35) ni ci)), (4, (.slice Ao no co)), (5, (nV i)), (7, (nV k))] ∧ Mem noS w w_ [.fam 3 (R2.set i nilV), .row 3 1 A2 x2.length c2 (ints y2), .fam 3 (R1.set i ⟨A1, y1.length, c1, ints y1⟩), .blk b1 24 (fV nm wk pa va A c fs), .row 36 1 (sM g35) ni ci (slv (R1.set i ⟨A1, y1.length, c1, ints y1⟩)), .row 36 1 Ao no co (slv R2)] ∧ (k ≤ x2.length) ∧ (y2.length = x2.length)) (n := _) ⟨0, x2, rfl, fr.kp [1, 3, 4, 5, 7], hM48, by omega, rfl⟩ ?_
 clear fr aC hM48; rintro n aC w51 ⟨k, y2, rfl, fr, hM52, hk, hy2⟩
 revert aC
 refine zsq <| zsr <| zpn 3 ?_
 obtain ⟨g56, rfl⟩ := row_some (hM52.get 5 rfl) (by omega)
 refine zix ⟨g56, 0, none⟩ no 1 (i : Int) <| zld ((⟨g56, 0, none⟩ : Addr).add (((i : Int)).toNat * 1)) (.slice A2 x2.length c2) (rd_get1 (row_rd (hM52.get 5 rfl)) rfl (slv_get hr2)) <| zpn 2 <| zfe <| zcD (((k : Int) : Int) < ((x2.length : Nat) : Int)) (fun c57 => ?_) (fun c57 => ?_)
 refine zsk <| zsq <| zbk 5 <| zrg <| zpn 2 <| zix ⟨g56, 0, none⟩ no 1 (i : Int) <| zld ((⟨g56, 0, none⟩ : Addr).add (((i : Int)).toNat * 1)) (.slice A2 x2.length c2) (rd_get1 (row_rd (hM52.get 5 rfl)) rfl (slv_get hr2)) <| zpn 1 ?_
 obtain ⟨g59, rfl⟩ := row_some (hM52.get 1 rfl) (by omega)
 refine zix ⟨g59, 0, none⟩ x2.length 1 (k : Int) <| zsw hM52 1 ((⟨g59, 0, none⟩ : Addr).add (((k : Int)).toNat * 1)) (((k : Int)).toNat * 1) (.int .i64 (-1)) rfl rfl (by omega) fun w60 hM61 => ?_
 replace hM61 := hM61.nf
 refine zfe <| zrg <| zpn 1 <| zar ((k : Int) + 1) <| zkp [(1, (pT b1 0)), (3, (.slice (sM g35) ni ci)), (4, (.slice (sM g56) no co)), (5, (nV i)), (51, (.int .i64 ((k : Int) + 1)))] <| zpn 1 <| zfe ?_
 have hM62 : Mem noS w w60 [.fam 3 (R2.set i nilV), .row 3 1 (sM g59) x2.length c2 (ints (y2.set k (-1))), .fam 3 (R1.set i ⟨A1, y1.length, c1, ints y1⟩), .blk b1 24 (fV nm wk pa va A c fs), .row 36 1 (sM g35) ni ci (slv (R1.set i ⟨A1, y1.length, c1, ints y1⟩)), .row 36 1 (sM g56) no co (slv R2)] := hM61.cast (by simp only [ints_set, Int.toNat_natCast, Nat.mul_one])
 intro aC fr
 exact ⟨x2.length - (k + 1), by omega, k + 1, (y2.set k (-1)), rfl, fr.kp [1, 3, 4, 5, 7], hM62, by omega, by rw [List.length_set]; exact hy2⟩
 refine zex 4 <| zbh <| zrg ?_
 have hM65 := hM52.od [5, 5, 5, 5, 5, 5] 6
 have hM66 : Mem noS w w51 [.fam 3 (R2.set i ⟨A2, y2.length, c2, ints y2⟩), .fam 3 (R1.set i ⟨A1, y1.length, c1, ints y1⟩), .blk b1 24 (fV nm wk pa va A c fs), .row 36 1 (sM g35) ni ci (slv (R1.set i ⟨A1, y1.length, c1, ints y1⟩)), .row 36 1 (sM g56) no co (slv R2)] := (hM65.unfocus i (List.getElem?_set_self hrl2)).cast (by rw [set_twice, hy2])
 have hM67 : Mem noS w w51 [.fam 3 (R2.set i ⟨A2, y2.length, c2, ints y2⟩), .fam 3 (R1.set i ⟨A1, y1.length, c1, ints y1⟩), .blk b1 24 (fV nm wk pa va A c fs), .row 36 1 (sM g35) ni ci (slv (R1.set i ⟨A1, y1.length, c1, ints y1⟩)), .row 36 1 (sM g56) no co (slv (R2.set i ⟨A2, y2.length, c2, ints y2⟩))] := hM66.cast (by rw [slv_same hr2 (ints y2), hy2])
 refine zpn 1 <| zar ((i : Int) + 1) <| zpn 1 <| zfe ?_
 have hM68 := hM67.od [4, 1, 4, 3, 4] 5
 intro aC fr
 exact ⟨fs.length - (i + 1), by omega, i + 1, (R1.set i ⟨A1, y1.length, c1, ints y1⟩), (R2.set i ⟨A2, y2.length, c2, ints y2⟩), (l1.set i y1), (l2.set i y2), rfl, fr.kp [1, 3, 4, 5], hM68, by omega, hF1.set rfl rfl, hF2.set rfl rfl, by rw [List.length_set]; exact hl1, by rw [List.length_set]; exact hl2, fun x hx => (List.mem_or_eq_of_mem_set hx).elim (hs1 x) (fun e => by rw [e, hy1]; exact hxl1), fun x hx => (List.mem_or_eq_of_mem_set hx).elim (hs2 x) (fun e => by rw [e, hy2]; exact hxl2)⟩
 refine zex 0 <| zbh <| zsr <| zls ⟨b1, 0, none⟩ (fV nm wk pa va A c fs) (blk_cells (hM22.get 0 rfl)) <| zcl (rlive_c n nm wk pa va A c fs w21 hN hok (hA.at_ hM22) hva hn2 hgood) ?_
 rintro _ w75 ⟨A71, c72, A73, c74, rI, rO, SI, SO, rfl, hRI, hRO, hLV, hM76x⟩
 have hM76 := hM22.cl hM76x
 refine zpn 5 <| zfe <| zsr <| zls ⟨b1, 0, none⟩ (fV nm wk pa va A c fs) (blk_cells (hM76.get 0 rfl)) <| zcl (in_c nm wk pa va A c fs w75 hN hok (hA.at_ hM76) (hT.at_ hM76)) ?_
 rintro _ w77 ⟨Ai3, ni3, ci3, Ri3, rfl, hni3, hfi3, hM78x⟩
 have hM78 := hM76.cl hM78x
 have hni4 : ni3 = fs.length := by rw [hni3, ioL_yes hv0, liveB_len]
 refine zpn 1 <| zcl (rlists_c n fs.length SI rI A71 c72 w77 hn2 (by omega) hRI (RO.row_rd (hM78.own_ro 6 rfl)) (hM78.own_ro 5 rfl)) ?_
 rintro _ w82 ⟨A79, c80, rows81, rfl, hfrows81, hM83x⟩
 have hM83 := hM78.cl hM83x
 refine zcl (llists_c (ioL true nm pa va fs) (liveL n fs.length SI) Ri3 rows81 Ai3 A79 ni3 fs.length ci3 c80 w82 hni3 (by rw [liveL_len]) (by rw [← hni3]; omega) (io_small (by omega)) hfi3 hfrows81 (RO.row_rd (hM83.own_ro 10 rfl)) (RO.row_rd (hM83.own_ro 12 rfl)) (hM83.own_ro 9 rfl) (hM83.own_ro 11 rfl)) ?_
 rintro _ w84 ⟨rfl, hM85x⟩
 have hM85 := hM83.cl hM85x
 obtain ⟨B86, hB86⟩ : ∃ B : Bool, B = decide ((ioL true nm pa va fs) = (liveL n fs.length SI)) := ⟨_, rfl⟩
 refine zkp [(1, (pT b1 0)), (9, (.slice A73 fs.length c74)), (64, (.slice Ai3 ni3 ci3)), (66, (.slice A79 fs.length c80)), (67, (.bool (decide ((ioL true nm pa va fs) = (liveL n fs.length SI)))))] ?_
 rw [← hB86]
 obtain rfl : B86 = true := by rw [hB86]; exact (decide_eq_true (by rw [ioL_yes hv0, hvn, live_in hLV]))
 clear hB86
 refine zpn 1 <| zls ⟨b1, 0, none⟩ (fV nm wk pa va A c fs) (blk_cells (hM85.get 0 rfl)) <| zcl (out_c nm wk pa va A c fs w84 hN hok (hA.at_ hM85) (hT.at_ hM85)) ?_
 rintro _ w87 ⟨Ao3, no3, co3, Ro3, rfl, hno3, hfo3, hM88x⟩
 have hM88 := hM85.cl hM88x
 have hno4 : no3 = fs.length := by rw [hno3, ioL_yes hv0, liveB_len]
 refine zpn 1 <| zcl (rlists_c n fs.length SO rO A73 c74 w87 hn2 (by omega) hRO (RO.row_rd (hM88.own_ro 8 rfl)) (hM88.own_ro 7 rfl)) ?_
 rintro _ w92 ⟨A89, c90, rows91, rfl, hfrows91, hM93x⟩
 have hM93 := hM88.cl hM93x
 refine zcl (llists_c (ioL false nm pa va fs) (liveL n fs.length SO) Ro3 rows91 Ao3 A89 no3 fs.length co3 c90 w92 hno3 (by rw [liveL_len]) (by rw [← hno3]; omega) (io_small (by omega)) hfo3 hfrows91 (RO.row_rd (hM93.own_ro 14 rfl)) (RO.row_rd (hM93.own_ro 16 rfl)) (hM93.own_ro 13 rfl) (hM93.own_ro 15 rfl)) ?_
 rintro _ w94 ⟨rfl, hM95x⟩
 have hM95 := hM93.cl hM95x
 obtain ⟨B96, hB96⟩ : ∃ B : Bool, B = decide ((ioL false nm pa va fs) = (liveL n fs.length SO)) := ⟨_, rfl⟩
 refine zkp [(68, (.bool true)), (70, (.slice Ao3 no3 co3)), (72, (.slice A89 fs.length c90)), (73, (.bool (decide ((ioL false nm pa va fs) = (liveL n fs.length SO)))))] ?_
 rw [← hB96]
 obtain rfl : B96 = true := by rw [hB96]; exact (decide_eq_true (by rw [ioL_yes hv0, hvn, live_out hLV]))
 clear hB96
 refine zpn 2 <| zcl (awake25_c w94 (hT.at_ hM95)) ?_
 rintro _ w97 ⟨rfl, hM98x⟩
 have hM98 := hM95.cl hM98x
 refine zpn 2 <| zfe <| zre <| zo1 (.bool true) ?_
 have hM99 := hM98.od [] 0
 exact ⟨rfl, hM99⟩
 have c6 : (great5Q va fs) := iB6.1 rfl
 refine zpn 4 <| zfe <| zcT <| zsr <| zcl (awake25_c w4 (hT.at_ hM5)) ?_
 rintro _ w100 ⟨rfl, hM101x⟩
 have hM101 := hM5.cl hM101x
 refine zpn 1 <| zfe <| zre <| zo1 (.bool true) ?_
 have hM102 := hM101.od [] 0
 exact ⟨rfl, hM102⟩
end Go.Proofs.YtlfbloadopeamaaDoor
