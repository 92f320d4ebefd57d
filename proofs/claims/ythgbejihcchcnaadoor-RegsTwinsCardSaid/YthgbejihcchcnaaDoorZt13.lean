/-
  Texts of the proof, part 13.
-/
import Derived.Test.YthgbejihcchcnaaDoorZt12
set_option maxRecDepth 10000
namespace Go.Proofs.YthgbejihcchcnaaDoor
open Go.Mor
set_option maxHeartbeats 2000000 in
theorem of_c (n : Nat) (nm : ByteArray) (wk : Bool) (pa va : Int) (A : Option Addr) (c : Nat) (fs : List FBlk) (w : World) (hN : fs.length ≤ 1000) (hok : FOk fs) (hA : RO noS w (.fn A fs)) (hva : va = (n : Int)) (hn2 : n ≤ 20000) (hgood : GoodQ nm pa va fs) :
    Calls Tryd.prog 20 #[(fA nm wk pa va A c fs)] w (Ret fun v w' => ∃ A1 c1 A2 c2 rI rO SI SO, v = .agg #[.slice A1 (bsOf fs).length c1, .slice A2 (bsOf fs).length c2] ∧ SetsR n fs.length rI SI ∧ SetsR n fs.length rO SO ∧ LiveS n fs SI SO ∧ Mem noS w w' [.fam 88 rI, .row 83 1 A1 (bsOf fs).length c1 (slv rI), .fam 88 rO, .row 83 1 A2 (bsOf fs).length c2 (slv rO)]) := by
 have hbl := bsOf_len fs
 have hm : (bsOf fs).length ≤ 1000000 := by omega
 have hB := hA.bs
 have hvr := good_vr hgood hva
 have hpos := hgood.pos
 have hnw := fun (w0 : World) => newset_c n w0 (by omega)
 simp only [nV, ← hva] at hnw
 refine zen 164 [(fA nm wk pa va A c fs)] Tryd.func20 ?_
 have hM := Mem.init w
 refine zsr <| zbx hM 24 (fA nm wk pa va A c fs) (fV nm wk pa va A c fs) fun b1 w2 hb1 M3 => ?_
 replace M3 := M3.nf
 clear hM
 refine zal M3 42 [(.slice none 0 0), (.slice none 0 0)] fun b4 w5 hb4 M6 => ?_
 replace M6 := M6.nf
 refine zfe <| zsr <| zpn 1 <| zld ⟨b1, 4, none⟩ (.slice A ((bsOf fs).length) c) (blk_cell (M6.get 0 rfl) rfl) <| zpn 2 <| zfe <| zsq <| zkp [(1, (pT b1 0)), (2, (pT b4 0)), (3, (.int .i64 (((bsOf fs).length : Nat) : Int)))] ?_
 intro aC fr
 refine zdj (N := 164) (env0 := [(1, (pT b1 0)), (2, (pT b4 0)), (3, (.int .i64 (((bsOf fs).length : Nat) : Int)))]) (specAt [.det (.int .i64 (((bsOf fs).length : Nat) : Int)), Spec.free, .det (.int .i64 (((bsOf fs).length : Nat) : Int)), Spec.free, Spec.free, Spec.free, .det undef]) (fun ls vs w_ => match ls 6 with | true => (∃ (g7 : Nat) (g8 : Nat) (b9 : Nat), vs 1 = (.slice (sM g7) ((bsOf fs).length) ((bsOf fs).length)) ∧ vs 3 = (.slice (sM g8) ((bsOf fs).length) ((bsOf fs).length)) ∧ vs 4 = (.agg #[(.slice (sM g7) ((bsOf fs).length) ((bsOf fs).length)), (.slice (sM g8) ((bsOf fs).length) ((bsOf fs).length))]) ∧ vs 5 = (pT b9 0) ∧ Mem noS w w_ [.blk b1 24 (fV nm wk pa va A c fs), .blk b4 42 [(.slice none 0 0), (.slice none 0 0)], .row 83 1 (sM g7) ((bsOf fs).length) ((bsOf fs).length) (List.replicate ((bsOf fs).length) (.slice none 0 0)), .row 83 1 (sM g8) ((bsOf fs).length) ((bsOf fs).length) (List.replicate ((bsOf fs).length) (.slice none 0 0)), .blk b9 42 [(.slice (sM g7) ((bsOf fs).length) ((bsOf fs).length)), (.slice (sM g8) ((bsOf fs).length) ((bsOf fs).length))]]) | false => (∃ (g7 : Nat) (g8 : Nat) (b9 : Nat), (ls 1 = true → vs 1 = (.slice (sM g7) ((bsOf fs).length) ((bsOf fs).length))) ∧ (ls 3 = true → vs 3 = (.slice (sM g8) ((bsOf fs).length) ((bsOf fs).length))) ∧ (ls 4 = true → vs 4 = (.agg #[(.slice (sM g7) ((bsOf fs).length) ((bsOf fs).length)), (.slice (sM g8) ((bsOf fs).length) ((bsOf fs).length))])) ∧ (ls 5 = true → vs 5 = (pT b9 0)) ∧ Mem noS w w_ ([.blk b1 24 (fV nm wk pa va A c fs), .blk b4 42 [(.slice none 0 0), (.slice none 0 0)]] ++ groupL [(ls 1, .row 83 1 (sM g7) ((bsOf fs).length) ((bsOf fs).length) (List.replicate ((bsOf fs).length) (.slice none 0 0))), (ls 3, .row 83 1 (sM g8) ((bsOf fs).length) ((bsOf fs).length) (List.replicate ((bsOf fs).length) (.slice none 0 0))), (ls 5, .blk b9 42 [(.slice none 0 0), (.slice none 0 0)])]))) fr (plain_ok (.det (.free (.det (.free (.free (.free (.det .nil)))))))) ⟨0, 0, 0, fun h => Bool.noConfusion h, fun h => Bool.noConfusion h, fun h => Bool.noConfusion h, fun h => Bool.noConfusion h, M6.then_ (Mem.drew _)⟩ (la (la (la (la (la (la (la lz (dPJ fun _ _ _ _ h => h)) ?_) (dPJ fun _ _ _ _ h => h)) ?_) ?_) ?_) ?_) ?_
 intro aa_ w_ ls vs rest_ hJ hi_ hc_ hp hF
 refine okG (g0 := none) ?_
 replace hF : Fr aa_ 164 [(25, (.int .i64 (((bsOf fs).length : Nat) : Int)))] := hF.kp [25]
 have f6 : ls 6 = false := notyet hc_ hi_ (n := 7) (by kernel_rfl)
 have f1 : ls 1 = false := hi_
 have f4 : ls 4 = false := notyet hc_ hi_ (n := 7) (by kernel_rfl)
 have hM_ := hJ
 simp only [f6] at hM_
 obtain ⟨g7p, g8p, b9p, e1_, e3_, e4_, e5_, hM_⟩ := hM_
 rw [f1] at hM_
 refine zMk 26 40 (.tmp 25) (.tmp 25) 40 hF (e := 83) (bytes := 24) (z := (.slice none 0 0)) (n := ((bsOf fs).length)) (i := (((bsOf fs).length : Nat) : Int)) (by omega) (by simp only [maxLen]; omega) hM_ ?_
 intro g7q w2 _ _ hm2 _ a2 ea _
 refine From_end (by kernel_rfl) ?_; refine op_doneJ (d := some 26) (by kernel_rfl) ea trivial ?_
 show match ls 6 with | true => (∃ (g7 : Nat) (g8 : Nat) (b9 : Nat), ((.slice (sM g7q) ((bsOf fs).length) ((bsOf fs).length)) : Value) = (.slice (sM g7) ((bsOf fs).length) ((bsOf fs).length)) ∧ vs 3 = (.slice (sM g8) ((bsOf fs).length) ((bsOf fs).length)) ∧ vs 4 = (.agg #[(.slice (sM g7) ((bsOf fs).length) ((bsOf fs).length)), (.slice (sM g8) ((bsOf fs).length) ((bsOf fs).length))]) ∧ vs 5 = (pT b9 0) ∧ Mem noS w w2 [.blk b1 24 (fV nm wk pa va A c fs), .blk b4 42 [(.slice none 0 0), (.slice none 0 0)], .row 83 1 (sM g7) ((bsOf fs).length) ((bsOf fs).length) (List.replicate ((bsOf fs).length) (.slice none 0 0)), .row 83 1 (sM g8) ((bsOf fs).length) ((bsOf fs).length) (List.replicate ((bsOf fs).length) (.slice none 0 0)), .blk b9 42 [(.slice (sM g7) ((bsOf fs).length) ((bsOf fs).length)), (.slice (sM g8) ((bsOf fs).length) ((bsOf fs).length))]]) | false => (∃ (g7 : Nat) (g8 : Nat) (b9 : Nat), (true = true → ((.slice (sM g7q) ((bsOf fs).length) ((bsOf fs).length)) : Value) = (.slice (sM g7) ((bsOf fs).length) ((bsOf fs).length))) ∧ (ls 3 = true → vs 3 = (.slice (sM g8) ((bsOf fs).length) ((bsOf fs).length))) ∧ (ls 4 = true → vs 4 = (.agg #[(.slice (sM g7) ((bsOf fs).length) ((bsOf fs).length)), (.slice (sM g8) ((bsOf fs).length) ((bsOf fs).length))])) ∧ (ls 5 = true → vs 5 = (pT b9 0)) ∧ Mem noS w w2 ([.blk b1 24 (fV nm wk pa va A c fs), .blk b4 42 [(.slice none 0 0), (.slice none 0 0)]] ++ groupL [(true, .row 83 1 (sM g7) ((bsOf fs).length) ((bsOf fs).length) (List.replicate ((bsOf fs).length) (.slice none 0 0))), (ls 3, .row 83 1 (sM g8) ((bsOf fs).length) ((bsOf fs).length) (List.replicate ((bsOf fs).length) (.slice none 0 0))), (ls 5, .blk b9 42 [(.slice none 0 0), (.slice none 0 0)])]))
 rw [f6]
 exact ⟨g7q, g8p, b9p, fun _ => rfl, e3_, fun h => Bool.noConfusion (f4.symm.trans h), e5_, hm2.group 0 rfl⟩
 intro aa_ w_ ls vs rest_ hJ hi_ hc_ hp hF
 refine okG (g0 := none) ?_
 replace hF : Fr aa_ 164 [(27, (.int .i64 (((bsOf fs).length : Nat) : Int)))] := hF.kp [27]
 have f6 : ls 6 = false := notyet hc_ hi_ (n := 7) (by kernel_rfl)
 have f3 : ls 3 = false := hi_
 have f4 : ls 4 = false := notyet hc_ hi_ (n := 7) (by kernel_rfl)
 have hM_ := hJ
 simp only [f6] at hM_
 obtain ⟨g7p, g8p, b9p, e1_, e3_, e4_, e5_, hM_⟩ := hM_
 rw [f3] at hM_
 refine zMk 28 40 (.tmp 27) (.tmp 27) 40 hF (e := 83) (bytes := 24) (z := (.slice none 0 0)) (n := ((bsOf fs).length)) (i := (((bsOf fs).length : Nat) : Int)) (by omega) (by simp only [maxLen]; omega) hM_ ?_
 intro g8q w2 _ _ hm2 _ a2 ea _
 refine From_end (by kernel_rfl) ?_; refine op_doneJ (d := some 28) (by kernel_rfl) ea trivial ?_
 show match ls 6 with | true => (∃ (g7 : Nat) (g8 : Nat) (b9 : Nat), vs 1 = (.slice (sM g7) ((bsOf fs).length) ((bsOf fs).length)) ∧ ((.slice (sM g8q) ((bsOf fs).length) ((bsOf fs).length)) : Value) = (.slice (sM g8) ((bsOf fs).length) ((bsOf fs).length)) ∧ vs 4 = (.agg #[(.slice (sM g7) ((bsOf fs).length) ((bsOf fs).length)), (.slice (sM g8) ((bsOf fs).length) ((bsOf fs).length))]) ∧ vs 5 = (pT b9 0) ∧ Mem noS w w2 [.blk b1 24 (fV nm wk pa va A c fs), .blk b4 42 [(.slice none 0 0), (.slice none 0 0)], .row 83 1 (sM g7) ((bsOf fs).length) ((bsOf fs).length) (List.replicate ((bsOf fs).length) (.slice none 0 0)), .row 83 1 (sM g8) ((bsOf fs).length) ((bsOf fs).length) (List.replicate ((bsOf fs).length) (.slice none 0 0)), .blk b9 42 [(.slice (sM g7) ((bsOf fs).length) ((bsOf fs).length)), (.slice (sM g8) ((bsOf fs).length) ((bsOf fs).length))]]) | false => (∃ (g7 : Nat) (g8 : Nat) (b9 : Nat), (ls 1 = true → vs 1 = (.slice (sM g7) ((bsOf fs).length) ((bsOf fs).length))) ∧ (true = true → ((.slice (sM g8q) ((bsOf fs).length) ((bsOf fs).length)) : Value) = (.slice (sM g8) ((bsOf fs).length) ((bsOf fs).length))) ∧ (ls 4 = true → vs 4 = (.agg #[(.slice (sM g7) ((bsOf fs).length) ((bsOf fs).length)), (.slice (sM g8) ((bsOf fs).length) ((bsOf fs).length))])) ∧ (ls 5 = true → vs 5 = (pT b9 0)) ∧ Mem noS w w2 ([.blk b1 24 (fV nm wk pa va A c fs), .blk b4 42 [(.slice none 0 0), (.slice none 0 0)]] ++ groupL [(ls 1, .row 83 1 (sM g7) ((bsOf fs).length) ((bsOf fs).length) (List.replicate ((bsOf fs).length) (.slice none 0 0))), (true, .row 83 1 (sM g8) ((bsOf fs).length) ((bsOf fs).length) (List.replicate ((bsOf fs).length) (.slice none 0 0))), (ls 5, .blk b9 42 [(.slice none 0 0), (.slice none 0 0)])]))
 rw [f6]
 exact ⟨g7p, g8q, b9p, e1_, fun _ => rfl, fun h => Bool.noConfusion (f4.symm.trans h), e5_, hm2.group 1 rfl⟩
 intro aa_ w_ ls vs rest_ hJ hi_ hc_ hp hF
 refine okG (g0 := none) ?_
 replace hF : Fr aa_ 164 [(26, vs 1), (28, vs 3)] := hF.kp [26, 28]
 have f6 : ls 6 = false := notyet hc_ hi_ (n := 7) (by kernel_rfl)
 have f1 : ls 1 = true := donebefore hc_ (fun k hk => (hp k hk).1) (n := 7) (by kernel_rfl)
 have f3 : ls 3 = true := donebefore hc_ (fun k hk => (hp k hk).1) (n := 7) (by kernel_rfl)
 have f4 : ls 4 = false := hi_
 have hM_ := hJ
 simp only [f6] at hM_
 obtain ⟨g7p, g8p, b9p, e1_, e3_, e4_, e5_, hM_⟩ := hM_
 replace e1_ := e1_ f1; try rw [e1_] at hF
 replace e3_ := e3_ f3; try rw [e3_] at hF
 refine From_pure1 (by kernel_rfl : coreAt _ 0 = some (some 29, (.build 42 #[(0, (.tmp 26)), (1, (.tmp 28))]), 42, none)) hF (by kernel_rfl) (by kernel_rfl) (k' := 1) rfl (v := (.agg #[(.slice (sM g7p) ((bsOf fs).length) ((bsOf fs).length)), (.slice (sM g8p) ((bsOf fs).length) ((bsOf fs).length))])) (by kernel_rfl) ?_
 intro a2 ea _
 refine From_end (by kernel_rfl) ?_; refine op_doneJ (d := some 29) (by kernel_rfl) ea trivial ?_
 show match ls 6 with | true => (∃ (g7 : Nat) (g8 : Nat) (b9 : Nat), vs 1 = (.slice (sM g7) ((bsOf fs).length) ((bsOf fs).length)) ∧ vs 3 = (.slice (sM g8) ((bsOf fs).length) ((bsOf fs).length)) ∧ ((.agg #[(.slice (sM g7p) ((bsOf fs).length) ((bsOf fs).length)), (.slice (sM g8p) ((bsOf fs).length) ((bsOf fs).length))]) : Value) = (.agg #[(.slice (sM g7) ((bsOf fs).length) ((bsOf fs).length)), (.slice (sM g8) ((bsOf fs).length) ((bsOf fs).length))]) ∧ vs 5 = (pT b9 0) ∧ Mem noS w w_ [.blk b1 24 (fV nm wk pa va A c fs), .blk b4 42 [(.slice none 0 0), (.slice none 0 0)], .row 83 1 (sM g7) ((bsOf fs).length) ((bsOf fs).length) (List.replicate ((bsOf fs).length) (.slice none 0 0)), .row 83 1 (sM g8) ((bsOf fs).length) ((bsOf fs).length) (List.replicate ((bsOf fs).length) (.slice none 0 0)), .blk b9 42 [(.slice (sM g7) ((bsOf fs).length) ((bsOf fs).length)), (.slice (sM g8) ((bsOf fs).length) ((bsOf fs).length))]]) | false => (∃ (g7 : Nat) (g8 : Nat) (b9 : Nat), (ls 1 = true → vs 1 = (.slice (sM g7) ((bsOf fs).length) ((bsOf fs).length))) ∧ (ls 3 = true → vs 3 = (.slice (sM g8) ((bsOf fs).length) ((bsOf fs).length))) ∧ (true = true → ((.agg #[(.slice (sM g7p) ((bsOf fs).length) ((bsOf fs).length)), (.slice (sM g8p) ((bsOf fs).length) ((bsOf fs).length))]) : Value) = (.agg #[(.slice (sM g7) ((bsOf fs).length) ((bsOf fs).length)), (.slice (sM g8) ((bsOf fs).length) ((bsOf fs).length))])) ∧ (ls 5 = true → vs 5 = (pT b9 0)) ∧ Mem noS w w_ ([.blk b1 24 (fV nm wk pa va A c fs), .blk b4 42 [(.slice none 0 0), (.slice none 0 0)]] ++ groupL [(ls 1, .row 83 1 (sM g7) ((bsOf fs).length) ((bsOf fs).length) (List.replicate ((bsOf fs).length) (.slice none 0 0))), (ls 3, .row 83 1 (sM g8) ((bsOf fs).length) ((bsOf fs).length) (List.replicate ((bsOf fs).length) (.slice none 0 0))), (ls 5, .blk b9 42 [(.slice none 0 0), (.slice none 0 0)])]))
 rw [f6]
 exact ⟨g7p, g8p, b9p, fun _ => e1_, fun _ => e3_, fun _ => rfl, e5_, hM_⟩
 intro aa_ w_ ls vs rest_ hJ hi_ hc_ hp hF
 refine okG (g0 := none) ?_
 replace hF : Fr aa_ 164 [] := hF.kp []
 have f6 : ls 6 = false := notyet hc_ hi_ (n := 7) (by kernel_rfl)
 have f5 : ls 5 = false := hi_
 have hM_ := hJ
 simp only [f6] at hM_
 obtain ⟨g7p, g8p, b9p, e1_, e3_, e4_, e5_, hM_⟩ := hM_
 rw [f5] at hM_
 refine From_alloc (by kernel_rfl : coreAt _ 0 = some (some 4, (.alloc 42), 0, none)) hF (by kernel_rfl) (by kernel_rfl) (k' := 1) rfl (cs := [(.slice none 0 0), (.slice none 0 0)]) (by kernel_rfl) hM_ ?_
 intro b9q w2 _ _ hm2 _ a2 ea _
 refine From_end (by kernel_rfl) ?_; refine op_doneJ (d := some 4) (by kernel_rfl) ea trivial ?_
 show match ls 6 with | true => (∃ (g7 : Nat) (g8 : Nat) (b9 : Nat), vs 1 = (.slice (sM g7) ((bsOf fs).length) ((bsOf fs).length)) ∧ vs 3 = (.slice (sM g8) ((bsOf fs).length) ((bsOf fs).length)) ∧ vs 4 = (.agg #[(.slice (sM g7) ((bsOf fs).length) ((bsOf fs).length)), (.slice (sM g8) ((bsOf fs).length) ((bsOf fs).length))]) ∧ ((pT b9q 0) : Value) = (pT b9 0) ∧ Mem noS w w2 [.blk b1 24 (fV nm wk pa va A c fs), .blk b4 42 [(.slice none 0 0), (.slice none 0 0)], .row 83 1 (sM g7) ((bsOf fs).length) ((bsOf fs).length) (List.replicate ((bsOf fs).length) (.slice none 0 0)), .row 83 1 (sM g8) ((bsOf fs).length) ((bsOf fs).length) (List.replicate ((bsOf fs).length) (.slice none 0 0)), .blk b9 42 [(.slice (sM g7) ((bsOf fs).length) ((bsOf fs).length)), (.slice (sM g8) ((bsOf fs).length) ((bsOf fs).length))]]) | false => (∃ (g7 : Nat) (g8 : Nat) (b9 : Nat), (ls 1 = true → vs 1 = (.slice (sM g7) ((bsOf fs).length) ((bsOf fs).length))) ∧ (ls 3 = true → vs 3 = (.slice (sM g8) ((bsOf fs).length) ((bsOf fs).length))) ∧ (ls 4 = true → vs 4 = (.agg #[(.slice (sM g7) ((bsOf fs).length) ((bsOf fs).length)), (.slice (sM g8) ((bsOf fs).length) ((bsOf fs).length))])) ∧ (true = true → ((pT b9q 0) : Value) = (pT b9 0)) ∧ Mem noS w w2 ([.blk b1 24 (fV nm wk pa va A c fs), .blk b4 42 [(.slice none 0 0), (.slice none 0 0)]] ++ groupL [(ls 1, .row 83 1 (sM g7) ((bsOf fs).length) ((bsOf fs).length) (List.replicate ((bsOf fs).length) (.slice none 0 0))), (ls 3, .row 83 1 (sM g8) ((bsOf fs).length) ((bsOf fs).length) (List.replicate ((bsOf fs).length) (.slice none 0 0))), (true, .blk b9 42 [(.slice none 0 0), (.slice none 0 0)])]))
 rw [f6]
 exact ⟨g7p, g8p, b9q, e1_, e3_, e4_, fun _ => rfl, hm2.group 2 rfl⟩
 intro aa_ w_ ls vs rest_ hJ hi_ hc_ hp hF
 refine okG (g0 := none) ?_
 replace hF : Fr aa_ 164 [(4, vs 5), (29, vs 4)] := hF.kp [4, 29]
 have f6 : ls 6 = false := hi_
 have f1 : ls 1 = true := donebefore hc_ (fun k hk => (hp k hk).1) (n := 7) (by kernel_rfl)
 have f3 : ls 3 = true := donebefore hc_ (fun k hk => (hp k hk).1) (n := 7) (by kernel_rfl)
 have f4 : ls 4 = true := donebefore hc_ (fun k hk => (hp k hk).1) (n := 7) (by kernel_rfl)
 have f5 : ls 5 = true := donebefore hc_ (fun k hk => (hp k hk).1) (n := 7) (by kernel_rfl)
 have hM_ := hJ
 simp only [f6] at hM_
 obtain ⟨g7p, g8p, b9p, e1_, e3_, e4_, e5_, hM_⟩ := hM_
 replace e1_ := e1_ f1; try rw [e1_] at hF
 replace e3_ := e3_ f3; try rw [e3_] at hF
 replace e4_ := e4_ f4; try rw [e4_] at hF
 replace e5_ := e5_ f5; try rw [e5_] at hF
 rw [f1, f3, f5] at hM_
 change Mem noS w w_ [.blk b1 24 (fV nm wk pa va A c fs), .blk b4 42 [(.slice none 0 0), (.slice none 0 0)], .row 83 1 (sM g7p) ((bsOf fs).length) ((bsOf fs).length) (List.replicate ((bsOf fs).length) (.slice none 0 0)), .row 83 1 (sM g8p) ((bsOf fs).length) ((bsOf fs).length) (List.replicate ((bsOf fs).length) (.slice none 0 0)), .blk b9p 42 [(.slice none 0 0), (.slice none 0 0)]] at hM_
 refine From_storeS_blk (by kernel_rfl : coreAt _ 0 = some (none, (.store 42 (.tmp 4) (.tmp 29)), 0, none)) hF (by kernel_rfl) (by kernel_rfl) (k' := 1) rfl (b := b9p) (t0 := 42) (vs := [(.slice (sM g7p) ((bsOf fs).length) ((bsOf fs).length)), (.slice (sM g8p) ((bsOf fs).length) ((bsOf fs).length))]) (cs := [(.slice none 0 0), (.slice none 0 0)]) (by kernel_rfl) (by kernel_rfl) (by kernel_rfl) (by simp only [List.mem_cons, List.not_mem_nil, or_false]; intro v hv; rcases hv with rfl | rfl <;> first | rfl | assumption) hM_ 4 rfl rfl ?_
 intro w2 hm2 _ a2 ea _
 refine From_end (by kernel_rfl) ?_; refine op_doneJ (d := none) (by kernel_rfl) ea rfl ?_
 show ∃ (g7 : Nat) (g8 : Nat) (b9 : Nat), _
 exact ⟨g7p, g8p, b9p, e1_, e3_, e4_, e5_, hm2⟩
 intro aC w14 ls vs hall M15 hv fr
 simp only [show ls 6 = true from hall 6 (by decide)] at M15
 revert aC; refine zkp [(1, (pT b1 0)), (2, (pT b4 0)), (3, (.int .i64 (((bsOf fs).length : Nat) : Int))), (4, vs 5)] ?_
 obtain ⟨g7, g8, b9, e1_, e3_, e4_, e5_, M15⟩ := M15
 try rw [e1_]
 try rw [e3_]
 try rw [e4_]
 try rw [e5_]
 clear e1_ e3_ e4_ e5_
 clear hall hv fr aC M6; clear vs ls
 refine zsr <| zls ⟨b1, 0, none⟩ (fV nm wk pa va A c fs) (blk_cells (M15.get 0 rfl)) <| zcl (vs := #[(fA nm wk pa va A c fs)]) (all_c _ _ _ _ A c (bsOf fs) w14 hm (hB.at_ M15)) ?_
 rintro _ w19 ⟨A16, c17, rows18, rfl, hfrows18, M20x⟩
 have M20 := M15.cl M20x
 refine zpn 1 <| zfe <| zsq <| zsp <| zbk 0 ?_
 intro aC fr
 refine zlp (fun n_ a_ w_ => ∃ (k : Nat) (rowsI : List RowV) (rowsO : List RowV), n_ = fs.length - k ∧ Fr a_ 164 [(1, (pT b1 0)), (2, (pT b4 0)), (4, (pT b9 0)), (5, (.slice A16 ((bsOf fs).length) c17)), (32, (.int .i64 (((bsOf fs).length : Nat) : Int))), (33, (nV k))] ∧ Mem noS w w_ [.fam 88 rowsI, .fam 88 rowsO, .blk b1 24 (fV nm wk pa va A c fs), .blk b4 42 [(.slice none 0 0), (.slice none 0 0)], .row 83 1 (sM g7) ((bsOf fs).length) ((bsOf fs).length) (slv rowsI), .row 83 1 (sM g8) ((bsOf fs).length) ((bsOf fs).length) (slv rowsO), .blk b9 42 [(.slice (sM g7) ((bsOf fs).length) ((bsOf fs).length)), (.slice (sM g8) ((bsOf fs).length) ((bsOf fs).length))], .fam 3 rows18, .row 25 1 A16 ((bsOf fs).length) c17 (slv rows18)] ∧ (k ≤ fs.length) ∧ (SetsTo n fs.length k rowsI) ∧ (SetsTo n fs.length k rowsO)) (n := _) ⟨0, List.replicate (bsOf fs).length nilV, List.replicate (bsOf fs).length nilV, rfl, fr.kp [1, 2, 4, 5, 32, 33], (((((M20.call (Mem.nilfam _ 88 (bsOf fs).length)).call (Mem.nilfam _ 88 (bsOf fs).length)).front 7 rfl).front 8 rfl).cast (by simp [slv, nilV])), by omega, by rw [hbl]; exact SetsTo.start, by rw [hbl]; exact SetsTo.start⟩ ?_
 clear fr aC M20; rintro n aC w23 ⟨k, rowsI, rowsO, rfl, fr, M24, hk, hRI, hRO⟩
 revert aC
 refine zsp <| zsq <| zcD (((k : Int) : Int) < (((bsOf fs).length : Nat) : Int)) (fun c27 => ?_) (fun c27 => ?_)
 refine zsk <| zsq <| zbk 1 <| zsp <| zkp [(1, (pT b1 0)), (2, (pT b4 0)), (4, (pT b9 0)), (5, (.slice A16 ((bsOf fs).length) c17)), (6, (nV k)), (32, (.int .i64 (((bsOf fs).length : Nat) : Int))), (33, (nV k))] ?_
 intro aC fr
 refine zdj (N := 164) (env0 := [(1, (pT b1 0)), (2, (pT b4 0)), (4, (pT b9 0)), (5, (.slice A16 ((bsOf fs).length) c17)), (6, (nV k)), (32, (.int .i64 (((bsOf fs).length : Nat) : Int))), (33, (nV k))]) (specAt [.det (pT b9 0), .det (.slice (sM g7) ((bsOf fs).length) ((bsOf fs).length)), .det (nV k), .det (pT b9 1), .det (.slice (sM g8) ((bsOf fs).length) ((bsOf fs).length)), .det (nV k), .det (pT b1 3), .det (.int .i64 va), Spec.free, .det (pT b1 3), .det (.int .i64 va), Spec.free, .det (.pointer (some ((⟨g7, 0, none⟩ : Addr).add (((k : Int)).toNat * 1)))), .det undef, .det (.pointer (some ((⟨g8, 0, none⟩ : Addr).add (((k : Int)).toNat * 1)))), .det undef]) (fun ls vs w_ => match ls 15 with | true => (∃ (g28 : Nat) (g29 : Nat), vs 8 = (.slice (sM g28) ((n + 63) / 64) ((n + 63) / 64)) ∧ vs 11 = (.slice (sM g29) ((n + 63) / 64) ((n + 63) / 64)) ∧ Mem noS w w_ [.fam 88 rowsI, .fam 88 rowsO, .blk b1 24 (fV nm wk pa va A c fs), .blk b4 42 [(.slice none 0 0), (.slice none 0 0)], .row 83 1 (sM g7) ((bsOf fs).length) ((bsOf fs).length) ((slv rowsI).set (((k : Int)).toNat * 1) (.slice (sM g28) ((n + 63) / 64) ((n + 63) / 64))), .row 83 1 (sM g8) ((bsOf fs).length) ((bsOf fs).length) ((slv rowsO).set (((k : Int)).toNat * 1) (.slice (sM g29) ((n + 63) / 64) ((n + 63) / 64))), .blk b9 42 [(.slice (sM g7) ((bsOf fs).length) ((bsOf fs).length)), (.slice (sM g8) ((bsOf fs).length) ((bsOf fs).length))], .fam 3 rows18, .row 25 1 A16 ((bsOf fs).length) c17 (slv rows18), .row 88 1 (sM g28) ((n + 63) / 64) ((n + 63) / 64) (u64s (List.replicate ((n + 63) / 64) 0)), .row 88 1 (sM g29) ((n + 63) / 64) ((n + 63) / 64) (u64s (List.replicate ((n + 63) / 64) 0))]) | false => (match ls 13 with | true => (∃ (g28 : Nat) (g29 : Nat), vs 8 = (.slice (sM g28) ((n + 63) / 64) ((n + 63) / 64)) ∧ vs 11 = (.slice (sM g29) ((n + 63) / 64) ((n + 63) / 64)) ∧ Mem noS w w_ [.fam 88 rowsI, .fam 88 rowsO, .blk b1 24 (fV nm wk pa va A c fs), .blk b4 42 [(.slice none 0 0), (.slice none 0 0)], .row 83 1 (sM g7) ((bsOf fs).length) ((bsOf fs).length) ((slv rowsI).set (((k : Int)).toNat * 1) (.slice (sM g28) ((n + 63) / 64) ((n + 63) / 64))), .row 83 1 (sM g8) ((bsOf fs).length) ((bsOf fs).length) (slv rowsO), .blk b9 42 [(.slice (sM g7) ((bsOf fs).length) ((bsOf fs).length)), (.slice (sM g8) ((bsOf fs).length) ((bsOf fs).length))], .fam 3 rows18, .row 25 1 A16 ((bsOf fs).length) c17 (slv rows18), .row 88 1 (sM g28) ((n + 63) / 64) ((n + 63) / 64) (u64s (List.replicate ((n + 63) / 64) 0)), .row 88 1 (sM g29) ((n + 63) / 64) ((n + 63) / 64) (u64s (List.replicate ((n + 63) / 64) 0))]) | false => (match ls 11 with | true => (∃ (g28 : Nat) (g29 : Nat), vs 8 = (.slice (sM g28) ((n + 63) / 64) ((n + 63) / 64)) ∧ vs 11 = (.slice (sM g29) ((n + 63) / 64) ((n + 63) / 64)) ∧ Mem noS w w_ [.fam 88 rowsI, .fam 88 rowsO, .blk b1 24 (fV nm wk pa va A c fs), .blk b4 42 [(.slice none 0 0), (.slice none 0 0)], .row 83 1 (sM g7) ((bsOf fs).length) ((bsOf fs).length) (slv rowsI), .row 83 1 (sM g8) ((bsOf fs).length) ((bsOf fs).length) (slv rowsO), .blk b9 42 [(.slice (sM g7) ((bsOf fs).length) ((bsOf fs).length)), (.slice (sM g8) ((bsOf fs).length) ((bsOf fs).length))], .fam 3 rows18, .row 25 1 A16 ((bsOf fs).length) c17 (slv rows18), .row 88 1 (sM g28) ((n + 63) / 64) ((n + 63) / 64) (u64s (List.replicate ((n + 63) / 64) 0)), .row 88 1 (sM g29) ((n + 63) / 64) ((n + 63) / 64) (u64s (List.replicate ((n + 63) / 64) 0))]) | false => (match ls 8 with | true => (∃ (g28 : Nat), vs 8 = (.slice (sM g28) ((n + 63) / 64) ((n + 63) / 64)) ∧ Mem noS w w_ [.fam 88 rowsI, .fam 88 rowsO, .blk b1 24 (fV nm wk pa va A c fs), .blk b4 42 [(.slice none 0 0), (.slice none 0 0)], .row 83 1 (sM g7) ((bsOf fs).length) ((bsOf fs).length) (slv rowsI), .row 83 1 (sM g8) ((bsOf fs).length) ((bsOf fs).length) (slv rowsO), .blk b9 42 [(.slice (sM g7) ((bsOf fs).length) ((bsOf fs).length)), (.slice (sM g8) ((bsOf fs).length) ((bsOf fs).length))], .fam 3 rows18, .row 25 1 A16 ((bsOf fs).length) c17 (slv rows18), .row 88 1 (sM g28) ((n + 63) / 64) ((n + 63) / 64) (u64s (List.replicate ((n + 63) / 64) 0))]) | false => (Mem noS w w_ [.fam 88 rowsI, .fam 88 rowsO, .blk b1 24 (fV nm wk pa va A c fs), .blk b4 42 [(.slice none 0 0), (.slice none 0 0)], .row 83 1 (sM g7) ((bsOf fs).length) ((bsOf fs).length) (slv rowsI), .row 83 1 (sM g8) ((bsOf fs).length) ((bsOf fs).length) (slv rowsO), .blk b9 42 [(.slice (sM g7) ((bsOf fs).length) ((bsOf fs).length)), (.slice (sM g8) ((bsOf fs).length) ((bsOf fs).length))], .fam 3 rows18, .row 25 1 A16 ((bsOf fs).length) c17 (slv rows18)]))))) fr (plain_ok (.det (.det (.det (.det (.det (.det (.det (.det (.free (.det (.det (.free (.det (.det (.det (.det .nil))))))))))))))))) (M24.then_ (Mem.drew _)) (la (la (la (la (la (la (la (la (la (la (la (la (la (la (la (la lz (dPJ fun _ _ _ _ h => h)) (dLJ ⟨b9, 0, none⟩ (.slice (sM g7) ((bsOf fs).length) ((bsOf fs).length)) (fun _ _ _ _ h => h) ?_)) (dPJ fun _ _ _ _ h => h)) (dPJ fun _ _ _ _ h => h)) (dLJ ⟨b9, 1, none⟩ (.slice (sM g8) ((bsOf fs).length) ((bsOf fs).length)) (fun _ _ _ _ h => h) ?_)) (dPJ fun _ _ _ _ h => h)) (dPJ fun _ _ _ _ h => h)) (dLJ ⟨b1, 3, none⟩ (.int .i64 va) (fun _ _ _ _ h => h) ?_)) ?_) (dPJ fun _ _ _ _ h => h)) (dLJ ⟨b1, 3, none⟩ (.int .i64 va) (fun _ _ _ _ h => h) ?_)) ?_) (dIJ ⟨g7, 0, none⟩ ((bsOf fs).length) 1 (k : Int) fun _ _ _ _ h => h)) ?_) (dIJ ⟨g8, 0, none⟩ ((bsOf fs).length) 1 (k : Int) fun _ _ _ _ h => h)) ?_) ?_
 intro w_ ls vs hJ hi_ hc_ hp
 have f13 : ls 13 = false := notyet hc_ hi_ (n := 16) (by kernel_rfl)
 have f15 : ls 15 = false := notyet hc_ hi_ (n := 16) (by kernel_rfl)
 have hM_ := hJ
 simp only [f13, f15] at hM_
 cases fu11 : ls 11
 simp only [fu11] at hM_
 cases fu8 : ls 8
 simp only [fu8] at hM_
 exact (blk_cell (hM_.get 6 rfl) rfl)
 simp only [fu8] at hM_
 obtain ⟨_, _, hM_⟩ := hM_
 exact (blk_cell (hM_.get 6 rfl) rfl)
 simp only [fu11] at hM_
 obtain ⟨_, _, _, _, hM_⟩ := hM_
 exact (blk_cell (hM_.get 6 rfl) rfl)
 intro w_ ls vs hJ hi_ hc_ hp
 have f15 : ls 15 = false := notyet hc_ hi_ (n := 16) (by kernel_rfl)
 have hM_ := hJ
 simp only [f15] at hM_
 cases fu13 : ls 13
 simp only [fu13] at hM_
 cases fu11 : ls 11
 simp only [fu11] at hM_
 cases fu8 : ls 8
 simp only [fu8] at hM_
 exact (blk_cell (hM_.get 6 rfl) rfl)
 simp only [fu8] at hM_
 obtain ⟨_, _, hM_⟩ := hM_
 exact (blk_cell (hM_.get 6 rfl) rfl)
 simp only [fu11] at hM_
 obtain ⟨_, _, _, _, hM_⟩ := hM_
 exact (blk_cell (hM_.get 6 rfl) rfl)
 simp only [fu13] at hM_
 obtain ⟨_, _, _, _, hM_⟩ := hM_
 exact (blk_cell (hM_.get 6 rfl) rfl)
 intro w_ ls vs hJ hi_ hc_ hp
 have f8 : ls 8 = false := notyet hc_ hi_ (n := 16) (by kernel_rfl)
 have f11 : ls 11 = false := notyet hc_ hi_ (n := 16) (by kernel_rfl)
 have f13 : ls 13 = false := notyet hc_ hi_ (n := 16) (by kernel_rfl)
 have f15 : ls 15 = false := notyet hc_ hi_ (n := 16) (by kernel_rfl)
 have hM_ := hJ
 simp only [f8, f11, f13, f15] at hM_
 exact (blk_cell (hM_.get 2 rfl) rfl)
 intro aa_ w_ ls vs rest_ hJ hi_ hc_ hp hF
 refine okG (g0 := none) ?_
 replace hF : Fr aa_ 164 [(43, (.int .i64 va))] := hF.kp [43]
 have f8 : ls 8 = false := hi_
 have f11 : ls 11 = false := notyet hc_ hi_ (n := 16) (by kernel_rfl)
 have f13 : ls 13 = false := notyet hc_ hi_ (n := 16) (by kernel_rfl)
 have f15 : ls 15 = false := notyet hc_ hi_ (n := 16) (by kernel_rfl)
 have hM_ := hJ
 simp only [f8, f11, f13, f15] at hM_
 refine From_call (by kernel_rfl : coreAt _ 0 = some (some 44, (.call { callee := (.value (.func 51)), args := #[(.tmp 43)], argTypes := #[3] }), 83, none)) hF (by kernel_rfl) (by kernel_rfl) (k' := 1) rfl (f := 51) (vs := [(.int .i64 va)]) (cap := []) (by kernel_rfl) (by kernel_rfl) (by kernel_rfl) (hnw w_) ?_
 rintro _ w2 ⟨g28p, rfl, hm2⟩ a2 ea _
 have hm3 := hM_.call hm2
 refine From_end (by kernel_rfl) ?_; refine op_doneJ (d := some 44) (by kernel_rfl) ea trivial ?_
 show match ls 15 with | true => _ | false => (match ls 13 with | true => _ | false => (match ls 11 with | true => _ | false => (∃ (g28 : Nat), _)))
 rw [f15, f13, f11]
 exact ⟨g28p, rfl, hm3⟩
 intro w_ ls vs hJ hi_ hc_ hp
 have f11 : ls 11 = false := notyet hc_ hi_ (n := 16) (by kernel_rfl)
 have f13 : ls 13 = false := notyet hc_ hi_ (n := 16) (by kernel_rfl)
 have f15 : ls 15 = false := notyet hc_ hi_ (n := 16) (by kernel_rfl)
 have hM_ := hJ
 simp only [f11, f13, f15] at hM_
 cases fu : ls 8
 simp only [fu] at hM_
 exact (blk_cell (hM_.get 2 rfl) rfl)
 simp only [fu] at hM_
 obtain ⟨_, _, hM_⟩ := hM_
 exact (blk_cell (hM_.get 2 rfl) rfl)
 intro aa_ w_ ls vs rest_ hJ hi_ hc_ hp hF
 refine okG (g0 := none) ?_
 replace hF : Fr aa_ 164 [(46, (.int .i64 va))] := hF.kp [46]
 have f8 : ls 8 = true := donebefore hc_ (fun k hk => (hp k hk).1) (n := 16) (by kernel_rfl)
 have f11 : ls 11 = false := hi_
 have f13 : ls 13 = false := notyet hc_ hi_ (n := 16) (by kernel_rfl)
 have f15 : ls 15 = false := notyet hc_ hi_ (n := 16) (by kernel_rfl)
 have hM_ := hJ
 simp only [f8, f11, f13, f15] at hM_
 obtain ⟨g28p, e8_, hM_⟩ := hM_
 try rw [e8_] at hF
 refine From_call (by kernel_rfl : coreAt _ 0 = some (some 47, (.call { callee := (.value (.func 51)), args := #[(.tmp 46)], argTypes := #[3] }), 83, none)) hF (by kernel_rfl) (by kernel_rfl) (k' := 1) rfl (f := 51) (vs := [(.int .i64 va)]) (cap := []) (by kernel_rfl) (by kernel_rfl) (by kernel_rfl) (hnw w_) ?_
 rintro _ w2 ⟨g29p, rfl, hm2⟩ a2 ea _
 have hm3 := hM_.call hm2
 refine From_end (by kernel_rfl) ?_; refine op_doneJ (d := some 47) (by kernel_rfl) ea trivial ?_
 show match ls 15 with | true => _ | false => (match ls 13 with | true => _ | false => (∃ (g28 : Nat) (g29 : Nat), _))
 rw [f15, f13]
 exact ⟨g28p, g29p, e8_, rfl, hm3⟩
 intro aa_ w_ ls vs rest_ hJ hi_ hc_ hp hF
 refine okG (g0 := none) ?_
 replace hF : Fr aa_ 164 [(44, vs 8), (48, (.pointer (some ((⟨g7, 0, none⟩ : Addr).add (((k : Int)).toNat * 1)))))] := hF.kp [44, 48]
 have f8 : ls 8 = true := donebefore hc_ (fun k hk => (hp k hk).1) (n := 16) (by kernel_rfl)
 have f11 : ls 11 = true := donebefore hc_ (fun k hk => (hp k hk).1) (n := 16) (by kernel_rfl)
 have f13 : ls 13 = false := hi_
 have f15 : ls 15 = false := notyet hc_ hi_ (n := 16) (by kernel_rfl)
 have hM_ := hJ
 simp only [f8, f11, f13, f15] at hM_
 obtain ⟨g28p, g29p, e8_, e11_, hM_⟩ := hM_
 try rw [e8_] at hF
 try rw [e11_] at hF
 refine From_store_row (by kernel_rfl : coreAt _ 0 = some (none, (.store 83 (.tmp 48) (.tmp 44)), 0, none)) hF (by kernel_rfl) (by kernel_rfl) (k' := 1) rfl (ad := (⟨g7, 0, none⟩ : Addr)) (j := (((k : Int)).toNat * 1)) (e := 83) (size := 1) (n := ((bsOf fs).length)) (cap := ((bsOf fs).length)) (v := (.slice (sM g28p) ((n + 63) / 64) ((n + 63) / 64))) (xs := (slv rowsI)) (ad' := ((⟨g7, 0, none⟩ : Addr).add (((k : Int)).toNat * 1))) (by kernel_rfl) rfl (by kernel_rfl) (by kernel_rfl) rfl hM_ 4 rfl (by omega) ?_
 intro w2 hm2 _ a2 ea _
 refine From_end (by kernel_rfl) ?_; refine op_doneJ (d := none) (by kernel_rfl) ea rfl ?_
 show match ls 15 with | true => _ | false => (∃ (g28 : Nat) (g29 : Nat), _)
 rw [f15]
 exact ⟨g28p, g29p, e8_, e11_, hm2⟩
 intro aa_ w_ ls vs rest_ hJ hi_ hc_ hp hF
 refine okG (g0 := none) ?_
 replace hF : Fr aa_ 164 [(47, vs 11), (49, (.pointer (some ((⟨g8, 0, none⟩ : Addr).add (((k : Int)).toNat * 1)))))] := hF.kp [47, 49]
 have f8 : ls 8 = true := donebefore hc_ (fun k hk => (hp k hk).1) (n := 16) (by kernel_rfl)
 have f11 : ls 11 = true := donebefore hc_ (fun k hk => (hp k hk).1) (n := 16) (by kernel_rfl)
 have f13 : ls 13 = true := donebefore hc_ (fun k hk => (hp k hk).1) (n := 16) (by kernel_rfl)
 have f15 : ls 15 = false := hi_
 have hM_ := hJ
 simp only [f8, f11, f13, f15] at hM_
 obtain ⟨g28p, g29p, e8_, e11_, hM_⟩ := hM_
 try rw [e8_] at hF
 try rw [e11_] at hF
 refine From_store_row (by kernel_rfl : coreAt _ 0 = some (none, (.store 83 (.tmp 49) (.tmp 47)), 0, none)) hF (by kernel_rfl) (by kernel_rfl) (k' := 1) rfl (ad := (⟨g8, 0, none⟩ : Addr)) (j := (((k : Int)).toNat * 1)) (e := 83) (size := 1) (n := ((bsOf fs).length)) (cap := ((bsOf fs).length)) (v := (.slice (sM g29p) ((n + 63) / 64) ((n + 63) / 64))) (xs := (slv rowsO)) (ad' := ((⟨g8, 0, none⟩ : Addr).add (((k : Int)).toNat * 1))) (by kernel_rfl) rfl (by kernel_rfl) (by kernel_rfl) rfl hM_ 5 rfl (by omega) ?_
 intro w2 hm2 _ a2 ea _
 refine From_end (by kernel_rfl) ?_; refine op_doneJ (d := none) (by kernel_rfl) ea rfl ?_
 show ∃ (g28 : Nat) (g29 : Nat), _
 exact ⟨g28p, g29p, e8_, e11_, hm2⟩
 intro aC w34 ls vs hall M35 hv fr
 simp only [show ls 15 = true from hall 15 (by decide)] at M35
 revert aC; refine zkp [(1, (pT b1 0)), (2, (pT b4 0)), (4, (pT b9 0)), (5, (.slice A16 ((bsOf fs).length) c17)), (32, (.int .i64 (((bsOf fs).length : Nat) : Int))), (33, (nV k))] ?_
 obtain ⟨g28, g29, e8_, e11_, M35⟩ := M35
 try rw [e8_]
 try rw [e11_]
 clear e8_ e11_
 clear hall hv fr aC M24; clear vs ls
 refine zrg ?_
 have M36 := M35.od [10, 9, 9, 9, 9, 9, 9, 9, 9, 10, 10] 11
 have M37 : Mem noS w w34 [.fam 88 (rowsI.set k ⟨(sM g28), ((n + 63) / 64), ((n + 63) / 64), u64s (List.replicate ((n + 63) / 64) 0)⟩), .fam 88 rowsO, .blk b1 24 (fV nm wk pa va A c fs), .blk b4 42 [(.slice none 0 0), (.slice none 0 0)], .row 83 1 (sM g7) ((bsOf fs).length) ((bsOf fs).length) ((slv rowsI).set (((k : Int)).toNat * 1) (.slice (sM g28) ((n + 63) / 64) ((n + 63) / 64))), .row 83 1 (sM g8) ((bsOf fs).length) ((bsOf fs).length) ((slv rowsO).set (((k : Int)).toNat * 1) (.slice (sM g29) ((n + 63) / 64) ((n + 63) / 64))), .blk b9 42 [(.slice (sM g7) ((bsOf fs).length) ((bsOf fs).length)), (.slice (sM g8) ((bsOf fs).length) ((bsOf fs).length))], .fam 3 rows18, .row 25 1 A16 ((bsOf fs).length) c17 (slv rows18), .row 88 1 (sM g29) ((n + 63) / 64) ((n + 63) / 64) (u64s (List.replicate ((n + 63) / 64) 0))] := M36.unfocus k (hRI.nil k (Nat.le_refl _) (by omega))
 have M38 : Mem noS w w34 [.fam 88 (rowsI.set k ⟨(sM g28), ((n + 63) / 64), ((n + 63) / 64), u64s (List.replicate ((n + 63) / 64) 0)⟩), .fam 88 rowsO, .blk b1 24 (fV nm wk pa va A c fs), .blk b4 42 [(.slice none 0 0), (.slice none 0 0)], .row 83 1 (sM g7) ((bsOf fs).length) ((bsOf fs).length) (slv (rowsI.set k ⟨(sM g28), ((n + 63) / 64), ((n + 63) / 64), u64s (List.replicate ((n + 63) / 64) 0)⟩)), .row 83 1 (sM g8) ((bsOf fs).length) ((bsOf fs).length) ((slv rowsO).set (((k : Int)).toNat * 1) (.slice (sM g29) ((n + 63) / 64) ((n + 63) / 64))), .blk b9 42 [(.slice (sM g7) ((bsOf fs).length) ((bsOf fs).length)), (.slice (sM g8) ((bsOf fs).length) ((bsOf fs).length))], .fam 3 rows18, .row 25 1 A16 ((bsOf fs).length) c17 (slv rows18), .row 88 1 (sM g29) ((n + 63) / 64) ((n + 63) / 64) (u64s (List.replicate ((n + 63) / 64) 0))] := M37.cast (by simp only [slv_set, Int.toNat_natCast, Nat.mul_one])
 have M39 := M38.od [8, 8, 8, 8, 8, 8, 8, 7, 9, 9] 10
 have M40 : Mem noS w w34 [.fam 88 (rowsO.set k ⟨(sM g29), ((n + 63) / 64), ((n + 63) / 64), u64s (List.replicate ((n + 63) / 64) 0)⟩), .fam 88 (rowsI.set k ⟨(sM g28), ((n + 63) / 64), ((n + 63) / 64), u64s (List.replicate ((n + 63) / 64) 0)⟩), .blk b1 24 (fV nm wk pa va A c fs), .blk b4 42 [(.slice none 0 0), (.slice none 0 0)], .row 83 1 (sM g7) ((bsOf fs).length) ((bsOf fs).length) (slv (rowsI.set k ⟨(sM g28), ((n + 63) / 64), ((n + 63) / 64), u64s (List.replicate ((n + 63) / 64) 0)⟩)), .row 83 1 (sM g8) ((bsOf fs).length) ((bsOf fs).length) ((slv rowsO).set (((k : Int)).toNat * 1) (.slice (sM g29) ((n + 63) / 64) ((n + 63) / 64))), .blk b9 42 [(.slice (sM g7) ((bsOf fs).length) ((bsOf fs).length)), (.slice (sM g8) ((bsOf fs).length) ((bsOf fs).length))], .fam 3 rows18, .row 25 1 A16 ((bsOf fs).length) c17 (slv rows18)] := M39.unfocus k (hRO.nil k (Nat.le_refl _) (by omega))
 have M41 : Mem noS w w34 [.fam 88 (rowsO.set k ⟨(sM g29), ((n + 63) / 64), ((n + 63) / 64), u64s (List.replicate ((n + 63) / 64) 0)⟩), .fam 88 (rowsI.set k ⟨(sM g28), ((n + 63) / 64), ((n + 63) / 64), u64s (List.replicate ((n + 63) / 64) 0)⟩), .blk b1 24 (fV nm wk pa va A c fs), .blk b4 42 [(.slice none 0 0), (.slice none 0 0)], .row 83 1 (sM g7) ((bsOf fs).length) ((bsOf fs).length) (slv (rowsI.set k ⟨(sM g28), ((n + 63) / 64), ((n + 63) / 64), u64s (List.replicate ((n + 63) / 64) 0)⟩)), .row 83 1 (sM g8) ((bsOf fs).length) ((bsOf fs).length) (slv (rowsO.set k ⟨(sM g29), ((n + 63) / 64), ((n + 63) / 64), u64s (List.replicate ((n + 63) / 64) 0)⟩)), .blk b9 42 [(.slice (sM g7) ((bsOf fs).length) ((bsOf fs).length)), (.slice (sM g8) ((bsOf fs).length) ((bsOf fs).length))], .fam 3 rows18, .row 25 1 A16 ((bsOf fs).length) c17 (slv rows18)] := M40.cast (by simp only [slv_set, Int.toNat_natCast, Nat.mul_one])
 have M42 := M41.od [8, 8, 8, 8, 8, 8, 8, 7, 8] 9
 refine zar ((k : Int) + 1) <| zpn 1 <| zfe ?_
 intro aC fr
 exact ⟨fs.length - (k + 1), by omega, k + 1, (rowsI.set k ⟨(sM g28), ((n + 63) / 64), ((n + 63) / 64), u64s (List.replicate ((n + 63) / 64) 0)⟩), (rowsO.set k ⟨(sM g29), ((n + 63) / 64), ((n + 63) / 64), u64s (List.replicate ((n + 63) / 64) 0)⟩), rfl, fr.kp [1, 2, 4, 5, 32, 33], M42, by omega, hRI.next (by omega), hRO.next (by omega)⟩
 refine zex 0 <| zbh <| zsq <| zsr ?_
 have hRI0 := hRI.all (by omega)
 have hRO0 := hRO.all (by omega)
 refine zpn 1 <| zld ⟨b1, 4, none⟩ (.slice A ((bsOf fs).length) c) (blk_cell (M24.get 2 rfl) rfl) <| zpn 2 <| zfe <| zbk 2 ?_
 intro aC fr
 refine zlp (fun n_ a_ w_ => ∃ (m : Nat) (rowsP : List RowV) (SP : Int → Int → Bool), n_ = fs.length - m ∧ Fr a_ 164 [(1, (pT b1 0)), (2, (pT b4 0)), (4, (pT b9 0)), (5, (.slice A16 ((bsOf fs).length) c17)), (52, (.slice A ((bsOf fs).length) c)), (53, (.int .i64 (((bsOf fs).length : Nat) : Int))), (54, (nV m))] ∧ Mem noS w w_ [.fam 88 rowsI, .fam 88 rowsP, .blk b1 24 (fV nm wk pa va A c fs), .blk b4 42 [(.slice none 0 0), (.slice none 0 0)], .row 83 1 (sM g7) ((bsOf fs).length) ((bsOf fs).length) (slv rowsI), .row 83 1 (sM g8) ((bsOf fs).length) ((bsOf fs).length) (slv rowsP), .blk b9 42 [(.slice (sM g7) ((bsOf fs).length) ((bsOf fs).length)), (.slice (sM g8) ((bsOf fs).length) ((bsOf fs).length))], .fam 3 rows18, .row 25 1 A16 ((bsOf fs).length) c17 (slv rows18)] ∧ (m ≤ fs.length) ∧ (SetsR n fs.length rowsP SP) ∧ (PhiDone fs m 0 0 SP)) (n := _) ⟨0, rowsO, (fun _ _ => false), rfl, fr.kp [1, 2, 4, 5, 52, 53, 54], M24, by omega, hRO0, PhiDone.start⟩ ?_
 clear fr aC M24; rintro n aC w47 ⟨m, rowsP, SP, rfl, fr, M48, hlem, hRP, hPD⟩
 revert aC
 refine zsp <| zsq <| zcD (((m : Int) : Int) < (((bsOf fs).length : Nat) : Int)) (fun c51 => ?_) (fun c51 => ?_)
 refine zsk <| zsq <| zbk 3 <| zsr ?_
 obtain ⟨x, hx⟩ := get_of (l := fs) (i := m) (by omega)
 have hl1 : x.phis.length ≤ 281474976710656 := (hok.get hx).lp
 have hl2 : x.insts.length ≤ 281474976710656 := (hok.get hx).li
 refine zpn 1 ?_
 obtain ⟨ad52, rfl⟩ := blocks_some (M48.ro hB) (bsOf_get hx)
 refine zix ad52 ((bsOf fs).length) 6 (m : Int) <| zls ((ad52 : Addr).add (((m : Int)).toNat * 6)) (xV x) (fblk_get (M48.ro hB) rfl hx) <| zal M48 53 [(.slice none 0 0), (.slice none 0 0), (.int .i64 0), (.int .i64 0), (.int .i64 0), (.int .i64 0)] fun b53 w54 hb53 M55 => ?_
 replace M55 := M55.nf
 refine zpn 1 <| zss M55 9 (xV x) rfl fun w56 M57 => ?_
 replace M57 := M57.nf
 refine zfe <| zsr <| zpn 1 <| zld ⟨b53, 0, none⟩ (.slice x.pA x.phis.length x.pc) (blk_cell (M57.get 9 rfl) rfl) <| zpn 2 <| zfe <| zbk 4 ?_
 intro aC fr
 refine zlp (fun n_ a_ w_ => ∃ (j : Nat) (rowsQ : List RowV) (SQ : Int → Int → Bool), n_ = x.phis.length - j ∧ Fr a_ 164 [(1, (pT b1 0)), (2, (pT b4 0)), (4, (pT b9 0)), (5, (.slice A16 ((bsOf fs).length) c17)), (7, (nV m)), (52, (.slice (some ad52) ((bsOf fs).length) c)), (53, (.int .i64 (((bsOf fs).length : Nat) : Int))), (54, (nV m)), (60, (.slice x.pA x.phis.length x.pc)), (61, (.int .i64 ((x.phis.length : Nat) : Int))), (62, (nV j))] ∧ Mem noS w w_ [.fam 88 rowsI, .fam 88 rowsQ, .blk b1 24 (fV nm wk pa va (some ad52) c fs), .blk b4 42 [(.slice none 0 0), (.slice none 0 0)], .row 83 1 (sM g7) ((bsOf fs).length) ((bsOf fs).length) (slv rowsI), .row 83 1 (sM g8) ((bsOf fs).length) ((bsOf fs).length) (slv rowsQ), .blk b9 42 [(.slice (sM g7) ((bsOf fs).length) ((bsOf fs).length)), (.slice (sM g8) ((bsOf fs).length) ((bsOf fs).length))], .fam 3 rows18, .row 25 1 A16 ((bsOf fs).length) c17 (slv rows18), .blk b53 53 (xV x)] ∧ (j ≤ x.phis.length) ∧ (SetsR n fs.length rowsQ SQ) ∧ (PhiDone fs m j 0 SQ)) (n := _) ⟨0, rowsP, SP, rfl, fr.kp [1, 2, 4, 5, 7, 52, 53, 54, 60, 61, 62], M57, by omega, hRP, hPD⟩ ?_
 clear fr aC M57; rintro n aC w60 ⟨j, rowsQ, SQ, rfl, fr, M61, hlej, hRQ, hPQ⟩
 revert aC
 refine zsp <| zsq <| zcD (((j : Int) : Int) < ((x.phis.length : Nat) : Int)) (fun c64 => ?_) (fun c64 => ?_)
 refine zsk <| zsq <| zbk 5 <| zsr ?_
 obtain ⟨p, hph⟩ := get_of (l := x.phis) (i := j) (by omega)
 have hpl : p.args.length ≤ 281474976710656 := ((hok.get hx).phis p (List.mem_of_getElem? hph)).len
 obtain ⟨xq, hxq, hrq⟩ := hgood.reads m (by omega)
 rw [hx] at hxq
 injection hxq with hxq
 subst hxq
 have hpa := hrq.phis j p hph
 obtain ⟨Ak, ck, hrk⟩ := hfrows18.get (allL_get (bs := bsOf fs) (t := m) (by omega))
 have hslk := srcsTo_len (bsOf fs) (m : Int) (bsOf fs).length
 obtain ⟨ad65, had66⟩ := rds_some (M61.ro (hA.phis hx)) (cs := p.cells) (i := j) (by simp [hph])
 intro aC fr
 refine From_ixA (some 64) x.pA ad65 x.phis.length 2 (j : Int) fr (by kernel_rfl) had66 (by omega) (by omega) ?_
 intro aC fr
 revert aC
 refine zls ((ad65 : Addr).add (((j : Int)).toNat * 2)) (pV p) (phi_get (M61.ro (hA.phis hx)) had66 hph) <| zal M61 86 [(.int .i64 0), (.slice none 0 0)] fun b71 w72 hb71 M73 => ?_
 replace M73 := M73.nf
 refine zss M73 10 (pV p) rfl fun w74 M75 => ?_
 replace M75 := M75.nf
 refine zfe <| zsr <| zpn 2 ?_
 obtain ⟨g77, rfl⟩ := row_some (M75.get 8 rfl) (by omega)
 refine zix ⟨g77, 0, none⟩ ((bsOf fs).length) 1 (m : Int) <| zld ((⟨g77, 0, none⟩ : Addr).add (((m : Int)).toNat * 1)) (.slice Ak ((srcs (bsOf fs) (m : Int)).length) ck) (rd_get1 (row_rd (M75.get 8 rfl)) rfl (slv_get hrk)) <| zpn 2 <| zfe <| zbk 6 ?_
 intro aC fr
 refine zlp (fun n_ a_ w_ => ∃ (i : Nat) (rowsT : List RowV) (ST : Int → Int → Bool), n_ = (srcs (bsOf fs) (m : Int)).length - i ∧ Fr a_ 164 [(1, (pT b1 0)), (2, (pT b4 0)), (4, (pT b9 0)), (5, (.slice (sM g77) ((bsOf fs).length) c17)), (7, (nV m)), (10, (pT b71 0)), (52, (.slice (some ad52) ((bsOf fs).length) c)), (53, (.int .i64 (((bsOf fs).length : Nat) : Int))), (54, (nV m)), (60, (.slice x.pA x.phis.length x.pc)), (61, (.int .i64 ((x.phis.length : Nat) : Int))), (62, (nV j)), (69, (.slice Ak ((srcs (bsOf fs) (m : Int)).length) ck)), (70, (.int .i64 (((srcs (bsOf fs) (m : Int)).length : Nat) : Int))), (71, (nV i))] ∧ Mem noS w w_ [.fam 88 rowsI, .fam 88 rowsT, .blk b1 24 (fV nm wk pa va (some ad52) c fs), .blk b4 42 [(.slice none 0 0), (.slice none 0 0)], .row 83 1 (sM g7) ((bsOf fs).length) ((bsOf fs).length) (slv rowsI), .row 83 1 (sM g8) ((bsOf fs).length) ((bsOf fs).length) (slv rowsT), .blk b9 42 [(.slice (sM g7) ((bsOf fs).length) ((bsOf fs).length)), (.slice (sM g8) ((bsOf fs).length) ((bsOf fs).length))], .fam 3 rows18, .row 25 1 (sM g77) ((bsOf fs).length) c17 (slv rows18), .blk b53 53 (xV x), .blk b71 86 (pV p)] ∧ (i ≤ (srcs (bsOf fs) (m : Int)).length) ∧ (SetsR n fs.length rowsT ST) ∧ (PhiDone fs m j i ST)) (n := _) ⟨0, rowsQ, SQ, rfl, fr.kp [1, 2, 4, 5, 7, 10, 52, 53, 54, 60, 61, 62, 69, 70, 71], M75, by omega, hRQ, hPQ⟩ ?_
 clear fr aC M75; rintro n aC w80 ⟨i, rowsT, ST, rfl, fr, M81, hlei, hRT, hPT⟩
 revert aC
 refine zsp <| zsq <| zcD (((i : Int) : Int) < (((srcs (bsOf fs) (m : Int)).length : Nat) : Int)) (fun c84 => ?_) (fun c84 => ?_)
 refine zsk <| zsq <| zbk 7 <| zsr ?_
 obtain ⟨si, hsi, hsn⟩ := srcs_at (bs := bsOf fs) (b := (m : Int)) (q := i) (by omega)
 obtain ⟨a0, ha⟩ := get_of (l := p.args) (i := i) (by omega)
 obtain ⟨ha0, ha1, _⟩ := hpa.2 i a0 (si : Int) ha hsi
 obtain ⟨an, rfl⟩ := Int.eq_ofNat_of_zero_le ha0
 obtain ⟨Ab, cb, wsb, hrb, hSb⟩ := hRT.at_ si (by omega)
 refine zpn 1 ?_
 obtain ⟨ad85, rfl⟩ := rd_some (fam_rd (M81.get 7 rfl) hrk) (by simp; omega)
 refine zix ad85 ((srcs (bsOf fs) (m : Int)).length) 1 (i : Int) <| zld ((ad85 : Addr).add (((i : Int)).toNat * 1)) (nV si) (rd_at (fam_rd (M81.get 7 rfl) hrk) rfl hsi) <| zpn 2 <| zfe ?_
 have M86 := M81.od [10, 10, 10, 10, 10, 10, 10, 10, 10, 9, 10] 11
 have M87 : Mem noS w w80 [.fam 88 (rowsT.set si nilV), .row 88 1 Ab ((n + 63) / 64) cb (u64s wsb), .fam 88 rowsI, .blk b1 24 (fV nm wk pa va (some ad52) c fs), .blk b4 42 [(.slice none 0 0), (.slice none 0 0)], .row 83 1 (sM g7) ((bsOf fs).length) ((bsOf fs).length) (slv rowsI), .row 83 1 (sM g8) ((bsOf fs).length) ((bsOf fs).length) (slv rowsT), .blk b9 42 [(.slice (sM g7) ((bsOf fs).length) ((bsOf fs).length)), (.slice (sM g8) ((bsOf fs).length) ((bsOf fs).length))], .fam 3 rows18, .row 25 1 (sM g77) ((bsOf fs).length) c17 (slv rows18), .blk b53 53 (xV x), .blk b71 86 (pV p)] := M86.focus si hrb
 obtain ⟨adp, hadp⟩ := rd_some (M87.ro (hA.phi hx hph)) (by simp [ints]; omega)
 refine zkp [(1, (pT b1 0)), (2, (pT b4 0)), (4, (pT b9 0)), (5, (.slice (sM g77) ((bsOf fs).length) c17)), (7, (nV m)), (10, (pT b71 0)), (11, (nV i)), (12, (nV si)), (52, (.slice (some ad52) ((bsOf fs).length) c)), (53, (.int .i64 (((bsOf fs).length : Nat) : Int))), (54, (nV m)), (60, (.slice x.pA x.phis.length x.pc)), (61, (.int .i64 ((x.phis.length : Nat) : Int))), (62, (nV j)), (69, (.slice (some ad85) ((srcs (bsOf fs) (m : Int)).length) ck)), (70, (.int .i64 (((srcs (bsOf fs) (m : Int)).length : Nat) : Int))), (71, (nV i))] ?_
 intro aC fr
 refine zdj (N := 164) (env0 := [(1, (pT b1 0)), (2, (pT b4 0)), (4, (pT b9 0)), (5, (.slice (sM g77) ((bsOf fs).length) c17)), (7, (nV m)), (10, (pT b71 0)), (11, (nV i)), (12, (nV si)), (52, (.slice (some ad52) ((bsOf fs).length) c)), (53, (.int .i64 (((bsOf fs).length : Nat) : Int))), (54, (nV m)), (60, (.slice x.pA x.phis.length x.pc)), (61, (.int .i64 ((x.phis.length : Nat) : Int))), (62, (nV j)), (69, (.slice (some ad85) ((srcs (bsOf fs) (m : Int)).length) ck)), (70, (.int .i64 (((srcs (bsOf fs) (m : Int)).length : Nat) : Int))), (71, (nV i))]) (specAt [.det (pT b9 1), .det (.slice (sM g8) ((bsOf fs).length) ((bsOf fs).length)), .det (nV si), .det (.pointer (some ((⟨g8, 0, none⟩ : Addr).add (((si : Int)).toNat * 1)))), .det (.slice Ab ((n + 63) / 64) cb), .det (pT b71 1), .det (.slice (some adp) p.args.length p.c), .det (nV i), .det (.pointer (some ((adp : Addr).add (((i : Int)).toNat * 1)))), .det (nV an), Spec.free]) (fun ls vs w_ => match ls 10 with | true => (vs 10 = (.tuple #[]) ∧ Mem noS w w_ [.fam 88 (rowsT.set si nilV), .row 88 1 Ab ((n + 63) / 64) cb (u64s (putw wsb an)), .fam 88 rowsI, .blk b1 24 (fV nm wk pa va (some ad52) c fs), .blk b4 42 [(.slice none 0 0), (.slice none 0 0)], .row 83 1 (sM g7) ((bsOf fs).length) ((bsOf fs).length) (slv rowsI), .row 83 1 (sM g8) ((bsOf fs).length) ((bsOf fs).length) (slv rowsT), .blk b9 42 [(.slice (sM g7) ((bsOf fs).length) ((bsOf fs).length)), (.slice (sM g8) ((bsOf fs).length) ((bsOf fs).length))], .fam 3 rows18, .row 25 1 (sM g77) ((bsOf fs).length) c17 (slv rows18), .blk b53 53 (xV x), .blk b71 86 (pV p)]) | false => (Mem noS w w_ [.fam 88 (rowsT.set si nilV), .row 88 1 Ab ((n + 63) / 64) cb (u64s wsb), .fam 88 rowsI, .blk b1 24 (fV nm wk pa va (some ad52) c fs), .blk b4 42 [(.slice none 0 0), (.slice none 0 0)], .row 83 1 (sM g7) ((bsOf fs).length) ((bsOf fs).length) (slv rowsI), .row 83 1 (sM g8) ((bsOf fs).length) ((bsOf fs).length) (slv rowsT), .blk b9 42 [(.slice (sM g7) ((bsOf fs).length) ((bsOf fs).length)), (.slice (sM g8) ((bsOf fs).length) ((bsOf fs).length))], .fam 3 rows18, .row 25 1 (sM g77) ((bsOf fs).length) c17 (slv rows18), .blk b53 53 (xV x), .blk b71 86 (pV p)])) fr (plain_ok (.det (.det (.det (.det (.det (.det (.det (.det (.det (.det (.free .nil)))))))))))) (M87.then_ (Mem.drew _)) (la (la (la (la (la (la (la (la (la (la (la lz (dPJ fun _ _ _ _ h => h)) (dLJ ⟨b9, 1, none⟩ (.slice (sM g8) ((bsOf fs).length) ((bsOf fs).length)) (fun _ _ _ _ h => h) ?_)) (dPJ fun _ _ _ _ h => h)) (dIJ ⟨g8, 0, none⟩ ((bsOf fs).length) 1 (si : Int) fun _ _ _ _ h => h)) (dLJ ((⟨g8, 0, none⟩ : Addr).add (((si : Int)).toNat * 1)) (.slice Ab ((n + 63) / 64) cb) (fun _ _ _ _ h => h) ?_)) (dPJ fun _ _ _ _ h => h)) (dLJ ⟨b71, 1, none⟩ (.slice (some adp) p.args.length p.c) (fun _ _ _ _ h => h) ?_)) (dPJ fun _ _ _ _ h => h)) (dIJ adp p.args.length 1 (i : Int) fun _ _ _ _ h => h)) (dLJ ((adp : Addr).add (((i : Int)).toNat * 1)) (nV an) (fun _ _ _ _ h => h) ?_)) ?_) ?_
 intro w_ ls vs hJ hi_ hc_ hp
 have f10 : ls 10 = false := notyet hc_ hi_ (n := 11) (by kernel_rfl)
 have hM_ := hJ
 simp only [f10] at hM_
 exact (blk_cell (hM_.get 7 rfl) rfl)
 intro w_ ls vs hJ hi_ hc_ hp
 have f10 : ls 10 = false := notyet hc_ hi_ (n := 11) (by kernel_rfl)
 have hM_ := hJ
 simp only [f10] at hM_
 exact (rd_get1 (row_rd (hM_.get 6 rfl)) rfl (slv_get hrb))
 intro w_ ls vs hJ hi_ hc_ hp
 have f10 : ls 10 = false := notyet hc_ hi_ (n := 11) (by kernel_rfl)
 have hM_ := hJ
 simp only [f10] at hM_
 exact (by rw [← hadp]; exact blk_cell (hM_.get 11 rfl) rfl)
 intro w_ ls vs hJ hi_ hc_ hp
 have f10 : ls 10 = false := notyet hc_ hi_ (n := 11) (by kernel_rfl)
 have hM_ := hJ
 simp only [f10] at hM_
 exact (rd_at (hadp ▸ hM_.ro (hA.phi hx hph)) rfl ha)
 intro aa_ w_ ls vs rest_ hJ hi_ hc_ hp hF
 refine okG (g0 := none) ?_
 replace hF : Fr aa_ 164 [(80, (.slice Ab ((n + 63) / 64) cb)), (85, (nV an))] := hF.kp [80, 85]
 have f10 : ls 10 = false := hi_
 have hM_ := hJ
 simp only [f10] at hM_
 refine From_call (by kernel_rfl : coreAt _ 0 = some (some 86, (.call { callee := (.value (.func 48)), args := #[(.tmp 80), (.tmp 85)], argTypes := #[83, 3] }), 0, none)) hF (by kernel_rfl) (by kernel_rfl) (k' := 1) rfl (f := 48) (vs := [(.slice Ab ((n + 63) / 64) cb), (nV an)]) (cap := []) (by kernel_rfl) (by kernel_rfl) (by kernel_rfl) (lput_c wsb ((n + 63) / 64) an Ab cb w_ hSb.fit (by omega) hSb.len.symm (hSb.idx (by omega)) (hM_.get 1 rfl)) ?_
 rintro _ w2 ⟨rfl, hm2⟩ a2 ea _
 have hm3 := hM_.mod 1 rfl hm2
 refine From_end (by kernel_rfl) ?_; refine op_doneJ (d := some 86) (by kernel_rfl) ea trivial ?_
 show _
 exact ⟨rfl, hm3⟩
 intro aC w92 ls vs hall M93 hv fr
 simp only [show ls 10 = true from hall 10 (by decide)] at M93
 revert aC; refine zkp [(1, (pT b1 0)), (2, (pT b4 0)), (4, (pT b9 0)), (5, (.slice (sM g77) ((bsOf fs).length) c17)), (7, (nV m)), (10, (pT b71 0)), (52, (.slice (some ad52) ((bsOf fs).length) c)), (53, (.int .i64 (((bsOf fs).length : Nat) : Int))), (54, (nV m)), (60, (.slice x.pA x.phis.length x.pc)), (61, (.int .i64 ((x.phis.length : Nat) : Int))), (62, (nV j)), (69, (.slice (some ad85) ((srcs (bsOf fs) (m : Int)).length) ck)), (70, (.int .i64 (((srcs (bsOf fs) (m : Int)).length : Nat) : Int))), (71, (nV i))] ?_
 obtain ⟨e10_, M93⟩ := M93
 try rw [e10_]
 clear e10_
 clear hall hv fr aC M87; clear vs ls
 refine zrg ?_
 have M94 := M93.od [11, 11, 11, 11, 11, 11, 11, 11, 11, 11, 11, 11] 12
 have hrl : si < rowsT.length := (List.getElem?_eq_some_iff.1 hrb).1
 have M95 : Mem noS w w92 [.fam 88 (rowsT.set si ⟨Ab, ((n + 63) / 64), cb, u64s (putw wsb an)⟩), .fam 88 rowsI, .blk b1 24 (fV nm wk pa va (some ad52) c fs), .blk b4 42 [(.slice none 0 0), (.slice none 0 0)], .row 83 1 (sM g7) ((bsOf fs).length) ((bsOf fs).length) (slv rowsI), .row 83 1 (sM g8) ((bsOf fs).length) ((bsOf fs).length) (slv rowsT), .blk b9 42 [(.slice (sM g7) ((bsOf fs).length) ((bsOf fs).length)), (.slice (sM g8) ((bsOf fs).length) ((bsOf fs).length))], .fam 3 rows18, .row 25 1 (sM g77) ((bsOf fs).length) c17 (slv rows18), .blk b53 53 (xV x), .blk b71 86 (pV p)] := (M94.unfocus si (List.getElem?_set_self hrl)).cast (by rw [set_twice])
 have M96 : Mem noS w w92 [.fam 88 (rowsT.set si ⟨Ab, ((n + 63) / 64), cb, u64s (putw wsb an)⟩), .fam 88 rowsI, .blk b1 24 (fV nm wk pa va (some ad52) c fs), .blk b4 42 [(.slice none 0 0), (.slice none 0 0)], .row 83 1 (sM g7) ((bsOf fs).length) ((bsOf fs).length) (slv rowsI), .row 83 1 (sM g8) ((bsOf fs).length) ((bsOf fs).length) (slv (rowsT.set si ⟨Ab, ((n + 63) / 64), cb, u64s (putw wsb an)⟩)), .blk b9 42 [(.slice (sM g7) ((bsOf fs).length) ((bsOf fs).length)), (.slice (sM g8) ((bsOf fs).length) ((bsOf fs).length))], .fam 3 rows18, .row 25 1 (sM g77) ((bsOf fs).length) c17 (slv rows18), .blk b53 53 (xV x), .blk b71 86 (pV p)] := M95.cast (by rw [slv_same hrb (u64s (putw wsb an))])
 have M97 := M96.od [10, 10, 10, 10, 10, 10, 10, 10, 10, 9, 10] 11
 refine zar ((i : Int) + 1) <| zpn 1 <| zfe ?_
 intro aC fr
 exact ⟨(srcs (bsOf fs) (m : Int)).length - (i + 1), by omega, i + 1, (rowsT.set si ⟨Ab, ((n + 63) / 64), cb, u64s (putw wsb an)⟩), (updS ST (si : Int) (addS (ST (si : Int)) (an : Int))), rfl, fr.kp [1, 2, 4, 5, 7, 10, 52, 53, 54, 60, 61, 62, 69, 70, 71], M97, by omega, hRT.set (hSb.put (by omega)), hPT.arg hx hph hsi ha⟩
 refine zex 6 <| zbh <| zrg <| zar ((j : Int) + 1) <| zpn 1 <| zfe ?_
 intro aC fr
 exact ⟨x.phis.length - (j + 1), by omega, j + 1, rowsT, ST, rfl, fr.kp [1, 2, 4, 5, 7, 52, 53, 54, 60, 61, 62], (M81.tk 10), by omega, hRT, hPT.phi hx (by omega)⟩
 refine zex 4 <| zbh <| zrg <| zar ((m : Int) + 1) <| zpn 1 <| zfe ?_
 intro aC fr
 exact ⟨fs.length - (m + 1), by omega, m + 1, rowsQ, SQ, rfl, fr.kp [1, 2, 4, 5, 52, 53, 54], (M61.tk 9), by omega, hRQ, hPQ.blk hx (by omega)⟩
 refine zex 2 <| zbh <| zsr ?_
 have hLO0 : LOk n fs (fun _ _ => false) SP := LOk.start hPD (by omega)
 have hol := orderL_len (bsOf fs)
 refine zls ⟨b1, 0, none⟩ (fV nm wk pa va A c fs) (blk_cells (M48.get 2 rfl)) <| zcl (vs := #[(fA nm wk pa va A c fs)]) (order_c _ _ _ _ A c (bsOf fs) w47 hm (hB.at_ M48)) ?_
 rintro _ w106 ⟨A104, c105, rfl, M107x⟩
 have M107 := M48.cl M107x
 refine zpn 1 <| zfe <| zsq <| zsp <| zbk 8 ?_
 intro aC fr
 refine zlp (fun n_ a_ w_ => ∃ (tb : Bool) (rI : List RowV) (rO : List RowV) (SI : Int → Int → Bool) (SO : Int → Int → Bool), n_ = 2 * unmetA n fs.length SI + cond tb 1 0 ∧ Fr a_ 164 [(1, (pT b1 0)), (2, (pT b4 0)), (4, (pT b9 0)), (13, (.slice A104 ((orderL (bsOf fs)).length) c105)), (14, (.bool tb))] ∧ Mem noS w w_ [.fam 88 rI, .fam 88 rO, .blk b1 24 (fV nm wk pa va A c fs), .blk b4 42 [(.slice none 0 0), (.slice none 0 0)], .row 83 1 (sM g7) ((bsOf fs).length) ((bsOf fs).length) (slv rI), .row 83 1 (sM g8) ((bsOf fs).length) ((bsOf fs).length) (slv rO), .blk b9 42 [(.slice (sM g7) ((bsOf fs).length) ((bsOf fs).length)), (.slice (sM g8) ((bsOf fs).length) ((bsOf fs).length))], .fam 3 rows18, .row 25 1 A16 ((bsOf fs).length) c17 (slv rows18), .row 3 1 A104 ((orderL (bsOf fs)).length) c105 (ints (orderL (bsOf fs)))] ∧ (SetsR n fs.length rI SI) ∧ (SetsR n fs.length rO SO) ∧ (LOk n fs SI SO) ∧ (tb = false → ∀ (q : Nat) (b : Int), q < (orderL (bsOf fs)).length → (orderL (bsOf fs))[q]? = some b → CloseAt n fs SI SO b)) (n := _) ⟨true, rowsI, rowsP, (fun _ _ => false), SP, rfl, fr.kp [1, 2, 4, 13, 14], M107, hRI0, hRP, hLO0, fun h => Bool.noConfusion h⟩ ?_
 clear fr aC M107; rintro n aC w110 ⟨tb, rI, rO, SI, SO, rfl, fr, M111, hRI1, hRO1, hLO, hcl⟩
 revert aC
 refine zsq <| zsp <| zcP tb (tb = true) Iff.rfl (fun c114 => ?_) (fun c114 => ?_)
 have hbt : tb = true := c114
 refine zsk <| zbk 9 <| zsp <| zsr <| zpn 2 <| zar (((orderL (bsOf fs)).length : Int) - 1) <| zpn 1 <| zfe <| zbk 10 ?_
 intro aC fr
 refine zlp (fun n_ a_ w_ => ∃ (j : Nat) (iv : Int) (tb2 : Bool) (rI2 : List RowV) (rO2 : List RowV) (SI2 : Int → Int → Bool) (SO2 : Int → Int → Bool), n_ = 2 * j ∧ Fr a_ 164 [(1, (pT b1 0)), (2, (pT b4 0)), (4, (pT b9 0)), (13, (.slice A104 ((orderL (bsOf fs)).length) c105)), (14, (.bool tb2)), (15, (.int .i64 iv))] ∧ Mem noS w w_ [.fam 88 rI2, .fam 88 rO2, .blk b1 24 (fV nm wk pa va A c fs), .blk b4 42 [(.slice none 0 0), (.slice none 0 0)], .row 83 1 (sM g7) ((bsOf fs).length) ((bsOf fs).length) (slv rI2), .row 83 1 (sM g8) ((bsOf fs).length) ((bsOf fs).length) (slv rO2), .blk b9 42 [(.slice (sM g7) ((bsOf fs).length) ((bsOf fs).length)), (.slice (sM g8) ((bsOf fs).length) ((bsOf fs).length))], .fam 3 rows18, .row 25 1 A16 ((bsOf fs).length) c17 (slv rows18), .row 3 1 A104 ((orderL (bsOf fs)).length) c105 (ints (orderL (bsOf fs)))] ∧ (j ≤ (orderL (bsOf fs)).length) ∧ (iv = (j : Int) - 1) ∧ (SetsR n fs.length rI2 SI2) ∧ (SetsR n fs.length rO2 SO2) ∧ (LOk n fs SI2 SO2) ∧ (unmetA n fs.length SI2 ≤ unmetA n fs.length SI ∧ (tb2 = true → unmetA n fs.length SI2 < unmetA n fs.length SI)) ∧ (tb2 = false → ∀ (q : Nat) (b : Int), j ≤ q → q < (orderL (bsOf fs)).length → (orderL (bsOf fs))[q]? = some b → CloseAt n fs SI2 SO2 b)) (n := _) ⟨(orderL (bsOf fs)).length, (((orderL (bsOf fs)).length : Int) - 1), false, rI, rO, SI, SO, rfl, fr.kp [1, 2, 4, 13, 14, 15], M111, by omega, by omega, hRI1, hRO1, hLO, ⟨Nat.le_refl _, fun h => Bool.noConfusion h⟩, fun _ q b h1 h2 => absurd h2 (by omega)⟩ ?_
 clear fr aC M111; rintro n aC w117 ⟨j, iv, tb2, rI2, rO2, SI2, SO2, rfl, fr, M118, hj, hiv, hRI2, hRO2, hLO2, hU, hcl2⟩
 revert aC
 refine zsq <| zsp <| zcD ((iv : Int) ≥ 0) (fun c121 => ?_) (fun c121 => ?_)
 refine zsk <| zsq <| zbk 11 <| zsr ?_
 obtain ⟨j0, rfl⟩ : ∃ j0, j = j0 + 1 := ⟨j - 1, by omega⟩
 obtain rfl : iv = (j0 : Int) := by omega
 obtain ⟨b, hbo, hbn, _⟩ := ord_get (bs := bsOf fs) (k := j0) (by omega)
 obtain ⟨x, hx⟩ := get_of (l := fs) (i := b) (by omega)
 obtain ⟨Ao, co, wso, hro, hSo⟩ := hRO2.at_ b (by omega)
 obtain ⟨Ai, ci, wsi, hri, hSi⟩ := hRI2.at_ b (by omega)
 have htl := tg_len (bsOf fs) (b : Int)
 refine zpn 2 ?_
 obtain ⟨g123, rfl⟩ := row_some (M118.get 9 rfl) (by omega)
 refine zix ⟨g123, 0, none⟩ ((orderL (bsOf fs)).length) 1 (j0 : Int) <| zld ((⟨g123, 0, none⟩ : Addr).add (((j0 : Int)).toNat * 1)) (nV b) (rd_at (row_rd (M118.get 9 rfl)) rfl hbo) <| zpn 1 <| zfe <| zsq <| zsr <| zls ⟨b1, 0, none⟩ (fV nm wk pa va A c fs) (blk_cells (M118.get 2 rfl)) <| zpn 1 <| zcl (vs := #[(fA nm wk pa va A c fs), (nV b)]) (targets_c _ _ _ _ A c (bsOf fs) (b : Int) w117 hm (hB.at_ M118)) ?_
 rintro _ w126 ⟨A124, c125, rfl, M127x⟩
 have M127 := M118.cl M127x
 refine zpn 2 <| zfe <| zbk 12 ?_
 have M128 := M127.od [10, 10, 10, 10, 10, 10, 10, 10, 10, 9, 10] 11
 have M129 : Mem noS w w126 [.fam 88 (rO2.set b nilV), .row 88 1 Ao ((n + 63) / 64) co (u64s wso), .fam 88 rI2, .blk b1 24 (fV nm wk pa va A c fs), .blk b4 42 [(.slice none 0 0), (.slice none 0 0)], .row 83 1 (sM g7) ((bsOf fs).length) ((bsOf fs).length) (slv rI2), .row 83 1 (sM g8) ((bsOf fs).length) ((bsOf fs).length) (slv rO2), .blk b9 42 [(.slice (sM g7) ((bsOf fs).length) ((bsOf fs).length)), (.slice (sM g8) ((bsOf fs).length) ((bsOf fs).length))], .fam 3 rows18, .row 25 1 A16 ((bsOf fs).length) c17 (slv rows18), .row 3 1 (sM g123) ((orderL (bsOf fs)).length) c105 (ints (orderL (bsOf fs))), .row 3 1 A124 ((tg (bsOf fs) (b : Int)).length) c125 (ints (tg (bsOf fs) (b : Int)))] := M128.focus b hro
 intro aC fr
 refine zlp (fun n_ a_ w_ => ∃ (q : Nat) (wsk : List Nat) (Sk : Int → Bool), n_ = (tg (bsOf fs) (b : Int)).length - q ∧ Fr a_ 164 [(1, (pT b1 0)), (2, (pT b4 0)), (4, (pT b9 0)), (13, (.slice (sM g123) ((orderL (bsOf fs)).length) c105)), (14, (.bool tb2)), (15, (nV j0)), (16, (nV b)), (106, (.slice A124 ((tg (bsOf fs) (b : Int)).length) c125)), (107, (.int .i64 (((tg (bsOf fs) (b : Int)).length : Nat) : Int))), (108, (nV q))] ∧ Mem noS w w_ [.fam 88 (rO2.set b nilV), .row 88 1 Ao ((n + 63) / 64) co (u64s wsk), .fam 88 rI2, .blk b1 24 (fV nm wk pa va A c fs), .blk b4 42 [(.slice none 0 0), (.slice none 0 0)], .row 83 1 (sM g7) ((bsOf fs).length) ((bsOf fs).length) (slv rI2), .row 83 1 (sM g8) ((bsOf fs).length) ((bsOf fs).length) (slv rO2), .blk b9 42 [(.slice (sM g7) ((bsOf fs).length) ((bsOf fs).length)), (.slice (sM g8) ((bsOf fs).length) ((bsOf fs).length))], .fam 3 rows18, .row 25 1 A16 ((bsOf fs).length) c17 (slv rows18), .row 3 1 (sM g123) ((orderL (bsOf fs)).length) c105 (ints (orderL (bsOf fs))), .row 3 1 A124 ((tg (bsOf fs) (b : Int)).length) c125 (ints (tg (bsOf fs) (b : Int)))] ∧ (q ≤ (tg (bsOf fs) (b : Int)).length) ∧ (SetW n wsk Sk) ∧ (LOk n fs SI2 (updS SO2 (b : Int) Sk)) ∧ (∀ (r : Nat) (t v : Int), r < q → (tg (bsOf fs) (b : Int))[r]? = some t → SI2 t v = true → Sk v = true)) (n := _) ⟨0, wso, (SO2 (b : Int)), rfl, fr.kp [1, 2, 4, 13, 14, 15, 16, 106, 107, 108], M129, by omega, hSo, by rw [updS_self]; exact hLO2, fun _ _ _ h => absurd h (Nat.not_lt_zero _)⟩ ?_
 clear fr aC M129; rintro n aC w132 ⟨q, wsk, Sk, rfl, fr, M133, hq, hSk, hLk, htg⟩
 revert aC
 refine zsp <| zsq <| zcD (((q : Int) : Int) < (((tg (bsOf fs) (b : Int)).length : Nat) : Int)) (fun c136 => ?_) (fun c136 => ?_)
 refine zsk <| zsq <| zbk 13 <| zsr ?_
 obtain ⟨ti, hti, htn⟩ := tg_at (bs := bsOf fs) (b := (b : Int)) (k := q) (by omega)
 obtain ⟨At, ct, wst, hrt, hSt⟩ := hRI2.at_ ti (by omega)
 have hwl := hSt.len
 have hkl := hSk.len
 obtain ⟨g138, rfl⟩ := row_some (M133.get 11 rfl) (by omega)
 refine zix ⟨g138, 0, none⟩ ((tg (bsOf fs) (b : Int)).length) 1 (q : Int) <| zld ((⟨g138, 0, none⟩ : Addr).add (((q : Int)).toNat * 1)) (nV ti) (rd_at (row_rd (M133.get 11 rfl)) rfl hti) <| zpn 1 <| zfe <| zsr <| zpn 1 <| zld ⟨b9, 0, none⟩ (.slice (sM g7) ((bsOf fs).length) ((bsOf fs).length)) (blk_cell (M133.get 7 rfl) rfl) <| zpn 1 <| zix ⟨g7, 0, none⟩ ((bsOf fs).length) 1 (ti : Int) <| zld ((⟨g7, 0, none⟩ : Addr).add (((ti : Int)).toNat * 1)) (.slice At ((n + 63) / 64) ct) (rd_get1 (row_rd (M133.get 5 rfl)) rfl (slv_get hrt)) ?_
 refine zpn 2 <| zfe <| zbk 14 ?_
 intro aC fr
 refine zlp (fun n_ a_ w_ => ∃ (u : Nat) (wsm : List Nat), n_ = ((n + 63) / 64) - u ∧ Fr a_ 164 [(1, (pT b1 0)), (2, (pT b4 0)), (4, (pT b9 0)), (13, (.slice (sM g123) ((orderL (bsOf fs)).length) c105)), (14, (.bool tb2)), (15, (nV j0)), (16, (nV b)), (106, (.slice (sM g138) ((tg (bsOf fs) (b : Int)).length) c125)), (107, (.int .i64 (((tg (bsOf fs) (b : Int)).length : Nat) : Int))), (108, (nV q)), (116, (.slice At ((n + 63) / 64) ct)), (117, (.int .i64 ((((n + 63) / 64) : Nat) : Int))), (118, (nV u))] ∧ Mem noS w w_ [.fam 88 (rO2.set b nilV), .row 88 1 Ao ((n + 63) / 64) co (u64s wsm), .fam 88 rI2, .blk b1 24 (fV nm wk pa va A c fs), .blk b4 42 [(.slice none 0 0), (.slice none 0 0)], .row 83 1 (sM g7) ((bsOf fs).length) ((bsOf fs).length) (slv rI2), .row 83 1 (sM g8) ((bsOf fs).length) ((bsOf fs).length) (slv rO2), .blk b9 42 [(.slice (sM g7) ((bsOf fs).length) ((bsOf fs).length)), (.slice (sM g8) ((bsOf fs).length) ((bsOf fs).length))], .fam 3 rows18, .row 25 1 A16 ((bsOf fs).length) c17 (slv rows18), .row 3 1 (sM g123) ((orderL (bsOf fs)).length) c105 (ints (orderL (bsOf fs))), .row 3 1 (sM g138) ((tg (bsOf fs) (b : Int)).length) c125 (ints (tg (bsOf fs) (b : Int)))] ∧ (u ≤ ((n + 63) / 64)) ∧ (wsm = orTo wsk wst u)) (n := _) ⟨0, wsk, rfl, fr.kp [1, 2, 4, 13, 14, 15, 16, 106, 107, 108, 116, 117, 118], M133, by omega, rfl⟩ ?_
 clear fr aC M133; rintro n aC w141 ⟨u, wsm, rfl, fr, M142, hu, hwm⟩
 revert aC
 refine zsp <| zsq <| zcD (((u : Int) : Int) < ((((n + 63) / 64) : Nat) : Int)) (fun c145 => ?_) (fun c145 => ?_)
 refine zsk <| zsq <| zbk 15 <| zsr ?_
 have hml : wsm.length = ((n + 63) / 64) := by rw [hwm, orTo_len]; exact hkl
 have hmf : Fit wsm := by rw [hwm]; exact orTo_fit hSk.fit hSt.fit _
 refine zpn 1 ?_
 obtain ⟨ad146, rfl⟩ := rd_some (fam_rd (M142.get 2 rfl) hrt) (by rw [u64s_len]; omega)
 refine zix ad146 ((n + 63) / 64) 1 (u : Int) <| zld ((ad146 : Addr).add (((u : Int)).toNat * 1)) (.int .u64 ((wst.getD u 0 : Nat) : Int)) (rd_get1 (fam_rd (M142.get 2 rfl) hrt) rfl (u64s_get (by omega))) <| zpn 2 <| zfe <| zrg <| zpn 1 <| zld ⟨b9, 1, none⟩ (.slice (sM g8) ((bsOf fs).length) ((bsOf fs).length)) (blk_cell (M142.get 7 rfl) rfl) <| zpn 1 <| zix ⟨g8, 0, none⟩ ((bsOf fs).length) 1 (b : Int) <| zld ((⟨g8, 0, none⟩ : Addr).add (((b : Int)).toNat * 1)) (.slice Ao ((n + 63) / 64) co) (rd_get1 (row_rd (M142.get 6 rfl)) rfl (slv_get hro)) ?_
 refine zpn 1 ?_
 obtain ⟨g148, rfl⟩ := row_some (M142.get 1 rfl) (by omega)
 refine zix ⟨g148, 0, none⟩ ((n + 63) / 64) 1 (u : Int) <| zkp [(1, (pT b1 0)), (2, (pT b4 0)), (4, (pT b9 0)), (13, (.slice (sM g123) ((orderL (bsOf fs)).length) c105)), (14, (.bool tb2)), (15, (nV j0)), (16, (nV b)), (20, (.int .u64 ((wst.getD u 0 : Nat) : Int))), (106, (.slice (sM g138) ((tg (bsOf fs) (b : Int)).length) c125)), (107, (.int .i64 (((tg (bsOf fs) (b : Int)).length : Nat) : Int))), (108, (nV q)), (116, (.slice (some ad146) ((n + 63) / 64) ct)), (117, (.int .i64 ((((n + 63) / 64) : Nat) : Int))), (118, (nV u)), (127, (.slice (sM g148) ((n + 63) / 64) co)), (128, (nV u)), (129, (.pointer (some ((⟨g148, 0, none⟩ : Addr).add (((u : Int)).toNat * 1)))))] <| zld ((⟨g148, 0, none⟩ : Addr).add (((u : Int)).toNat * 1)) (.int .u64 ((wsm.getD u 0 : Nat) : Int)) (rd_get1 (row_rd (M142.get 1 rfl)) rfl (u64s_get (by omega))) <| zpn 1 ?_
 intro aC fr
 refine From_binI (by kernel_rfl : coreAt _ 9 = some (some 132, (.binOp .or 88 (.tmp 130) (.tmp 131) 88), 88, none)) fr (by kernel_rfl) (by kernel_rfl) (k' := 10) rfl (kd := .u64) (kd' := .u64) (i := ((wsm.getD u 0 : Nat) : Int)) (j := ((wst.getD u 0 : Nat) : Int)) (z := .int .u64 ((wsm.getD u 0 ||| wst.getD u 0 : Nat) : Int)) (by kernel_rfl) (by kernel_rfl) (fun w => bin_or (hmf.get _) (hSt.fit.get _) w) ?_
 intro aC ea fr; clear ea
 revert aC
 refine zix ⟨g148, 0, none⟩ ((n + 63) / 64) 1 (u : Int) <| zsw M142 1 ((⟨g148, 0, none⟩ : Addr).add (((u : Int)).toNat * 1)) (((u : Int)).toNat * 1) (.int .u64 ((wsm.getD u 0 ||| wst.getD u 0 : Nat) : Int)) rfl rfl (by omega) fun w153 M154 => ?_
 replace M154 := M154.nf
 refine zfe <| zrg <| zar ((u : Int) + 1) <| zpn 1 <| zfe ?_
 intro aC fr
 exact ⟨((n + 63) / 64) - (u + 1), by omega, u + 1, (wsm.set u (wsm.getD u 0 ||| wst.getD u 0)), rfl, fr.kp [1, 2, 4, 13, 14, 15, 16, 106, 107, 108, 116, 117, 118], (M154.cast (by rw [u64s_set, Int.toNat_natCast, Nat.mul_one])), by omega, by rw [hwm, orTo]⟩
 refine zex 14 <| zbh <| zrg <| zar ((q : Int) + 1) <| zpn 1 <| zfe ?_
 intro aC fr
 exact ⟨(tg (bsOf fs) (b : Int)).length - (q + 1), by omega, q + 1, wsm, (orS Sk (SI2 (ti : Int))), rfl, fr.kp [1, 2, 4, 13, 14, 15, 16, 106, 107, 108], M142, by omega, by have hq3 := hSk.or hSt; rw [hwm, show u = wst.length by omega]; exact hq3, by have hq3 := hLk.or (List.mem_of_getElem? hti); rw [updS_at, updS_twice] at hq3; exact hq3, tg_next htg hti⟩
 refine zex 12 <| zbh <| zsr ?_
 intro aC fr
 refine From_build0 (by kernel_rfl : coreAt _ 0 = some (some 136, (.buildSlice 83 0 #[]), 83, none)) fr (by kernel_rfl) (by kernel_rfl) (k' := 1) rfl (e := 88) (size := 1) (by kernel_rfl) (by kernel_rfl) M133 ?_
 intro b159 w160 hb159 _ M161 _ aC ea fr; clear ea
 replace M161 := M161.nf
 revert aC
 refine zpn 1 <| zld ⟨b9, 1, none⟩ (.slice (sM g8) ((bsOf fs).length) ((bsOf fs).length)) (blk_cell (M161.get 7 rfl) rfl) <| zpn 1 <| zix ⟨g8, 0, none⟩ ((bsOf fs).length) 1 (b : Int) <| zld ((⟨g8, 0, none⟩ : Addr).add (((b : Int)).toNat * 1)) (.slice Ao ((n + 63) / 64) co) (rd_get1 (row_rd (M161.get 6 rfl)) rfl (slv_get hro)) ?_
 intro aC fr
 refine zAp 142 (.tmp 136) (.tmp 141) 83 83 fr (e := 88) (size := 1) (bytes := 8) (z := (.int .u64 0)) (A := (sM b159)) (B := Ao) (n := 0) (cap := 0) (m := ((n + 63) / 64)) (cap' := co) (xs := []) (news := (u64s wsk)) M161 12 rfl (row_rd (M161.get 1 rfl)) (by rw [u64s_len, hSk.len, Nat.mul_one]) (by intro v hv; obtain ⟨x, _, rfl⟩ := List.mem_map.1 hv; rfl) (by omega) (by simp only [maxLen]; omega) ?_
 intro A166 c167 w168 M169 _ aC ea fr; clear ea
 replace M169 := M169.nf
 revert aC
 refine zkp [(1, (pT b1 0)), (2, (pT b4 0)), (4, (pT b9 0)), (13, (.slice (sM g123) ((orderL (bsOf fs)).length) c105)), (14, (.bool tb2)), (15, (nV j0)), (16, (nV b)), (142, (.slice A166 (0 + ((n + 63) / 64)) c167))] ?_
 rw [Nat.zero_add]
 have M174 : Mem noS w w168 [.fam 88 (rO2.set b nilV), .row 88 1 Ao ((n + 63) / 64) co (u64s wsk), .fam 88 rI2, .blk b1 24 (fV nm wk pa va A c fs), .blk b4 42 [(.slice none 0 0), (.slice none 0 0)], .row 83 1 (sM g7) ((bsOf fs).length) ((bsOf fs).length) (slv rI2), .row 83 1 (sM g8) ((bsOf fs).length) ((bsOf fs).length) (slv rO2), .blk b9 42 [(.slice (sM g7) ((bsOf fs).length) ((bsOf fs).length)), (.slice (sM g8) ((bsOf fs).length) ((bsOf fs).length))], .fam 3 rows18, .row 25 1 A16 ((bsOf fs).length) c17 (slv rows18), .row 3 1 (sM g123) ((orderL (bsOf fs)).length) c105 (ints (orderL (bsOf fs))), .row 3 1 A124 ((tg (bsOf fs) (b : Int)).length) c125 (ints (tg (bsOf fs) (b : Int))), .row 88 1 A166 ((n + 63) / 64) c167 (u64s wsk)] := M169.cast (by simp only [Nat.zero_add])
 refine zpn 1 <| zfe <| zsr <| zpn 1 <| zld ⟨b1, 4, none⟩ (.slice A ((bsOf fs).length) c) (blk_cell (M174.get 3 rfl) rfl) <| zpn 1 ?_
 obtain ⟨ad175, rfl⟩ := blocks_some (M174.ro hB) (bsOf_get hx)
 refine zix ad175 ((bsOf fs).length) 6 (b : Int) <| zls ((ad175 : Addr).add (((b : Int)).toNat * 6)) (xV x) (fblk_get (M174.ro hB) rfl hx) <| zpn 1 ?_
 refine zcl (into_c n A166 c167 wsk Sk (some ad175) fs b x w168 (by omega) hok hx (hvr x (List.mem_of_getElem? hx)) hSk (hA.but M174 12 rfl) (M174.get 12 rfl)) ?_
 rintro _ w176 ⟨ws2, rfl, hS2, M177x⟩
 have M177 := M174.md 12 rfl M177x
 refine zfe <| zsr ?_
 have M178 := M177.od [12, 12, 12, 12, 12, 12, 12, 12, 12, 12, 12, 12, 12] 13
 have hrl : b < rO2.length := (List.getElem?_eq_some_iff.1 hro).1
 have M179 : Mem noS w w176 [.fam 88 (rO2.set b ⟨Ao, ((n + 63) / 64), co, u64s wsk⟩), .fam 88 rI2, .blk b1 24 (fV nm wk pa va (some ad175) c fs), .blk b4 42 [(.slice none 0 0), (.slice none 0 0)], .row 83 1 (sM g7) ((bsOf fs).length) ((bsOf fs).length) (slv rI2), .row 83 1 (sM g8) ((bsOf fs).length) ((bsOf fs).length) (slv rO2), .blk b9 42 [(.slice (sM g7) ((bsOf fs).length) ((bsOf fs).length)), (.slice (sM g8) ((bsOf fs).length) ((bsOf fs).length))], .fam 3 rows18, .row 25 1 A16 ((bsOf fs).length) c17 (slv rows18), .row 3 1 (sM g123) ((orderL (bsOf fs)).length) c105 (ints (orderL (bsOf fs))), .row 3 1 A124 ((tg (bsOf fs) (b : Int)).length) c125 (ints (tg (bsOf fs) (b : Int))), .row 88 1 A166 ((n + 63) / 64) c167 (u64s ws2)] := (M178.unfocus b (List.getElem?_set_self hrl)).cast (by rw [set_twice])
 have M180 : Mem noS w w176 [.fam 88 (rO2.set b ⟨Ao, ((n + 63) / 64), co, u64s wsk⟩), .fam 88 rI2, .blk b1 24 (fV nm wk pa va (some ad175) c fs), .blk b4 42 [(.slice none 0 0), (.slice none 0 0)], .row 83 1 (sM g7) ((bsOf fs).length) ((bsOf fs).length) (slv rI2), .row 83 1 (sM g8) ((bsOf fs).length) ((bsOf fs).length) (slv (rO2.set b ⟨Ao, ((n + 63) / 64), co, u64s wsk⟩)), .blk b9 42 [(.slice (sM g7) ((bsOf fs).length) ((bsOf fs).length)), (.slice (sM g8) ((bsOf fs).length) ((bsOf fs).length))], .fam 3 rows18, .row 25 1 A16 ((bsOf fs).length) c17 (slv rows18), .row 3 1 (sM g123) ((orderL (bsOf fs)).length) c105 (ints (orderL (bsOf fs))), .row 3 1 A124 ((tg (bsOf fs) (b : Int)).length) c125 (ints (tg (bsOf fs) (b : Int))), .row 88 1 A166 ((n + 63) / 64) c167 (u64s ws2)] := M179.cast (by rw [slv_same hro (u64s wsk)])
 have M181 := M180.od [11, 11, 11, 11, 11, 11, 11, 11, 11, 11, 10, 11] 12
 have htga : ∀ (r : Nat) (t v : Int), r < (tg (bsOf fs) (b : Int)).length → (tg (bsOf fs) (b : Int))[r]? = some t → SI2 t v = true → Sk v = true := (show q = (tg (bsOf fs) (b : Int)).length by omega) ▸ htg
 refine zpn 2 <| zld ⟨b9, 0, none⟩ (.slice (sM g7) ((bsOf fs).length) ((bsOf fs).length)) (blk_cell (M181.get 6 rfl) rfl) <| zpn 1 <| zix ⟨g7, 0, none⟩ ((bsOf fs).length) 1 (b : Int) <| zkp [(1, (pT b1 0)), (2, (pT b4 0)), (4, (pT b9 0)), (13, (.slice (sM g123) ((orderL (bsOf fs)).length) c105)), (14, (.bool tb2)), (15, (nV j0)), (16, (nV b)), (21, (.slice A166 ((n + 63) / 64) c167)), (150, (.slice A166 ((n + 63) / 64) c167)), (154, (.pointer (some ((⟨g7, 0, none⟩ : Addr).add (((b : Int)).toNat * 1)))))] <| zld ((⟨g7, 0, none⟩ : Addr).add (((b : Int)).toNat * 1)) (.slice Ai ((n + 63) / 64) ci) (rd_get1 (row_rd (M181.get 4 rfl)) rfl (slv_get hri)) <| zcl (lsame_c ws2 wsi ((n + 63) / 64) A166 Ai c167 ci w176 hS2.len.symm hSi.len.symm (by omega) (RO.row_rd (M181.own_ro 11 rfl)) (RO.row_rd (RO.fam_rd (M181.own_ro 0 rfl) hri))) ?_
 rintro _ w182 ⟨rfl, M183x⟩
 have M183 := M181.cl M183x
 refine zpn 1 <| zfe <| zcP (!(decide (ws2 = wsi))) (¬ (ws2 = wsi)) (by simp only [notT, decide_eq_true_eq]) (fun c184 => ?_) (fun c184 => ?_)
 have hne : ¬ ∀ i : Nat, i < n → innS x Sk (i : Int) = SI2 (b : Int) (i : Int) := fun e => c184 (((innS_set hS2).same hSi).2 e)
 refine zsr <| zpn 1 <| zld ⟨b9, 0, none⟩ (.slice (sM g7) ((bsOf fs).length) ((bsOf fs).length)) (blk_cell (M183.get 6 rfl) rfl) <| zpn 2 <| zix ⟨g7, 0, none⟩ ((bsOf fs).length) 1 (b : Int) <| zsw M183 4 ((⟨g7, 0, none⟩ : Addr).add (((b : Int)).toNat * 1)) (((b : Int)).toNat * 1) (.slice A166 ((n + 63) / 64) c167) rfl rfl (by omega) fun w185 M186 => ?_
 replace M186 := M186.nf
 refine zfe <| zrg ?_
 have M187 := M186.od [11, 11, 11, 11, 11, 11, 11, 11, 11, 11, 11, 11] 12
 have M188 : Mem noS w w185 [.fam 88 (rI2.set b nilV), .row 88 1 Ai ((n + 63) / 64) ci (u64s wsi), .fam 88 (rO2.set b ⟨Ao, ((n + 63) / 64), co, u64s wsk⟩), .blk b1 24 (fV nm wk pa va (some ad175) c fs), .blk b4 42 [(.slice none 0 0), (.slice none 0 0)], .row 83 1 (sM g7) ((bsOf fs).length) ((bsOf fs).length) ((slv rI2).set (((b : Int)).toNat * 1) (.slice A166 ((n + 63) / 64) c167)), .row 83 1 (sM g8) ((bsOf fs).length) ((bsOf fs).length) (slv (rO2.set b ⟨Ao, ((n + 63) / 64), co, u64s wsk⟩)), .blk b9 42 [(.slice (sM g7) ((bsOf fs).length) ((bsOf fs).length)), (.slice (sM g8) ((bsOf fs).length) ((bsOf fs).length))], .fam 3 rows18, .row 25 1 A16 ((bsOf fs).length) c17 (slv rows18), .row 3 1 (sM g123) ((orderL (bsOf fs)).length) c105 (ints (orderL (bsOf fs))), .row 3 1 A124 ((tg (bsOf fs) (b : Int)).length) c125 (ints (tg (bsOf fs) (b : Int))), .row 88 1 A166 ((n + 63) / 64) c167 (u64s ws2)] := M187.focus b hri
 have M189 := M188.od [11, 11, 11, 11, 11, 11, 11, 11, 11, 11, 12, 11] 12
 have hrl2 : b < rI2.length := (List.getElem?_eq_some_iff.1 hri).1
 have M190 : Mem noS w w185 [.fam 88 (rI2.set b ⟨A166, ((n + 63) / 64), c167, u64s ws2⟩), .fam 88 (rO2.set b ⟨Ao, ((n + 63) / 64), co, u64s wsk⟩), .blk b1 24 (fV nm wk pa va (some ad175) c fs), .blk b4 42 [(.slice none 0 0), (.slice none 0 0)], .row 83 1 (sM g7) ((bsOf fs).length) ((bsOf fs).length) ((slv rI2).set (((b : Int)).toNat * 1) (.slice A166 ((n + 63) / 64) c167)), .row 83 1 (sM g8) ((bsOf fs).length) ((bsOf fs).length) (slv (rO2.set b ⟨Ao, ((n + 63) / 64), co, u64s wsk⟩)), .blk b9 42 [(.slice (sM g7) ((bsOf fs).length) ((bsOf fs).length)), (.slice (sM g8) ((bsOf fs).length) ((bsOf fs).length))], .fam 3 rows18, .row 25 1 A16 ((bsOf fs).length) c17 (slv rows18), .row 3 1 (sM g123) ((orderL (bsOf fs)).length) c105 (ints (orderL (bsOf fs))), .row 3 1 A124 ((tg (bsOf fs) (b : Int)).length) c125 (ints (tg (bsOf fs) (b : Int)))] := (M189.unfocus b (List.getElem?_set_self hrl2)).cast (by rw [set_twice])
 have M191 : Mem noS w w185 [.fam 88 (rI2.set b ⟨A166, ((n + 63) / 64), c167, u64s ws2⟩), .fam 88 (rO2.set b ⟨Ao, ((n + 63) / 64), co, u64s wsk⟩), .blk b1 24 (fV nm wk pa va (some ad175) c fs), .blk b4 42 [(.slice none 0 0), (.slice none 0 0)], .row 83 1 (sM g7) ((bsOf fs).length) ((bsOf fs).length) (slv (rI2.set b ⟨A166, ((n + 63) / 64), c167, u64s ws2⟩)), .row 83 1 (sM g8) ((bsOf fs).length) ((bsOf fs).length) (slv (rO2.set b ⟨Ao, ((n + 63) / 64), co, u64s wsk⟩)), .blk b9 42 [(.slice (sM g7) ((bsOf fs).length) ((bsOf fs).length)), (.slice (sM g8) ((bsOf fs).length) ((bsOf fs).length))], .fam 3 rows18, .row 25 1 A16 ((bsOf fs).length) c17 (slv rows18), .row 3 1 (sM g123) ((orderL (bsOf fs)).length) c105 (ints (orderL (bsOf fs))), .row 3 1 A124 ((tg (bsOf fs) (b : Int)).length) c125 (ints (tg (bsOf fs) (b : Int)))] := M190.cast (by simp only [slv_set, Int.toNat_natCast, Nat.mul_one])
 refine zpn 1 <| zfe <| zrg <| zpn 1 <| zar ((j0 : Int) - 1) <| zpn 1 <| zfe ?_
 have hlt := turn_less hx hLk hne
 intro aC fr
 exact ⟨2 * j0, by omega, j0, ((j0 : Int) - 1), true, (rI2.set b ⟨A166, ((n + 63) / 64), c167, u64s ws2⟩), (rO2.set b ⟨Ao, ((n + 63) / 64), co, u64s wsk⟩), (updS SI2 (b : Int) (innS x Sk)), (updS SO2 (b : Int) Sk), rfl, fr.kp [1, 2, 4, 13, 14, 15], (M191.tk 10), by omega, by omega, hRI2.set (innS_set hS2), hRO2.set hSk, hLk.inn_ hx (fun v hv => by rw [updS_at]; exact innS_at hv), ⟨by omega, fun _ => by omega⟩, fun h => Bool.noConfusion h⟩
 have heq := (hS2.same hSi).1 (Classical.not_not.1 c184)
 refine zsk <| zrg <| zpn 1 <| zar ((j0 : Int) - 1) <| zpn 1 <| zfe ?_
 intro aC fr
 exact ⟨2 * j0, by omega, j0, ((j0 : Int) - 1), tb2, rI2, (rO2.set b ⟨Ao, ((n + 63) / 64), co, u64s wsk⟩), SI2, (updS SO2 (b : Int) Sk), rfl, fr.kp [1, 2, 4, 13, 14, 15], (M183.tk 10), by omega, by omega, hRI2, hRO2.set hSk, hLk, hU, turn_same (by omega) hx hbo hcl2 htga heq⟩
 refine zex 10 <| zbh ?_
 intro aC fr
 exact ⟨2 * unmetA n fs.length SI2 + cond tb2 1 0, by rw [hbt]; have h1 := hU.1; have h2 := hU.2; cases tb2 with | false => (simp only [cond_true, cond_false]; omega) | true => (have := h2 rfl; simp only [cond_true]; omega), tb2, rI2, rO2, SI2, SO2, rfl, fr.kp [1, 2, 4, 13, 14], M118, hRI2, hRO2, hLO2, fun h q b hq hb => hcl2 h q b (by omega) hq hb⟩
 replace c114 : tb = false := Bool.eq_false_iff.2 c114
 have hbt : tb = false := c114
 refine zex 8 <| zbh <| zsr <| zls ⟨b9, 0, none⟩ [(.slice (sM g7) ((bsOf fs).length) ((bsOf fs).length)), (.slice (sM g8) ((bsOf fs).length) ((bsOf fs).length))] (blk_cells (M111.get 6 rfl)) <| zss M111 3 [(.slice (sM g7) ((bsOf fs).length) ((bsOf fs).length)), (.slice (sM g8) ((bsOf fs).length) ((bsOf fs).length))] rfl fun w198 M199 => ?_
 replace M199 := M199.nf
 refine zfe <| zre ?_
 intro aC fr
 refine outC (ad := ⟨b4, 0, none⟩) (vs := [(.slice (sM g7) ((bsOf fs).length) ((bsOf fs).length)), (.slice (sM g8) ((bsOf fs).length) ((bsOf fs).length))]) fr rfl (by kernel_rfl) (by kernel_rfl) (blk_cells (M199.get 3 rfl)) ?_
 refine ⟨_, rfl, ?_⟩
 have hlive := close_all hgood hva hLO (hcl hbt)
 have M202 := M199.od [5, 2, 5, 3] 4
 exact ⟨(sM g7), (bsOf fs).length, (sM g8), (bsOf fs).length, rI, rO, SI, SO, rfl, hRI1, hRO1, hlive, M202⟩
end Go.Proofs.YthgbejihcchcnaaDoor
namespace Go.Proofs.YthgbejihcchcnaaDoor
open Go.Mor
end Go.Proofs.YthgbejihcchcnaaDoor
namespace Go.Proofs.YthgbejihcchcnaaDoor
open Go.Mor
end Go.Proofs.YthgbejihcchcnaaDoor
namespace Go.Proofs.YthgbejihcchcnaaDoor
open Go.Mor
theorem contains_c (l : List Int) (A : Option Addr) (c : Nat) (x : Int) (w : World) (hll : l.length ≤ 1000000) (hr : RO noS w (.rd A (ints l))) :
    Calls Tryd.prog 70 #[(.slice A l.length c), (.int .i64 x)] w (Ret fun v w' => v = .bool (decide (x ∈ l)) ∧ Mem noS w w' []) := by
 refine zen 17 [(.slice A l.length c), (.int .i64 x)] Tryd.func70 ?_
 have hM := Mem.init w
 refine zsp <| zsq <| zsp <| zbk 0 ?_
 intro aC fr
 refine zlp (fun n_ a_ w_ => ∃ (i : Nat), n_ = l.length - i ∧ Fr a_ 17 [(1, (.int .i64 x)), (7, (.slice A l.length c)), (8, (.int .i64 ((l.length : Nat) : Int))), (9, (nV i))] ∧ Mem noS w w_ [] ∧ (i ≤ l.length) ∧ (¬ x ∈ l.take i)) (n := _) ⟨0, rfl, fr.kp [1, 7, 8, 9], hM, by omega, by simp⟩ ?_
 clear fr aC hM; rintro n aC w3 ⟨i, rfl, fr, M4, hi, hno⟩
 revert aC
 refine zsp <| zsq <| zcD (((i : Int) : Int) < ((l.length : Nat) : Int)) (fun c7 => ?_) (fun c7 => ?_)
 refine zsk <| zsq <| zbk 1 <| zsr ?_
 obtain ⟨y, hy⟩ := get_of (l := l) (i := i) (by omega)
 obtain ⟨ad8, rfl⟩ := rd_some (M4.ro hr) (by simp [ints]; omega)
 refine zix ad8 l.length 1 (i : Int) <| zld ((ad8 : Addr).add (((i : Int)).toNat * 1)) (.int .i64 y) (rd_at (M4.ro hr) rfl hy) <| zpn 1 <| zfe <| zsp <| zcP ((y : Int) == x) ((y : Int) = x) (by simp only [beq_iff_eq]) (fun c9 => ?_) (fun c9 => ?_)
 refine zsp <| zre <| zbr <| zbr <| zo1 (.bool true) ?_
 exact ⟨by rw [decide_eq_true (show x ∈ l by rw [show x = y by omega]; exact List.mem_of_getElem? hy)], M4⟩
 refine zsk <| zrg <| zar ((i : Int) + 1) <| zpn 1 <| zfe ?_
 intro aC fr
 exact ⟨l.length - (i + 1), by omega, i + 1, rfl, fr.kp [1, 7, 8, 9], M4, by omega, by rw [takeS_snoc hy, List.mem_append, List.mem_singleton]; rintro (h | h); exact hno h; omega⟩
 refine zex 0 <| zbh <| zsp <| zre <| zo1 (.bool false) ?_
 exact ⟨by rw [decide_eq_false (fun h => hno (by rw [List.take_of_length_le (by omega)]; exact h))], M4⟩
theorem see_c (b : Nat) (l : List (Int × Int)) (q : Int) (w : World) (hm : (Res.map b (inK (Value.int .i64) (vM l))).holds w) :
    Calls Tryd.prog 84 #[(.map (some b)), (.int .i64 q)] w (Ret fun v w' => v = .tuple #[] ∧ Mem (Res.map b (inK (Value.int .i64) (vM l))).fp w w' [.map b (inK (Value.int .i64) (vM (seeM l q)))]) := by
 refine zen 16 [(.map (some b)), (.int .i64 q)] Tryd.func84 ?_
 have hM := Mem.initS hm
 refine zsr <| zpn 2 <| zlv (ht := Tryd.underlying124) (intLaw Tryd.underlying3) q (.int .i64 0) (hM.get 0 rfl) true (v := (.tuple #[(.int .i64 ((lkp l q).getD 0)), (.bool ((lkp l q).isSome))])) (by rw [lkM1]) <| zpn 5 <| zfe <| zsp <| zcP (!((lkp l q).isSome)) (¬ (((lkp l q).isSome) = true)) (by simp only [notT]) (fun c1 => ?_) (fun c1 => ?_)
 replace c1 : ((lkp l q).isSome) = false := Bool.eq_false_iff.2 c1
 refine zrg <| zpn 2 <| zmu (intLaw Tryd.underlying3) hM 0 q (.int .i64 (-1)) (l := vM l) rfl Tryd.underlying124 fun w2 M3 => ?_
 replace M3 := M3.nf
 clear hM
 refine zfe <| zo0 ?_
 exact ⟨rfl, M3.cast (by rw [upk_vM, seeM_new (by rw [c1]; decide)])⟩
 replace c1 : ((lkp l q).isSome) = true := Classical.not_not.1 c1
 refine zsk <| zo0 ?_
 exact ⟨rfl, hM.cast (by rw [seeM_had (by rw [c1])])⟩
theorem end_c (b n : Nat) (l : List (Int × Int)) (x : FBlk) (As : Option Addr) (cs : Nat) (ws : List Nat) (S : Int → Bool) (w : World) (hn : n ≤ 20000) (hxl : x.insts.length ≤ 1000000) (hS : SetW n ws S) (hrow : RO (Res.map b (inK (Value.int .i64) (vM l))).fp w (.rd As (u64s ws))) (hT : RO (Res.map b (inK (Value.int .i64) (vM l))).fp w (.rd (sM 0) tabL)) (hm : (Res.map b (inK (Value.int .i64) (vM l))).holds w) :
    Calls Tryd.prog 85 #[(.map (some b)), (xA x), (.slice As ((n + 63) / 64) cs)] w (Ret fun v w' => v = .map (some b) ∧ Mem (Res.map b (inK (Value.int .i64) (vM l))).fp w w' [.map b (inK (Value.int .i64) (vM (endM l x n S)))]) := by
 refine zen 42 [(.map (some b)), (xA x), (.slice As ((n + 63) / 64) cs)] Tryd.func85 ?_
 have hM := Mem.initS hm
 refine zsr <| zbx hM 53 (xA x) (xV x) fun b1 w2 hb1 M3 => ?_
 replace M3 := M3.nf
 clear hM
 refine zpn 1 <| zfe <| zsr <| zpn 1 <| zld ⟨b1, 1, none⟩ (.slice x.iA x.insts.length x.ic) (blk_cell (M3.get 1 rfl) rfl) <| zpn 2 <| zfe <| zsq <| zsr <| zpn 1 ?_
 refine zcl (each_c ws ((n + 63) / 64) As cs w2 hS.fit hS.len.symm (by have := hS.len; omega) (RO.of ((M3.ro hrow))) (hT.at_ M3)) ?_
 rintro _ w6 ⟨A4, c5, rfl, M7x⟩
 have M7 := M3.cl M7x
 refine zkp [(0, (.map (some b))), (4, (pT b1 0)), (7, (.int .i64 ((x.insts.length : Nat) : Int))), (14, (.slice A4 (((eachN ws 0).map (fun i : Nat => (i : Int))).length) c5))] ?_
 rw [hS.each]
 have M8 : Mem (Res.map b (inK (Value.int .i64) (vM l))).fp w w6 [.map b (inK (Value.int .i64) (vM l)), .blk b1 53 (xV x), .row 3 1 A4 ((listS n S).length) c5 (ints (listS n S))] := M7.cast (by rw [hS.each])
 have hll : (listS n S).length ≤ n := cardS_le
 refine zpn 2 <| zfe <| zbk 0 ?_
 intro aC fr
 refine zlp (fun n_ a_ w_ => ∃ (i : Nat), n_ = (listS n S).length - i ∧ Fr a_ 42 [(0, (.map (some b))), (4, (pT b1 0)), (7, (.int .i64 ((x.insts.length : Nat) : Int))), (14, (.slice A4 ((listS n S).length) c5)), (15, (.int .i64 (((listS n S).length : Nat) : Int))), (16, (nV i))] ∧ Mem (Res.map b (inK (Value.int .i64) (vM l))).fp w w_ [.map b (inK (Value.int .i64) (vM (putM l ((listS n S).take i) (x.insts.length : Int)))), .blk b1 53 (xV x), .row 3 1 A4 ((listS n S).length) c5 (ints (listS n S))] ∧ (i ≤ (listS n S).length)) (n := _) ⟨0, rfl, fr.kp [0, 4, 7, 14, 15, 16], (M8.cast (by rw [List.take_zero]; rfl)), by omega⟩ ?_
 clear fr aC M8; rintro n aC w11 ⟨i, rfl, fr, M12, hi⟩
 revert aC
 refine zsp <| zsq <| zcD (((i : Int) : Int) < (((listS n S).length : Nat) : Int)) (fun c15 => ?_) (fun c15 => ?_)
 refine zsk <| zsq <| zbk 1 <| zsr ?_
 obtain ⟨y, ha⟩ := get_of (l := (listS n S)) (i := i) (by omega)
 obtain ⟨g17, rfl⟩ := row_some (M12.get 2 rfl) (by omega)
 refine zix ⟨g17, 0, none⟩ ((listS n S).length) 1 (i : Int) <| zld ((⟨g17, 0, none⟩ : Addr).add (((i : Int)).toNat * 1)) (.int .i64 y) (rd_at (row_rd (M12.get 2 rfl)) rfl ha) <| zpn 1 <| zfe <| zrg <| zpn 3 <| zmu (intLaw Tryd.underlying3) M12 0 y (.int .i64 ((x.insts.length : Nat) : Int)) (l := vM (putM l ((listS n S).take i) (x.insts.length : Int))) rfl Tryd.underlying124 fun w18 M19 => ?_
 replace M19 := M19.nf
 refine zfe <| zrg <| zar ((i : Int) + 1) <| zpn 1 <| zfe ?_
 have M20 : Mem (Res.map b (inK (Value.int .i64) (vM l))).fp w w18 [.map b (inK (Value.int .i64) (vM (putM l ((listS n S).take (i + 1)) (x.insts.length : Int)))), .blk b1 53 (xV x), .row 3 1 (sM g17) ((listS n S).length) c5 (ints (listS n S))] := M19.cast (by rw [upk_vM, putM_next ha])
 intro aC fr
 exact ⟨(listS n S).length - (i + 1), by omega, i + 1, rfl, fr.kp [0, 4, 7, 14, 15, 16], M20, by omega⟩
 refine zex 0 <| zbh <| zsq <| zsr ?_
 have M23 : Mem (Res.map b (inK (Value.int .i64) (vM l))).fp w w11 [.map b (inK (Value.int .i64) (vM (putM l (listS n S) (x.insts.length : Int)))), .blk b1 53 (xV x), .row 3 1 A4 ((listS n S).length) c5 (ints (listS n S))] := M12.cast (by rw [show i = (listS n S).length by omega, List.take_length])
 refine zpn 1 <| zld ⟨b1, 2, none⟩ (.int .i64 x.e) (blk_cell (M23.get 1 rfl) rfl) <| zpn 2 ?_
 obtain ⟨B24, hB24⟩ : ∃ B : Bool, B = ((x.e : Int) == 1) := ⟨_, rfl⟩
 refine zkp [(0, (.map (some b))), (4, (pT b1 0)), (7, (.int .i64 ((x.insts.length : Nat) : Int))), (27, (.bool ((x.e : Int) == 1)))] ?_
 rw [← hB24]
 have iB24 : B24 = true ↔ ((x.e : Int) = 1) := by rw [hB24]; simp only [beq_iff_eq]
 clear hB24
 intro aC fr
 refine zpk 1 5 [28] fr (news := [(28, (cond (!B24) (pT b1 2) undef))]) (by cases B24 <;> kernel_rfl) ?_
 intro aC fr
 refine From_either (B := (!B24)) (d := (some 29)) (.int .i64 x.e) fr (by cases B24 <;> kernel_rfl) (fun hB hh => ?_) ?_
 cases B24 <;> first | (exact absurd hB (by decide)) | skip
 have c24 : ¬ ((x.e : Int) = 1) := (fun h => Bool.noConfusion (iB24.2 h) : ¬ ((x.e : Int) = 1))
 exact From_ld (some 29) ⟨b1, 2, none⟩ fr (by kernel_rfl) (.int .i64 x.e) (blk_cell (M23.get 1 rfl) rfl) hh
 intro aC fr
 refine zpk 2 8 [31] fr (news := [(31, (cond (!B24) (.bool ((x.e : Int) == 2)) undef))]) (by cases B24 <;> kernel_rfl) ?_
 intro aC fr
 obtain ⟨B33, hB33⟩ : ∃ B : Bool, B = ((x.e : Int) == 2) := ⟨_, rfl⟩
 revert aC
 refine zkp [(0, (.map (some b))), (4, (pT b1 0)), (7, (.int .i64 ((x.insts.length : Nat) : Int))), (27, (.bool B24)), (31, (cond (!B24) (.bool ((x.e : Int) == 2)) undef))] ?_
 rw [← hB33]
 have iB33 : B33 = true ↔ ((x.e : Int) = 2) := by rw [hB33]; simp only [beq_iff_eq]
 clear hB33
 intro aC fr
 refine zpk 1 9 [32] fr (news := [(32, (cond (!B24 && B33) (pT b1 3) undef))]) (by cases B24 <;> cases B33 <;> kernel_rfl) ?_
 intro aC fr
 refine From_either (B := (!B24 && B33)) (d := (some 33)) (.int .i64 x.v) fr (by cases B24 <;> cases B33 <;> kernel_rfl) (fun hB hh => ?_) ?_
 cases B24 <;> cases B33 <;> first | (exact absurd hB (by decide)) | skip
 have c24 : ¬ ((x.e : Int) = 1) := (fun h => Bool.noConfusion (iB24.2 h) : ¬ ((x.e : Int) = 1))
 have c33 : ((x.e : Int) = 2) := iB33.1 rfl
 exact From_ld (some 33) ⟨b1, 3, none⟩ fr (by kernel_rfl) (.int .i64 x.v) (blk_cell (M23.get 1 rfl) rfl) hh
 intro aC fr
 refine zpk 3 13 [36] fr (news := [(36, (.bool (B24 || (B33 && decide ((x.v : Int) ≥ 0)))))]) (by cases B24 <;> cases B33 <;> kernel_rfl) ?_
 intro aC fr
 revert aC
 refine zfe <| zcP (B24 || (B33 && decide ((x.v : Int) ≥ 0))) (((x.e : Int) = 1) ∨ (((x.e : Int) = 2) ∧ ((x.v : Int) ≥ 0))) (by simp only [Bool.or_eq_true, Bool.and_eq_true, decide_eq_true_eq, iB24, iB33]) (fun c42 => ?_) (fun c42 => ?_)
 have hfin : finS x := by unfold finS; omega
 refine zrg <| zpn 2 <| zld ⟨b1, 3, none⟩ (.int .i64 x.v) (blk_cell (M23.get 1 rfl) rfl) <| zpn 1 <| zmu (intLaw Tryd.underlying3) M23 0 x.v (.int .i64 ((x.insts.length : Nat) : Int)) (l := vM (putM l (listS n S) (x.insts.length : Int))) rfl Tryd.underlying124 fun w43 M44 => ?_
 replace M44 := M44.nf
 refine zfe <| zsp <| zre <| zo1 (.map (some b)) ?_
 have M45 := M44.od [] 1
 exact ⟨rfl, M45.cast (by rw [upk_vM, endM_fin hfin])⟩
 have hfin : ¬ finS x := by unfold finS; omega
 refine zsk <| zsp <| zre <| zo1 (.map (some b)) ?_
 have M46 := M23.od [] 1
 exact ⟨rfl, M46.cast (by rw [endM_no hfin])⟩
end Go.Proofs.YthgbejihcchcnaaDoor
namespace Go.Proofs.YthgbejihcchcnaaDoor
open Go.Mor
theorem begin_c (g : Nat) (PA : Option Addr) (pc : Nat) (A : Option Addr) (c : Nat) (s : GSt) (us : List Int) (B : Option Addr) (cB : Nat) (w : World) (hG : (Res.pk (gvL g PA pc A c s)).holds w) (hpl : s.pl.length ≤ 100000) (hfl : s.fr.length ≤ 100000) (hvs : ∀ v, v ∈ us → 0 ≤ v ∧ v < (s.pl.length : Int)) (hpp : ∀ x, x ∈ s.pl → 0 ≤ x ∧ x < 100000) (hvl : us.length ≤ 100000) (hB : RO (Res.pk (gvL g PA pc A c s)).fp w (.rd B (ints us))) :
    Calls Tryd.prog 66 #[(pT g 0), (.slice B us.length cB)] w (Ret fun v w' => ∃ A' c', v = .tuple #[] ∧ Mem (Res.pk (gvL g PA pc A c s)).fp w w' (gvL g PA pc A' c' (beginS s us))) := by
 refine zen 70 [(pT g 0), (.slice B us.length cB)] Tryd.func66 ?_
 have hM := Mem.unpk hG
 refine zsr <| zpn 4 <| zsb (ho := (by simp)) hM 0 1 (.slice none 0 0) rfl fun w1 M2 => ?_
 replace M2 := M2.nf
 clear hM
 refine zpn 2 <| zsb (ho := (by simp)) M2 0 2 (.int .i64 0) rfl fun w3 M4 => ?_
 replace M4 := M4.nf
 refine zfe <| zsr ?_
 have M5 := M4.od [2, 1] 2
 have M6 : Mem (Res.pk (gvL g PA pc A c s)).fp w w3 [.blk g 70 [(.slice PA s.pl.length pc), (.slice none 0 0), (.int .i64 0)], .row 3 1 PA s.pl.length pc (ints s.pl), .row 3 1 none 0 0 []] := (M5.call (Mem.nilrow _ 3 1))
 have M7 := M6.od [1, 2, 2] 3
 refine zmm M7 fun b8 w9 hb8 M10 => ?_
 replace M10 := M10.nf
 have M11 : Mem (Res.pk (gvL g PA pc A c s)).fp w w9 [.blk g 70 [(.slice PA s.pl.length pc), (.slice none 0 0), (.int .i64 0)], .row 3 1 none 0 0 [], .row 3 1 PA s.pl.length pc (ints s.pl), .map b8 (inK (Value.int .i64) (vM []))] := M10.cast rfl
 refine zpn 1 <| zfe <| zsq <| zsp <| zbk 0 ?_
 intro aC fr
 refine zlp (fun n_ a_ w_ => ∃ (i : Nat), n_ = us.length - i ∧ Fr a_ 70 [(0, (pT g 0)), (4, (.map (some b8))), (15, (.slice B us.length cB)), (16, (.int .i64 ((us.length : Nat) : Int))), (17, (nV i))] ∧ Mem (Res.pk (gvL g PA pc A c s)).fp w w_ [.blk g 70 [(.slice PA s.pl.length pc), (.slice none 0 0), (.int .i64 (nxM s.pl (us.take i)))], .row 3 1 none 0 0 [], .row 3 1 PA s.pl.length pc (ints s.pl), .map b8 (inK (Value.int .i64) (vM (hadM s.pl (us.take i))))] ∧ (i ≤ us.length)) (n := _) ⟨0, rfl, fr.kp [0, 4, 15, 16, 17], (M11.cast rfl), by omega⟩ ?_
 clear fr aC M11; rintro n aC w14 ⟨i, rfl, fr, M15, hi⟩
 revert aC
 refine zsp <| zsq <| zcD (((i : Int) : Int) < ((us.length : Nat) : Int)) (fun c18 => ?_) (fun c18 => ?_)
 refine zsk <| zsq <| zbk 1 <| zsr ?_
 obtain ⟨v0, hv⟩ := get_of (l := us) (i := i) (by omega)
 obtain ⟨hv0, hvn⟩ := hvs v0 (List.mem_of_getElem? hv)
 obtain ⟨q, rfl⟩ := Int.eq_ofNat_of_zero_le hv0
 obtain ⟨x, hx⟩ := get_of (l := s.pl) (i := q) (by omega)
 have ex : s.pl.getD q 0 = x := by simp [List.getD, hx]
 obtain ⟨hx0, hx1⟩ := hpp x (List.mem_of_getElem? hx)
 have hcn := hadM_le (pl := s.pl) (vs := us.take i) x
 have hnx0 := nxM_ge (pl := s.pl) (vs := us.take i)
 have hnx1 := nxM_le (pl := s.pl) (vs := us.take i) (K := 100000) (by omega) (fun x h => (hpp x h).2)
 have htl : (us.take i).length ≤ us.length := by rw [List.length_take]; omega
 obtain ⟨ad19, rfl⟩ := rd_some (M15.ro hB) (by simp [ints]; omega)
 refine zix ad19 us.length 1 (i : Int) <| zld ((ad19 : Addr).add (((i : Int)).toNat * 1)) (nV q) (rd_at (M15.ro hB) rfl hv) <| zpn 1 <| zfe <| zsr <| zpn 4 <| zld ⟨g, 0, none⟩ (.slice PA s.pl.length pc) (blk_cell (M15.get 0 rfl) rfl) <| zpn 1 ?_
 obtain ⟨g21, rfl⟩ := row_some (M15.get 2 rfl) (by omega)
 refine zix ⟨g21, 0, none⟩ s.pl.length 1 (q : Int) <| zld ((⟨g21, 0, none⟩ : Addr).add (((q : Int)).toNat * 1)) (.int .i64 x) (rd_at (row_rd (M15.get 2 rfl)) rfl hx) <| zlv (ht := Tryd.underlying38) (intLaw Tryd.underlying3) x (.int .i64 0) (M15.get 3 rfl) false (v := (.int .i64 ((lkp (hadM s.pl (us.take i)) x).getD 0))) (by rw [lkM0]) <| zar (((lkp (hadM s.pl (us.take i)) x).getD 0) + 1) <| zmu (intLaw Tryd.underlying3) M15 3 x (.int .i64 (((lkp (hadM s.pl (us.take i)) x).getD 0) + 1)) (l := vM (hadM s.pl (us.take i))) rfl Tryd.underlying38 fun w22 M23 => ?_
 replace M23 := M23.nf
 refine zkp [(0, (pT g 0)), (4, (.map (some b8))), (6, (nV q)), (15, (.slice (some ad19) us.length cB)), (16, (.int .i64 ((us.length : Nat) : Int))), (17, (nV i))] <| zfe <| zkp [(0, (pT g 0)), (4, (.map (some b8))), (6, (nV q)), (15, (.slice (some ad19) us.length cB)), (16, (.int .i64 ((us.length : Nat) : Int))), (17, (nV i))] ?_
 intro aC fr
 refine zdt 14 (N := 70) (env0 := [(0, (pT g 0)), (4, (.map (some b8))), (6, (nV q)), (15, (.slice (some ad19) us.length cB)), (16, (.int .i64 ((us.length : Nat) : Int))), (17, (nV i))]) (specAt [.det (pT g 0), .det (pT g 0), .det (pT g 0), .det (pT g 2), .det (.int .i64 (nxM s.pl (us.take i))), .det (pT g 0), .det (pT g 0), .det (pT g 0), .det (.slice (sM g21) s.pl.length pc), .det (nV q), .det (.pointer (some ((⟨g21, 0, none⟩ : Addr).add (((q : Int)).toNat * 1)))), .det (.int .i64 x), .det (.int .i64 (x + 1)), .det (.int .i64 (max (nxM s.pl (us.take i)) (x + 1)))]) fr (la (la (la (la (la (la (la (la (la (la (la (la (la (la lz dP) dP) dP) dP) (dL ⟨g, 2, none⟩ (.int .i64 (nxM s.pl (us.take i))) fun w_ hK => (blk_cell ((M23.then_ hK).get 0 rfl) rfl))) dP) dP) dP) (dL ⟨g, 0, none⟩ (.slice (sM g21) s.pl.length pc) fun w_ hK => (blk_cell ((M23.then_ hK).get 0 rfl) rfl))) dP) (dI ⟨g21, 0, none⟩ s.pl.length 1 (q : Int))) (dL ((⟨g21, 0, none⟩ : Addr).add (((q : Int)).toNat * 1)) (.int .i64 x) fun w_ hK => (rd_at (row_rd ((M23.then_ hK).get 2 rfl)) rfl hx))) (dA (x + 1))) (dMX (nxM s.pl (us.take i)) (x + 1))) ?_
 intro aC w28 vs hK hv fr
 revert aC; refine zkp [(0, (pT g 0)), (4, (.map (some b8))), (15, (.slice (some ad19) us.length cB)), (16, (.int .i64 ((us.length : Nat) : Int))), (17, (nV i)), (31, (pT g 0)), (44, (.int .i64 (max (nxM s.pl (us.take i)) (x + 1))))] ?_
 have M29 := M23.then_ hK
 clear hK hv fr aC M23; clear vs
 refine zpn 2 <| zsb (ho := (by simp)) M29 0 2 (.int .i64 (max (nxM s.pl (us.take i)) (x + 1))) rfl fun w30 M31 => ?_
 replace M31 := M31.nf
 refine zfe <| zrg <| zar ((i : Int) + 1) <| zpn 1 <| zfe ?_
 have M32 : Mem (Res.pk (gvL g (sM g21) pc A c s)).fp w w30 [.blk g 70 [(.slice (sM g21) s.pl.length pc), (.slice none 0 0), (.int .i64 (nxM s.pl (us.take (i + 1))))], .row 3 1 none 0 0 [], .row 3 1 (sM g21) s.pl.length pc (ints s.pl), .map b8 (inK (Value.int .i64) (vM (hadM s.pl (us.take (i + 1)))))] := M31.cast (by simp only [upk_vM, hadM_next hv, nxM_next hv, Int.toNat_natCast, ex])
 intro aC fr
 exact ⟨us.length - (i + 1), by omega, i + 1, rfl, fr.kp [0, 4, 15, 16, 17], M32, by omega⟩
 refine zex 0 <| zbh <| zsr ?_
 have M35 : Mem (Res.pk (gvL g PA pc A c s)).fp w w14 [.blk g 70 [(.slice PA s.pl.length pc), (.slice none 0 0), (.int .i64 (nxM s.pl us))], .row 3 1 none 0 0 [], .row 3 1 PA s.pl.length pc (ints s.pl), .map b8 (inK (Value.int .i64) (vM (hadM s.pl us)))] := M15.cast (by rw [List.take_of_length_le (by omega)])
 have hnx0 := nxM_ge (pl := s.pl) (vs := us)
 have hnx1 := nxM_le (pl := s.pl) (vs := us) (K := 100000) (by omega) (fun x h => (hpp x h).2)
 refine zpn 3 <| zld ⟨g, 2, none⟩ (.int .i64 (nxM s.pl us)) (blk_cell (M35.get 0 rfl) rfl) <| zpn 1 <| zfe <| zbk 2 ?_
 intro aC fr
 refine zlp (fun n_ a_ w_ => ∃ (p : Nat) (A2 : Option Addr) (c2 : Nat), n_ = (nxM s.pl us).toNat - p ∧ Fr a_ 70 [(0, (pT g 0)), (4, (.map (some b8))), (51, (.int .i64 (nxM s.pl us))), (52, (nV p))] ∧ Mem (Res.pk (gvL g PA pc A c s)).fp w w_ [.blk g 70 [(.slice PA s.pl.length pc), (.slice A2 ((freeTo (hadM s.pl us) p).length) c2), (.int .i64 (nxM s.pl us))], .row 3 1 A2 ((freeTo (hadM s.pl us) p).length) c2 (ints (freeTo (hadM s.pl us) p)), .row 3 1 PA s.pl.length pc (ints s.pl), .map b8 (inK (Value.int .i64) (vM (hadM s.pl us)))] ∧ ((p : Int) ≤ (nxM s.pl us))) (n := _) ⟨0, none, 0, rfl, fr.kp [0, 4, 51, 52], (M35.cast rfl), by omega⟩ ?_
 clear fr aC M35; rintro n aC w38 ⟨p, A2, c2, rfl, fr, M39, hp⟩
 revert aC
 refine zsp <| zsq <| zcD (((p : Int) : Int) < (nxM s.pl us)) (fun c42 => ?_) (fun c42 => ?_)
 refine zsk <| zsq <| zbk 3 <| zsr ?_
 have hfl2 := freeTo_len (hadM s.pl us) p
 refine zpn 2 <| zfe <| zsr <| zpn 2 <| zlv (ht := Tryd.underlying38) (intLaw Tryd.underlying3) (p : Int) (.int .i64 0) (M39.get 3 rfl) false (v := (.int .i64 ((lkp (hadM s.pl us) (p : Int)).getD 0))) (by rw [lkM0]) <| zpn 1 <| zfe <| zcP ((((lkp (hadM s.pl us) (p : Int)).getD 0) : Int) == 0) ((((lkp (hadM s.pl us) (p : Int)).getD 0) : Int) = 0) (by simp only [beq_iff_eq]) (fun c43 => ?_) (fun c43 => ?_)
 refine zrg <| zpn 4 <| zld ⟨g, 1, none⟩ (.slice A2 ((freeTo (hadM s.pl us) p).length) c2) (blk_cell (M39.get 0 rfl) rfl) <| zpn 1 ?_
 intro aC fr
 refine zBs 65 68 1 #[(0, (.tmp 64))] 68 fr (e := 3) (size := 1) (zs := [(.int .i64 0)]) (vs := [(0, (nV p))]) (cs := [(nV p)]) M39 ?_
 intro b44 w45 hb44 _ M46 _ aC ea fr; clear ea
 replace M46 := M46.nf
 refine zAp 66 (.tmp 63) (.tmp 65) 68 68 fr (e := 3) (size := 1) (bytes := 8) (z := (.int .i64 0)) (A := A2) (B := (sM b44)) (n := ((freeTo (hadM s.pl us) p).length)) (cap := c2) (m := 1) (cap' := 1) (xs := (ints (freeTo (hadM s.pl us) p))) (news := [(nV p)]) M46 1 rfl (row_rd (M46.get 4 rfl)) rfl (by simp [Value.oneCell']) (by omega) (by simp only [maxLen]; omega) ?_
 intro A51 c52 w53 M54 _ aC ea fr; clear ea
 replace M54 := M54.nf
 have M57 := M54.od [3, 3, 3, 3] 4
 revert aC
 refine zpn 2 <| zsb (ho := (by simp)) M57 0 1 (.slice A51 (((freeTo (hadM s.pl us) p).length) + 1) c52) rfl fun w58 M59 => ?_
 replace M59 := M59.nf
 refine zkp [(0, (pT g 0)), (4, (.map (some b8))), (51, (.int .i64 (nxM s.pl us))), (52, (nV p))] <| zfe <| zrg <| zar ((p : Int) + 1) <| zpn 1 <| zfe ?_
 have M60 : Mem (Res.pk (gvL g PA pc A c s)).fp w w58 [.blk g 70 [(.slice PA s.pl.length pc), (.slice A51 ((freeTo (hadM s.pl us) (p + 1)).length) c52), (.int .i64 (nxM s.pl us))], .row 3 1 A51 ((freeTo (hadM s.pl us) (p + 1)).length) c52 (ints (freeTo (hadM s.pl us) (p + 1))), .row 3 1 PA s.pl.length pc (ints s.pl), .map b8 (inK (Value.int .i64) (vM (hadM s.pl us)))] := M59.cast (by simp [freeTo_next, show (lkp (hadM s.pl us) (p : Int)).getD 0 = 0 by omega, ints])
 intro aC fr
 exact ⟨(nxM s.pl us).toNat - (p + 1), by omega, p + 1, A51, c52, rfl, fr.kp [0, 4, 51, 52], M60, by omega⟩
 refine zsk <| zrg <| zar ((p : Int) + 1) <| zpn 1 <| zfe ?_
 have M63 : Mem (Res.pk (gvL g PA pc A c s)).fp w w38 [.blk g 70 [(.slice PA s.pl.length pc), (.slice A2 ((freeTo (hadM s.pl us) (p + 1)).length) c2), (.int .i64 (nxM s.pl us))], .row 3 1 A2 ((freeTo (hadM s.pl us) (p + 1)).length) c2 (ints (freeTo (hadM s.pl us) (p + 1))), .row 3 1 PA s.pl.length pc (ints s.pl), .map b8 (inK (Value.int .i64) (vM (hadM s.pl us)))] := M39.cast (by rw [freeTo_next, if_neg (show ¬ (lkp (hadM s.pl us) (p : Int)).getD 0 = 0 by omega)])
 intro aC fr
 exact ⟨(nxM s.pl us).toNat - (p + 1), by omega, p + 1, A2, c2, rfl, fr.kp [0, 4, 51, 52], M63, by omega⟩
 refine zex 2 <| zbh <| zo0 ?_
 have M66 := M39.od [2, 2, 2] 3
 exact ⟨A2, c2, rfl, M66.cast (by simp only [gvL, beginS, show p = (nxM s.pl us).toNat by omega])⟩
end Go.Proofs.YthgbejihcchcnaaDoor
namespace Go.Proofs.YthgbejihcchcnaaDoor
open Go.Mor
theorem read_c (n : Nat) (As : Option Addr) (cs : Nat) (ws : List Nat) (S : Int → Bool) (A : Option Addr) (fs : List FBlk) (k : Nat) (x : FBlk) (w : World) (hn : n ≤ 20000) (hok : FOk fs) (hx : fs[k]? = some x) (hxl : x.insts.length ≤ 1000000) (hS : SetW n ws S) (hA : RO noS w (.fn A fs)) (hrow : RO noS w (.rd As (u64s ws))) (hT : RO noS w (.rd (sM 0) tabL)) :
    Calls Tryd.prog 67 #[(xA x), (.slice As ((n + 63) / 64) cs)] w (Ret fun v w' => ∃ b', v = .map (some b') ∧ Mem noS w w' [.map b' (inK (Value.int .i64) (vM (readM x n S)))]) := by
 have hl1 : x.phis.length ≤ 281474976710656 := (hok.get hx).lp
 refine zen 56 [(xA x), (.slice As ((n + 63) / 64) cs)] Tryd.func67 ?_
 have hM := Mem.init w
 refine zsr <| zbx hM 53 (xA x) (xV x) fun b1 w2 hb1 M3 => ?_
 replace M3 := M3.nf
 clear hM
 refine zpn 1 <| zfe <| zsr <| zmm M3 fun b4 w5 hb4 M6 => ?_
 replace M6 := M6.nf
 have M7 : Mem noS w w5 [.blk b1 53 (xV x), .map b4 (inK (Value.int .i64) (vM []))] := M6.cast rfl
 refine zpn 1 <| zfe <| zsq <| zsr <| zpn 1 <| zld ⟨b1, 1, none⟩ (.slice x.iA x.insts.length x.ic) (blk_cell (M7.get 0 rfl) rfl) <| zpn 2 <| zfe <| zbk 0 ?_
 intro aC fr
 refine zlp (fun n_ a_ w_ => ∃ (j : Nat), n_ = x.insts.length - j ∧ Fr a_ 56 [(1, (.slice As ((n + 63) / 64) cs)), (2, (pT b1 0)), (5, (.map (some b4))), (14, (.slice x.iA x.insts.length x.ic)), (15, (.int .i64 ((x.insts.length : Nat) : Int))), (16, (nV j))] ∧ Mem noS w w_ [.blk b1 53 (xV x), .map b4 (inK (Value.int .i64) (vM (insM [] x.insts j)))] ∧ (j ≤ x.insts.length)) (n := _) ⟨0, rfl, fr.kp [1, 2, 5, 14, 15, 16], (M7.cast rfl), by omega⟩ ?_
 clear fr aC M7; rintro n aC w10 ⟨j, rfl, fr, M11, hj⟩
 revert aC
 refine zsp <| zsq <| zcD (((j : Int) : Int) < ((x.insts.length : Nat) : Int)) (fun c14 => ?_) (fun c14 => ?_)
 refine zsk <| zsq <| zbk 1 <| zsr ?_
 obtain ⟨p3, hp3⟩ := get_of (l := x.insts) (i := j) (by omega)
 have hpl3 : p3.args.length ≤ 281474976710656 := ((hok.get hx).insts p3 (List.mem_of_getElem? hp3)).len
 refine zpn 1 ?_
 obtain ⟨ad15, had16⟩ := rds_some (M11.ro (hA.insts hx)) (cs := p3.cells) (i := j) (by simp [hp3])
 intro aC fr
 refine From_ixA (some 19) x.iA ad15 x.insts.length 5 (j : Int) fr (by kernel_rfl) had16 (by omega) (by omega) ?_
 intro aC fr
 revert aC
 refine zls ((ad15 : Addr).add (((j : Int)).toNat * 5)) (iV p3) (ins_get (M11.ro (hA.insts hx)) had16 hp3) <| zal M11 57 [(.int .i64 0), (.int .i64 0), (.int .i64 0), (.string ⟨#[]⟩), (.slice none 0 0)] fun b21 w22 hb21 M23 => ?_
 replace M23 := M23.nf
 refine zpn 1 <| zss M23 2 (iV p3) rfl fun w24 M25 => ?_
 replace M25 := M25.nf
 refine zfe <| zsq <| zsr <| zpn 1 <| zld ⟨b21, 4, none⟩ (.slice p3.A p3.args.length p3.c) (blk_cell (M25.get 2 rfl) rfl) <| zpn 2 <| zfe <| zbk 2 ?_
 intro aC fr
 refine zlp (fun n_ a_ w_ => ∃ (kk : Nat), n_ = p3.args.length - kk ∧ Fr a_ 56 [(1, (.slice As ((n + 63) / 64) cs)), (2, (pT b1 0)), (5, (.map (some b4))), (6, (nV j)), (7, (pT b21 0)), (14, (.slice x.iA x.insts.length x.ic)), (15, (.int .i64 ((x.insts.length : Nat) : Int))), (16, (nV j)), (22, (.slice p3.A p3.args.length p3.c)), (23, (.int .i64 ((p3.args.length : Nat) : Int))), (24, (nV kk))] ∧ Mem noS w w_ [.blk b1 53 (xV x), .map b4 (inK (Value.int .i64) (vM (putM (insM [] x.insts j) (p3.args.take kk) (j : Int)))), .blk b21 57 (iV p3)] ∧ (kk ≤ p3.args.length)) (n := _) ⟨0, rfl, fr.kp [1, 2, 5, 6, 7, 14, 15, 16, 22, 23, 24], (M25.cast (by rw [List.take_zero]; rfl)), by omega⟩ ?_
 clear fr aC M25; rintro n aC w28 ⟨kk, rfl, fr, M29, hkk⟩
 revert aC
 refine zsp <| zsq <| zcD (((kk : Int) : Int) < ((p3.args.length : Nat) : Int)) (fun c32 => ?_) (fun c32 => ?_)
 refine zsk <| zsq <| zbk 3 <| zsr ?_
 obtain ⟨a0, ha⟩ := get_of (l := p3.args) (i := kk) (by omega)
 obtain ⟨ad33, had34⟩ := rd_some (M29.ro (hA.inst hx hp3)) (by simp [ints]; omega)
 intro aC fr
 refine From_ixA (some 26) p3.A ad33 p3.args.length 1 (kk : Int) fr (by kernel_rfl) had34 (by omega) (by omega) ?_
 intro aC fr
 revert aC
 refine zld ((ad33 : Addr).add (((kk : Int)).toNat * 1)) (.int .i64 a0) (rd_at (M29.ro (hA.inst hx hp3)) had34 ha) <| zpn 1 <| zfe <| zrg <| zpn 3 <| zmu (intLaw Tryd.underlying3) M29 1 a0 (nV j) (l := vM (putM (insM [] x.insts j) (p3.args.take kk) (j : Int))) rfl Tryd.underlying124 fun w39 M40 => ?_
 replace M40 := M40.nf
 refine zfe <| zrg <| zar ((kk : Int) + 1) <| zpn 1 <| zfe ?_
 have M41 : Mem noS w w39 [.blk b1 53 (xV x), .map b4 (inK (Value.int .i64) (vM (putM (insM [] x.insts j) (p3.args.take (kk + 1)) (j : Int)))), .blk b21 57 (iV p3)] := M40.cast (by rw [upk_vM, putM_next ha])
 intro aC fr
 exact ⟨p3.args.length - (kk + 1), by omega, kk + 1, rfl, fr.kp [1, 2, 5, 6, 7, 14, 15, 16, 22, 23, 24], M41, by omega⟩
 refine zex 2 <| zbh <| zsr ?_
 have M44 : Mem noS w w28 [.blk b1 53 (xV x), .map b4 (inK (Value.int .i64) (vM (putM (insM [] x.insts j) p3.args (j : Int)))), .blk b21 57 (iV p3)] := M29.cast (by rw [show kk = p3.args.length by omega, List.take_length])
 refine zpn 1 <| zld ⟨b21, 1, none⟩ (.int .i64 p3.dst) (blk_cell (M44.get 2 rfl) rfl) <| zpn 1 <| zfe <| zcD ((p3.dst : Int) ≥ 0) (fun c45 => ?_) (fun c45 => ?_)
 refine zrg <| zpn 2 <| zld ⟨b21, 1, none⟩ (.int .i64 p3.dst) (blk_cell (M44.get 2 rfl) rfl) <| zcl (see_c b4 (putM (insM [] x.insts j) p3.args (j : Int)) p3.dst w28 (M44.get 1 rfl)) ?_
 rintro _ w46 ⟨rfl, M47x⟩
 have M47 := M44.md 1 rfl M47x
 refine zfe <| zrg <| zar ((j : Int) + 1) <| zpn 1 <| zfe ?_
 have hde : dstM (putM (insM [] x.insts j) p3.args (j : Int)) p3.dst = (seeM (putM (insM [] x.insts j) p3.args (j : Int)) p3.dst) := by unfold dstM; rw [if_pos (by omega)]
 have M48 : Mem noS w w46 [.blk b1 53 (xV x), .map b4 (inK (Value.int .i64) (vM (insM [] x.insts (j + 1)))), .blk b21 57 (iV p3)] := M47.cast (by rw [insM_next hp3, hde])
 intro aC fr
 exact ⟨x.insts.length - (j + 1), by omega, j + 1, rfl, fr.kp [1, 2, 5, 14, 15, 16], (M48.tk 2), by omega⟩
 refine zsk <| zrg <| zar ((j : Int) + 1) <| zpn 1 <| zfe ?_
 have hde : dstM (putM (insM [] x.insts j) p3.args (j : Int)) p3.dst = (putM (insM [] x.insts j) p3.args (j : Int)) := by unfold dstM; rw [if_neg (by omega)]
 have M51 : Mem noS w w28 [.blk b1 53 (xV x), .map b4 (inK (Value.int .i64) (vM (insM [] x.insts (j + 1)))), .blk b21 57 (iV p3)] := M44.cast (by rw [insM_next hp3, hde])
 intro aC fr
 exact ⟨x.insts.length - (j + 1), by omega, j + 1, rfl, fr.kp [1, 2, 5, 14, 15, 16], (M51.tk 2), by omega⟩
 refine zex 0 <| zbh <| zsq <| zsr ?_
 have M54 : Mem noS w w10 [.blk b1 53 (xV x), .map b4 (inK (Value.int .i64) (vM (insM [] x.insts x.insts.length)))] := M11.cast (by rw [show j = x.insts.length by omega])
 refine zpn 1 <| zld ⟨b1, 0, none⟩ (.slice x.pA x.phis.length x.pc) (blk_cell (M54.get 0 rfl) rfl) <| zpn 2 <| zfe <| zbk 4 ?_
 intro aC fr
 refine zlp (fun n_ a_ w_ => ∃ (q1 : Nat), n_ = x.phis.length - q1 ∧ Fr a_ 56 [(1, (.slice As ((n + 63) / 64) cs)), (2, (pT b1 0)), (5, (.map (some b4))), (41, (.slice x.pA x.phis.length x.pc)), (42, (.int .i64 ((x.phis.length : Nat) : Int))), (43, (nV q1))] ∧ Mem noS w w_ [.blk b1 53 (xV x), .map b4 (inK (Value.int .i64) (vM (phM (insM [] x.insts x.insts.length) (x.phis.take q1))))] ∧ (q1 ≤ x.phis.length)) (n := _) ⟨0, rfl, fr.kp [1, 2, 5, 41, 42, 43], (M54.cast (by rw [List.take_zero]; rfl)), by omega⟩ ?_
 clear fr aC M54; rintro n aC w57 ⟨q1, rfl, fr, M58, hq1⟩
 revert aC
 refine zsp <| zsq <| zcD (((q1 : Int) : Int) < ((x.phis.length : Nat) : Int)) (fun c61 => ?_) (fun c61 => ?_)
 refine zsk <| zsq <| zbk 5 <| zsr ?_
 obtain ⟨p2, hph⟩ := get_of (l := x.phis) (i := q1) (by omega)
 obtain ⟨ad62, had63⟩ := rds_some (M58.ro (hA.phis hx)) (cs := p2.cells) (i := q1) (by simp [hph])
 intro aC fr
 refine From_ixA (some 45) x.pA ad62 x.phis.length 2 (q1 : Int) fr (by kernel_rfl) had63 (by omega) (by omega) ?_
 intro aC fr
 revert aC
 refine zls ((ad62 : Addr).add (((q1 : Int)).toNat * 2)) (pV p2) (phi_get (M58.ro (hA.phis hx)) had63 hph) <| zal M58 86 [(.int .i64 0), (.slice none 0 0)] fun b68 w69 hb68 M70 => ?_
 replace M70 := M70.nf
 refine zss M70 2 (pV p2) rfl fun w71 M72 => ?_
 replace M72 := M72.nf
 refine zfe <| zrg <| zpn 2 <| zld ⟨b68, 0, none⟩ (.int .i64 p2.dst) (blk_cell (M72.get 2 rfl) rfl) <| zcl (see_c b4 (phM (insM [] x.insts x.insts.length) (x.phis.take q1)) p2.dst w71 (M72.get 1 rfl)) ?_
 rintro _ w73 ⟨rfl, M74x⟩
 have M74 := M72.md 1 rfl M74x
 refine zfe <| zrg <| zar ((q1 : Int) + 1) <| zpn 1 <| zfe ?_
 have M75 : Mem noS w w73 [.blk b1 53 (xV x), .map b4 (inK (Value.int .i64) (vM (phM (insM [] x.insts x.insts.length) (x.phis.take (q1 + 1))))), .blk b68 86 (pV p2)] := M74.cast (by rw [phM_next hph])
 intro aC fr
 exact ⟨x.phis.length - (q1 + 1), by omega, q1 + 1, rfl, fr.kp [1, 2, 5, 41, 42, 43], (M75.tk 2), by omega⟩
 refine zex 4 <| zbh <| zsr ?_
 have M78 : Mem noS w w57 [.blk b1 53 (xV x), .map b4 (inK (Value.int .i64) (vM (phM (insM [] x.insts x.insts.length) x.phis)))] := M58.cast (by rw [show q1 = x.phis.length by omega, List.take_length])
 refine zpn 1 <| zls ⟨b1, 0, none⟩ (xV x) (blk_cells (M78.get 0 rfl)) <| zpn 1 <| zcl (end_c b4 n (phM (insM [] x.insts x.insts.length) x.phis) x As cs ws S w57 hn hxl hS (hrow.but M78 1 rfl) (hT.but M78 1 rfl) (M78.get 1 rfl)) ?_
 rintro _ w79 ⟨rfl, M80x⟩
 have M80 := M78.md 1 rfl M80x
 refine zpn 1 <| zfe <| zre <| zo1 (.map (some b4)) ?_
 have M81 := M80.od [1] 1
 exact ⟨b4, rfl, M81⟩
end Go.Proofs.YthgbejihcchcnaaDoor
namespace Go.Proofs.YthgbejihcchcnaaDoor
open Go.Mor
theorem block_c (n pn : Nat) (nm : ByteArray) (wk : Bool) (pa va : Int) (A : Option Addr) (c : Nat) (fs : List FBlk) (A1 A2 : Option Addr) (c1 c2 : Nat) (rI rO : List RowV) (SI SO : Int → Int → Bool) (k : Nat) (x : FBlk) (g : Nat) (PA : Option Addr) (pc : Nat) (AF : Option Addr) (cF : Nat) (s : GSt) (K : Nat) (w : World) (hN : fs.length ≤ 1000) (hok : FOk fs) (hA : RO (Res.pk (gvL g PA pc AF cF s)).fp w (.fn A fs)) (hpn : pa = (pn : Int)) (hpn2 : pn ≤ n) (hn2 : n ≤ 20000) (hvr : VR n x) (hx : fs[k]? = some x) (hRI : SetsR n fs.length rI SI) (hRO : SetsR n fs.length rO SO) (hOI : RO (Res.pk (gvL g PA pc AF cF s)).fp w (.rd A1 (slv rI))) (hFI : RO (Res.pk (gvL g PA pc AF cF s)).fp w (.fam 88 rI)) (hOO : RO (Res.pk (gvL g PA pc AF cF s)).fp w (.rd A2 (slv rO))) (hFO : RO (Res.pk (gvL g PA pc AF cF s)).fp w (.fam 88 rO)) (hT : RO (Res.pk (gvL g PA pc AF cF s)).fp w (.rd (sM 0) tabL)) (hG : (Res.pk (gvL g PA pc AF cF s)).holds w) (hGB : GB n s K) (hK1 : 1 ≤ K) (hK : K + costB pn k x ≤ 99999) (hxi : x.insts.length ≤ 20000) (hxp : x.phis.length ≤ 20000) (hcap : ∀ p, p ∈ x.insts → p.args.length ≤ p.c) :
    Calls Tryd.prog 35 #[(pT g 0), (fA nm wk pa va A c fs), (nV k), (.agg #[(.slice A1 ((bsOf fs).length) c1), (.slice A2 ((bsOf fs).length) c2)])] w (Ret fun v w' => ∃ A' c', v = .tuple #[] ∧ Mem (Res.pk (gvL g PA pc AF cF s)).fp w w' (gvL g PA pc A' c' (blockG (readM x n (SO (k : Int))) (if 0 < k then listS n (SI (k : Int)) else []) pn k x s))) := by
 have hbl := bsOf_len fs
 have hm : (bsOf fs).length ≤ 1000000 := by omega
 have hB := hA.bs
 have hk : k < fs.length := (List.getElem?_eq_some_iff.1 hx).1
 refine zen 159 [(pT g 0), (fA nm wk pa va A c fs), (nV k), (.agg #[(.slice A1 ((bsOf fs).length) c1), (.slice A2 ((bsOf fs).length) c2)])] Tryd.func35 ?_
 have hM := Mem.unpk hG
 refine zsr <| zbx hM 24 (fA nm wk pa va A c fs) (fV nm wk pa va A c fs) fun b1 w2 hb1 M3 => ?_
 replace M3 := M3.nf
 clear hM
 refine zbx M3 42 (.agg #[(.slice A1 ((bsOf fs).length) c1), (.slice A2 ((bsOf fs).length) c2)]) [(.slice A1 ((bsOf fs).length) c1), (.slice A2 ((bsOf fs).length) c2)] fun b4 w5 hb4 M6 => ?_
 replace M6 := M6.nf
 refine zfe <| zsr <| zpn 1 <| zld ⟨b1, 4, none⟩ (.slice A ((bsOf fs).length) c) (blk_cell (M6.get 3 rfl) rfl) <| zpn 1 ?_
 obtain ⟨ad7, rfl⟩ := blocks_some (M6.ro hB) (bsOf_get hx)
 refine zix ad7 ((bsOf fs).length) 6 (k : Int) <| zls ((ad7 : Addr).add (((k : Int)).toNat * 6)) (xV x) (fblk_get (M6.ro hB) rfl hx) <| zal M6 53 [(.slice none 0 0), (.slice none 0 0), (.int .i64 0), (.int .i64 0), (.int .i64 0), (.int .i64 0)] fun b8 w9 hb8 M10 => ?_
 replace M10 := M10.nf
 refine zss M10 5 (xV x) rfl fun w11 M12 => ?_
 replace M12 := M12.nf
 refine zfe <| zsr ?_
 obtain ⟨Ak, ck, wsk, hrk, hSk⟩ := hRI.at_ k (by omega)
 have hwl := hSk.len
 obtain ⟨Ao, co, wso, hro, hSo⟩ := hRO.at_ k (by omega)
 have hwo := hSo.len
 have hlsn : (listS n (SI (k : Int))).length ≤ n := cardS_le
 refine zpn 1 <| zld ⟨b4, 0, none⟩ (.slice A1 ((bsOf fs).length) c1) (blk_cell (M12.get 4 rfl) rfl) <| zpn 1 ?_
 obtain ⟨ad13, rfl⟩ := rd_some (M12.ro hOI) (by rw [slv_len, hRI.len]; omega)
 refine zix ad13 ((bsOf fs).length) 1 (k : Int) <| zkp [(0, (pT g 0)), (2, (nV k)), (5, (pT b1 0)), (7, (pT b4 0)), (8, (pT b8 0)), (33, (.pointer (some ((ad13 : Addr).add (((k : Int)).toNat * 1)))))] <| zld ((ad13 : Addr).add (((k : Int)).toNat * 1)) (.slice Ak ((n + 63) / 64) ck) (rd_get1 (M12.ro hOI) rfl (slv_get hrk)) <| zpn 1 <| zfe <| zsq ?_
 intro aC fr
 refine W_cut (fun a_ w_ => ∃ (A3 : Option Addr) (c3 : Nat), Fr a_ 159 [(0, (pT g 0)), (2, (nV k)), (5, (pT b1 0)), (7, (pT b4 0)), (8, (pT b8 0))] ∧ Mem (Res.pk (gvL g PA pc AF cF s)).fp w w_ [.blk g 70 [(.slice PA ((beginS s (if 0 < k then listS n (SI (k : Int)) else [])).pl.length) pc), (.slice A3 ((beginS s (if 0 < k then listS n (SI (k : Int)) else [])).fr.length) c3), (.int .i64 ((beginS s (if 0 < k then listS n (SI (k : Int)) else [])).nx))], .row 3 1 A3 ((beginS s (if 0 < k then listS n (SI (k : Int)) else [])).fr.length) c3 (ints (beginS s (if 0 < k then listS n (SI (k : Int)) else [])).fr), .row 3 1 PA ((beginS s (if 0 < k then listS n (SI (k : Int)) else [])).pl.length) pc (ints (beginS s (if 0 < k then listS n (SI (k : Int)) else [])).pl), .blk b1 24 (fV nm wk pa va (some ad7) c fs), .blk b4 42 [(.slice (some ad13) ((bsOf fs).length) c1), (.slice A2 ((bsOf fs).length) c2)], .blk b8 53 (xV x)]) ?_ ?_
 clear fr aC M12; rintro aC w16 ⟨A3, c3, fr, M17⟩
 revert aC
 refine zsq ?_
 have hgB := hGB.begin hK1 (if 0 < k then listS n (SI (k : Int)) else [])
 have hcb : costB pn k x = 2 * (madeL pn k x).length + costA x.insts := rfl
 obtain ⟨ad20, rfl⟩ := rd_some (M17.ro hOO) (by rw [slv_len, hRO.len]; omega)
 have hgB := hGB.begin hK1 (if 0 < k then listS n (SI (k : Int)) else [])
 have hcb : costB pn k x = 2 * (madeL pn k x).length + costA x.insts := rfl
 refine zkp [(0, (pT g 0)), (2, (nV k)), (5, (pT b1 0)), (7, (pT b4 0)), (8, (pT b8 0))] ?_
 intro aC fr
 refine zdj (N := 159) (env0 := [(0, (pT g 0)), (2, (nV k)), (5, (pT b1 0)), (7, (pT b4 0)), (8, (pT b8 0))]) (specAt [.det (xA x), .det (pT b4 1), .det (.slice (some ad20) ((bsOf fs).length) c2), .det (nV k), .det (.pointer (some ((ad20 : Addr).add (((k : Int)).toNat * 1)))), .det (.slice Ao ((n + 63) / 64) co), Spec.free, Spec.free]) (fun ls vs w_ => match ls 7 with | true => (∃ (b21 : Nat), vs 6 = (.map (some b21)) ∧ vs 7 = (.map (some b21)) ∧ Mem (Res.pk (gvL g PA pc AF cF s)).fp w w_ [.blk g 70 [(.slice PA ((beginS s (if 0 < k then listS n (SI (k : Int)) else [])).pl.length) pc), (.slice A3 ((beginS s (if 0 < k then listS n (SI (k : Int)) else [])).fr.length) c3), (.int .i64 ((beginS s (if 0 < k then listS n (SI (k : Int)) else [])).nx))], .row 3 1 A3 ((beginS s (if 0 < k then listS n (SI (k : Int)) else [])).fr.length) c3 (ints (beginS s (if 0 < k then listS n (SI (k : Int)) else [])).fr), .row 3 1 PA ((beginS s (if 0 < k then listS n (SI (k : Int)) else [])).pl.length) pc (ints (beginS s (if 0 < k then listS n (SI (k : Int)) else [])).pl), .blk b1 24 (fV nm wk pa va (some ad7) c fs), .blk b4 42 [(.slice (some ad13) ((bsOf fs).length) c1), (.slice (some ad20) ((bsOf fs).length) c2)], .blk b8 53 (xV x), .map b21 (inK (Value.int .i64) (vM (readM x n (SO (k : Int)))))]) | false => (match ls 6 with | true => (∃ (b21 : Nat), vs 6 = (.map (some b21)) ∧ Mem (Res.pk (gvL g PA pc AF cF s)).fp w w_ [.blk g 70 [(.slice PA ((beginS s (if 0 < k then listS n (SI (k : Int)) else [])).pl.length) pc), (.slice A3 ((beginS s (if 0 < k then listS n (SI (k : Int)) else [])).fr.length) c3), (.int .i64 ((beginS s (if 0 < k then listS n (SI (k : Int)) else [])).nx))], .row 3 1 A3 ((beginS s (if 0 < k then listS n (SI (k : Int)) else [])).fr.length) c3 (ints (beginS s (if 0 < k then listS n (SI (k : Int)) else [])).fr), .row 3 1 PA ((beginS s (if 0 < k then listS n (SI (k : Int)) else [])).pl.length) pc (ints (beginS s (if 0 < k then listS n (SI (k : Int)) else [])).pl), .blk b1 24 (fV nm wk pa va (some ad7) c fs), .blk b4 42 [(.slice (some ad13) ((bsOf fs).length) c1), (.slice (some ad20) ((bsOf fs).length) c2)], .blk b8 53 (xV x), .map b21 (inK (Value.int .i64) (vM (readM x n (SO (k : Int)))))]) | false => (Mem (Res.pk (gvL g PA pc AF cF s)).fp w w_ [.blk g 70 [(.slice PA ((beginS s (if 0 < k then listS n (SI (k : Int)) else [])).pl.length) pc), (.slice A3 ((beginS s (if 0 < k then listS n (SI (k : Int)) else [])).fr.length) c3), (.int .i64 ((beginS s (if 0 < k then listS n (SI (k : Int)) else [])).nx))], .row 3 1 A3 ((beginS s (if 0 < k then listS n (SI (k : Int)) else [])).fr.length) c3 (ints (beginS s (if 0 < k then listS n (SI (k : Int)) else [])).fr), .row 3 1 PA ((beginS s (if 0 < k then listS n (SI (k : Int)) else [])).pl.length) pc (ints (beginS s (if 0 < k then listS n (SI (k : Int)) else [])).pl), .blk b1 24 (fV nm wk pa va (some ad7) c fs), .blk b4 42 [(.slice (some ad13) ((bsOf fs).length) c1), (.slice (some ad20) ((bsOf fs).length) c2)], .blk b8 53 (xV x)]))) fr (plain_ok (.det (.det (.det (.det (.det (.det (.free (.free .nil))))))))) (M17.then_ (Mem.drew _)) (la (la (la (la (la (la (la (la lz ?_) (dPJ fun _ _ _ _ h => h)) (dLJ ⟨b4, 1, none⟩ (.slice (some ad20) ((bsOf fs).length) c2) (fun _ _ _ _ h => h) ?_)) (dPJ fun _ _ _ _ h => h)) (dIJ ad20 ((bsOf fs).length) 1 (k : Int) fun _ _ _ _ h => h)) (dLJ ((ad20 : Addr).add (((k : Int)).toNat * 1)) (.slice Ao ((n + 63) / 64) co) (fun _ _ _ _ h => h) ?_)) ?_) ?_) ?_
 intro aa_ w_ ls vs rest_ hJ hi_ hc_ hp hF
 refine okG (g0 := none) ?_
 replace hF : Fr aa_ 159 [(8, (pT b8 0))] := hF.kp [8]
 have f6 : ls 6 = false := notyet hc_ hi_ (n := 8) (by kernel_rfl)
 have f7 : ls 7 = false := notyet hc_ hi_ (n := 8) (by kernel_rfl)
 have hM_ := hJ
 simp only [f6, f7] at hM_
 refine From_loadS (by kernel_rfl : coreAt _ 0 = some (some 43, (.load 53 (.tmp 8)), 53, none)) hF (by kernel_rfl) (by kernel_rfl) (k' := 1) rfl (ad := ⟨b8, 0, none⟩) (vs := (xV x)) (by kernel_rfl) (by kernel_rfl) (blk_cells (hM_.get 5 rfl)) ?_
 intro a2 ea _
 refine From_end (by kernel_rfl) ?_; exact op_doneJ (d := some 43) (by kernel_rfl) ea rfl hJ
 intro w_ ls vs hJ hi_ hc_ hp
 have f6 : ls 6 = false := notyet hc_ hi_ (n := 8) (by kernel_rfl)
 have f7 : ls 7 = false := notyet hc_ hi_ (n := 8) (by kernel_rfl)
 have hM_ := hJ
 simp only [f6, f7] at hM_
 exact (blk_cell (hM_.get 4 rfl) rfl)
 intro w_ ls vs hJ hi_ hc_ hp
 have f6 : ls 6 = false := notyet hc_ hi_ (n := 8) (by kernel_rfl)
 have f7 : ls 7 = false := notyet hc_ hi_ (n := 8) (by kernel_rfl)
 have hM_ := hJ
 simp only [f6, f7] at hM_
 exact (rd_get1 (hM_.ro hOO) rfl (slv_get hro))
 intro aa_ w_ ls vs rest_ hJ hi_ hc_ hp hF
 refine okG (g0 := none) ?_
 replace hF : Fr aa_ 159 [(43, (xA x)), (48, (.slice Ao ((n + 63) / 64) co))] := hF.kp [43, 48]
 have f6 : ls 6 = false := hi_
 have f7 : ls 7 = false := notyet hc_ hi_ (n := 8) (by kernel_rfl)
 have hM_ := hJ
 simp only [f6, f7] at hM_
 refine From_call (by kernel_rfl : coreAt _ 0 = some (some 49, (.call { callee := (.value (.func 67)), args := #[(.tmp 43), (.tmp 48)], argTypes := #[53, 83] }), 38, none)) hF (by kernel_rfl) (by kernel_rfl) (k' := 1) rfl (f := 67) (vs := [(xA x), (.slice Ao ((n + 63) / 64) co)]) (cap := []) (by kernel_rfl) (by kernel_rfl) (by kernel_rfl) (read_c n Ao co wso (SO (k : Int)) (some ad7) fs k x w_ hn2 hok hx (by omega) hSo (hA.at_ hM_) (RO.of (fam_rd (hM_.ro hFO) hro)) (hT.at_ hM_)) ?_
 rintro _ w2 ⟨b21p, rfl, hm2⟩ a2 ea _
 have hm3 := hM_.call hm2
 refine From_end (by kernel_rfl) ?_; refine op_doneJ (d := some 49) (by kernel_rfl) ea trivial ?_
 show match ls 7 with | true => _ | false => (∃ (b21 : Nat), _)
 rw [f7]
 exact ⟨b21p, rfl, hm3⟩
 intro aa_ w_ ls vs rest_ hJ hi_ hc_ hp hF
 refine okG (g0 := none) ?_
 replace hF : Fr aa_ 159 [(49, vs 6)] := hF.kp [49]
 have f6 : ls 6 = true := donebefore hc_ (fun k hk => (hp k hk).1) (n := 8) (by kernel_rfl)
 have f7 : ls 7 = false := hi_
 have hM_ := hJ
 simp only [f6, f7] at hM_
 obtain ⟨b21p, e6_, hM_⟩ := hM_
 try rw [e6_] at hF
 have hm2 := hM_
 refine From_pure1 (by kernel_rfl : coreAt _ 0 = some (some 10, (.assign (.tmp 49)), 38, none)) hF (by kernel_rfl) (by kernel_rfl) (k' := 1) rfl (v := (.map (some b21p))) (by kernel_rfl) ?_
 intro a2 ea _
 refine From_end (by kernel_rfl) ?_; refine op_doneJ (d := some 10) (by kernel_rfl) ea trivial ?_
 show ∃ (b21 : Nat), _
 exact ⟨b21p, e6_, rfl, hm2⟩
 intro aC w26 ls vs hall M27 hv fr
 simp only [show ls 7 = true from hall 7 (by decide)] at M27
 revert aC; refine zkp [(0, (pT g 0)), (2, (nV k)), (5, (pT b1 0)), (8, (pT b8 0)), (10, vs 7)] ?_
 obtain ⟨b21, e6_, e7_, M27⟩ := M27
 try rw [e6_]
 try rw [e7_]
 clear e6_ e7_
 clear hall hv fr aC M17; clear vs ls
 refine zsp <| zsq ?_
 intro aC fr
 refine W_cut (fun a_ w_ => ∃ (A5 : Option Addr) (n5 : Nat) (c5 : Nat), Fr a_ 159 [(0, (pT g 0)), (8, (pT b8 0)), (10, (.map (some b21))), (11, (.slice A5 n5 c5))] ∧ Mem (Res.pk (gvL g PA pc AF cF s)).fp w w_ [.blk g 70 [(.slice PA ((beginS s (if 0 < k then listS n (SI (k : Int)) else [])).pl.length) pc), (.slice A3 ((beginS s (if 0 < k then listS n (SI (k : Int)) else [])).fr.length) c3), (.int .i64 ((beginS s (if 0 < k then listS n (SI (k : Int)) else [])).nx))], .row 3 1 A3 ((beginS s (if 0 < k then listS n (SI (k : Int)) else [])).fr.length) c3 (ints (beginS s (if 0 < k then listS n (SI (k : Int)) else [])).fr), .row 3 1 PA ((beginS s (if 0 < k then listS n (SI (k : Int)) else [])).pl.length) pc (ints (beginS s (if 0 < k then listS n (SI (k : Int)) else [])).pl), .blk b1 24 (fV nm wk pa va (some ad7) c fs), .blk b4 42 [(.slice (some ad13) ((bsOf fs).length) c1), (.slice (some ad20) ((bsOf fs).length) c2)], .blk b8 53 (xV x), .map b21 (inK (Value.int .i64) (vM (readM x n (SO (k : Int))))), .row 3 1 A5 n5 c5 (ints (if k = 0 then ((List.range pn).map (fun i : Nat => (i : Int))) else []))] ∧ (n5 = (if k = 0 then ((List.range pn).map (fun i : Nat => (i : Int))) else []).length)) ?_ ?_
 clear fr aC M27; rintro aC w30 ⟨A5, n5, c5, fr, M31, hn5⟩
 revert aC
 refine zsq <| zsr ?_
 have hb5 : n5 ≤ pn := by rw [hn5]; split <;> simp
 refine zpn 1 <| zld ⟨b8, 0, none⟩ (.slice x.pA x.phis.length x.pc) (blk_cell (M31.get 5 rfl) rfl) <| zpn 2 <| zfe <| zbk 2 ?_
 have M34 := M31.od [7, 7, 7, 7, 7, 7, 7, 7] 8
 intro aC fr
 refine zlp (fun n_ a_ w_ => ∃ (q1 : Nat) (A6 : Option Addr) (n6 : Nat) (c6 : Nat), n_ = x.phis.length - q1 ∧ Fr a_ 159 [(0, (pT g 0)), (8, (pT b8 0)), (10, (.map (some b21))), (11, (.slice A6 n6 c6)), (63, (.slice x.pA x.phis.length x.pc)), (64, (.int .i64 ((x.phis.length : Nat) : Int))), (65, (nV q1))] ∧ Mem (Res.pk (gvL g PA pc AF cF s)).fp w w_ [.blk g 70 [(.slice PA ((beginS s (if 0 < k then listS n (SI (k : Int)) else [])).pl.length) pc), (.slice A3 ((beginS s (if 0 < k then listS n (SI (k : Int)) else [])).fr.length) c3), (.int .i64 ((beginS s (if 0 < k then listS n (SI (k : Int)) else [])).nx))], .row 3 1 A3 ((beginS s (if 0 < k then listS n (SI (k : Int)) else [])).fr.length) c3 (ints (beginS s (if 0 < k then listS n (SI (k : Int)) else [])).fr), .row 3 1 PA ((beginS s (if 0 < k then listS n (SI (k : Int)) else [])).pl.length) pc (ints (beginS s (if 0 < k then listS n (SI (k : Int)) else [])).pl), .blk b1 24 (fV nm wk pa va (some ad7) c fs), .blk b4 42 [(.slice (some ad13) ((bsOf fs).length) c1), (.slice (some ad20) ((bsOf fs).length) c2)], .blk b8 53 (xV x), .map b21 (inK (Value.int .i64) (vM (readM x n (SO (k : Int))))), .row 3 1 A6 n6 c6 (ints ((if k = 0 then ((List.range pn).map (fun i : Nat => (i : Int))) else []) ++ (x.phis.take q1).map (·.dst)))] ∧ (q1 ≤ x.phis.length) ∧ (n6 = ((if k = 0 then ((List.range pn).map (fun i : Nat => (i : Int))) else []) ++ (x.phis.take q1).map (·.dst)).length) ∧ (n6 ≤ pn + q1)) (n := _) ⟨0, A5, n5, c5, rfl, fr.kp [0, 8, 10, 11, 63, 64, 65], (M34.cast (by rw [List.take_zero, List.map_nil, List.append_nil])), by omega, by rw [List.take_zero, List.map_nil, List.append_nil]; exact hn5, by omega⟩ ?_
 clear fr aC M34; rintro n aC w37 ⟨q1, A6, n6, c6, rfl, fr, M38, hq1, hn6, hb6⟩
 revert aC
 refine zsp <| zsq <| zcD (((q1 : Int) : Int) < ((x.phis.length : Nat) : Int)) (fun c41 => ?_) (fun c41 => ?_)
 refine zsk <| zsq <| zbk 3 <| zsr ?_
 obtain ⟨p2, hph⟩ := get_of (l := x.phis) (i := q1) (by omega)
 obtain ⟨ad42, had43⟩ := rds_some (M38.ro (hA.phis hx)) (cs := p2.cells) (i := q1) (by simp [hph])
 intro aC fr
 refine From_ixA (some 67) x.pA ad42 x.phis.length 2 (q1 : Int) fr (by kernel_rfl) had43 (by omega) (by omega) ?_
 intro aC fr
 revert aC
 refine zls ((ad42 : Addr).add (((q1 : Int)).toNat * 2)) (pV p2) (phi_get (M38.ro (hA.phis hx)) had43 hph) <| zal M38 86 [(.int .i64 0), (.slice none 0 0)] fun b48 w49 hb48 M50 => ?_
 replace M50 := M50.nf
 refine zss M50 8 (pV p2) rfl fun w51 M52 => ?_
 replace M52 := M52.nf
 refine zfe <| zrg <| zpn 2 <| zld ⟨b48, 0, none⟩ (.int .i64 p2.dst) (blk_cell (M52.get 8 rfl) rfl) ?_
 intro aC fr
 refine zBs 72 25 1 #[(0, (.tmp 71))] 25 fr (e := 3) (size := 1) (zs := [(.int .i64 0)]) (vs := [(0, (.int .i64 p2.dst))]) (cs := [(.int .i64 p2.dst)]) M52 ?_
 intro b53 w54 hb53 _ M55 _ aC ea fr; clear ea
 replace M55 := M55.nf
 refine zAp 73 (.tmp 69) (.tmp 72) 25 25 fr (e := 3) (size := 1) (bytes := 8) (z := (.int .i64 0)) (A := A6) (B := (sM b53)) (n := n6) (cap := c6) (m := 1) (cap' := 1) (xs := (ints ((if k = 0 then ((List.range pn).map (fun i : Nat => (i : Int))) else []) ++ (x.phis.take q1).map (·.dst)))) (news := [(.int .i64 p2.dst)]) M55 7 rfl (row_rd (M55.get 9 rfl)) rfl (by simp [Value.oneCell']) (by omega) (by simp only [maxLen]; omega) ?_
 intro A60 c61 w62 M63 _ aC ea fr; clear ea
 replace M63 := M63.nf
 have M66 := M63.od [8, 8, 8, 8, 8, 8, 8, 8, 8] 9
 revert aC
 refine zpn 1 <| zfe <| zrg <| zar ((q1 : Int) + 1) <| zpn 1 <| zfe ?_
 have M67 : Mem (Res.pk (gvL g PA pc AF cF s)).fp w w62 [.blk g 70 [(.slice PA ((beginS s (if 0 < k then listS n (SI (k : Int)) else [])).pl.length) pc), (.slice A3 ((beginS s (if 0 < k then listS n (SI (k : Int)) else [])).fr.length) c3), (.int .i64 ((beginS s (if 0 < k then listS n (SI (k : Int)) else [])).nx))], .row 3 1 A3 ((beginS s (if 0 < k then listS n (SI (k : Int)) else [])).fr.length) c3 (ints (beginS s (if 0 < k then listS n (SI (k : Int)) else [])).fr), .row 3 1 PA ((beginS s (if 0 < k then listS n (SI (k : Int)) else [])).pl.length) pc (ints (beginS s (if 0 < k then listS n (SI (k : Int)) else [])).pl), .blk b1 24 (fV nm wk pa va (some ad7) c fs), .blk b4 42 [(.slice (some ad13) ((bsOf fs).length) c1), (.slice (some ad20) ((bsOf fs).length) c2)], .blk b8 53 (xV x), .map b21 (inK (Value.int .i64) (vM (readM x n (SO (k : Int))))), .row 3 1 A60 (n6 + 1) c61 (ints ((if k = 0 then ((List.range pn).map (fun i : Nat => (i : Int))) else []) ++ (x.phis.take (q1 + 1)).map (·.dst))), .blk b48 86 (pV p2)] := M66.cast (by rw [madeL_snoc hph]; simp [ints])
 have M68 := M67.od [7, 7, 7, 7, 7, 7, 7, 7] 8
 intro aC fr
 exact ⟨x.phis.length - (q1 + 1), by omega, q1 + 1, A60, (n6 + 1), c61, rfl, fr.kp [0, 8, 10, 11, 63, 64, 65], M68, by omega, by rw [madeL_snoc hph, List.length_append, ← hn6]; rfl, by omega⟩
 refine zex 2 <| zbh <| zsq <| zsr ?_
 obtain rfl : n6 = (madeL pn k x).length := by rw [hn6, show q1 = x.phis.length by omega, List.take_length]; rfl
 have M71 : Mem (Res.pk (gvL g PA pc AF cF s)).fp w w37 [.blk g 70 [(.slice PA ((beginS s (if 0 < k then listS n (SI (k : Int)) else [])).pl.length) pc), (.slice A3 ((beginS s (if 0 < k then listS n (SI (k : Int)) else [])).fr.length) c3), (.int .i64 ((beginS s (if 0 < k then listS n (SI (k : Int)) else [])).nx))], .row 3 1 A3 ((beginS s (if 0 < k then listS n (SI (k : Int)) else [])).fr.length) c3 (ints (beginS s (if 0 < k then listS n (SI (k : Int)) else [])).fr), .row 3 1 PA ((beginS s (if 0 < k then listS n (SI (k : Int)) else [])).pl.length) pc (ints (beginS s (if 0 < k then listS n (SI (k : Int)) else [])).pl), .blk b1 24 (fV nm wk pa va (some ad7) c fs), .blk b4 42 [(.slice (some ad13) ((bsOf fs).length) c1), (.slice (some ad20) ((bsOf fs).length) c2)], .blk b8 53 (xV x), .map b21 (inK (Value.int .i64) (vM (readM x n (SO (k : Int))))), .row 3 1 A6 ((madeL pn k x).length) c6 (ints (madeL pn k x))] := M38.cast (by rw [show q1 = x.phis.length by omega, List.take_length]; rfl)
 have hmd := madeL_in (k := k) hpn2 hvr
 have hml : (madeL pn k x).length ≤ pn + x.phis.length := madeL_len
 refine zpn 3 <| zfe <| zbk 4 ?_
 intro aC fr
 refine zlp (fun n_ a_ w_ => ∃ (i2 : Nat) (A7 : Option Addr) (c7 : Nat), n_ = (madeL pn k x).length - i2 ∧ Fr a_ 159 [(0, (pT g 0)), (8, (pT b8 0)), (10, (.map (some b21))), (11, (.slice A6 ((madeL pn k x).length) c6)), (75, (.slice A6 ((madeL pn k x).length) c6)), (76, (.int .i64 (((madeL pn k x).length : Nat) : Int))), (77, (nV i2))] ∧ Mem (Res.pk (gvL g PA pc AF cF s)).fp w w_ [.blk g 70 [(.slice PA ((givesS (beginS s (if 0 < k then listS n (SI (k : Int)) else [])) ((madeL pn k x).take i2)).pl.length) pc), (.slice A7 ((givesS (beginS s (if 0 < k then listS n (SI (k : Int)) else [])) ((madeL pn k x).take i2)).fr.length) c7), (.int .i64 ((givesS (beginS s (if 0 < k then listS n (SI (k : Int)) else [])) ((madeL pn k x).take i2)).nx))], .row 3 1 A7 ((givesS (beginS s (if 0 < k then listS n (SI (k : Int)) else [])) ((madeL pn k x).take i2)).fr.length) c7 (ints (givesS (beginS s (if 0 < k then listS n (SI (k : Int)) else [])) ((madeL pn k x).take i2)).fr), .row 3 1 PA ((givesS (beginS s (if 0 < k then listS n (SI (k : Int)) else [])) ((madeL pn k x).take i2)).pl.length) pc (ints (givesS (beginS s (if 0 < k then listS n (SI (k : Int)) else [])) ((madeL pn k x).take i2)).pl), .blk b1 24 (fV nm wk pa va (some ad7) c fs), .blk b4 42 [(.slice (some ad13) ((bsOf fs).length) c1), (.slice (some ad20) ((bsOf fs).length) c2)], .blk b8 53 (xV x), .map b21 (inK (Value.int .i64) (vM (readM x n (SO (k : Int))))), .row 3 1 A6 ((madeL pn k x).length) c6 (ints (madeL pn k x))] ∧ (i2 ≤ (madeL pn k x).length) ∧ (GB n (givesS (beginS s (if 0 < k then listS n (SI (k : Int)) else [])) ((madeL pn k x).take i2)) (K + i2))) (n := _) ⟨0, A3, c3, rfl, fr.kp [0, 8, 10, 11, 75, 76, 77], (M71.cast rfl), by omega, hgB⟩ ?_
 clear fr aC M71; rintro n aC w74 ⟨i2, A7, c7, rfl, fr, M75, hi2, hg2⟩
 revert aC
 refine zsp <| zsq <| zcD (((i2 : Int) : Int) < (((madeL pn k x).length : Nat) : Int)) (fun c78 => ?_) (fun c78 => ?_)
 refine zsk <| zsq <| zbk 5 <| zsr ?_
 obtain ⟨v0, hv2⟩ := get_of (l := (madeL pn k x)) (i := i2) (by omega)
 obtain ⟨hv0, hvn⟩ := hmd v0 (List.mem_of_getElem? hv2)
 obtain ⟨q, rfl⟩ := Int.eq_ofNat_of_zero_le hv0
 obtain ⟨g80, rfl⟩ := row_some (M75.get 7 rfl) (by omega)
 refine zix ⟨g80, 0, none⟩ ((madeL pn k x).length) 1 (i2 : Int) <| zld ((⟨g80, 0, none⟩ : Addr).add (((i2 : Int)).toNat * 1)) (nV q) (rd_at (row_rd (M75.get 7 rfl)) rfl hv2) <| zpn 1 <| zfe <| zrg <| zpn 2 <| zcl (give_c g PA pc A7 c7 (givesS (beginS s (if 0 < k then listS n (SI (k : Int)) else [])) ((madeL pn k x).take i2)) q w74 (Mem.pk_holds (l := gvL g PA pc A7 c7 (givesS (beginS s (if 0 < k then listS n (SI (k : Int)) else [])) ((madeL pn k x).take i2))) M75) (by rw [hg2.len]; omega) (by have := hg2.frl; omega) (by rw [hg2.len]; omega) ⟨hg2.nx0, by have := hg2.nxK; omega⟩) ?_
 rintro _ w83 ⟨A81, c82, rfl, M84x⟩
 have M84 : Mem (Res.pk (gvL g PA pc AF cF s)).fp w w83 [.blk g 70 [(.slice PA ((giveS (givesS (beginS s (if 0 < k then listS n (SI (k : Int)) else [])) ((madeL pn k x).take i2)) q).pl.length) pc), (.slice A81 ((giveS (givesS (beginS s (if 0 < k then listS n (SI (k : Int)) else [])) ((madeL pn k x).take i2)) q).fr.length) c82), (.int .i64 ((giveS (givesS (beginS s (if 0 < k then listS n (SI (k : Int)) else [])) ((madeL pn k x).take i2)) q).nx))], .row 3 1 A81 ((giveS (givesS (beginS s (if 0 < k then listS n (SI (k : Int)) else [])) ((madeL pn k x).take i2)) q).fr.length) c82 (ints (giveS (givesS (beginS s (if 0 < k then listS n (SI (k : Int)) else [])) ((madeL pn k x).take i2)) q).fr), .row 3 1 PA ((giveS (givesS (beginS s (if 0 < k then listS n (SI (k : Int)) else [])) ((madeL pn k x).take i2)) q).pl.length) pc (ints (giveS (givesS (beginS s (if 0 < k then listS n (SI (k : Int)) else [])) ((madeL pn k x).take i2)) q).pl), .blk b1 24 (fV nm wk pa va (some ad7) c fs), .blk b4 42 [(.slice (some ad13) ((bsOf fs).length) c1), (.slice (some ad20) ((bsOf fs).length) c2)], .blk b8 53 (xV x), .map b21 (inK (Value.int .i64) (vM (readM x n (SO (k : Int))))), .row 3 1 (sM g80) ((madeL pn k x).length) c6 (ints (madeL pn k x))] := M75.mdk M84x
 refine zfe <| zrg <| zar ((i2 : Int) + 1) <| zpn 1 <| zfe ?_
 have M85 : Mem (Res.pk (gvL g PA pc AF cF s)).fp w w83 [.blk g 70 [(.slice PA ((givesS (beginS s (if 0 < k then listS n (SI (k : Int)) else [])) ((madeL pn k x).take (i2 + 1))).pl.length) pc), (.slice A81 ((givesS (beginS s (if 0 < k then listS n (SI (k : Int)) else [])) ((madeL pn k x).take (i2 + 1))).fr.length) c82), (.int .i64 ((givesS (beginS s (if 0 < k then listS n (SI (k : Int)) else [])) ((madeL pn k x).take (i2 + 1))).nx))], .row 3 1 A81 ((givesS (beginS s (if 0 < k then listS n (SI (k : Int)) else [])) ((madeL pn k x).take (i2 + 1))).fr.length) c82 (ints (givesS (beginS s (if 0 < k then listS n (SI (k : Int)) else [])) ((madeL pn k x).take (i2 + 1))).fr), .row 3 1 PA ((givesS (beginS s (if 0 < k then listS n (SI (k : Int)) else [])) ((madeL pn k x).take (i2 + 1))).pl.length) pc (ints (givesS (beginS s (if 0 < k then listS n (SI (k : Int)) else [])) ((madeL pn k x).take (i2 + 1))).pl), .blk b1 24 (fV nm wk pa va (some ad7) c fs), .blk b4 42 [(.slice (some ad13) ((bsOf fs).length) c1), (.slice (some ad20) ((bsOf fs).length) c2)], .blk b8 53 (xV x), .map b21 (inK (Value.int .i64) (vM (readM x n (SO (k : Int))))), .row 3 1 (sM g80) ((madeL pn k x).length) c6 (ints (madeL pn k x))] := M84.cast (by rw [givesS_next hv2, Int.toNat_natCast])
 intro aC fr
 exact ⟨(madeL pn k x).length - (i2 + 1), by omega, i2 + 1, A81, c82, rfl, fr.kp [0, 8, 10, 11, 75, 76, 77], M85, by omega, by rw [givesS_next hv2, Int.toNat_natCast]; exact hg2.give q⟩
 refine zex 4 <| zbh <| zsq <| zsr ?_
 have M88 : Mem (Res.pk (gvL g PA pc AF cF s)).fp w w74 [.blk g 70 [(.slice PA ((givesS (beginS s (if 0 < k then listS n (SI (k : Int)) else [])) (madeL pn k x)).pl.length) pc), (.slice A7 ((givesS (beginS s (if 0 < k then listS n (SI (k : Int)) else [])) (madeL pn k x)).fr.length) c7), (.int .i64 ((givesS (beginS s (if 0 < k then listS n (SI (k : Int)) else [])) (madeL pn k x)).nx))], .row 3 1 A7 ((givesS (beginS s (if 0 < k then listS n (SI (k : Int)) else [])) (madeL pn k x)).fr.length) c7 (ints (givesS (beginS s (if 0 < k then listS n (SI (k : Int)) else [])) (madeL pn k x)).fr), .row 3 1 PA ((givesS (beginS s (if 0 < k then listS n (SI (k : Int)) else [])) (madeL pn k x)).pl.length) pc (ints (givesS (beginS s (if 0 < k then listS n (SI (k : Int)) else [])) (madeL pn k x)).pl), .blk b1 24 (fV nm wk pa va (some ad7) c fs), .blk b4 42 [(.slice (some ad13) ((bsOf fs).length) c1), (.slice (some ad20) ((bsOf fs).length) c2)], .blk b8 53 (xV x), .map b21 (inK (Value.int .i64) (vM (readM x n (SO (k : Int))))), .row 3 1 A6 ((madeL pn k x).length) c6 (ints (madeL pn k x))] := M75.cast (by rw [List.take_of_length_le (by omega)])
 have hgG : GB n (givesS (beginS s (if 0 < k then listS n (SI (k : Int)) else [])) (madeL pn k x)) (K + (madeL pn k x).length) := by rw [List.take_of_length_le (by omega), show i2 = (madeL pn k x).length by omega] at hg2; exact hg2
 refine zpn 3 <| zfe <| zbk 6 ?_
 intro aC fr
 refine zlp (fun n_ a_ w_ => ∃ (i3 : Nat) (A8 : Option Addr) (c8 : Nat), n_ = (madeL pn k x).length - i3 ∧ Fr a_ 159 [(0, (pT g 0)), (8, (pT b8 0)), (10, (.map (some b21))), (85, (.slice A6 ((madeL pn k x).length) c6)), (86, (.int .i64 (((madeL pn k x).length : Nat) : Int))), (87, (nV i3))] ∧ Mem (Res.pk (gvL g PA pc AF cF s)).fp w w_ [.blk g 70 [(.slice PA ((dropsS (readM x n (SO (k : Int))) (givesS (beginS s (if 0 < k then listS n (SI (k : Int)) else [])) (madeL pn k x)) ((madeL pn k x).take i3)).pl.length) pc), (.slice A8 ((dropsS (readM x n (SO (k : Int))) (givesS (beginS s (if 0 < k then listS n (SI (k : Int)) else [])) (madeL pn k x)) ((madeL pn k x).take i3)).fr.length) c8), (.int .i64 ((dropsS (readM x n (SO (k : Int))) (givesS (beginS s (if 0 < k then listS n (SI (k : Int)) else [])) (madeL pn k x)) ((madeL pn k x).take i3)).nx))], .row 3 1 A8 ((dropsS (readM x n (SO (k : Int))) (givesS (beginS s (if 0 < k then listS n (SI (k : Int)) else [])) (madeL pn k x)) ((madeL pn k x).take i3)).fr.length) c8 (ints (dropsS (readM x n (SO (k : Int))) (givesS (beginS s (if 0 < k then listS n (SI (k : Int)) else [])) (madeL pn k x)) ((madeL pn k x).take i3)).fr), .row 3 1 PA ((dropsS (readM x n (SO (k : Int))) (givesS (beginS s (if 0 < k then listS n (SI (k : Int)) else [])) (madeL pn k x)) ((madeL pn k x).take i3)).pl.length) pc (ints (dropsS (readM x n (SO (k : Int))) (givesS (beginS s (if 0 < k then listS n (SI (k : Int)) else [])) (madeL pn k x)) ((madeL pn k x).take i3)).pl), .blk b1 24 (fV nm wk pa va (some ad7) c fs), .blk b4 42 [(.slice (some ad13) ((bsOf fs).length) c1), (.slice (some ad20) ((bsOf fs).length) c2)], .blk b8 53 (xV x), .map b21 (inK (Value.int .i64) (vM (readM x n (SO (k : Int))))), .row 3 1 A6 ((madeL pn k x).length) c6 (ints (madeL pn k x))] ∧ (i3 ≤ (madeL pn k x).length) ∧ (GB n (dropsS (readM x n (SO (k : Int))) (givesS (beginS s (if 0 < k then listS n (SI (k : Int)) else [])) (madeL pn k x)) ((madeL pn k x).take i3)) (K + (madeL pn k x).length + i3))) (n := _) ⟨0, A7, c7, rfl, fr.kp [0, 8, 10, 85, 86, 87], (M88.cast rfl), by omega, hgG⟩ ?_
 clear fr aC M88; rintro n aC w91 ⟨i3, A8, c8, rfl, fr, M92, hi3, hg3⟩
 revert aC
 refine zsp <| zsq <| zcD (((i3 : Int) : Int) < (((madeL pn k x).length : Nat) : Int)) (fun c95 => ?_) (fun c95 => ?_)
 refine zsk <| zsq <| zbk 7 <| zsr ?_
 obtain ⟨v0, hv3⟩ := get_of (l := (madeL pn k x)) (i := i3) (by omega)
 obtain ⟨hv0, hvn⟩ := hmd v0 (List.mem_of_getElem? hv3)
 obtain ⟨q, rfl⟩ := Int.eq_ofNat_of_zero_le hv0
 obtain ⟨g97, rfl⟩ := row_some (M92.get 7 rfl) (by omega)
 refine zix ⟨g97, 0, none⟩ ((madeL pn k x).length) 1 (i3 : Int) <| zld ((⟨g97, 0, none⟩ : Addr).add (((i3 : Int)).toNat * 1)) (nV q) (rd_at (row_rd (M92.get 7 rfl)) rfl hv3) <| zpn 1 <| zfe <| zsr <| zpn 2 <| zlv (ht := Tryd.underlying38) (intLaw Tryd.underlying3) (q : Int) (.int .i64 0) (M92.get 6 rfl) true (v := (.tuple #[(.int .i64 ((lkp (readM x n (SO (k : Int))) (q : Int)).getD 0)), (.bool ((lkp (readM x n (SO (k : Int))) (q : Int)).isSome))])) (by rw [lkM1]) <| zpn 5 <| zfe <| zsr ?_
 refine zpn 3 ?_
 obtain ⟨B98, hB98⟩ : ∃ B : Bool, B = (!((lkp (readM x n (SO (k : Int))) (q : Int)).isSome)) := ⟨_, rfl⟩
 refine zkp [(0, (pT g 0)), (8, (pT b8 0)), (10, (.map (some b21))), (18, (nV q)), (19, (.int .i64 ((lkp (readM x n (SO (k : Int))) (q : Int)).getD 0))), (85, (.slice (sM g97) ((madeL pn k x).length) c6)), (86, (.int .i64 (((madeL pn k x).length : Nat) : Int))), (87, (nV i3)), (99, (.bool (!((lkp (readM x n (SO (k : Int))) (q : Int)).isSome))))] ?_
 rw [← hB98]
 have iB98 : B98 = true ↔ (¬ (((lkp (readM x n (SO (k : Int))) (q : Int)).isSome) = true)) := by rw [hB98]; simp only [notT]
 clear hB98
 intro aC fr
 refine zpk 3 6 [102] fr (news := [(102, (.bool (B98 || decide ((((lkp (readM x n (SO (k : Int))) (q : Int)).getD 0) : Int) < 0))))]) (by cases B98 <;> kernel_rfl) ?_
 intro aC fr
 revert aC
 refine zfe <| zcP (B98 || decide ((((lkp (readM x n (SO (k : Int))) (q : Int)).getD 0) : Int) < 0)) ((¬ (((lkp (readM x n (SO (k : Int))) (q : Int)).isSome) = true)) ∨ ((((lkp (readM x n (SO (k : Int))) (q : Int)).getD 0) : Int) < 0)) (by simp only [Bool.or_eq_true, decide_eq_true_eq, iB98]) (fun c103 => ?_) (fun c103 => ?_)
 refine zrg <| zpn 2 <| zcl (back_c g PA pc A8 c8 (dropsS (readM x n (SO (k : Int))) (givesS (beginS s (if 0 < k then listS n (SI (k : Int)) else [])) (madeL pn k x)) ((madeL pn k x).take i3)) q w91 (Mem.pk_holds (l := gvL g PA pc A8 c8 (dropsS (readM x n (SO (k : Int))) (givesS (beginS s (if 0 < k then listS n (SI (k : Int)) else [])) (madeL pn k x)) ((madeL pn k x).take i3))) M92) (by rw [hg3.len]; omega) (by have := hg3.frl; omega) (by rw [hg3.len]; omega)) ?_
 rintro _ w106 ⟨A104, c105, rfl, M107x⟩
 have M107 : Mem (Res.pk (gvL g PA pc AF cF s)).fp w w106 [.blk g 70 [(.slice PA ((backS (dropsS (readM x n (SO (k : Int))) (givesS (beginS s (if 0 < k then listS n (SI (k : Int)) else [])) (madeL pn k x)) ((madeL pn k x).take i3)) q).pl.length) pc), (.slice A104 ((backS (dropsS (readM x n (SO (k : Int))) (givesS (beginS s (if 0 < k then listS n (SI (k : Int)) else [])) (madeL pn k x)) ((madeL pn k x).take i3)) q).fr.length) c105), (.int .i64 ((backS (dropsS (readM x n (SO (k : Int))) (givesS (beginS s (if 0 < k then listS n (SI (k : Int)) else [])) (madeL pn k x)) ((madeL pn k x).take i3)) q).nx))], .row 3 1 A104 ((backS (dropsS (readM x n (SO (k : Int))) (givesS (beginS s (if 0 < k then listS n (SI (k : Int)) else [])) (madeL pn k x)) ((madeL pn k x).take i3)) q).fr.length) c105 (ints (backS (dropsS (readM x n (SO (k : Int))) (givesS (beginS s (if 0 < k then listS n (SI (k : Int)) else [])) (madeL pn k x)) ((madeL pn k x).take i3)) q).fr), .row 3 1 PA ((backS (dropsS (readM x n (SO (k : Int))) (givesS (beginS s (if 0 < k then listS n (SI (k : Int)) else [])) (madeL pn k x)) ((madeL pn k x).take i3)) q).pl.length) pc (ints (backS (dropsS (readM x n (SO (k : Int))) (givesS (beginS s (if 0 < k then listS n (SI (k : Int)) else [])) (madeL pn k x)) ((madeL pn k x).take i3)) q).pl), .blk b1 24 (fV nm wk pa va (some ad7) c fs), .blk b4 42 [(.slice (some ad13) ((bsOf fs).length) c1), (.slice (some ad20) ((bsOf fs).length) c2)], .blk b8 53 (xV x), .map b21 (inK (Value.int .i64) (vM (readM x n (SO (k : Int))))), .row 3 1 (sM g97) ((madeL pn k x).length) c6 (ints (madeL pn k x))] := M92.mdk M107x
 refine zfe <| zrg <| zar ((i3 : Int) + 1) <| zpn 1 <| zfe ?_
 have M108 : Mem (Res.pk (gvL g PA pc AF cF s)).fp w w106 [.blk g 70 [(.slice PA ((dropsS (readM x n (SO (k : Int))) (givesS (beginS s (if 0 < k then listS n (SI (k : Int)) else [])) (madeL pn k x)) ((madeL pn k x).take (i3 + 1))).pl.length) pc), (.slice A104 ((dropsS (readM x n (SO (k : Int))) (givesS (beginS s (if 0 < k then listS n (SI (k : Int)) else [])) (madeL pn k x)) ((madeL pn k x).take (i3 + 1))).fr.length) c105), (.int .i64 ((dropsS (readM x n (SO (k : Int))) (givesS (beginS s (if 0 < k then listS n (SI (k : Int)) else [])) (madeL pn k x)) ((madeL pn k x).take (i3 + 1))).nx))], .row 3 1 A104 ((dropsS (readM x n (SO (k : Int))) (givesS (beginS s (if 0 < k then listS n (SI (k : Int)) else [])) (madeL pn k x)) ((madeL pn k x).take (i3 + 1))).fr.length) c105 (ints (dropsS (readM x n (SO (k : Int))) (givesS (beginS s (if 0 < k then listS n (SI (k : Int)) else [])) (madeL pn k x)) ((madeL pn k x).take (i3 + 1))).fr), .row 3 1 PA ((dropsS (readM x n (SO (k : Int))) (givesS (beginS s (if 0 < k then listS n (SI (k : Int)) else [])) (madeL pn k x)) ((madeL pn k x).take (i3 + 1))).pl.length) pc (ints (dropsS (readM x n (SO (k : Int))) (givesS (beginS s (if 0 < k then listS n (SI (k : Int)) else [])) (madeL pn k x)) ((madeL pn k x).take (i3 + 1))).pl), .blk b1 24 (fV nm wk pa va (some ad7) c fs), .blk b4 42 [(.slice (some ad13) ((bsOf fs).length) c1), (.slice (some ad20) ((bsOf fs).length) c2)], .blk b8 53 (xV x), .map b21 (inK (Value.int .i64) (vM (readM x n (SO (k : Int))))), .row 3 1 (sM g97) ((madeL pn k x).length) c6 (ints (madeL pn k x))] := M107.cast (by rw [dropsS_next hv3, dropS, if_neg (show ¬ ((lkp (readM x n (SO (k : Int))) (q : Int)).isSome = true ∧ 0 ≤ (lkp (readM x n (SO (k : Int))) (q : Int)).getD 0) by rintro ⟨h1, h2⟩; rcases c103 with h3 | h3; simp [h1] at h3; omega), Int.toNat_natCast])
 intro aC fr
 exact ⟨(madeL pn k x).length - (i3 + 1), by omega, i3 + 1, A104, c105, rfl, fr.kp [0, 8, 10, 85, 86, 87], M108, by omega, by rw [dropsS_next hv3, dropS, if_neg (show ¬ ((lkp (readM x n (SO (k : Int))) (q : Int)).isSome = true ∧ 0 ≤ (lkp (readM x n (SO (k : Int))) (q : Int)).getD 0) by rintro ⟨h1, h2⟩; rcases c103 with h3 | h3; simp [h1] at h3; omega), Int.toNat_natCast]; exact hg3.back (by omega)⟩
 refine zsk <| zrg <| zar ((i3 : Int) + 1) <| zpn 1 <| zfe ?_
 have M111 : Mem (Res.pk (gvL g PA pc AF cF s)).fp w w91 [.blk g 70 [(.slice PA ((dropsS (readM x n (SO (k : Int))) (givesS (beginS s (if 0 < k then listS n (SI (k : Int)) else [])) (madeL pn k x)) ((madeL pn k x).take (i3 + 1))).pl.length) pc), (.slice A8 ((dropsS (readM x n (SO (k : Int))) (givesS (beginS s (if 0 < k then listS n (SI (k : Int)) else [])) (madeL pn k x)) ((madeL pn k x).take (i3 + 1))).fr.length) c8), (.int .i64 ((dropsS (readM x n (SO (k : Int))) (givesS (beginS s (if 0 < k then listS n (SI (k : Int)) else [])) (madeL pn k x)) ((madeL pn k x).take (i3 + 1))).nx))], .row 3 1 A8 ((dropsS (readM x n (SO (k : Int))) (givesS (beginS s (if 0 < k then listS n (SI (k : Int)) else [])) (madeL pn k x)) ((madeL pn k x).take (i3 + 1))).fr.length) c8 (ints (dropsS (readM x n (SO (k : Int))) (givesS (beginS s (if 0 < k then listS n (SI (k : Int)) else [])) (madeL pn k x)) ((madeL pn k x).take (i3 + 1))).fr), .row 3 1 PA ((dropsS (readM x n (SO (k : Int))) (givesS (beginS s (if 0 < k then listS n (SI (k : Int)) else [])) (madeL pn k x)) ((madeL pn k x).take (i3 + 1))).pl.length) pc (ints (dropsS (readM x n (SO (k : Int))) (givesS (beginS s (if 0 < k then listS n (SI (k : Int)) else [])) (madeL pn k x)) ((madeL pn k x).take (i3 + 1))).pl), .blk b1 24 (fV nm wk pa va (some ad7) c fs), .blk b4 42 [(.slice (some ad13) ((bsOf fs).length) c1), (.slice (some ad20) ((bsOf fs).length) c2)], .blk b8 53 (xV x), .map b21 (inK (Value.int .i64) (vM (readM x n (SO (k : Int))))), .row 3 1 (sM g97) ((madeL pn k x).length) c6 (ints (madeL pn k x))] := M92.cast (by rw [dropsS_next hv3, dropS, if_pos (show ((lkp (readM x n (SO (k : Int))) (q : Int)).isSome = true ∧ 0 ≤ (lkp (readM x n (SO (k : Int))) (q : Int)).getD 0) by refine ⟨?_, by omega⟩; cases h9 : (lkp (readM x n (SO (k : Int))) (q : Int)).isSome with | true => rfl | false => exact absurd (Or.inl (by simp [h9])) c103)])
 intro aC fr
 exact ⟨(madeL pn k x).length - (i3 + 1), by omega, i3 + 1, A8, c8, rfl, fr.kp [0, 8, 10, 85, 86, 87], M111, by omega, by rw [dropsS_next hv3, dropS, if_pos (show ((lkp (readM x n (SO (k : Int))) (q : Int)).isSome = true ∧ 0 ≤ (lkp (readM x n (SO (k : Int))) (q : Int)).getD 0) by refine ⟨?_, by omega⟩; cases h9 : (lkp (readM x n (SO (k : Int))) (q : Int)).isSome with | true => rfl | false => exact absurd (Or.inl (by simp [h9])) c103)]; exact hg3.mono (by omega)⟩
 refine zex 6 <| zbh <| zsr ?_
 have M114 : Mem (Res.pk (gvL g PA pc AF cF s)).fp w w91 [.blk g 70 [(.slice PA ((dropsS (readM x n (SO (k : Int))) (givesS (beginS s (if 0 < k then listS n (SI (k : Int)) else [])) (madeL pn k x)) (madeL pn k x)).pl.length) pc), (.slice A8 ((dropsS (readM x n (SO (k : Int))) (givesS (beginS s (if 0 < k then listS n (SI (k : Int)) else [])) (madeL pn k x)) (madeL pn k x)).fr.length) c8), (.int .i64 ((dropsS (readM x n (SO (k : Int))) (givesS (beginS s (if 0 < k then listS n (SI (k : Int)) else [])) (madeL pn k x)) (madeL pn k x)).nx))], .row 3 1 A8 ((dropsS (readM x n (SO (k : Int))) (givesS (beginS s (if 0 < k then listS n (SI (k : Int)) else [])) (madeL pn k x)) (madeL pn k x)).fr.length) c8 (ints (dropsS (readM x n (SO (k : Int))) (givesS (beginS s (if 0 < k then listS n (SI (k : Int)) else [])) (madeL pn k x)) (madeL pn k x)).fr), .row 3 1 PA ((dropsS (readM x n (SO (k : Int))) (givesS (beginS s (if 0 < k then listS n (SI (k : Int)) else [])) (madeL pn k x)) (madeL pn k x)).pl.length) pc (ints (dropsS (readM x n (SO (k : Int))) (givesS (beginS s (if 0 < k then listS n (SI (k : Int)) else [])) (madeL pn k x)) (madeL pn k x)).pl), .blk b1 24 (fV nm wk pa va (some ad7) c fs), .blk b4 42 [(.slice (some ad13) ((bsOf fs).length) c1), (.slice (some ad20) ((bsOf fs).length) c2)], .blk b8 53 (xV x), .map b21 (inK (Value.int .i64) (vM (readM x n (SO (k : Int))))), .row 3 1 A6 ((madeL pn k x).length) c6 (ints (madeL pn k x))] := M92.cast (by rw [List.take_of_length_le (by omega)])
 have hgD : GB n (dropsS (readM x n (SO (k : Int))) (givesS (beginS s (if 0 < k then listS n (SI (k : Int)) else [])) (madeL pn k x)) (madeL pn k x)) (K + 2 * (madeL pn k x).length) := by rw [List.take_of_length_le (by omega)] at hg3; exact hg3.mono (by omega)
 refine zpn 1 <| zld ⟨b8, 1, none⟩ (.slice x.iA x.insts.length x.ic) (blk_cell (M114.get 5 rfl) rfl) <| zpn 2 <| zfe <| zbk 8 ?_
 intro aC fr
 refine zlp (fun n_ a_ w_ => ∃ (j : Nat) (A9 : Option Addr) (c9 : Nat), n_ = x.insts.length - j ∧ Fr a_ 159 [(0, (pT g 0)), (10, (.map (some b21))), (108, (.slice x.iA x.insts.length x.ic)), (109, (.int .i64 ((x.insts.length : Nat) : Int))), (110, (nV j))] ∧ Mem (Res.pk (gvL g PA pc AF cF s)).fp w w_ [.blk g 70 [(.slice PA ((insTo (readM x n (SO (k : Int))) x.insts (dropsS (readM x n (SO (k : Int))) (givesS (beginS s (if 0 < k then listS n (SI (k : Int)) else [])) (madeL pn k x)) (madeL pn k x)) j).pl.length) pc), (.slice A9 ((insTo (readM x n (SO (k : Int))) x.insts (dropsS (readM x n (SO (k : Int))) (givesS (beginS s (if 0 < k then listS n (SI (k : Int)) else [])) (madeL pn k x)) (madeL pn k x)) j).fr.length) c9), (.int .i64 ((insTo (readM x n (SO (k : Int))) x.insts (dropsS (readM x n (SO (k : Int))) (givesS (beginS s (if 0 < k then listS n (SI (k : Int)) else [])) (madeL pn k x)) (madeL pn k x)) j).nx))], .row 3 1 A9 ((insTo (readM x n (SO (k : Int))) x.insts (dropsS (readM x n (SO (k : Int))) (givesS (beginS s (if 0 < k then listS n (SI (k : Int)) else [])) (madeL pn k x)) (madeL pn k x)) j).fr.length) c9 (ints (insTo (readM x n (SO (k : Int))) x.insts (dropsS (readM x n (SO (k : Int))) (givesS (beginS s (if 0 < k then listS n (SI (k : Int)) else [])) (madeL pn k x)) (madeL pn k x)) j).fr), .row 3 1 PA ((insTo (readM x n (SO (k : Int))) x.insts (dropsS (readM x n (SO (k : Int))) (givesS (beginS s (if 0 < k then listS n (SI (k : Int)) else [])) (madeL pn k x)) (madeL pn k x)) j).pl.length) pc (ints (insTo (readM x n (SO (k : Int))) x.insts (dropsS (readM x n (SO (k : Int))) (givesS (beginS s (if 0 < k then listS n (SI (k : Int)) else [])) (madeL pn k x)) (madeL pn k x)) j).pl), .blk b1 24 (fV nm wk pa va (some ad7) c fs), .blk b4 42 [(.slice (some ad13) ((bsOf fs).length) c1), (.slice (some ad20) ((bsOf fs).length) c2)], .blk b8 53 (xV x), .map b21 (inK (Value.int .i64) (vM (readM x n (SO (k : Int))))), .row 3 1 A6 ((madeL pn k x).length) c6 (ints (madeL pn k x))] ∧ (j ≤ x.insts.length) ∧ (GB n (insTo (readM x n (SO (k : Int))) x.insts (dropsS (readM x n (SO (k : Int))) (givesS (beginS s (if 0 < k then listS n (SI (k : Int)) else [])) (madeL pn k x)) (madeL pn k x)) j) (K + 2 * (madeL pn k x).length + costA (x.insts.take j)))) (n := _) ⟨0, A8, c8, rfl, fr.kp [0, 10, 108, 109, 110], (M114.cast rfl), by omega, hgD⟩ ?_
 clear fr aC M114; rintro n aC w117 ⟨j, A9, c9, rfl, fr, M118, hj, hg4⟩
 revert aC
 refine zsp <| zsq <| zcD (((j : Int) : Int) < ((x.insts.length : Nat) : Int)) (fun c121 => ?_) (fun c121 => ?_)
 refine zsk <| zsq <| zbk 9 <| zsr ?_
 obtain ⟨p3, hp3⟩ := get_of (l := x.insts) (i := j) (by omega)
 obtain ⟨hpd0, hpd1, hpa⟩ := hvr.insts p3 (List.mem_of_getElem? hp3)
 have hpl3 : p3.args.length ≤ 281474976710656 := ((hok.get hx).insts p3 (List.mem_of_getElem? hp3)).len
 have hpc3 := hcap p3 (List.mem_of_getElem? hp3)
 have hcs := costA_snoc hp3
 have hcl := costA_le (is := x.insts) (j := j + 1)
 refine zpn 1 ?_
 obtain ⟨ad122, had123⟩ := rds_some (M118.ro (hA.insts hx)) (cs := p3.cells) (i := j) (by simp [hp3])
 intro aC fr
 refine From_ixA (some 113) x.iA ad122 x.insts.length 5 (j : Int) fr (by kernel_rfl) had123 (by omega) (by omega) ?_
 intro aC fr
 revert aC
 refine zls ((ad122 : Addr).add (((j : Int)).toNat * 5)) (iV p3) (ins_get (M118.ro (hA.insts hx)) had123 hp3) <| zal M118 57 [(.int .i64 0), (.int .i64 0), (.int .i64 0), (.string ⟨#[]⟩), (.slice none 0 0)] fun b128 w129 hb128 M130 => ?_
 replace M130 := M130.nf
 refine zpn 1 <| zss M130 8 (iV p3) rfl fun w131 M132 => ?_
 replace M132 := M132.nf
 refine zfe <| zsq <| zsr <| zpn 1 <| zld ⟨b128, 4, none⟩ (.slice p3.A p3.args.length p3.c) (blk_cell (M132.get 8 rfl) rfl) <| zpn 2 <| zfe <| zbk 10 ?_
 intro aC fr
 refine zlp (fun n_ a_ w_ => ∃ (kk : Nat) (A10 : Option Addr) (c10 : Nat), n_ = p3.args.length - kk ∧ Fr a_ 159 [(0, (pT g 0)), (10, (.map (some b21))), (21, (nV j)), (22, (pT b128 0)), (108, (.slice x.iA x.insts.length x.ic)), (109, (.int .i64 ((x.insts.length : Nat) : Int))), (110, (nV j)), (116, (.slice p3.A p3.args.length p3.c)), (117, (.int .i64 ((p3.args.length : Nat) : Int))), (118, (nV kk))] ∧ Mem (Res.pk (gvL g PA pc AF cF s)).fp w w_ [.blk g 70 [(.slice PA ((argsTo (readM x n (SO (k : Int))) j p3.args (insTo (readM x n (SO (k : Int))) x.insts (dropsS (readM x n (SO (k : Int))) (givesS (beginS s (if 0 < k then listS n (SI (k : Int)) else [])) (madeL pn k x)) (madeL pn k x)) j) kk).pl.length) pc), (.slice A10 ((argsTo (readM x n (SO (k : Int))) j p3.args (insTo (readM x n (SO (k : Int))) x.insts (dropsS (readM x n (SO (k : Int))) (givesS (beginS s (if 0 < k then listS n (SI (k : Int)) else [])) (madeL pn k x)) (madeL pn k x)) j) kk).fr.length) c10), (.int .i64 ((argsTo (readM x n (SO (k : Int))) j p3.args (insTo (readM x n (SO (k : Int))) x.insts (dropsS (readM x n (SO (k : Int))) (givesS (beginS s (if 0 < k then listS n (SI (k : Int)) else [])) (madeL pn k x)) (madeL pn k x)) j) kk).nx))], .row 3 1 A10 ((argsTo (readM x n (SO (k : Int))) j p3.args (insTo (readM x n (SO (k : Int))) x.insts (dropsS (readM x n (SO (k : Int))) (givesS (beginS s (if 0 < k then listS n (SI (k : Int)) else [])) (madeL pn k x)) (madeL pn k x)) j) kk).fr.length) c10 (ints (argsTo (readM x n (SO (k : Int))) j p3.args (insTo (readM x n (SO (k : Int))) x.insts (dropsS (readM x n (SO (k : Int))) (givesS (beginS s (if 0 < k then listS n (SI (k : Int)) else [])) (madeL pn k x)) (madeL pn k x)) j) kk).fr), .row 3 1 PA ((argsTo (readM x n (SO (k : Int))) j p3.args (insTo (readM x n (SO (k : Int))) x.insts (dropsS (readM x n (SO (k : Int))) (givesS (beginS s (if 0 < k then listS n (SI (k : Int)) else [])) (madeL pn k x)) (madeL pn k x)) j) kk).pl.length) pc (ints (argsTo (readM x n (SO (k : Int))) j p3.args (insTo (readM x n (SO (k : Int))) x.insts (dropsS (readM x n (SO (k : Int))) (givesS (beginS s (if 0 < k then listS n (SI (k : Int)) else [])) (madeL pn k x)) (madeL pn k x)) j) kk).pl), .blk b1 24 (fV nm wk pa va (some ad7) c fs), .blk b4 42 [(.slice (some ad13) ((bsOf fs).length) c1), (.slice (some ad20) ((bsOf fs).length) c2)], .blk b8 53 (xV x), .map b21 (inK (Value.int .i64) (vM (readM x n (SO (k : Int))))), .row 3 1 A6 ((madeL pn k x).length) c6 (ints (madeL pn k x)), .blk b128 57 (iV p3)] ∧ (kk ≤ p3.args.length) ∧ (GB n (argsTo (readM x n (SO (k : Int))) j p3.args (insTo (readM x n (SO (k : Int))) x.insts (dropsS (readM x n (SO (k : Int))) (givesS (beginS s (if 0 < k then listS n (SI (k : Int)) else [])) (madeL pn k x)) (madeL pn k x)) j) kk) (K + 2 * (madeL pn k x).length + costA (x.insts.take j) + kk))) (n := _) ⟨0, A9, c9, rfl, fr.kp [0, 10, 21, 22, 108, 109, 110, 116, 117, 118], (M132.cast rfl), by omega, hg4⟩ ?_
 clear fr aC M132; rintro n aC w135 ⟨kk, A10, c10, rfl, fr, M136, hkk, hg5⟩
 revert aC
 refine zsp <| zsq <| zcD (((kk : Int) : Int) < ((p3.args.length : Nat) : Int)) (fun c139 => ?_) (fun c139 => ?_)
 refine zsk <| zsq <| zbk 11 <| zsr ?_
 obtain ⟨a0, ha⟩ := get_of (l := p3.args) (i := kk) (by omega)
 obtain ⟨ha0, ha1⟩ := hpa a0 (List.mem_of_getElem? ha)
 obtain ⟨q, rfl⟩ := Int.eq_ofNat_of_zero_le ha0
 refine zpn 1 ?_
 obtain ⟨ad140, had141⟩ := rd_some (M136.ro (hA.inst hx hp3)) (by simp [ints]; omega)
 intro aC fr
 refine From_ixA (some 121) p3.A ad140 p3.args.length 1 (kk : Int) fr (by kernel_rfl) had141 (by omega) (by omega) ?_
 intro aC fr
 revert aC
 refine zld ((ad140 : Addr).add (((kk : Int)).toNat * 1)) (nV q) (rd_at (M136.ro (hA.inst hx hp3)) had141 ha) <| zpn 2 <| zfe <| zsr <| zpn 2 <| zlv (ht := Tryd.underlying38) (intLaw Tryd.underlying3) (q : Int) (.int .i64 0) (M136.get 6 rfl) false (v := (.int .i64 ((lkp (readM x n (SO (k : Int))) (q : Int)).getD 0))) (by rw [lkM0]) <| zpn 3 ?_
 obtain ⟨B146, hB146⟩ : ∃ B : Bool, B = ((((lkp (readM x n (SO (k : Int))) (q : Int)).getD 0) : Int) == (j : Int)) := ⟨_, rfl⟩
 refine zkp [(0, (pT g 0)), (10, (.map (some b21))), (21, (nV j)), (22, (pT b128 0)), (23, (nV kk)), (24, (nV q)), (108, (.slice x.iA x.insts.length x.ic)), (109, (.int .i64 ((x.insts.length : Nat) : Int))), (110, (nV j)), (116, (.slice p3.A p3.args.length p3.c)), (117, (.int .i64 ((p3.args.length : Nat) : Int))), (118, (nV kk)), (128, (.bool ((((lkp (readM x n (SO (k : Int))) (q : Int)).getD 0) : Int) == (j : Int))))] ?_
 rw [← hB146]
 have iB146 : B146 = true ↔ ((((lkp (readM x n (SO (k : Int))) (q : Int)).getD 0) : Int) = (j : Int)) := by rw [hB146]; simp only [beq_iff_eq]
 clear hB146
 intro aC fr
 refine zpk 1 7 [129] fr (news := [(129, (cond B146 (pT b128 4) undef))]) (by cases B146 <;> kernel_rfl) ?_
 intro aC fr
 cases B146
 have c146 : ¬ ((((lkp (readM x n (SO (k : Int))) (q : Int)).getD 0) : Int) = (j : Int)) := (fun h => Bool.noConfusion (iB146.2 h) : ¬ ((((lkp (readM x n (SO (k : Int))) (q : Int)).getD 0) : Int) = (j : Int)))
 revert aC
 refine zpn 7 <| zfe <| zcF <| zsk <| zrg <| zar ((kk : Int) + 1) <| zpn 1 <| zfe ?_
 have M151 : Mem (Res.pk (gvL g PA pc AF cF s)).fp w w135 [.blk g 70 [(.slice PA ((argsTo (readM x n (SO (k : Int))) j p3.args (insTo (readM x n (SO (k : Int))) x.insts (dropsS (readM x n (SO (k : Int))) (givesS (beginS s (if 0 < k then listS n (SI (k : Int)) else [])) (madeL pn k x)) (madeL pn k x)) j) (kk + 1)).pl.length) pc), (.slice A10 ((argsTo (readM x n (SO (k : Int))) j p3.args (insTo (readM x n (SO (k : Int))) x.insts (dropsS (readM x n (SO (k : Int))) (givesS (beginS s (if 0 < k then listS n (SI (k : Int)) else [])) (madeL pn k x)) (madeL pn k x)) j) (kk + 1)).fr.length) c10), (.int .i64 ((argsTo (readM x n (SO (k : Int))) j p3.args (insTo (readM x n (SO (k : Int))) x.insts (dropsS (readM x n (SO (k : Int))) (givesS (beginS s (if 0 < k then listS n (SI (k : Int)) else [])) (madeL pn k x)) (madeL pn k x)) j) (kk + 1)).nx))], .row 3 1 A10 ((argsTo (readM x n (SO (k : Int))) j p3.args (insTo (readM x n (SO (k : Int))) x.insts (dropsS (readM x n (SO (k : Int))) (givesS (beginS s (if 0 < k then listS n (SI (k : Int)) else [])) (madeL pn k x)) (madeL pn k x)) j) (kk + 1)).fr.length) c10 (ints (argsTo (readM x n (SO (k : Int))) j p3.args (insTo (readM x n (SO (k : Int))) x.insts (dropsS (readM x n (SO (k : Int))) (givesS (beginS s (if 0 < k then listS n (SI (k : Int)) else [])) (madeL pn k x)) (madeL pn k x)) j) (kk + 1)).fr), .row 3 1 PA ((argsTo (readM x n (SO (k : Int))) j p3.args (insTo (readM x n (SO (k : Int))) x.insts (dropsS (readM x n (SO (k : Int))) (givesS (beginS s (if 0 < k then listS n (SI (k : Int)) else [])) (madeL pn k x)) (madeL pn k x)) j) (kk + 1)).pl.length) pc (ints (argsTo (readM x n (SO (k : Int))) j p3.args (insTo (readM x n (SO (k : Int))) x.insts (dropsS (readM x n (SO (k : Int))) (givesS (beginS s (if 0 < k then listS n (SI (k : Int)) else [])) (madeL pn k x)) (madeL pn k x)) j) (kk + 1)).pl), .blk b1 24 (fV nm wk pa va (some ad7) c fs), .blk b4 42 [(.slice (some ad13) ((bsOf fs).length) c1), (.slice (some ad20) ((bsOf fs).length) c2)], .blk b8 53 (xV x), .map b21 (inK (Value.int .i64) (vM (readM x n (SO (k : Int))))), .row 3 1 A6 ((madeL pn k x).length) c6 (ints (madeL pn k x)), .blk b128 57 (iV p3)] := M136.cast (by rw [argsTo_next ha, if_neg (show ¬ ((lkp (readM x n (SO (k : Int))) (q : Int)).getD 0 = (j : Int) ∧ ¬ (q : Int) ∈ p3.args.take kk) from fun h => by have h1 := h.1; have h2 := h.2; first | omega | contradiction)])
 intro aC fr
 exact ⟨p3.args.length - (kk + 1), by omega, kk + 1, A10, c10, rfl, fr.kp [0, 10, 21, 22, 108, 109, 110, 116, 117, 118], M151, by omega, by rw [argsTo_next ha, if_neg (show ¬ ((lkp (readM x n (SO (k : Int))) (q : Int)).getD 0 = (j : Int) ∧ ¬ (q : Int) ∈ p3.args.take kk) from fun h => by have h1 := h.1; have h2 := h.2; first | omega | contradiction)]; exact hg5.mono (by omega)⟩
 have c146 : ((((lkp (readM x n (SO (k : Int))) (q : Int)).getD 0) : Int) = (j : Int)) := iB146.1 rfl
 revert aC
 refine zld ⟨b128, 4, none⟩ (.slice p3.A p3.args.length p3.c) (blk_cell (M136.get 8 rfl) rfl) <| zpn 1 ?_
 refine zhi (A := p3.A) (cap := p3.c) (i := (kk : Int)) kk rfl (by omega) ?_ (by kernel_rfl)
 refine zpn 1 <| zcl ((by have h := contains_c (p3.args.take kk) p3.A p3.c (q : Int) w135 (by rw [List.length_take]; omega) (by rw [show ints (p3.args.take kk) = (ints p3.args).take kk from List.map_take ..]; exact RO.of (rd_takeV (M136.ro (hA.inst hx hp3)))); rw [List.length_take, Nat.min_eq_left (by omega)] at h; exact h)) ?_
 rintro _ w154 ⟨rfl, M155x⟩
 have M155 := M136.cl M155x
 refine zpn 2 <| zfe <| zcP (!(decide ((q : Int) ∈ p3.args.take kk))) (¬ ((q : Int) ∈ p3.args.take kk)) (by simp only [notT, decide_eq_true_eq]) (fun c156 => ?_) (fun c156 => ?_)
 refine zrg <| zpn 2 <| zcl (back_c g PA pc A10 c10 (argsTo (readM x n (SO (k : Int))) j p3.args (insTo (readM x n (SO (k : Int))) x.insts (dropsS (readM x n (SO (k : Int))) (givesS (beginS s (if 0 < k then listS n (SI (k : Int)) else [])) (madeL pn k x)) (madeL pn k x)) j) kk) q w154 (Mem.pk_holds (l := gvL g PA pc A10 c10 (argsTo (readM x n (SO (k : Int))) j p3.args (insTo (readM x n (SO (k : Int))) x.insts (dropsS (readM x n (SO (k : Int))) (givesS (beginS s (if 0 < k then listS n (SI (k : Int)) else [])) (madeL pn k x)) (madeL pn k x)) j) kk)) M155) (by rw [hg5.len]; omega) (by have := hg5.frl; omega) (by rw [hg5.len]; omega)) ?_
 rintro _ w159 ⟨A157, c158, rfl, M160x⟩
 have M160 : Mem (Res.pk (gvL g PA pc AF cF s)).fp w w159 [.blk g 70 [(.slice PA ((backS (argsTo (readM x n (SO (k : Int))) j p3.args (insTo (readM x n (SO (k : Int))) x.insts (dropsS (readM x n (SO (k : Int))) (givesS (beginS s (if 0 < k then listS n (SI (k : Int)) else [])) (madeL pn k x)) (madeL pn k x)) j) kk) q).pl.length) pc), (.slice A157 ((backS (argsTo (readM x n (SO (k : Int))) j p3.args (insTo (readM x n (SO (k : Int))) x.insts (dropsS (readM x n (SO (k : Int))) (givesS (beginS s (if 0 < k then listS n (SI (k : Int)) else [])) (madeL pn k x)) (madeL pn k x)) j) kk) q).fr.length) c158), (.int .i64 ((backS (argsTo (readM x n (SO (k : Int))) j p3.args (insTo (readM x n (SO (k : Int))) x.insts (dropsS (readM x n (SO (k : Int))) (givesS (beginS s (if 0 < k then listS n (SI (k : Int)) else [])) (madeL pn k x)) (madeL pn k x)) j) kk) q).nx))], .row 3 1 A157 ((backS (argsTo (readM x n (SO (k : Int))) j p3.args (insTo (readM x n (SO (k : Int))) x.insts (dropsS (readM x n (SO (k : Int))) (givesS (beginS s (if 0 < k then listS n (SI (k : Int)) else [])) (madeL pn k x)) (madeL pn k x)) j) kk) q).fr.length) c158 (ints (backS (argsTo (readM x n (SO (k : Int))) j p3.args (insTo (readM x n (SO (k : Int))) x.insts (dropsS (readM x n (SO (k : Int))) (givesS (beginS s (if 0 < k then listS n (SI (k : Int)) else [])) (madeL pn k x)) (madeL pn k x)) j) kk) q).fr), .row 3 1 PA ((backS (argsTo (readM x n (SO (k : Int))) j p3.args (insTo (readM x n (SO (k : Int))) x.insts (dropsS (readM x n (SO (k : Int))) (givesS (beginS s (if 0 < k then listS n (SI (k : Int)) else [])) (madeL pn k x)) (madeL pn k x)) j) kk) q).pl.length) pc (ints (backS (argsTo (readM x n (SO (k : Int))) j p3.args (insTo (readM x n (SO (k : Int))) x.insts (dropsS (readM x n (SO (k : Int))) (givesS (beginS s (if 0 < k then listS n (SI (k : Int)) else [])) (madeL pn k x)) (madeL pn k x)) j) kk) q).pl), .blk b1 24 (fV nm wk pa va (some ad7) c fs), .blk b4 42 [(.slice (some ad13) ((bsOf fs).length) c1), (.slice (some ad20) ((bsOf fs).length) c2)], .blk b8 53 (xV x), .map b21 (inK (Value.int .i64) (vM (readM x n (SO (k : Int))))), .row 3 1 A6 ((madeL pn k x).length) c6 (ints (madeL pn k x)), .blk b128 57 (iV p3)] := M155.mdk M160x
 refine zfe <| zrg <| zar ((kk : Int) + 1) <| zpn 1 <| zfe ?_
 have M161 : Mem (Res.pk (gvL g PA pc AF cF s)).fp w w159 [.blk g 70 [(.slice PA ((argsTo (readM x n (SO (k : Int))) j p3.args (insTo (readM x n (SO (k : Int))) x.insts (dropsS (readM x n (SO (k : Int))) (givesS (beginS s (if 0 < k then listS n (SI (k : Int)) else [])) (madeL pn k x)) (madeL pn k x)) j) (kk + 1)).pl.length) pc), (.slice A157 ((argsTo (readM x n (SO (k : Int))) j p3.args (insTo (readM x n (SO (k : Int))) x.insts (dropsS (readM x n (SO (k : Int))) (givesS (beginS s (if 0 < k then listS n (SI (k : Int)) else [])) (madeL pn k x)) (madeL pn k x)) j) (kk + 1)).fr.length) c158), (.int .i64 ((argsTo (readM x n (SO (k : Int))) j p3.args (insTo (readM x n (SO (k : Int))) x.insts (dropsS (readM x n (SO (k : Int))) (givesS (beginS s (if 0 < k then listS n (SI (k : Int)) else [])) (madeL pn k x)) (madeL pn k x)) j) (kk + 1)).nx))], .row 3 1 A157 ((argsTo (readM x n (SO (k : Int))) j p3.args (insTo (readM x n (SO (k : Int))) x.insts (dropsS (readM x n (SO (k : Int))) (givesS (beginS s (if 0 < k then listS n (SI (k : Int)) else [])) (madeL pn k x)) (madeL pn k x)) j) (kk + 1)).fr.length) c158 (ints (argsTo (readM x n (SO (k : Int))) j p3.args (insTo (readM x n (SO (k : Int))) x.insts (dropsS (readM x n (SO (k : Int))) (givesS (beginS s (if 0 < k then listS n (SI (k : Int)) else [])) (madeL pn k x)) (madeL pn k x)) j) (kk + 1)).fr), .row 3 1 PA ((argsTo (readM x n (SO (k : Int))) j p3.args (insTo (readM x n (SO (k : Int))) x.insts (dropsS (readM x n (SO (k : Int))) (givesS (beginS s (if 0 < k then listS n (SI (k : Int)) else [])) (madeL pn k x)) (madeL pn k x)) j) (kk + 1)).pl.length) pc (ints (argsTo (readM x n (SO (k : Int))) j p3.args (insTo (readM x n (SO (k : Int))) x.insts (dropsS (readM x n (SO (k : Int))) (givesS (beginS s (if 0 < k then listS n (SI (k : Int)) else [])) (madeL pn k x)) (madeL pn k x)) j) (kk + 1)).pl), .blk b1 24 (fV nm wk pa va (some ad7) c fs), .blk b4 42 [(.slice (some ad13) ((bsOf fs).length) c1), (.slice (some ad20) ((bsOf fs).length) c2)], .blk b8 53 (xV x), .map b21 (inK (Value.int .i64) (vM (readM x n (SO (k : Int))))), .row 3 1 A6 ((madeL pn k x).length) c6 (ints (madeL pn k x)), .blk b128 57 (iV p3)] := M160.cast (by rw [argsTo_next ha, if_pos (show ((lkp (readM x n (SO (k : Int))) (q : Int)).getD 0 = (j : Int) ∧ ¬ (q : Int) ∈ p3.args.take kk) from ⟨by omega, by assumption⟩), Int.toNat_natCast])
 intro aC fr
 exact ⟨p3.args.length - (kk + 1), by omega, kk + 1, A157, c158, rfl, fr.kp [0, 10, 21, 22, 108, 109, 110, 116, 117, 118], M161, by omega, by rw [argsTo_next ha, if_pos (show ((lkp (readM x n (SO (k : Int))) (q : Int)).getD 0 = (j : Int) ∧ ¬ (q : Int) ∈ p3.args.take kk) from ⟨by omega, by assumption⟩), Int.toNat_natCast]; exact hg5.back (by omega)⟩
 refine zsk <| zrg <| zar ((kk : Int) + 1) <| zpn 1 <| zfe ?_
 have M164 : Mem (Res.pk (gvL g PA pc AF cF s)).fp w w154 [.blk g 70 [(.slice PA ((argsTo (readM x n (SO (k : Int))) j p3.args (insTo (readM x n (SO (k : Int))) x.insts (dropsS (readM x n (SO (k : Int))) (givesS (beginS s (if 0 < k then listS n (SI (k : Int)) else [])) (madeL pn k x)) (madeL pn k x)) j) (kk + 1)).pl.length) pc), (.slice A10 ((argsTo (readM x n (SO (k : Int))) j p3.args (insTo (readM x n (SO (k : Int))) x.insts (dropsS (readM x n (SO (k : Int))) (givesS (beginS s (if 0 < k then listS n (SI (k : Int)) else [])) (madeL pn k x)) (madeL pn k x)) j) (kk + 1)).fr.length) c10), (.int .i64 ((argsTo (readM x n (SO (k : Int))) j p3.args (insTo (readM x n (SO (k : Int))) x.insts (dropsS (readM x n (SO (k : Int))) (givesS (beginS s (if 0 < k then listS n (SI (k : Int)) else [])) (madeL pn k x)) (madeL pn k x)) j) (kk + 1)).nx))], .row 3 1 A10 ((argsTo (readM x n (SO (k : Int))) j p3.args (insTo (readM x n (SO (k : Int))) x.insts (dropsS (readM x n (SO (k : Int))) (givesS (beginS s (if 0 < k then listS n (SI (k : Int)) else [])) (madeL pn k x)) (madeL pn k x)) j) (kk + 1)).fr.length) c10 (ints (argsTo (readM x n (SO (k : Int))) j p3.args (insTo (readM x n (SO (k : Int))) x.insts (dropsS (readM x n (SO (k : Int))) (givesS (beginS s (if 0 < k then listS n (SI (k : Int)) else [])) (madeL pn k x)) (madeL pn k x)) j) (kk + 1)).fr), .row 3 1 PA ((argsTo (readM x n (SO (k : Int))) j p3.args (insTo (readM x n (SO (k : Int))) x.insts (dropsS (readM x n (SO (k : Int))) (givesS (beginS s (if 0 < k then listS n (SI (k : Int)) else [])) (madeL pn k x)) (madeL pn k x)) j) (kk + 1)).pl.length) pc (ints (argsTo (readM x n (SO (k : Int))) j p3.args (insTo (readM x n (SO (k : Int))) x.insts (dropsS (readM x n (SO (k : Int))) (givesS (beginS s (if 0 < k then listS n (SI (k : Int)) else [])) (madeL pn k x)) (madeL pn k x)) j) (kk + 1)).pl), .blk b1 24 (fV nm wk pa va (some ad7) c fs), .blk b4 42 [(.slice (some ad13) ((bsOf fs).length) c1), (.slice (some ad20) ((bsOf fs).length) c2)], .blk b8 53 (xV x), .map b21 (inK (Value.int .i64) (vM (readM x n (SO (k : Int))))), .row 3 1 A6 ((madeL pn k x).length) c6 (ints (madeL pn k x)), .blk b128 57 (iV p3)] := M155.cast (by rw [argsTo_next ha, if_neg (show ¬ ((lkp (readM x n (SO (k : Int))) (q : Int)).getD 0 = (j : Int) ∧ ¬ (q : Int) ∈ p3.args.take kk) from fun h => by have h1 := h.1; have h2 := h.2; first | omega | contradiction)])
 intro aC fr
 exact ⟨p3.args.length - (kk + 1), by omega, kk + 1, A10, c10, rfl, fr.kp [0, 10, 21, 22, 108, 109, 110, 116, 117, 118], M164, by omega, by rw [argsTo_next ha, if_neg (show ¬ ((lkp (readM x n (SO (k : Int))) (q : Int)).getD 0 = (j : Int) ∧ ¬ (q : Int) ∈ p3.args.take kk) from fun h => by have h1 := h.1; have h2 := h.2; first | omega | contradiction)]; exact hg5.mono (by omega)⟩
 refine zex 10 <| zbh <| zsr ?_
 have M167 : Mem (Res.pk (gvL g PA pc AF cF s)).fp w w135 [.blk g 70 [(.slice PA ((argsTo (readM x n (SO (k : Int))) j p3.args (insTo (readM x n (SO (k : Int))) x.insts (dropsS (readM x n (SO (k : Int))) (givesS (beginS s (if 0 < k then listS n (SI (k : Int)) else [])) (madeL pn k x)) (madeL pn k x)) j) p3.args.length).pl.length) pc), (.slice A10 ((argsTo (readM x n (SO (k : Int))) j p3.args (insTo (readM x n (SO (k : Int))) x.insts (dropsS (readM x n (SO (k : Int))) (givesS (beginS s (if 0 < k then listS n (SI (k : Int)) else [])) (madeL pn k x)) (madeL pn k x)) j) p3.args.length).fr.length) c10), (.int .i64 ((argsTo (readM x n (SO (k : Int))) j p3.args (insTo (readM x n (SO (k : Int))) x.insts (dropsS (readM x n (SO (k : Int))) (givesS (beginS s (if 0 < k then listS n (SI (k : Int)) else [])) (madeL pn k x)) (madeL pn k x)) j) p3.args.length).nx))], .row 3 1 A10 ((argsTo (readM x n (SO (k : Int))) j p3.args (insTo (readM x n (SO (k : Int))) x.insts (dropsS (readM x n (SO (k : Int))) (givesS (beginS s (if 0 < k then listS n (SI (k : Int)) else [])) (madeL pn k x)) (madeL pn k x)) j) p3.args.length).fr.length) c10 (ints (argsTo (readM x n (SO (k : Int))) j p3.args (insTo (readM x n (SO (k : Int))) x.insts (dropsS (readM x n (SO (k : Int))) (givesS (beginS s (if 0 < k then listS n (SI (k : Int)) else [])) (madeL pn k x)) (madeL pn k x)) j) p3.args.length).fr), .row 3 1 PA ((argsTo (readM x n (SO (k : Int))) j p3.args (insTo (readM x n (SO (k : Int))) x.insts (dropsS (readM x n (SO (k : Int))) (givesS (beginS s (if 0 < k then listS n (SI (k : Int)) else [])) (madeL pn k x)) (madeL pn k x)) j) p3.args.length).pl.length) pc (ints (argsTo (readM x n (SO (k : Int))) j p3.args (insTo (readM x n (SO (k : Int))) x.insts (dropsS (readM x n (SO (k : Int))) (givesS (beginS s (if 0 < k then listS n (SI (k : Int)) else [])) (madeL pn k x)) (madeL pn k x)) j) p3.args.length).pl), .blk b1 24 (fV nm wk pa va (some ad7) c fs), .blk b4 42 [(.slice (some ad13) ((bsOf fs).length) c1), (.slice (some ad20) ((bsOf fs).length) c2)], .blk b8 53 (xV x), .map b21 (inK (Value.int .i64) (vM (readM x n (SO (k : Int))))), .row 3 1 A6 ((madeL pn k x).length) c6 (ints (madeL pn k x)), .blk b128 57 (iV p3)] := M136.cast (by rw [show kk = p3.args.length by omega])
 have hg40 : GB n (argsTo (readM x n (SO (k : Int))) j p3.args (insTo (readM x n (SO (k : Int))) x.insts (dropsS (readM x n (SO (k : Int))) (givesS (beginS s (if 0 < k then listS n (SI (k : Int)) else [])) (madeL pn k x)) (madeL pn k x)) j) p3.args.length) (K + 2 * (madeL pn k x).length + costA (x.insts.take j) + p3.args.length) := by rw [show kk = p3.args.length by omega] at hg5; exact hg5
 refine zpn 1 <| zld ⟨b128, 1, none⟩ (.int .i64 p3.dst) (blk_cell (M167.get 8 rfl) rfl) <| zpn 1 <| zfe <| zcD ((p3.dst : Int) ≥ 0) (fun c168 => ?_) (fun c168 => ?_)
 obtain ⟨dn, hdn⟩ := Int.eq_ofNat_of_zero_le (show 0 ≤ p3.dst by omega)
 refine zsr <| zpn 2 <| zld ⟨b128, 1, none⟩ (.int .i64 (dn : Int)) (by rw [← hdn]; exact blk_cell (M167.get 8 rfl) rfl) <| zcl (give_c g PA pc A10 c10 (argsTo (readM x n (SO (k : Int))) j p3.args (insTo (readM x n (SO (k : Int))) x.insts (dropsS (readM x n (SO (k : Int))) (givesS (beginS s (if 0 < k then listS n (SI (k : Int)) else [])) (madeL pn k x)) (madeL pn k x)) j) p3.args.length) dn w135 (Mem.pk_holds (l := gvL g PA pc A10 c10 (argsTo (readM x n (SO (k : Int))) j p3.args (insTo (readM x n (SO (k : Int))) x.insts (dropsS (readM x n (SO (k : Int))) (givesS (beginS s (if 0 < k then listS n (SI (k : Int)) else [])) (madeL pn k x)) (madeL pn k x)) j) p3.args.length)) M167) (by rw [hg40.len]; omega) (by have := hg40.frl; omega) (by rw [hg40.len]; omega) ⟨hg40.nx0, by have := hg40.nxK; omega⟩) ?_
 rintro _ w171 ⟨A169, c170, rfl, M172x⟩
 have M172 : Mem (Res.pk (gvL g PA pc AF cF s)).fp w w171 [.blk g 70 [(.slice PA ((giveS (argsTo (readM x n (SO (k : Int))) j p3.args (insTo (readM x n (SO (k : Int))) x.insts (dropsS (readM x n (SO (k : Int))) (givesS (beginS s (if 0 < k then listS n (SI (k : Int)) else [])) (madeL pn k x)) (madeL pn k x)) j) p3.args.length) dn).pl.length) pc), (.slice A169 ((giveS (argsTo (readM x n (SO (k : Int))) j p3.args (insTo (readM x n (SO (k : Int))) x.insts (dropsS (readM x n (SO (k : Int))) (givesS (beginS s (if 0 < k then listS n (SI (k : Int)) else [])) (madeL pn k x)) (madeL pn k x)) j) p3.args.length) dn).fr.length) c170), (.int .i64 ((giveS (argsTo (readM x n (SO (k : Int))) j p3.args (insTo (readM x n (SO (k : Int))) x.insts (dropsS (readM x n (SO (k : Int))) (givesS (beginS s (if 0 < k then listS n (SI (k : Int)) else [])) (madeL pn k x)) (madeL pn k x)) j) p3.args.length) dn).nx))], .row 3 1 A169 ((giveS (argsTo (readM x n (SO (k : Int))) j p3.args (insTo (readM x n (SO (k : Int))) x.insts (dropsS (readM x n (SO (k : Int))) (givesS (beginS s (if 0 < k then listS n (SI (k : Int)) else [])) (madeL pn k x)) (madeL pn k x)) j) p3.args.length) dn).fr.length) c170 (ints (giveS (argsTo (readM x n (SO (k : Int))) j p3.args (insTo (readM x n (SO (k : Int))) x.insts (dropsS (readM x n (SO (k : Int))) (givesS (beginS s (if 0 < k then listS n (SI (k : Int)) else [])) (madeL pn k x)) (madeL pn k x)) j) p3.args.length) dn).fr), .row 3 1 PA ((giveS (argsTo (readM x n (SO (k : Int))) j p3.args (insTo (readM x n (SO (k : Int))) x.insts (dropsS (readM x n (SO (k : Int))) (givesS (beginS s (if 0 < k then listS n (SI (k : Int)) else [])) (madeL pn k x)) (madeL pn k x)) j) p3.args.length) dn).pl.length) pc (ints (giveS (argsTo (readM x n (SO (k : Int))) j p3.args (insTo (readM x n (SO (k : Int))) x.insts (dropsS (readM x n (SO (k : Int))) (givesS (beginS s (if 0 < k then listS n (SI (k : Int)) else [])) (madeL pn k x)) (madeL pn k x)) j) p3.args.length) dn).pl), .blk b1 24 (fV nm wk pa va (some ad7) c fs), .blk b4 42 [(.slice (some ad13) ((bsOf fs).length) c1), (.slice (some ad20) ((bsOf fs).length) c2)], .blk b8 53 (xV x), .map b21 (inK (Value.int .i64) (vM (readM x n (SO (k : Int))))), .row 3 1 A6 ((madeL pn k x).length) c6 (ints (madeL pn k x)), .blk b128 57 (iV p3)] := M167.mdk M172x
 refine zfe <| zsr ?_
 have hg41 := hg40.give dn
 refine zpn 2 <| zld ⟨b128, 1, none⟩ (.int .i64 (dn : Int)) (by rw [← hdn]; exact blk_cell (M172.get 8 rfl) rfl) <| zlv (ht := Tryd.underlying38) (intLaw Tryd.underlying3) (dn : Int) (.int .i64 0) (M172.get 6 rfl) false (v := (.int .i64 ((lkp (readM x n (SO (k : Int))) (dn : Int)).getD 0))) (by rw [lkM0]) <| zpn 2 <| zfe <| zcD ((((lkp (readM x n (SO (k : Int))) (dn : Int)).getD 0) : Int) ≤ (j : Int)) (fun c173 => ?_) (fun c173 => ?_)
 refine zrg <| zpn 2 <| zld ⟨b128, 1, none⟩ (.int .i64 (dn : Int)) (by rw [← hdn]; exact blk_cell (M172.get 8 rfl) rfl) <| zkp [(0, (pT g 0)), (10, (.map (some b21))), (108, (.slice x.iA x.insts.length x.ic)), (109, (.int .i64 ((x.insts.length : Nat) : Int))), (110, (nV j)), (154, (pT g 0)), (156, (nV dn))] <| zcl (back_c g PA pc A169 c170 (giveS (argsTo (readM x n (SO (k : Int))) j p3.args (insTo (readM x n (SO (k : Int))) x.insts (dropsS (readM x n (SO (k : Int))) (givesS (beginS s (if 0 < k then listS n (SI (k : Int)) else [])) (madeL pn k x)) (madeL pn k x)) j) p3.args.length) dn) dn w171 (Mem.pk_holds (l := gvL g PA pc A169 c170 (giveS (argsTo (readM x n (SO (k : Int))) j p3.args (insTo (readM x n (SO (k : Int))) x.insts (dropsS (readM x n (SO (k : Int))) (givesS (beginS s (if 0 < k then listS n (SI (k : Int)) else [])) (madeL pn k x)) (madeL pn k x)) j) p3.args.length) dn)) M172) (by rw [hg41.len]; omega) (by have := hg41.frl; omega) (by rw [hg41.len]; omega)) ?_
 rintro _ w176 ⟨A174, c175, rfl, M177x⟩
 have M177 : Mem (Res.pk (gvL g PA pc AF cF s)).fp w w176 [.blk g 70 [(.slice PA ((backS (giveS (argsTo (readM x n (SO (k : Int))) j p3.args (insTo (readM x n (SO (k : Int))) x.insts (dropsS (readM x n (SO (k : Int))) (givesS (beginS s (if 0 < k then listS n (SI (k : Int)) else [])) (madeL pn k x)) (madeL pn k x)) j) p3.args.length) dn) dn).pl.length) pc), (.slice A174 ((backS (giveS (argsTo (readM x n (SO (k : Int))) j p3.args (insTo (readM x n (SO (k : Int))) x.insts (dropsS (readM x n (SO (k : Int))) (givesS (beginS s (if 0 < k then listS n (SI (k : Int)) else [])) (madeL pn k x)) (madeL pn k x)) j) p3.args.length) dn) dn).fr.length) c175), (.int .i64 ((backS (giveS (argsTo (readM x n (SO (k : Int))) j p3.args (insTo (readM x n (SO (k : Int))) x.insts (dropsS (readM x n (SO (k : Int))) (givesS (beginS s (if 0 < k then listS n (SI (k : Int)) else [])) (madeL pn k x)) (madeL pn k x)) j) p3.args.length) dn) dn).nx))], .row 3 1 A174 ((backS (giveS (argsTo (readM x n (SO (k : Int))) j p3.args (insTo (readM x n (SO (k : Int))) x.insts (dropsS (readM x n (SO (k : Int))) (givesS (beginS s (if 0 < k then listS n (SI (k : Int)) else [])) (madeL pn k x)) (madeL pn k x)) j) p3.args.length) dn) dn).fr.length) c175 (ints (backS (giveS (argsTo (readM x n (SO (k : Int))) j p3.args (insTo (readM x n (SO (k : Int))) x.insts (dropsS (readM x n (SO (k : Int))) (givesS (beginS s (if 0 < k then listS n (SI (k : Int)) else [])) (madeL pn k x)) (madeL pn k x)) j) p3.args.length) dn) dn).fr), .row 3 1 PA ((backS (giveS (argsTo (readM x n (SO (k : Int))) j p3.args (insTo (readM x n (SO (k : Int))) x.insts (dropsS (readM x n (SO (k : Int))) (givesS (beginS s (if 0 < k then listS n (SI (k : Int)) else [])) (madeL pn k x)) (madeL pn k x)) j) p3.args.length) dn) dn).pl.length) pc (ints (backS (giveS (argsTo (readM x n (SO (k : Int))) j p3.args (insTo (readM x n (SO (k : Int))) x.insts (dropsS (readM x n (SO (k : Int))) (givesS (beginS s (if 0 < k then listS n (SI (k : Int)) else [])) (madeL pn k x)) (madeL pn k x)) j) p3.args.length) dn) dn).pl), .blk b1 24 (fV nm wk pa va (some ad7) c fs), .blk b4 42 [(.slice (some ad13) ((bsOf fs).length) c1), (.slice (some ad20) ((bsOf fs).length) c2)], .blk b8 53 (xV x), .map b21 (inK (Value.int .i64) (vM (readM x n (SO (k : Int))))), .row 3 1 A6 ((madeL pn k x).length) c6 (ints (madeL pn k x)), .blk b128 57 (iV p3)] := M172.mdk M177x
 refine zfe <| zrg <| zar ((j : Int) + 1) <| zpn 1 <| zfe ?_
 have M178 : Mem (Res.pk (gvL g PA pc AF cF s)).fp w w176 [.blk g 70 [(.slice PA ((insTo (readM x n (SO (k : Int))) x.insts (dropsS (readM x n (SO (k : Int))) (givesS (beginS s (if 0 < k then listS n (SI (k : Int)) else [])) (madeL pn k x)) (madeL pn k x)) (j + 1)).pl.length) pc), (.slice A174 ((insTo (readM x n (SO (k : Int))) x.insts (dropsS (readM x n (SO (k : Int))) (givesS (beginS s (if 0 < k then listS n (SI (k : Int)) else [])) (madeL pn k x)) (madeL pn k x)) (j + 1)).fr.length) c175), (.int .i64 ((insTo (readM x n (SO (k : Int))) x.insts (dropsS (readM x n (SO (k : Int))) (givesS (beginS s (if 0 < k then listS n (SI (k : Int)) else [])) (madeL pn k x)) (madeL pn k x)) (j + 1)).nx))], .row 3 1 A174 ((insTo (readM x n (SO (k : Int))) x.insts (dropsS (readM x n (SO (k : Int))) (givesS (beginS s (if 0 < k then listS n (SI (k : Int)) else [])) (madeL pn k x)) (madeL pn k x)) (j + 1)).fr.length) c175 (ints (insTo (readM x n (SO (k : Int))) x.insts (dropsS (readM x n (SO (k : Int))) (givesS (beginS s (if 0 < k then listS n (SI (k : Int)) else [])) (madeL pn k x)) (madeL pn k x)) (j + 1)).fr), .row 3 1 PA ((insTo (readM x n (SO (k : Int))) x.insts (dropsS (readM x n (SO (k : Int))) (givesS (beginS s (if 0 < k then listS n (SI (k : Int)) else [])) (madeL pn k x)) (madeL pn k x)) (j + 1)).pl.length) pc (ints (insTo (readM x n (SO (k : Int))) x.insts (dropsS (readM x n (SO (k : Int))) (givesS (beginS s (if 0 < k then listS n (SI (k : Int)) else [])) (madeL pn k x)) (madeL pn k x)) (j + 1)).pl), .blk b1 24 (fV nm wk pa va (some ad7) c fs), .blk b4 42 [(.slice (some ad13) ((bsOf fs).length) c1), (.slice (some ad20) ((bsOf fs).length) c2)], .blk b8 53 (xV x), .map b21 (inK (Value.int .i64) (vM (readM x n (SO (k : Int))))), .row 3 1 A6 ((madeL pn k x).length) c6 (ints (madeL pn k x)), .blk b128 57 (iV p3)] := M177.cast (by rw [insTo_next hp3, dstS, if_pos (show 0 ≤ p3.dst by omega), if_pos (show (lkp (readM x n (SO (k : Int))) p3.dst).getD 0 ≤ (j : Int) by rw [hdn]; omega), hdn, Int.toNat_natCast])
 intro aC fr
 exact ⟨x.insts.length - (j + 1), by omega, j + 1, A174, c175, rfl, fr.kp [0, 10, 108, 109, 110], (M178.tk 8), by omega, by rw [insTo_next hp3, dstS, if_pos (show 0 ≤ p3.dst by omega), if_pos (show (lkp (readM x n (SO (k : Int))) p3.dst).getD 0 ≤ (j : Int) by rw [hdn]; omega), hdn, Int.toNat_natCast]; exact ((hg40.give dn).back (by omega)).mono (by omega)⟩
 refine zsk <| zrg <| zar ((j : Int) + 1) <| zkp [(0, (pT g 0)), (10, (.map (some b21))), (108, (.slice x.iA x.insts.length x.ic)), (109, (.int .i64 ((x.insts.length : Nat) : Int))), (158, (.int .i64 ((j : Int) + 1)))] <| zpn 1 <| zfe ?_
 have M181 : Mem (Res.pk (gvL g PA pc AF cF s)).fp w w171 [.blk g 70 [(.slice PA ((insTo (readM x n (SO (k : Int))) x.insts (dropsS (readM x n (SO (k : Int))) (givesS (beginS s (if 0 < k then listS n (SI (k : Int)) else [])) (madeL pn k x)) (madeL pn k x)) (j + 1)).pl.length) pc), (.slice A169 ((insTo (readM x n (SO (k : Int))) x.insts (dropsS (readM x n (SO (k : Int))) (givesS (beginS s (if 0 < k then listS n (SI (k : Int)) else [])) (madeL pn k x)) (madeL pn k x)) (j + 1)).fr.length) c170), (.int .i64 ((insTo (readM x n (SO (k : Int))) x.insts (dropsS (readM x n (SO (k : Int))) (givesS (beginS s (if 0 < k then listS n (SI (k : Int)) else [])) (madeL pn k x)) (madeL pn k x)) (j + 1)).nx))], .row 3 1 A169 ((insTo (readM x n (SO (k : Int))) x.insts (dropsS (readM x n (SO (k : Int))) (givesS (beginS s (if 0 < k then listS n (SI (k : Int)) else [])) (madeL pn k x)) (madeL pn k x)) (j + 1)).fr.length) c170 (ints (insTo (readM x n (SO (k : Int))) x.insts (dropsS (readM x n (SO (k : Int))) (givesS (beginS s (if 0 < k then listS n (SI (k : Int)) else [])) (madeL pn k x)) (madeL pn k x)) (j + 1)).fr), .row 3 1 PA ((insTo (readM x n (SO (k : Int))) x.insts (dropsS (readM x n (SO (k : Int))) (givesS (beginS s (if 0 < k then listS n (SI (k : Int)) else [])) (madeL pn k x)) (madeL pn k x)) (j + 1)).pl.length) pc (ints (insTo (readM x n (SO (k : Int))) x.insts (dropsS (readM x n (SO (k : Int))) (givesS (beginS s (if 0 < k then listS n (SI (k : Int)) else [])) (madeL pn k x)) (madeL pn k x)) (j + 1)).pl), .blk b1 24 (fV nm wk pa va (some ad7) c fs), .blk b4 42 [(.slice (some ad13) ((bsOf fs).length) c1), (.slice (some ad20) ((bsOf fs).length) c2)], .blk b8 53 (xV x), .map b21 (inK (Value.int .i64) (vM (readM x n (SO (k : Int))))), .row 3 1 A6 ((madeL pn k x).length) c6 (ints (madeL pn k x)), .blk b128 57 (iV p3)] := M172.cast (by rw [insTo_next hp3, dstS, if_pos (show 0 ≤ p3.dst by omega), if_neg (show ¬ (lkp (readM x n (SO (k : Int))) p3.dst).getD 0 ≤ (j : Int) by rw [hdn]; omega), hdn, Int.toNat_natCast])
 intro aC fr
 exact ⟨x.insts.length - (j + 1), by omega, j + 1, A169, c170, rfl, fr.kp [0, 10, 108, 109, 110], (M181.tk 8), by omega, by rw [insTo_next hp3, dstS, if_pos (show 0 ≤ p3.dst by omega), if_neg (show ¬ (lkp (readM x n (SO (k : Int))) p3.dst).getD 0 ≤ (j : Int) by rw [hdn]; omega), hdn, Int.toNat_natCast]; exact (hg40.give dn).mono (by omega)⟩
 refine zsk <| zrg <| zar ((j : Int) + 1) <| zpn 1 <| zfe ?_
 have M184 : Mem (Res.pk (gvL g PA pc AF cF s)).fp w w135 [.blk g 70 [(.slice PA ((insTo (readM x n (SO (k : Int))) x.insts (dropsS (readM x n (SO (k : Int))) (givesS (beginS s (if 0 < k then listS n (SI (k : Int)) else [])) (madeL pn k x)) (madeL pn k x)) (j + 1)).pl.length) pc), (.slice A10 ((insTo (readM x n (SO (k : Int))) x.insts (dropsS (readM x n (SO (k : Int))) (givesS (beginS s (if 0 < k then listS n (SI (k : Int)) else [])) (madeL pn k x)) (madeL pn k x)) (j + 1)).fr.length) c10), (.int .i64 ((insTo (readM x n (SO (k : Int))) x.insts (dropsS (readM x n (SO (k : Int))) (givesS (beginS s (if 0 < k then listS n (SI (k : Int)) else [])) (madeL pn k x)) (madeL pn k x)) (j + 1)).nx))], .row 3 1 A10 ((insTo (readM x n (SO (k : Int))) x.insts (dropsS (readM x n (SO (k : Int))) (givesS (beginS s (if 0 < k then listS n (SI (k : Int)) else [])) (madeL pn k x)) (madeL pn k x)) (j + 1)).fr.length) c10 (ints (insTo (readM x n (SO (k : Int))) x.insts (dropsS (readM x n (SO (k : Int))) (givesS (beginS s (if 0 < k then listS n (SI (k : Int)) else [])) (madeL pn k x)) (madeL pn k x)) (j + 1)).fr), .row 3 1 PA ((insTo (readM x n (SO (k : Int))) x.insts (dropsS (readM x n (SO (k : Int))) (givesS (beginS s (if 0 < k then listS n (SI (k : Int)) else [])) (madeL pn k x)) (madeL pn k x)) (j + 1)).pl.length) pc (ints (insTo (readM x n (SO (k : Int))) x.insts (dropsS (readM x n (SO (k : Int))) (givesS (beginS s (if 0 < k then listS n (SI (k : Int)) else [])) (madeL pn k x)) (madeL pn k x)) (j + 1)).pl), .blk b1 24 (fV nm wk pa va (some ad7) c fs), .blk b4 42 [(.slice (some ad13) ((bsOf fs).length) c1), (.slice (some ad20) ((bsOf fs).length) c2)], .blk b8 53 (xV x), .map b21 (inK (Value.int .i64) (vM (readM x n (SO (k : Int))))), .row 3 1 A6 ((madeL pn k x).length) c6 (ints (madeL pn k x)), .blk b128 57 (iV p3)] := M167.cast (by rw [insTo_next hp3, dstS, if_neg (show ¬ 0 ≤ p3.dst by omega)])
 intro aC fr
 exact ⟨x.insts.length - (j + 1), by omega, j + 1, A10, c10, rfl, fr.kp [0, 10, 108, 109, 110], (M184.tk 8), by omega, by rw [insTo_next hp3, dstS, if_neg (show ¬ 0 ≤ p3.dst by omega)]; exact hg40.mono (by omega)⟩
 refine zex 8 <| zbh <| zo0 ?_
 have M187 := M118.od [2, 2, 2] 3
 exact ⟨A9, c9, rfl, M187.cast (by rw [show j = x.insts.length by omega]; rfl)⟩
 revert aC
 refine zsp <| zcP (((k : Int) : Int) == 0) (((k : Int) : Int) = 0) (by simp only [beq_iff_eq]) (fun c188 => ?_) (fun c188 => ?_)
 refine zsr <| zpn 1 <| zld ⟨b1, 2, none⟩ (.int .i64 pa) (blk_cell (M27.get 3 rfl) rfl) <| zpn 1 <| zfe <| zbk 0 ?_
 intro aC fr
 refine zlp (fun n_ a_ w_ => ∃ (u : Nat) (A4 : Option Addr) (n4 : Nat) (c4 : Nat), n_ = pn - u ∧ Fr a_ 159 [(0, (pT g 0)), (8, (pT b8 0)), (10, (.map (some b21))), (11, (.slice A4 n4 c4)), (53, (.int .i64 pa)), (54, (nV u))] ∧ Mem (Res.pk (gvL g PA pc AF cF s)).fp w w_ [.blk g 70 [(.slice PA ((beginS s (if 0 < k then listS n (SI (k : Int)) else [])).pl.length) pc), (.slice A3 ((beginS s (if 0 < k then listS n (SI (k : Int)) else [])).fr.length) c3), (.int .i64 ((beginS s (if 0 < k then listS n (SI (k : Int)) else [])).nx))], .row 3 1 A3 ((beginS s (if 0 < k then listS n (SI (k : Int)) else [])).fr.length) c3 (ints (beginS s (if 0 < k then listS n (SI (k : Int)) else [])).fr), .row 3 1 PA ((beginS s (if 0 < k then listS n (SI (k : Int)) else [])).pl.length) pc (ints (beginS s (if 0 < k then listS n (SI (k : Int)) else [])).pl), .blk b1 24 (fV nm wk pa va (some ad7) c fs), .blk b4 42 [(.slice (some ad13) ((bsOf fs).length) c1), (.slice (some ad20) ((bsOf fs).length) c2)], .blk b8 53 (xV x), .map b21 (inK (Value.int .i64) (vM (readM x n (SO (k : Int))))), .row 3 1 A4 n4 c4 (ints ((List.range u).map (fun i : Nat => (i : Int))))] ∧ (u ≤ pn) ∧ (n4 = ((List.range u).map (fun i : Nat => (i : Int))).length)) (n := _) ⟨0, none, 0, 0, rfl, fr.kp [0, 8, 10, 11, 53, 54], (M27.call (Mem.nilrow _ 3 1)), by omega, rfl⟩ ?_
 clear fr aC M27; rintro n aC w191 ⟨u, A4, n4, c4, rfl, fr, M192, hu, hn4⟩
 revert aC
 refine zsp <| zsq <| zcD (((u : Int) : Int) < pa) (fun c195 => ?_) (fun c195 => ?_)
 refine zsk <| zsq <| zbk 1 <| zsr ?_
 have hu4 : n4 = u := by rw [hn4, List.length_map, List.length_range]
 refine zpn 2 <| zfe <| zrg <| zpn 2 ?_
 intro aC fr
 refine zBs 59 25 1 #[(0, (.tmp 58))] 25 fr (e := 3) (size := 1) (zs := [(.int .i64 0)]) (vs := [(0, (nV u))]) (cs := [(nV u)]) M192 ?_
 intro b196 w197 hb196 _ M198 _ aC ea fr; clear ea
 replace M198 := M198.nf
 refine zAp 60 (.tmp 57) (.tmp 59) 25 25 fr (e := 3) (size := 1) (bytes := 8) (z := (.int .i64 0)) (A := A4) (B := (sM b196)) (n := n4) (cap := c4) (m := 1) (cap' := 1) (xs := (ints ((List.range u).map (fun i : Nat => (i : Int))))) (news := [(nV u)]) M198 7 rfl (row_rd (M198.get 8 rfl)) rfl (by simp [Value.oneCell']) (by omega) (by simp only [maxLen]; omega) ?_
 intro A203 c204 w205 M206 _ aC ea fr; clear ea
 replace M206 := M206.nf
 have M209 := M206.od [7, 7, 7, 7, 7, 7, 7, 7] 8
 revert aC
 refine zpn 1 <| zfe <| zrg <| zar ((u : Int) + 1) <| zpn 1 <| zfe ?_
 have M210 : Mem (Res.pk (gvL g PA pc AF cF s)).fp w w205 [.blk g 70 [(.slice PA ((beginS s (if 0 < k then listS n (SI (k : Int)) else [])).pl.length) pc), (.slice A3 ((beginS s (if 0 < k then listS n (SI (k : Int)) else [])).fr.length) c3), (.int .i64 ((beginS s (if 0 < k then listS n (SI (k : Int)) else [])).nx))], .row 3 1 A3 ((beginS s (if 0 < k then listS n (SI (k : Int)) else [])).fr.length) c3 (ints (beginS s (if 0 < k then listS n (SI (k : Int)) else [])).fr), .row 3 1 PA ((beginS s (if 0 < k then listS n (SI (k : Int)) else [])).pl.length) pc (ints (beginS s (if 0 < k then listS n (SI (k : Int)) else [])).pl), .blk b1 24 (fV nm wk pa va (some ad7) c fs), .blk b4 42 [(.slice (some ad13) ((bsOf fs).length) c1), (.slice (some ad20) ((bsOf fs).length) c2)], .blk b8 53 (xV x), .map b21 (inK (Value.int .i64) (vM (readM x n (SO (k : Int))))), .row 3 1 A203 (n4 + 1) c204 (ints ((List.range (u + 1)).map (fun i : Nat => (i : Int))))] := M209.cast (by simp only [range_snocI, ints, List.map_append]; rfl)
 intro aC fr
 exact ⟨pn - (u + 1), by omega, u + 1, A203, (n4 + 1), c204, rfl, fr.kp [0, 8, 10, 11, 53, 54], M210, by omega, by rw [range_snocI, List.length_append, ← hn4]; rfl⟩
 refine zex 0 <| zbh ?_
 obtain rfl : u = pn := by omega
 have M213 := M192.od [7, 7, 7, 7, 7, 7, 7, 7] 8
 intro aC fr
 exact ⟨A4, n4, c4, fr.kp [0, 8, 10, 11], (M213.cast (by rw [if_pos (show k = 0 by omega)])), by rw [if_pos (by omega)]; exact hn4⟩
 refine zsk ?_
 have M216 : Mem (Res.pk (gvL g PA pc AF cF s)).fp w w26 [.blk g 70 [(.slice PA ((beginS s (if 0 < k then listS n (SI (k : Int)) else [])).pl.length) pc), (.slice A3 ((beginS s (if 0 < k then listS n (SI (k : Int)) else [])).fr.length) c3), (.int .i64 ((beginS s (if 0 < k then listS n (SI (k : Int)) else [])).nx))], .row 3 1 A3 ((beginS s (if 0 < k then listS n (SI (k : Int)) else [])).fr.length) c3 (ints (beginS s (if 0 < k then listS n (SI (k : Int)) else [])).fr), .row 3 1 PA ((beginS s (if 0 < k then listS n (SI (k : Int)) else [])).pl.length) pc (ints (beginS s (if 0 < k then listS n (SI (k : Int)) else [])).pl), .blk b1 24 (fV nm wk pa va (some ad7) c fs), .blk b4 42 [(.slice (some ad13) ((bsOf fs).length) c1), (.slice (some ad20) ((bsOf fs).length) c2)], .blk b8 53 (xV x), .map b21 (inK (Value.int .i64) (vM (readM x n (SO (k : Int))))), .row 3 1 none 0 0 []] := (M27.call (Mem.nilrow _ 3 1))
 intro aC fr
 exact ⟨none, 0, 0, fr.kp [0, 8, 10, 11], (M216.cast (by rw [if_neg (show ¬ k = 0 by omega)]; rfl)), by rw [if_neg (by omega)]; rfl⟩
 revert aC
 refine zsp <| zcD (((k : Int) : Int) > 0) (fun c219 => ?_) (fun c219 => ?_)
 refine zrg <| zpn 2 <| zcl (each_c wsk ((n + 63) / 64) Ak ck w11 hSk.fit hwl.symm (by omega) (RO.of (fam_rd (M12.ro hFI) hrk)) (hT.at_ M12)) ?_
 rintro _ w222 ⟨A220, c221, rfl, M223x⟩
 have M223 := M12.cl M223x
 refine zkp [(0, (pT g 0)), (2, (nV k)), (5, (pT b1 0)), (7, (pT b4 0)), (8, (pT b8 0)), (37, (pT g 0)), (39, (.slice A220 (((eachN wsk 0).map (fun i : Nat => (i : Int))).length) c221))] ?_
 rw [hSk.each]
 have M224 : Mem (Res.pk (gvL g PA pc AF cF s)).fp w w222 [.blk g 70 [(.slice PA s.pl.length pc), (.slice AF s.fr.length cF), (.int .i64 s.nx)], .row 3 1 AF s.fr.length cF (ints s.fr), .row 3 1 PA s.pl.length pc (ints s.pl), .blk b1 24 (fV nm wk pa va (some ad7) c fs), .blk b4 42 [(.slice (some ad13) ((bsOf fs).length) c1), (.slice A2 ((bsOf fs).length) c2)], .blk b8 53 (xV x), .row 3 1 A220 ((listS n (SI (k : Int))).length) c221 (ints (listS n (SI (k : Int))))] := M223.cast (by rw [hSk.each])
 refine zcl (begin_c g PA pc AF cF s (listS n (SI (k : Int))) A220 c221 w222 (Mem.pk_holds (l := gvL g PA pc AF cF s) M224) (by rw [hGB.len]; omega) (by have := hGB.frl; omega) (by rw [hGB.len]; exact listS_in) (fun x hx => by have := hGB.pls x hx; omega) (by omega) (RO.row_rd (RO.pk_own (l := gvL g PA pc AF cF s) M224 3 rfl))) ?_
 rintro _ w227 ⟨A225, c226, rfl, M228x⟩
 have M228 : Mem (Res.pk (gvL g PA pc AF cF s)).fp w w227 [.blk g 70 [(.slice PA ((beginS s (listS n (SI (k : Int)))).pl.length) pc), (.slice A225 ((beginS s (listS n (SI (k : Int)))).fr.length) c226), (.int .i64 ((beginS s (listS n (SI (k : Int)))).nx))], .row 3 1 A225 ((beginS s (listS n (SI (k : Int)))).fr.length) c226 (ints (beginS s (listS n (SI (k : Int)))).fr), .row 3 1 PA ((beginS s (listS n (SI (k : Int)))).pl.length) pc (ints (beginS s (listS n (SI (k : Int)))).pl), .blk b1 24 (fV nm wk pa va (some ad7) c fs), .blk b4 42 [(.slice (some ad13) ((bsOf fs).length) c1), (.slice A2 ((bsOf fs).length) c2)], .blk b8 53 (xV x), .row 3 1 A220 ((listS n (SI (k : Int))).length) c221 (ints (listS n (SI (k : Int))))] := M224.mdk M228x
 refine zfe ?_
 have M229 := M228.od [5, 5, 5, 5, 5, 5] 6
 have M230 : Mem (Res.pk (gvL g PA pc AF cF s)).fp w w227 [.blk g 70 [(.slice PA ((beginS s (if 0 < k then listS n (SI (k : Int)) else [])).pl.length) pc), (.slice A225 ((beginS s (if 0 < k then listS n (SI (k : Int)) else [])).fr.length) c226), (.int .i64 ((beginS s (if 0 < k then listS n (SI (k : Int)) else [])).nx))], .row 3 1 A225 ((beginS s (if 0 < k then listS n (SI (k : Int)) else [])).fr.length) c226 (ints (beginS s (if 0 < k then listS n (SI (k : Int)) else [])).fr), .row 3 1 PA ((beginS s (if 0 < k then listS n (SI (k : Int)) else [])).pl.length) pc (ints (beginS s (if 0 < k then listS n (SI (k : Int)) else [])).pl), .blk b1 24 (fV nm wk pa va (some ad7) c fs), .blk b4 42 [(.slice (some ad13) ((bsOf fs).length) c1), (.slice A2 ((bsOf fs).length) c2)], .blk b8 53 (xV x)] := M229.cast (by rw [if_pos (by omega)])
 intro aC fr
 exact ⟨A225, c226, fr.kp [0, 2, 5, 7, 8], M230⟩
 refine zrg <| zpn 1 <| zcl (vs := #[(pT g 0), (.slice none 0 0)]) (begin_c g PA pc AF cF s [] none 0 w11 (Mem.pk_holds (l := gvL g PA pc AF cF s) M12) (by rw [hGB.len]; omega) (by have := hGB.frl; omega) (fun _ h => by cases h) (fun x hx => by have := hGB.pls x hx; omega) (by simp) RO.nil_) ?_
 rintro _ w235 ⟨A233, c234, rfl, M236x⟩
 have M236 : Mem (Res.pk (gvL g PA pc AF cF s)).fp w w235 [.blk g 70 [(.slice PA ((beginS s []).pl.length) pc), (.slice A233 ((beginS s []).fr.length) c234), (.int .i64 ((beginS s []).nx))], .row 3 1 A233 ((beginS s []).fr.length) c234 (ints (beginS s []).fr), .row 3 1 PA ((beginS s []).pl.length) pc (ints (beginS s []).pl), .blk b1 24 (fV nm wk pa va (some ad7) c fs), .blk b4 42 [(.slice (some ad13) ((bsOf fs).length) c1), (.slice A2 ((bsOf fs).length) c2)], .blk b8 53 (xV x)] := M12.mdk M236x
 refine zfe ?_
 have M237 : Mem (Res.pk (gvL g PA pc AF cF s)).fp w w235 [.blk g 70 [(.slice PA ((beginS s (if 0 < k then listS n (SI (k : Int)) else [])).pl.length) pc), (.slice A233 ((beginS s (if 0 < k then listS n (SI (k : Int)) else [])).fr.length) c234), (.int .i64 ((beginS s (if 0 < k then listS n (SI (k : Int)) else [])).nx))], .row 3 1 A233 ((beginS s (if 0 < k then listS n (SI (k : Int)) else [])).fr.length) c234 (ints (beginS s (if 0 < k then listS n (SI (k : Int)) else [])).fr), .row 3 1 PA ((beginS s (if 0 < k then listS n (SI (k : Int)) else [])).pl.length) pc (ints (beginS s (if 0 < k then listS n (SI (k : Int)) else [])).pl), .blk b1 24 (fV nm wk pa va (some ad7) c fs), .blk b4 42 [(.slice (some ad13) ((bsOf fs).length) c1), (.slice A2 ((bsOf fs).length) c2)], .blk b8 53 (xV x)] := M236.cast (by rw [if_neg (by omega)])
 intro aC fr
 exact ⟨A233, c234, fr.kp [0, 2, 5, 7, 8], M237⟩
end Go.Proofs.YthgbejihcchcnaaDoor
namespace Go.Proofs.YthgbejihcchcnaaDoor
open Go.Mor
theorem alloc_c (nm : ByteArray) (wk : Bool) (pa va : Int) (A : Option Addr) (c : Nat) (fs : List FBlk) (kk : Int) (w : World) (hN : fs.length ≤ 1000) (hok : FOk fs) (hA : RO noS w (.fn A fs)) (hsz : sizeF fs ≤ 5000) (hcap : ∀ x, x ∈ fs → ∀ p, p ∈ x.insts → p.args.length ≤ p.c) (hT : RO noS w (.rd (sM 0) tabL)) :
    Calls Tryd.prog 11 #[(fA nm wk pa va A c fs), (.int .i64 kk)] w (Ret fun v w' => ∃ A' c', v = .tuple #[.slice A' (allocN nm pa va fs kk).1.length c', .int .i64 (allocN nm pa va fs kk).2.1, .int .i64 (allocN nm pa va fs kk).2.2] ∧ Mem noS w w' [.row 3 1 A' (allocN nm pa va fs kk).1.length c' (ints (allocN nm pa va fs kk).1)]) := by
 have hbl := bsOf_len fs
 have hm : (bsOf fs).length ≤ 1000000 := by omega
 have hB := hA.bs
 refine zen 70 [(fA nm wk pa va A c fs), (.int .i64 kk)] Tryd.func11 ?_
 have hM := Mem.init w
 refine zsr <| zbx hM 24 (fA nm wk pa va A c fs) (fV nm wk pa va A c fs) fun b1 w2 hb1 M3 => ?_
 replace M3 := M3.nf
 clear hM
 refine zpn 3 <| zfe <| zsq <| zsr <| zls ⟨b1, 0, none⟩ (fV nm wk pa va A c fs) (blk_cells (M3.get 0 rfl)) <| zcl (valid_c nm wk pa va A c fs w2 hN hok (hA.at_ M3)) ?_
 rintro _ w4 ⟨rfl, M5x⟩
 have M5 := M3.cl M5x
 refine zpn 1 <| zfe <| zsp <| zcP ((validN nm pa va fs : Int) != 0) ((validN nm pa va fs : Int) ≠ 0) (by simp only [bne_iff_ne]) (fun c6 => ?_) (fun c6 => ?_)
 refine zsp <| zre <| zo3 (.slice none 0 0) (.int .i64 0) (.int .i64 (validN nm pa va fs)) ?_
 have M7 := M5.od [] 0
 exact ⟨none, 0, by rw [allocN_bad (by omega)]; rfl, by rw [allocN_bad (by omega)]; exact M7.call (Mem.nilrow _ 3 1)⟩
 refine zsk <| zsq <| zsr <| zpn 3 ?_
 obtain ⟨B8, hB8⟩ : ∃ B : Bool, B = decide ((kk : Int) < 1) := ⟨_, rfl⟩
 refine zkp [(1, (.int .i64 kk)), (2, (pT b1 0)), (22, (.bool (decide ((kk : Int) < 1))))] ?_
 rw [← hB8]
 have iB8 : B8 = true ↔ ((kk : Int) < 1) := by rw [hB8]; simp only [decide_eq_true_eq]
 clear hB8
 intro aC fr
 refine zpk 3 6 [25] fr (news := [(25, (.bool (B8 || decide ((kk : Int) > 16))))]) (by cases B8 <;> kernel_rfl) ?_
 intro aC fr
 revert aC
 refine zfe <| zcP (B8 || decide ((kk : Int) > 16)) (((kk : Int) < 1) ∨ ((kk : Int) > 16)) (by simp only [Bool.or_eq_true, decide_eq_true_eq, iB8]) (fun c13 => ?_) (fun c13 => ?_)
 refine zsp <| zre <| zo3 (.slice none 0 0) (.int .i64 0) (.int .i64 1) ?_
 have M14 := M5.od [] 0
 exact ⟨none, 0, by rw [allocN_arg (by omega) (by omega)]; rfl, by rw [allocN_arg (by omega) (by omega)]; exact M14.call (Mem.nilrow _ 3 1)⟩
 refine zsk <| zsr ?_
 have hv0 : validN nm pa va fs = 0 := by omega
 obtain ⟨hgood, hvl, _⟩ := valid_good hv0
 have hpar := hgood.par
 obtain ⟨n, hva⟩ := Int.eq_ofNat_of_zero_le (show 0 ≤ va by omega)
 obtain ⟨pn, hpn⟩ := Int.eq_ofNat_of_zero_le hpar.1
 have hn2 : n ≤ 20000 := by omega
 have hpn2 : pn ≤ n := by omega
 have hvr := good_vr hgood hva
 have hsh := hgood.vals.1
 have hpos := hgood.pos
 have hbl2 := bsOf_len fs
 have hol := orderL_len (bsOf fs)
 refine zpn 1 <| zld ⟨b1, 3, none⟩ (.int .i64 va) (blk_cell (M5.get 0 rfl) rfl) ?_
 intro aC fr
 refine From_make1 (by kernel_rfl : coreAt _ 2 = some (some 28, (.makeSlice 25 (.tmp 27) (.tmp 27)), 25, none)) fr (by kernel_rfl) (by kernel_rfl) (k' := 3) rfl (e := 3) (bytes := 8) (z := (.int .i64 0)) (n := n) (i := va) (by kernel_rfl) (by kernel_rfl) hva (by kernel_rfl) (by kernel_rfl) rfl (by omega) (by simp only [maxLen]; omega) M5 ?_
 intro b15 w16 hb15 _ M17 _ aC ea fr; clear ea
 replace M17 := M17.nf
 revert aC
 refine zpn 1 <| zbx M17 70 (.agg #[(.slice (sM b15) n n), (.slice none 0 0), (.int .i64 0)]) [(.slice (sM b15) n n), (.slice none 0 0), (.int .i64 0)] fun b22 w23 hb22 M24 => ?_
 replace M24 := M24.nf
 refine zpn 1 <| zfe <| zsr ?_
 have M25 := M24.od [0, 1, 2] 3
 have M26 : Mem noS w w23 [.blk b22 70 [(.slice (sM b15) n n), (.slice none 0 0), (.int .i64 0)], .row 3 1 (sM b15) n n (List.replicate n (.int .i64 0)), .blk b1 24 (fV nm wk pa va A c fs), .row 3 1 none 0 0 []] := (M25.call (Mem.nilrow _ 3 1))
 have M27 := M26.od [2, 2, 3, 3] 4
 have M28 : Mem noS w w23 [.blk b22 70 [(.slice (sM b15) ((givenTo n pn fs 0).pl.length) n), (.slice none ((givenTo n pn fs 0).fr.length) 0), (.int .i64 ((givenTo n pn fs 0).nx))], .row 3 1 none ((givenTo n pn fs 0).fr.length) 0 (ints (givenTo n pn fs 0).fr), .row 3 1 (sM b15) ((givenTo n pn fs 0).pl.length) n (ints (givenTo n pn fs 0).pl), .blk b1 24 (fV nm wk pa va A c fs)] := M27.cast (by simp [givenTo, ints])
 have hg0 : GB n (givenTo n pn fs 0) 1 := ⟨by simp [givenTo], by simp [givenTo], by simp [givenTo], by simp [givenTo], fun x hx => by have := List.eq_of_mem_replicate hx; omega, fun x hx => by cases hx⟩
 refine zls ⟨b1, 0, none⟩ (fV nm wk pa va A c fs) (blk_cells (M28.get 3 rfl)) <| zcl (of_c n nm wk pa va A c fs w23 hN hok (hA.at_ M28) hva hn2 hgood) ?_
 rintro _ w35 ⟨A29, c30, A31, c32, rI33, rO34, SI, SO, rfl, hRI, hRO, hLV, M36x⟩
 have M36 := M28.cl M36x
 refine zal M36 42 [(.slice none 0 0), (.slice none 0 0)] fun b37 w38 hb37 M39 => ?_
 replace M39 := M39.nf
 refine zss M39 8 [(.slice A29 ((bsOf fs).length) c30), (.slice A31 ((bsOf fs).length) c32)] rfl fun w40 M41 => ?_
 replace M41 := M41.nf
 refine zfe <| zsq <| zsr <| zls ⟨b1, 0, none⟩ (fV nm wk pa va A c fs) (blk_cells (M41.get 3 rfl)) <| zkp [(1, (.int .i64 kk)), (2, (pT b1 0)), (8, (pT b22 0)), (9, (pT b37 0)), (33, (fA nm wk pa va A c fs))] <| zcl (order_c (.string nm) (.bool wk) (.int .i64 pa) (.int .i64 va) A c (bsOf fs) w40 hm (hB.at_ M41)) ?_
 rintro _ w44 ⟨A42, c43, rfl, M45x⟩
 have M45 := M41.cl M45x
 refine zpn 2 <| zfe <| zbk 0 ?_
 intro aC fr
 refine zlp (fun n_ a_ w_ => ∃ (j : Nat) (AF : Option Addr) (cF : Nat), n_ = (orderL (bsOf fs)).length - j ∧ Fr a_ 70 [(1, (.int .i64 kk)), (2, (pT b1 0)), (8, (pT b22 0)), (9, (pT b37 0)), (34, (.slice A42 ((orderL (bsOf fs)).length) c43)), (35, (.int .i64 (((orderL (bsOf fs)).length : Nat) : Int))), (36, (nV j))] ∧ Mem noS w w_ [.blk b22 70 [(.slice (sM b15) ((givenTo n pn fs j).pl.length) n), (.slice AF ((givenTo n pn fs j).fr.length) cF), (.int .i64 ((givenTo n pn fs j).nx))], .row 3 1 AF ((givenTo n pn fs j).fr.length) cF (ints (givenTo n pn fs j).fr), .row 3 1 (sM b15) ((givenTo n pn fs j).pl.length) n (ints (givenTo n pn fs j).pl), .blk b1 24 (fV nm wk pa va A c fs), .fam 88 rI33, .row 83 1 A29 ((bsOf fs).length) c30 (slv rI33), .fam 88 rO34, .row 83 1 A31 ((bsOf fs).length) c32 (slv rO34), .blk b37 42 [(.slice A29 ((bsOf fs).length) c30), (.slice A31 ((bsOf fs).length) c32)], .row 3 1 A42 ((orderL (bsOf fs)).length) c43 (ints (orderL (bsOf fs)))] ∧ (j ≤ (orderL (bsOf fs)).length) ∧ (GB n (givenTo n pn fs j) (1 + costO pn fs j))) (n := _) ⟨0, none, 0, rfl, fr.kp [1, 2, 8, 9, 34, 35, 36], (M45.cast rfl), by omega, hg0⟩ ?_
 clear fr aC M45; rintro n aC w48 ⟨j, AF, cF, rfl, fr, M49, hj, hgj⟩
 revert aC
 refine zsp <| zsq <| zcD (((j : Int) : Int) < (((orderL (bsOf fs)).length : Nat) : Int)) (fun c52 => ?_) (fun c52 => ?_)
 refine zsk <| zsq <| zbk 1 <| zsr ?_
 obtain ⟨b, hb, hbb, _⟩ := ord_get (bs := bsOf fs) (k := j) (by omega)
 have hbl : b < fs.length := by omega
 obtain ⟨x, hx⟩ := get_of (l := fs) (i := b) hbl
 have hco := costO_bound (pn := pn) hsh (j := j + 1)
 have hcn := costO_next (pn := pn) hb hx
 have hsi := size_ins hx
 have hsp := size_phis hx
 obtain ⟨g54, rfl⟩ := row_some (M49.get 9 rfl) (by omega)
 refine zix ⟨g54, 0, none⟩ ((orderL (bsOf fs)).length) 1 (j : Int) <| zld ((⟨g54, 0, none⟩ : Addr).add (((j : Int)).toNat * 1)) (nV b) (rd_at (row_rd (M49.get 9 rfl)) rfl hb) <| zpn 1 <| zfe <| zrg <| zpn 1 <| zls ⟨b1, 0, none⟩ (fV nm wk pa va A c fs) (blk_cells (M49.get 3 rfl)) <| zpn 1 <| zls ⟨b37, 0, none⟩ [(.slice A29 ((bsOf fs).length) c30), (.slice A31 ((bsOf fs).length) c32)] (blk_cells (M49.get 8 rfl)) ?_
 refine zcl (block_c n pn nm wk pa va A c fs A29 A31 c30 c32 rI33 rO34 SI SO b x b22 (sM b15) n AF cF (givenTo n pn fs j) (1 + costO pn fs j) w48 hN hok (RO.pk_at (l := gvL b22 (sM b15) n AF cF (givenTo n pn fs j)) hA M49) hpn hpn2 hn2 (hvr x (List.mem_of_getElem? hx)) hx hRI hRO (RO.row_rd (RO.pk_own (l := gvL b22 (sM b15) n AF cF (givenTo n pn fs j)) M49 2 rfl)) (RO.pk_own (l := gvL b22 (sM b15) n AF cF (givenTo n pn fs j)) M49 1 rfl) (RO.row_rd (RO.pk_own (l := gvL b22 (sM b15) n AF cF (givenTo n pn fs j)) M49 4 rfl)) (RO.pk_own (l := gvL b22 (sM b15) n AF cF (givenTo n pn fs j)) M49 3 rfl) (RO.pk_at (l := gvL b22 (sM b15) n AF cF (givenTo n pn fs j)) hT M49) (Mem.pk_holds (l := gvL b22 (sM b15) n AF cF (givenTo n pn fs j)) M49) hgj (by omega) (by omega) (by omega) (by omega) (hcap x (List.mem_of_getElem? hx))) ?_
 rintro _ w57 ⟨A55, c56, rfl, M58x⟩
 have M58 : Mem noS w w57 [.blk b22 70 [(.slice (sM b15) ((blockG (readM x n (SO (b : Int))) (if 0 < b then listS n (SI (b : Int)) else []) pn b x (givenTo n pn fs j)).pl.length) n), (.slice A55 ((blockG (readM x n (SO (b : Int))) (if 0 < b then listS n (SI (b : Int)) else []) pn b x (givenTo n pn fs j)).fr.length) c56), (.int .i64 ((blockG (readM x n (SO (b : Int))) (if 0 < b then listS n (SI (b : Int)) else []) pn b x (givenTo n pn fs j)).nx))], .row 3 1 A55 ((blockG (readM x n (SO (b : Int))) (if 0 < b then listS n (SI (b : Int)) else []) pn b x (givenTo n pn fs j)).fr.length) c56 (ints (blockG (readM x n (SO (b : Int))) (if 0 < b then listS n (SI (b : Int)) else []) pn b x (givenTo n pn fs j)).fr), .row 3 1 (sM b15) ((blockG (readM x n (SO (b : Int))) (if 0 < b then listS n (SI (b : Int)) else []) pn b x (givenTo n pn fs j)).pl.length) n (ints (blockG (readM x n (SO (b : Int))) (if 0 < b then listS n (SI (b : Int)) else []) pn b x (givenTo n pn fs j)).pl), .blk b1 24 (fV nm wk pa va A c fs), .fam 88 rI33, .row 83 1 A29 ((bsOf fs).length) c30 (slv rI33), .fam 88 rO34, .row 83 1 A31 ((bsOf fs).length) c32 (slv rO34), .blk b37 42 [(.slice A29 ((bsOf fs).length) c30), (.slice A31 ((bsOf fs).length) c32)], .row 3 1 (sM g54) ((orderL (bsOf fs)).length) c43 (ints (orderL (bsOf fs)))] := M49.mdk M58x
 refine zfe <| zrg ?_
 have hgN : GB n (blockG (readM x n (SO (b : Int))) (if 0 < b then listS n (SI (b : Int)) else []) pn b x (givenTo n pn fs j)) (1 + costO pn fs j + costB pn b x) := GB.block hgj (by omega) (hvr x (List.mem_of_getElem? hx)) hpn2 _ _
 refine zar ((j : Int) + 1) <| zpn 1 <| zfe ?_
 have M59 : Mem noS w w57 [.blk b22 70 [(.slice (sM b15) ((givenTo n pn fs (j + 1)).pl.length) n), (.slice A55 ((givenTo n pn fs (j + 1)).fr.length) c56), (.int .i64 ((givenTo n pn fs (j + 1)).nx))], .row 3 1 A55 ((givenTo n pn fs (j + 1)).fr.length) c56 (ints (givenTo n pn fs (j + 1)).fr), .row 3 1 (sM b15) ((givenTo n pn fs (j + 1)).pl.length) n (ints (givenTo n pn fs (j + 1)).pl), .blk b1 24 (fV nm wk pa va A c fs), .fam 88 rI33, .row 83 1 A29 ((bsOf fs).length) c30 (slv rI33), .fam 88 rO34, .row 83 1 A31 ((bsOf fs).length) c32 (slv rO34), .blk b37 42 [(.slice A29 ((bsOf fs).length) c30), (.slice A31 ((bsOf fs).length) c32)], .row 3 1 (sM g54) ((orderL (bsOf fs)).length) c43 (ints (orderL (bsOf fs)))] := M58.cast (by rw [givenTo_next hb hx, ← readM_congr (hLV.listO hbl), ← hLV.listI hbl])
 intro aC fr
 exact ⟨(orderL (bsOf fs)).length - (j + 1), by omega, j + 1, A55, c56, rfl, fr.kp [1, 2, 8, 9, 34, 35, 36], M59, by omega, by rw [givenTo_next hb hx, costO_next hb hx, ← readM_congr (hLV.listO hbl), ← hLV.listI hbl, ← Nat.add_assoc]; exact hgN⟩
 refine zex 0 <| zbh <| zsr ?_
 have M62 : Mem noS w w48 [.blk b22 70 [(.slice (sM b15) ((givenS n pn fs).pl.length) n), (.slice AF ((givenS n pn fs).fr.length) cF), (.int .i64 ((givenS n pn fs).nx))], .row 3 1 AF ((givenS n pn fs).fr.length) cF (ints (givenS n pn fs).fr), .row 3 1 (sM b15) ((givenS n pn fs).pl.length) n (ints (givenS n pn fs).pl), .blk b1 24 (fV nm wk pa va A c fs), .fam 88 rI33, .row 83 1 A29 ((bsOf fs).length) c30 (slv rI33), .fam 88 rO34, .row 83 1 A31 ((bsOf fs).length) c32 (slv rO34), .blk b37 42 [(.slice A29 ((bsOf fs).length) c30), (.slice A31 ((bsOf fs).length) c32)], .row 3 1 A42 ((orderL (bsOf fs)).length) c43 (ints (orderL (bsOf fs)))] := M49.cast (by rw [givenTo_all (show (orderL (bsOf fs)).length ≤ j by omega)])
 have hgS : GB n (givenS n pn fs) (1 + costO pn fs j) := by rw [givenTo_all (show (orderL (bsOf fs)).length ≤ j by omega)] at hgj; exact hgj
 have hgl := hgS.len
 have hco := costO_bound (pn := pn) hsh (j := j)
 refine zmm M62 fun b63 w64 hb63 M65 => ?_
 replace M65 := M65.nf
 have M66 : Mem noS w w64 [.blk b22 70 [(.slice (sM b15) ((givenS n pn fs).pl.length) n), (.slice AF ((givenS n pn fs).fr.length) cF), (.int .i64 ((givenS n pn fs).nx))], .row 3 1 AF ((givenS n pn fs).fr.length) cF (ints (givenS n pn fs).fr), .row 3 1 (sM b15) ((givenS n pn fs).pl.length) n (ints (givenS n pn fs).pl), .blk b1 24 (fV nm wk pa va A c fs), .fam 88 rI33, .row 83 1 A29 ((bsOf fs).length) c30 (slv rI33), .fam 88 rO34, .row 83 1 A31 ((bsOf fs).length) c32 (slv rO34), .blk b37 42 [(.slice A29 ((bsOf fs).length) c30), (.slice A31 ((bsOf fs).length) c32)], .row 3 1 A42 ((orderL (bsOf fs)).length) c43 (ints (orderL (bsOf fs))), .map b63 (inK (Value.int .i64) (vM []))] := M65.cast rfl
 refine zpn 1 <| zfe <| zsq <| zsr <| zpn 3 <| zld ⟨b22, 0, none⟩ (.slice (sM b15) ((givenS n pn fs).pl.length) n) (blk_cell (M66.get 0 rfl) rfl) <| zpn 2 <| zfe <| zbk 2 ?_
 intro aC fr
 refine zlp (fun n_ a_ w_ => ∃ (i : Nat), n_ = (givenS n pn fs).pl.length - i ∧ Fr a_ 70 [(1, (.int .i64 kk)), (8, (pT b22 0)), (12, (.map (some b63))), (50, (.slice (sM b15) ((givenS n pn fs).pl.length) n)), (51, (.int .i64 (((givenS n pn fs).pl.length : Nat) : Int))), (52, (nV i))] ∧ Mem noS w w_ [.blk b22 70 [(.slice (sM b15) ((givenS n pn fs).pl.length) n), (.slice AF ((givenS n pn fs).fr.length) cF), (.int .i64 ((givenS n pn fs).nx))], .row 3 1 AF ((givenS n pn fs).fr.length) cF (ints (givenS n pn fs).fr), .row 3 1 (sM b15) ((givenS n pn fs).pl.length) n (ints (givenS n pn fs).pl), .blk b1 24 (fV nm wk pa va A c fs), .fam 88 rI33, .row 83 1 A29 ((bsOf fs).length) c30 (slv rI33), .fam 88 rO34, .row 83 1 A31 ((bsOf fs).length) c32 (slv rO34), .blk b37 42 [(.slice A29 ((bsOf fs).length) c30), (.slice A31 ((bsOf fs).length) c32)], .row 3 1 A42 ((orderL (bsOf fs)).length) c43 (ints (orderL (bsOf fs))), .map b63 (inK (Value.int .i64) (vM (frameM kk ((givenS n pn fs).pl.take i))))] ∧ (i ≤ (givenS n pn fs).pl.length)) (n := _) ⟨0, rfl, fr.kp [1, 8, 12, 50, 51, 52], (M66.cast rfl), by omega⟩ ?_
 clear fr aC M66; rintro n aC w69 ⟨i, rfl, fr, M70, hi⟩
 revert aC
 refine zsp <| zsq <| zcD (((i : Int) : Int) < (((givenS n pn fs).pl.length : Nat) : Int)) (fun c73 => ?_) (fun c73 => ?_)
 refine zsk <| zsq <| zbk 3 <| zsr ?_
 obtain ⟨p, hp⟩ := get_of (l := (givenS n pn fs).pl) (i := i) (by omega)
 have hfm := frameM_le (k := kk) (pl := (givenS n pn fs).pl.take i) p
 have htl : ((givenS n pn fs).pl.take i).length ≤ i := by rw [List.length_take]; omega
 refine zix ⟨b15, 0, none⟩ ((givenS n pn fs).pl.length) 1 (i : Int) <| zld ((⟨b15, 0, none⟩ : Addr).add (((i : Int)).toNat * 1)) (.int .i64 p) (rd_at (row_rd (M70.get 2 rfl)) rfl hp) <| zpn 1 <| zfe <| zsp <| zcD ((p : Int) ≥ kk) (fun c74 => ?_) (fun c74 => ?_)
 refine zrg <| zpn 2 <| zlv (ht := Tryd.underlying38) (intLaw Tryd.underlying3) p (.int .i64 0) (M70.get 10 rfl) false (v := (.int .i64 ((lkp (frameM kk ((givenS n pn fs).pl.take i)) p).getD 0))) (by rw [lkM0]) <| zar (((lkp (frameM kk ((givenS n pn fs).pl.take i)) p).getD 0) + 1) <| zmu (intLaw Tryd.underlying3) M70 10 p (.int .i64 (((lkp (frameM kk ((givenS n pn fs).pl.take i)) p).getD 0) + 1)) (l := vM (frameM kk ((givenS n pn fs).pl.take i))) rfl Tryd.underlying38 fun w75 M76 => ?_
 replace M76 := M76.nf
 refine zfe <| zrg <| zar ((i : Int) + 1) <| zpn 1 <| zfe ?_
 have M77 : Mem noS w w75 [.blk b22 70 [(.slice (sM b15) ((givenS n pn fs).pl.length) n), (.slice AF ((givenS n pn fs).fr.length) cF), (.int .i64 ((givenS n pn fs).nx))], .row 3 1 AF ((givenS n pn fs).fr.length) cF (ints (givenS n pn fs).fr), .row 3 1 (sM b15) ((givenS n pn fs).pl.length) n (ints (givenS n pn fs).pl), .blk b1 24 (fV nm wk pa va A c fs), .fam 88 rI33, .row 83 1 A29 ((bsOf fs).length) c30 (slv rI33), .fam 88 rO34, .row 83 1 A31 ((bsOf fs).length) c32 (slv rO34), .blk b37 42 [(.slice A29 ((bsOf fs).length) c30), (.slice A31 ((bsOf fs).length) c32)], .row 3 1 A42 ((orderL (bsOf fs)).length) c43 (ints (orderL (bsOf fs))), .map b63 (inK (Value.int .i64) (vM (frameM kk ((givenS n pn fs).pl.take (i + 1)))))] := M76.cast (by rw [upk_vM, frameM_yes hp (by omega)])
 intro aC fr
 exact ⟨(givenS n pn fs).pl.length - (i + 1), by omega, i + 1, rfl, fr.kp [1, 8, 12, 50, 51, 52], M77, by omega⟩
 refine zsk <| zrg <| zar ((i : Int) + 1) <| zpn 1 <| zfe ?_
 have M80 : Mem noS w w69 [.blk b22 70 [(.slice (sM b15) ((givenS n pn fs).pl.length) n), (.slice AF ((givenS n pn fs).fr.length) cF), (.int .i64 ((givenS n pn fs).nx))], .row 3 1 AF ((givenS n pn fs).fr.length) cF (ints (givenS n pn fs).fr), .row 3 1 (sM b15) ((givenS n pn fs).pl.length) n (ints (givenS n pn fs).pl), .blk b1 24 (fV nm wk pa va A c fs), .fam 88 rI33, .row 83 1 A29 ((bsOf fs).length) c30 (slv rI33), .fam 88 rO34, .row 83 1 A31 ((bsOf fs).length) c32 (slv rO34), .blk b37 42 [(.slice A29 ((bsOf fs).length) c30), (.slice A31 ((bsOf fs).length) c32)], .row 3 1 A42 ((orderL (bsOf fs)).length) c43 (ints (orderL (bsOf fs))), .map b63 (inK (Value.int .i64) (vM (frameM kk ((givenS n pn fs).pl.take (i + 1)))))] := M70.cast (by rw [frameM_no hp (by omega)])
 intro aC fr
 exact ⟨(givenS n pn fs).pl.length - (i + 1), by omega, i + 1, rfl, fr.kp [1, 8, 12, 50, 51, 52], M80, by omega⟩
 refine zex 2 <| zbh <| zsq ?_
 have M83 : Mem noS w w69 [.blk b22 70 [(.slice (sM b15) ((givenS n pn fs).pl.length) n), (.slice AF ((givenS n pn fs).fr.length) cF), (.int .i64 ((givenS n pn fs).nx))], .row 3 1 AF ((givenS n pn fs).fr.length) cF (ints (givenS n pn fs).fr), .row 3 1 (sM b15) ((givenS n pn fs).pl.length) n (ints (givenS n pn fs).pl), .blk b1 24 (fV nm wk pa va A c fs), .fam 88 rI33, .row 83 1 A29 ((bsOf fs).length) c30 (slv rI33), .fam 88 rO34, .row 83 1 A31 ((bsOf fs).length) c32 (slv rO34), .blk b37 42 [(.slice A29 ((bsOf fs).length) c30), (.slice A31 ((bsOf fs).length) c32)], .row 3 1 A42 ((orderL (bsOf fs)).length) c43 (ints (orderL (bsOf fs))), .map b63 (inK (Value.int .i64) (vM (frameM kk (givenS n pn fs).pl)))] := M70.cast (by rw [List.take_of_length_le (by omega)])
 refine zkp [(1, (.int .i64 kk)), (8, (pT b22 0)), (12, (.map (some b63))), (50, (.slice (sM b15) ((givenS n pn fs).pl.length) n)), (51, (.int .i64 (((givenS n pn fs).pl.length : Nat) : Int))), (52, (nV i))] ?_
 intro aC fr
 refine zdt 6 (N := 70) (env0 := [(1, (.int .i64 kk)), (8, (pT b22 0)), (12, (.map (some b63))), (50, (.slice (sM b15) ((givenS n pn fs).pl.length) n)), (51, (.int .i64 (((givenS n pn fs).pl.length : Nat) : Int))), (52, (nV i))]) (specAt [.det (pT b22 0), .det (pT b22 0), .det (pT b22 0), .det (.slice (sM b15) ((givenS n pn fs).pl.length) n), .det (.map (some b63)), .det (.int .i64 ((frameM kk (givenS n pn fs).pl).length : Int))]) fr (la (la (la (la (la (la lz dP) dP) dP) (dL ⟨b22, 0, none⟩ (.slice (sM b15) ((givenS n pn fs).pl.length) n) fun w_ hK => (blk_cell ((M83.then_ hK).get 0 rfl) rfl))) dP) (dML (l := inK (Value.int .i64) (vM (frameM kk (givenS n pn fs).pl))) (fun w_ hK => (M83.then_ hK).get 10 rfl) Tryd.underlying38 (hv := by rw [inK_len]; rfl))) ?_
 intro aC w88 vs hK hv fr
 revert aC; refine zkp [(67, (.slice (sM b15) ((givenS n pn fs).pl.length) n)), (69, (.int .i64 ((frameM kk (givenS n pn fs).pl).length : Int)))] ?_
 have M89 := M83.then_ hK
 clear hK hv fr aC M83; clear vs
 refine zpn 3 <| zfe <| zre <| zo3 (.slice (sM b15) ((givenS n pn fs).pl.length) n) (.int .i64 ((frameM kk (givenS n pn fs).pl).length : Int)) (.int .i64 0) ?_
 have M90 := M89.od [2] 1
 have hon : va.toNat = n := by omega
 have hop : pa.toNat = pn := by omega
 exact ⟨(sM b15), n, by rw [allocN_ok hv0 (by omega), hon, hop], by rw [allocN_ok hv0 (by omega), hon, hop]; exact M90⟩
end Go.Proofs.YthgbejihcchcnaaDoor
namespace Go.Proofs.YthgbejihcchcnaaDoor
open Go.Mor
theorem rbegin_c (q m tm : Nat) (M : List (Int × Int)) (tw : Int) (w : World) (htm : RO (Res.pk [.blk q 3 [.int .i64 tw], .map m (inK (Value.int .i64) (vM M))]).fp w (.blk tm 38 [.map (some m)])) (hm : (Res.pk [.blk q 3 [.int .i64 tw], .map m (inK (Value.int .i64) (vM M))]).holds w) :
    Calls Tryd.prog 21 #[(pT tm 0), (pT q 0)] w (Ret fun v w' => v = .tuple #[] ∧ Mem (Res.pk [.blk q 3 [.int .i64 tw], .map m (inK (Value.int .i64) (vM M))]).fp w w' [.blk q 3 [.int .i64 0], .map m (inK (Value.int .i64) (vM []))]) := by
 refine zen 3 [(pT tm 0), (pT q 0)] Tryd.func21 ?_
 have hM := Mem.unpk hm
 refine zsr <| zld ⟨tm, 0, none⟩ (.map (some m)) (blk_cell (hM.ro htm) rfl) <| zmc hM 1 rfl Tryd.underlying38 fun w1 M2 => ?_
 replace M2 := M2.nf
 clear hM
 refine zfe <| zrg <| zsb (ho := (by simp)) M2 0 0 (.int .i64 0) rfl fun w3 M4 => ?_
 replace M4 := M4.nf
 refine zfe <| zo0 ?_
 exact ⟨rfl, M4⟩
theorem rmore_c (q m tm : Nat) (M : List (Int × Int)) (tw : Int) (n : Nat) (pl : List Int) (PA : Option Addr) (pc tp : Nat) (i : Nat) (w : World) (hi : i < pl.length) (htw : -1000000 ≤ tw ∧ tw ≤ 1000000) (hcb : ∀ x, -1000000 ≤ (lkp M x).getD 0 ∧ (lkp M x).getD 0 ≤ 1000000) (htm : RO (Res.pk [.blk q 3 [.int .i64 tw], .map m (inK (Value.int .i64) (vM M))]).fp w (.blk tm 38 [.map (some m)])) (htp : RO (Res.pk [.blk q 3 [.int .i64 tw], .map m (inK (Value.int .i64) (vM M))]).fp w (.blk tp 25 [.slice PA pl.length pc])) (hpl : RO (Res.pk [.blk q 3 [.int .i64 tw], .map m (inK (Value.int .i64) (vM M))]).fp w (.rd PA (ints pl))) (hm : (Res.pk [.blk q 3 [.int .i64 tw], .map m (inK (Value.int .i64) (vM M))]).holds w) :
    Calls Tryd.prog 22 #[(nV i), (pT tm 0), (pT tp 0), (pT q 0)] w (Ret fun v w' => v = .tuple #[] ∧ Mem (Res.pk [.blk q 3 [.int .i64 tw], .map m (inK (Value.int .i64) (vM M))]).fp w w' [.blk q 3 [.int .i64 (twUp pl M i tw)], .map m (inK (Value.int .i64) (vM (cntUp pl M i 1)))]) := by
 refine zen 21 [(nV i), (pT tm 0), (pT tp 0), (pT q 0)] Tryd.func22 ?_
 have hM := Mem.unpk hm
 refine zsq ?_
 obtain ⟨x, hx⟩ := get_of (l := pl) (i := i) (by omega)
 have ex : pl.getD i 0 = x := by simp [List.getD, hx]
 obtain ⟨ad1, rfl⟩ := rd_some (hM.ro hpl) (by simp [ints]; omega)
 obtain ⟨x, hx⟩ := get_of (l := pl) (i := i) (by omega)
 have ex : pl.getD i 0 = x := by simp [List.getD, hx]
 refine zkp [(0, (nV i)), (1, (pT tm 0)), (2, (pT tp 0)), (3, (pT q 0))] ?_
 intro aC fr
 refine zdt 5 (N := 21) (env0 := [(0, (nV i)), (1, (pT tm 0)), (2, (pT tp 0)), (3, (pT q 0))]) (specAt [.det (.map (some m)), .det (.slice (some ad1) pl.length pc), .det (nV i), .det (.pointer (some ((ad1 : Addr).add (((i : Int)).toNat * 1)))), .det (.int .i64 x)]) fr (la (la (la (la (la lz (dL ⟨tm, 0, none⟩ (.map (some m)) fun w_ hK => (blk_cell ((hM.then_ hK).ro htm) rfl))) (dL ⟨tp, 0, none⟩ (.slice (some ad1) pl.length pc) fun w_ hK => (blk_cell ((hM.then_ hK).ro htp) rfl))) dP) (dI ad1 pl.length 1 (i : Int))) (dL ((ad1 : Addr).add (((i : Int)).toNat * 1)) (.int .i64 x) fun w_ hK => (rd_at ((hM.then_ hK).ro hpl) rfl hx))) ?_
 intro aC w6 vs hK hv fr
 revert aC; refine zkp [(0, (nV i)), (1, (pT tm 0)), (2, (pT tp 0)), (3, (pT q 0)), (5, (.map (some m))), (9, (.int .i64 x))] ?_
 have M7 := hM.then_ hK
 clear hK hv fr aC hM; clear vs
 refine zlv (ht := Tryd.underlying38) (intLaw Tryd.underlying3) x (.int .i64 0) (M7.get 1 rfl) false (v := (.int .i64 ((lkp M x).getD 0))) (by rw [lkM0]) <| zar (h1 := (by have := hcb x; omega)) (h2 := (by have := hcb x; omega)) (((lkp M x).getD 0) + 1) <| zmu (intLaw Tryd.underlying3) M7 1 x (.int .i64 (((lkp M x).getD 0) + 1)) (l := vM M) rfl Tryd.underlying38 fun w8 M9 => ?_
 replace M9 := M9.nf
 have M10 : Mem (Res.pk [.blk q 3 [.int .i64 tw], .map m (inK (Value.int .i64) (vM M))]).fp w w8 [.blk q 3 [(.int .i64 tw)], .map m (inK (Value.int .i64) (vM (upk M x (((lkp M x).getD 0) + 1))))] := M9.cast (by rw [upk_vM])
 refine zfe <| zsq <| zkp [(0, (nV i)), (1, (pT tm 0)), (2, (pT tp 0)), (3, (pT q 0))] ?_
 intro aC fr
 refine zdt 5 (N := 21) (env0 := [(0, (nV i)), (1, (pT tm 0)), (2, (pT tp 0)), (3, (pT q 0))]) (specAt [.det (.map (some m)), .det (.slice (some ad1) pl.length pc), .det (nV i), .det (.pointer (some ((ad1 : Addr).add (((i : Int)).toNat * 1)))), .det (.int .i64 x)]) fr (la (la (la (la (la lz (dL ⟨tm, 0, none⟩ (.map (some m)) fun w_ hK => (blk_cell ((M10.then_ hK).ro htm) rfl))) (dL ⟨tp, 0, none⟩ (.slice (some ad1) pl.length pc) fun w_ hK => (blk_cell ((M10.then_ hK).ro htp) rfl))) dP) (dI ad1 pl.length 1 (i : Int))) (dL ((ad1 : Addr).add (((i : Int)).toNat * 1)) (.int .i64 x) fun w_ hK => (rd_at ((M10.then_ hK).ro hpl) rfl hx))) ?_
 intro aC w15 vs hK hv fr
 revert aC; refine zkp [(3, (pT q 0)), (12, (.map (some m))), (16, (.int .i64 x))] ?_
 have M16 := M10.then_ hK
 clear hK hv fr aC M10; clear vs
 refine zlv (ht := Tryd.underlying38) (intLaw Tryd.underlying3) x (.int .i64 0) (M16.get 1 rfl) false (v := (.int .i64 (((lkp M x).getD 0) + 1))) (by rw [lkM0, lkp_upk, if_pos rfl]; rfl) <| zpn 1 <| zfe <| zcP (((((lkp M x).getD 0) + 1) : Int) == 2) (((((lkp M x).getD 0) + 1) : Int) = 2) (by simp only [beq_iff_eq]) (fun c17 => ?_) (fun c17 => ?_)
 refine zrg <| zld ⟨q, 0, none⟩ (.int .i64 tw) (blk_cell (M16.get 0 rfl) rfl) <| zar (tw + 1) <| zsb (ho := (by simp)) M16 0 0 (.int .i64 (tw + 1)) rfl fun w18 M19 => ?_
 replace M19 := M19.nf
 refine zfe <| zo0 ?_
 exact ⟨rfl, M19.cast (by simp only [cntUp, twUp, ex]; rw [if_pos (by omega)])⟩
 refine zsk <| zo0 ?_
 exact ⟨rfl, M16.cast (by simp only [cntUp, twUp, ex]; rw [if_neg (by omega)])⟩
theorem rless_c (q m tm : Nat) (M : List (Int × Int)) (tw : Int) (n : Nat) (pl : List Int) (PA : Option Addr) (pc tp : Nat) (i : Nat) (w : World) (hi : i < pl.length) (htw : -1000000 ≤ tw ∧ tw ≤ 1000000) (hcb : ∀ x, -1000000 ≤ (lkp M x).getD 0 ∧ (lkp M x).getD 0 ≤ 1000000) (htm : RO (Res.pk [.blk q 3 [.int .i64 tw], .map m (inK (Value.int .i64) (vM M))]).fp w (.blk tm 38 [.map (some m)])) (htp : RO (Res.pk [.blk q 3 [.int .i64 tw], .map m (inK (Value.int .i64) (vM M))]).fp w (.blk tp 25 [.slice PA pl.length pc])) (hpl : RO (Res.pk [.blk q 3 [.int .i64 tw], .map m (inK (Value.int .i64) (vM M))]).fp w (.rd PA (ints pl))) (hm : (Res.pk [.blk q 3 [.int .i64 tw], .map m (inK (Value.int .i64) (vM M))]).holds w) :
    Calls Tryd.prog 23 #[(nV i), (pT tm 0), (pT tp 0), (pT q 0)] w (Ret fun v w' => v = .tuple #[] ∧ Mem (Res.pk [.blk q 3 [.int .i64 tw], .map m (inK (Value.int .i64) (vM M))]).fp w w' [.blk q 3 [.int .i64 (twDn pl M i tw)], .map m (inK (Value.int .i64) (vM (cntUp pl M i (-1))))]) := by
 refine zen 21 [(nV i), (pT tm 0), (pT tp 0), (pT q 0)] Tryd.func23 ?_
 have hM := Mem.unpk hm
 refine zsq ?_
 obtain ⟨x, hx⟩ := get_of (l := pl) (i := i) (by omega)
 have ex : pl.getD i 0 = x := by simp [List.getD, hx]
 obtain ⟨ad1, rfl⟩ := rd_some (hM.ro hpl) (by simp [ints]; omega)
 obtain ⟨x, hx⟩ := get_of (l := pl) (i := i) (by omega)
 have ex : pl.getD i 0 = x := by simp [List.getD, hx]
 refine zkp [(0, (nV i)), (1, (pT tm 0)), (2, (pT tp 0)), (3, (pT q 0))] ?_
 intro aC fr
 refine zdt 5 (N := 21) (env0 := [(0, (nV i)), (1, (pT tm 0)), (2, (pT tp 0)), (3, (pT q 0))]) (specAt [.det (.map (some m)), .det (.slice (some ad1) pl.length pc), .det (nV i), .det (.pointer (some ((ad1 : Addr).add (((i : Int)).toNat * 1)))), .det (.int .i64 x)]) fr (la (la (la (la (la lz (dL ⟨tm, 0, none⟩ (.map (some m)) fun w_ hK => (blk_cell ((hM.then_ hK).ro htm) rfl))) (dL ⟨tp, 0, none⟩ (.slice (some ad1) pl.length pc) fun w_ hK => (blk_cell ((hM.then_ hK).ro htp) rfl))) dP) (dI ad1 pl.length 1 (i : Int))) (dL ((ad1 : Addr).add (((i : Int)).toNat * 1)) (.int .i64 x) fun w_ hK => (rd_at ((hM.then_ hK).ro hpl) rfl hx))) ?_
 intro aC w6 vs hK hv fr
 revert aC; refine zkp [(0, (nV i)), (1, (pT tm 0)), (2, (pT tp 0)), (3, (pT q 0)), (5, (.map (some m))), (9, (.int .i64 x))] ?_
 have M7 := hM.then_ hK
 clear hK hv fr aC hM; clear vs
 refine zlv (ht := Tryd.underlying38) (intLaw Tryd.underlying3) x (.int .i64 0) (M7.get 1 rfl) false (v := (.int .i64 ((lkp M x).getD 0))) (by rw [lkM0]) <| zar (h1 := (by have := hcb x; omega)) (h2 := (by have := hcb x; omega)) (((lkp M x).getD 0) + (-1)) <| zmu (intLaw Tryd.underlying3) M7 1 x (.int .i64 (((lkp M x).getD 0) + (-1))) (l := vM M) rfl Tryd.underlying38 fun w8 M9 => ?_
 replace M9 := M9.nf
 have M10 : Mem (Res.pk [.blk q 3 [.int .i64 tw], .map m (inK (Value.int .i64) (vM M))]).fp w w8 [.blk q 3 [(.int .i64 tw)], .map m (inK (Value.int .i64) (vM (upk M x (((lkp M x).getD 0) + (-1)))))] := M9.cast (by rw [upk_vM])
 refine zfe <| zsq <| zkp [(0, (nV i)), (1, (pT tm 0)), (2, (pT tp 0)), (3, (pT q 0))] ?_
 intro aC fr
 refine zdt 5 (N := 21) (env0 := [(0, (nV i)), (1, (pT tm 0)), (2, (pT tp 0)), (3, (pT q 0))]) (specAt [.det (.map (some m)), .det (.slice (some ad1) pl.length pc), .det (nV i), .det (.pointer (some ((ad1 : Addr).add (((i : Int)).toNat * 1)))), .det (.int .i64 x)]) fr (la (la (la (la (la lz (dL ⟨tm, 0, none⟩ (.map (some m)) fun w_ hK => (blk_cell ((M10.then_ hK).ro htm) rfl))) (dL ⟨tp, 0, none⟩ (.slice (some ad1) pl.length pc) fun w_ hK => (blk_cell ((M10.then_ hK).ro htp) rfl))) dP) (dI ad1 pl.length 1 (i : Int))) (dL ((ad1 : Addr).add (((i : Int)).toNat * 1)) (.int .i64 x) fun w_ hK => (rd_at ((M10.then_ hK).ro hpl) rfl hx))) ?_
 intro aC w15 vs hK hv fr
 revert aC; refine zkp [(3, (pT q 0)), (12, (.map (some m))), (16, (.int .i64 x))] ?_
 have M16 := M10.then_ hK
 clear hK hv fr aC M10; clear vs
 refine zlv (ht := Tryd.underlying38) (intLaw Tryd.underlying3) x (.int .i64 0) (M16.get 1 rfl) false (v := (.int .i64 (((lkp M x).getD 0) + (-1)))) (by rw [lkM0, lkp_upk, if_pos rfl]; rfl) <| zpn 1 <| zfe <| zcP (((((lkp M x).getD 0) + (-1)) : Int) == 1) (((((lkp M x).getD 0) + (-1)) : Int) = 1) (by simp only [beq_iff_eq]) (fun c17 => ?_) (fun c17 => ?_)
 refine zrg <| zld ⟨q, 0, none⟩ (.int .i64 tw) (blk_cell (M16.get 0 rfl) rfl) <| zar (tw - 1) <| zsb (ho := (by simp)) M16 0 0 (.int .i64 (tw - 1)) rfl fun w18 M19 => ?_
 replace M19 := M19.nf
 refine zfe <| zo0 ?_
 exact ⟨rfl, M19.cast (by simp only [cntUp, twDn, ex]; rw [if_pos (by omega)])⟩
 refine zsk <| zo0 ?_
 exact ⟨rfl, M16.cast (by simp only [cntUp, twDn, ex]; rw [if_neg (by omega)])⟩
theorem rplc_c (p q : Nat) (ok : Bool) (tw : Int) (w : World) (hp : (Res.blk p 4 [.bool ok]).holds w) (hq : RO (Res.blk p 4 [.bool ok]).fp w (.blk q 3 [.int .i64 tw])) :
    Calls Tryd.prog 24 #[(pT p 0), (pT q 0)] w (Ret fun v w' => v = .tuple #[] ∧ Mem (Res.blk p 4 [.bool ok]).fp w w' [.blk p 4 [.bool (ok && decide (tw = 0))]]) := by
 refine zen 7 [(pT p 0), (pT q 0)] Tryd.func24 ?_
 have hM := Mem.initS hp
 refine zrg <| zld ⟨p, 0, none⟩ (.bool ok) (blk_cell (hM.get 0 rfl) rfl) <| zpn 1 ?_
 obtain ⟨B1, hB1⟩ : ∃ B : Bool, B = ok := ⟨_, rfl⟩
 refine zkp [(0, (pT p 0)), (1, (pT q 0)), (3, (.bool ok))] ?_
 rw [← hB1]
 have iB1 : B1 = true ↔ (ok = true) := by rw [hB1]
 clear hB1
 intro aC fr
 refine From_either (B := B1) (d := (some 4)) (.int .i64 tw) fr (by cases B1 <;> kernel_rfl) (fun hB hh => ?_) ?_
 cases B1 <;> first | (exact absurd hB (by decide)) | skip
 have c1 : (ok = true) := iB1.1 rfl
 exact From_ld (some 4) ⟨q, 0, none⟩ fr (by kernel_rfl) (.int .i64 tw) (blk_cell (hM.ro hq) rfl) hh
 intro aC fr
 refine zpk 2 5 [6] fr (news := [(6, (.bool (B1 && ((tw : Int) == 0))))]) (by cases B1 <;> kernel_rfl) ?_
 intro aC fr
 revert aC
 refine zsb (ho := (by simp)) hM 0 0 (.bool (B1 && ((tw : Int) == 0))) rfl fun w8 M9 => ?_
 replace M9 := M9.nf
 clear hM
 refine zfe <| zo0 ?_
 exact ⟨rfl, M9⟩
end Go.Proofs.YthgbejihcchcnaaDoor
namespace Go.Proofs.YthgbejihcchcnaaDoor
open Go.Mor
theorem tmore_c (n v p8 p5 p q m tm tp : Nat) (pl : List Int) (PA : Option Addr) (pc : Nat) (As : Option Addr) (cs : Nat) (ws : List Nat) (S : Int → Bool) (M : List (Int × Int)) (tw : Int) (w : World) (hn : n ≤ 20000) (hln : pl.length = n) (hv : v < n) (hS : SetW n ws S) (hF : Fits n pl S M tw) (hp8 : RO (Res.pk [.row 88 1 As ((n + 63) / 64) cs (u64s ws), .blk q 3 [.int .i64 tw], .map m (inK (Value.int .i64) (vM M))]).fp w (.blk p8 83 [(.slice As ((n + 63) / 64) cs)])) (hp5 : RO (Res.pk [.row 88 1 As ((n + 63) / 64) cs (u64s ws), .blk q 3 [.int .i64 tw], .map m (inK (Value.int .i64) (vM M))]).fp w (.blk p5 46 [(.func (.func 21) #[] #[(pT tm 0), (pT q 0)]), (.func (.func 22) #[] #[(pT tm 0), (pT tp 0), (pT q 0)]), (.func (.func 23) #[] #[(pT tm 0), (pT tp 0), (pT q 0)]), (.func (.func 24) #[] #[(pT p 0), (pT q 0)])])) (htm : RO (Res.pk [.row 88 1 As ((n + 63) / 64) cs (u64s ws), .blk q 3 [.int .i64 tw], .map m (inK (Value.int .i64) (vM M))]).fp w (.blk tm 38 [.map (some m)])) (htp : RO (Res.pk [.row 88 1 As ((n + 63) / 64) cs (u64s ws), .blk q 3 [.int .i64 tw], .map m (inK (Value.int .i64) (vM M))]).fp w (.blk tp 25 [.slice PA pl.length pc])) (hpl : RO (Res.pk [.row 88 1 As ((n + 63) / 64) cs (u64s ws), .blk q 3 [.int .i64 tw], .map m (inK (Value.int .i64) (vM M))]).fp w (.rd PA (ints pl))) (hm : (Res.pk [.row 88 1 As ((n + 63) / 64) cs (u64s ws), .blk q 3 [.int .i64 tw], .map m (inK (Value.int .i64) (vM M))]).holds w) :
    Calls Tryd.prog 46 #[(nV v), (pT p8 0), (pT p5 0)] w (Ret fun u w' => ∃ ws2 M2 tw2, u = .tuple #[] ∧ SetW n ws2 (addS S (v : Int)) ∧ Fits n pl (addS S (v : Int)) M2 tw2 ∧ Mem (Res.pk [.row 88 1 As ((n + 63) / 64) cs (u64s ws), .blk q 3 [.int .i64 tw], .map m (inK (Value.int .i64) (vM M))]).fp w w' [.row 88 1 As ((n + 63) / 64) cs (u64s ws2), .blk q 3 [.int .i64 tw2], .map m (inK (Value.int .i64) (vM M2))]) := by
 refine zen 15 [(nV v), (pT p8 0), (pT p5 0)] Tryd.func46 ?_
 have hM := Mem.unpk hm
 refine zsr <| zld ⟨p8, 0, none⟩ (.slice As ((n + 63) / 64) cs) (blk_cell (hM.ro hp8) rfl) <| zpn 1 <| zcl (lhas_c ws ((n + 63) / 64) v As cs w hS.fit (by omega) hS.len.symm (hS.idx (by omega)) (RO.row_rd (hM.own_ro 0 rfl))) ?_
 rintro _ w1 ⟨rfl, M2x⟩
 have M2 := hM.cl M2x
 clear M2x hM
 refine zpn 1 <| zfe <| zcP (!(tb ws v)) (¬ ((tb ws v) = true)) (by simp only [notT]) (fun c3 => ?_) (fun c3 => ?_)
 replace c3 : (tb ws v) = false := Bool.eq_false_iff.2 c3
 refine zsr <| zld ⟨p8, 0, none⟩ (.slice As ((n + 63) / 64) cs) (blk_cell (M2.ro hp8) rfl) <| zpn 1 <| zcl (lput_c ws ((n + 63) / 64) v As cs w1 hS.fit (by omega) hS.len.symm (hS.idx (by omega)) (M2.get 0 rfl)) ?_
 rintro _ w4 ⟨rfl, M5x⟩
 have M5 := M2.md 0 rfl M5x
 refine zfe <| zrg ?_
 have M6 := M5.od [0, 2, 2] 3
 refine zpn 1 <| zld ⟨p5, 1, none⟩ (.func (.func 22) #[] #[(pT tm 0), (pT tp 0), (pT q 0)]) (blk_cell (M6.ro hp5) rfl) <| zpn 1 <| zcl (rmore_c q m tm M tw n pl PA pc tp v w4 (by omega) (hF.btw (by omega)) (hF.bcn (by omega)) (RO.pk_at (l := [.blk q 3 [.int .i64 tw], .map m (inK (Value.int .i64) (vM M))]) htm M6) (RO.pk_at (l := [.blk q 3 [.int .i64 tw], .map m (inK (Value.int .i64) (vM M))]) htp M6) (RO.pk_at (l := [.blk q 3 [.int .i64 tw], .map m (inK (Value.int .i64) (vM M))]) hpl M6) (Mem.pk_holds (l := [.blk q 3 [.int .i64 tw], .map m (inK (Value.int .i64) (vM M))]) M6)) ?_
 rintro _ w7 ⟨rfl, M8x⟩
 have M8 : Mem (Res.pk [.row 88 1 As ((n + 63) / 64) cs (u64s ws), .blk q 3 [.int .i64 tw], .map m (inK (Value.int .i64) (vM M))]).fp w w7 [.blk q 3 [(.int .i64 (twUp pl M v tw))], .map m (inK (Value.int .i64) (vM (cntUp pl M v 1))), .row 88 1 As ((n + 63) / 64) cs (u64s (putw ws v))] := M6.mdk M8x
 refine zfe <| zo0 ?_
 have M9 := M8.od [1, 1, 2] 3
 have hv9 : S (v : Int) = false := by rw [← hS.bits v (by omega)]; exact c3
 exact ⟨(putw ws v), (cntUp pl M v 1), (twUp pl M v tw), rfl, hS.put (by omega), hF.put (by omega) (by omega) hv9, M9⟩
 replace c3 : (tb ws v) = true := Classical.not_not.1 c3
 refine zsk <| zo0 ?_
 have M10 := M2.od [2, 2, 2] 3
 have hv9 : S (v : Int) = true := by rw [← hS.bits v (by omega)]; exact c3
 exact ⟨ws, M, tw, rfl, by rw [addS_have hv9]; exact hS, by rw [addS_have hv9]; exact hF, M10⟩
theorem tless_c (n v p8 p5 p q m tm tp : Nat) (pl : List Int) (PA : Option Addr) (pc : Nat) (As : Option Addr) (cs : Nat) (ws : List Nat) (S : Int → Bool) (M : List (Int × Int)) (tw : Int) (w : World) (hn : n ≤ 20000) (hln : pl.length = n) (hv : v < n) (hS : SetW n ws S) (hF : Fits n pl S M tw) (hp8 : RO (Res.pk [.row 88 1 As ((n + 63) / 64) cs (u64s ws), .blk q 3 [.int .i64 tw], .map m (inK (Value.int .i64) (vM M))]).fp w (.blk p8 83 [(.slice As ((n + 63) / 64) cs)])) (hp5 : RO (Res.pk [.row 88 1 As ((n + 63) / 64) cs (u64s ws), .blk q 3 [.int .i64 tw], .map m (inK (Value.int .i64) (vM M))]).fp w (.blk p5 46 [(.func (.func 21) #[] #[(pT tm 0), (pT q 0)]), (.func (.func 22) #[] #[(pT tm 0), (pT tp 0), (pT q 0)]), (.func (.func 23) #[] #[(pT tm 0), (pT tp 0), (pT q 0)]), (.func (.func 24) #[] #[(pT p 0), (pT q 0)])])) (htm : RO (Res.pk [.row 88 1 As ((n + 63) / 64) cs (u64s ws), .blk q 3 [.int .i64 tw], .map m (inK (Value.int .i64) (vM M))]).fp w (.blk tm 38 [.map (some m)])) (htp : RO (Res.pk [.row 88 1 As ((n + 63) / 64) cs (u64s ws), .blk q 3 [.int .i64 tw], .map m (inK (Value.int .i64) (vM M))]).fp w (.blk tp 25 [.slice PA pl.length pc])) (hpl : RO (Res.pk [.row 88 1 As ((n + 63) / 64) cs (u64s ws), .blk q 3 [.int .i64 tw], .map m (inK (Value.int .i64) (vM M))]).fp w (.rd PA (ints pl))) (hm : (Res.pk [.row 88 1 As ((n + 63) / 64) cs (u64s ws), .blk q 3 [.int .i64 tw], .map m (inK (Value.int .i64) (vM M))]).holds w) :
    Calls Tryd.prog 49 #[(nV v), (pT p8 0), (pT p5 0)] w (Ret fun u w' => ∃ ws2 M2 tw2, u = .tuple #[] ∧ SetW n ws2 (remS S (v : Int)) ∧ Fits n pl (remS S (v : Int)) M2 tw2 ∧ Mem (Res.pk [.row 88 1 As ((n + 63) / 64) cs (u64s ws), .blk q 3 [.int .i64 tw], .map m (inK (Value.int .i64) (vM M))]).fp w w' [.row 88 1 As ((n + 63) / 64) cs (u64s ws2), .blk q 3 [.int .i64 tw2], .map m (inK (Value.int .i64) (vM M2))]) := by
 refine zen 14 [(nV v), (pT p8 0), (pT p5 0)] Tryd.func49 ?_
 have hM := Mem.unpk hm
 refine zsr <| zld ⟨p8, 0, none⟩ (.slice As ((n + 63) / 64) cs) (blk_cell (hM.ro hp8) rfl) <| zpn 1 <| zcl (lhas_c ws ((n + 63) / 64) v As cs w hS.fit (by omega) hS.len.symm (hS.idx (by omega)) (RO.row_rd (hM.own_ro 0 rfl))) ?_
 rintro _ w1 ⟨rfl, M2x⟩
 have M2 := hM.cl M2x
 clear M2x hM
 refine zfe <| zcP (tb ws v) ((tb ws v) = true) Iff.rfl (fun c3 => ?_) (fun c3 => ?_)
 refine zsr <| zld ⟨p8, 0, none⟩ (.slice As ((n + 63) / 64) cs) (blk_cell (M2.ro hp8) rfl) <| zpn 1 <| zcl (ltake_c ws ((n + 63) / 64) v As cs w1 hS.fit (by omega) hS.len.symm (hS.idx (by omega)) (M2.get 0 rfl)) ?_
 rintro _ w4 ⟨rfl, M5x⟩
 have M5 := M2.md 0 rfl M5x
 refine zfe <| zrg ?_
 have M6 := M5.od [0, 2, 2] 3
 refine zpn 1 <| zld ⟨p5, 2, none⟩ (.func (.func 23) #[] #[(pT tm 0), (pT tp 0), (pT q 0)]) (blk_cell (M6.ro hp5) rfl) <| zpn 1 <| zcl (rless_c q m tm M tw n pl PA pc tp v w4 (by omega) (hF.btw (by omega)) (hF.bcn (by omega)) (RO.pk_at (l := [.blk q 3 [.int .i64 tw], .map m (inK (Value.int .i64) (vM M))]) htm M6) (RO.pk_at (l := [.blk q 3 [.int .i64 tw], .map m (inK (Value.int .i64) (vM M))]) htp M6) (RO.pk_at (l := [.blk q 3 [.int .i64 tw], .map m (inK (Value.int .i64) (vM M))]) hpl M6) (Mem.pk_holds (l := [.blk q 3 [.int .i64 tw], .map m (inK (Value.int .i64) (vM M))]) M6)) ?_
 rintro _ w7 ⟨rfl, M8x⟩
 have M8 : Mem (Res.pk [.row 88 1 As ((n + 63) / 64) cs (u64s ws), .blk q 3 [.int .i64 tw], .map m (inK (Value.int .i64) (vM M))]).fp w w7 [.blk q 3 [(.int .i64 (twDn pl M v tw))], .map m (inK (Value.int .i64) (vM (cntUp pl M v (-1)))), .row 88 1 As ((n + 63) / 64) cs (u64s (takew ws v))] := M6.mdk M8x
 refine zfe <| zo0 ?_
 have M9 := M8.od [1, 1, 2] 3
 have hv9 : S (v : Int) = true := by rw [← hS.bits v (by omega)]; exact c3
 exact ⟨(takew ws v), (cntUp pl M v (-1)), (twDn pl M v tw), rfl, hS.take (by omega), hF.take (by omega) (by omega) hv9, M9⟩
 replace c3 : (tb ws v) = false := Bool.eq_false_iff.2 c3
 refine zsk <| zo0 ?_
 have M10 := M2.od [2, 2, 2] 3
 have hv9 : S (v : Int) = false := by rw [← hS.bits v (by omega)]; exact c3
 exact ⟨ws, M, tw, rfl, by rw [remS_none hv9]; exact hS, by rw [remS_none hv9]; exact hF, M10⟩
end Go.Proofs.YthgbejihcchcnaaDoor
