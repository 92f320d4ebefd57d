/-
  Texts of the proof, part 14.
-/
import Derived.Test.YtjekgaabcigphaaZD13
set_option maxRecDepth 10000
namespace Go.Proofs.Ytjekgaabcigphaa
open Go.Mor
theorem valid_c (nm : ByteArray) (wk : Bool) (pa va : Int) (A : Option Addr) (c : Nat) (fs : List FBlk) (w : World) (hN : fs.length ≤ 1000) (hok : FOk fs) (hA : RO noS w (.fn A fs)) :
    Calls Try.prog 11 #[(fA nm wk pa va A c fs)] w (Ret fun v w' => v = .int .i64 (validN nm pa va fs) ∧ Mem noS w w' []) := by
 have hbl := bsOf_len fs
 have hm : (bsOf fs).length ≤ 1000000 := by omega
 have hB := hA.bs
 refine zen 106 [(fA nm wk pa va A c fs)] Try.func11 ?_
 have hM := Mem.init w
 refine zsr <| zbx hM 24 (fA nm wk pa va A c fs) (fV nm wk pa va A c fs) fun b1 w2 hb1 M3 => ?_
 replace M3 := M3.nf
 clear hM
 refine zpn 1 <| zfe <| zsq <| zsr <| zls ⟨b1, 0, none⟩ (fV nm wk pa va A c fs) (blk_cells (M3.get 0 rfl)) <| zcl (vs := #[(fA nm wk pa va A c fs)]) (size_c _ _ _ _ A c fs w2 hN hok (hA.at_ M3)) ?_
 rintro _ w4 ⟨rfl, M5x⟩
 have M5 := M3.cl M5x
 refine zpn 2 ?_
 obtain ⟨B6, hB6⟩ : ∃ B : Bool, B = decide ((((sizeF fs : Nat) : Int) : Int) > 20000) := ⟨_, rfl⟩
 refine zkp [(1, (pT b1 0)), (10, (.bool (decide ((((sizeF fs : Nat) : Int) : Int) > 20000))))] ?_
 rw [← hB6]
 have iB6 : B6 = true ↔ ((((sizeF fs : Nat) : Int) : Int) > 20000) := by rw [hB6]; simp only [decide_eq_true_eq]
 clear hB6
 intro aC fr
 refine zpk 1 5 [11] fr (news := [(11, (cond (!B6) (pT b1 3) undef))]) (by cases B6 <;> kernel_rfl) ?_
 intro aC fr
 refine From_either (B := (!B6)) (d := (some 12)) (.int .i64 va) fr (by cases B6 <;> kernel_rfl) (fun hB hh => ?_) ?_
 cases B6 <;> first | (exact absurd hB (by decide)) | skip
 have c6 : ¬ ((((sizeF fs : Nat) : Int) : Int) > 20000) := (fun h => Bool.noConfusion (iB6.2 h) : ¬ ((((sizeF fs : Nat) : Int) : Int) > 20000))
 exact From_ld (some 12) ⟨b1, 3, none⟩ fr (by kernel_rfl) (.int .i64 va) (blk_cell (M5.get 0 rfl) rfl) hh
 intro aC fr
 refine zpk 2 8 [14] fr (news := [(14, (.bool (B6 || decide ((va : Int) > 20000))))]) (by cases B6 <;> kernel_rfl) ?_
 intro aC fr
 revert aC
 refine zfe <| zcP (B6 || decide ((va : Int) > 20000)) (((((sizeF fs : Nat) : Int) : Int) > 20000) ∨ ((va : Int) > 20000)) (by simp only [Bool.or_eq_true, decide_eq_true_eq, iB6]) (fun c15 => ?_) (fun c15 => ?_)
 have hbig : ((sizeF fs : Int) > 20000 ∨ va > 20000) := by omega
 refine zsp <| zre <| zo1 (.int .i64 12) ?_
 have M16 := M5.od [] 0
 exact ⟨congrArg _ (valid_12 hbig), M16⟩
 have hbig : ¬ ((sizeF fs : Int) > 20000 ∨ va > 20000) := by omega
 refine zsk <| zsq <| zkp [(1, (pT b1 0))] ?_
 intro aC fr
 refine zdj (N := 106) (env0 := [(1, (pT b1 0))]) (specAt [.det (fA nm wk pa va A c fs), .det (fA nm wk pa va A c fs), Spec.free, Spec.free, Spec.free, Spec.free]) (fun ls vs w_ => match ls 5 with | true => (∃ (A17 : Option Addr) (c18 : Nat) (rows19 : List RowV) (b20 : Nat), vs 2 = (.slice A17 ((bsOf fs).length) c18) ∧ vs 3 = (.agg #[(.string nm), (.bool wk), (.int .i64 pa), (.int .i64 va), (.slice A ((bsOf fs).length) c), (.slice A17 ((bsOf fs).length) c18), (.pointer none), (.slice none 0 0)]) ∧ vs 4 = (pT b20 0) ∧ vs 5 = (pT b20 0) ∧ (FamOf (Value.int .i64) rows19 (allL (bsOf fs))) ∧ Mem noS w w_ [.blk b1 24 (fV nm wk pa va A c fs), .fam 3 rows19, .row 44 1 A17 ((bsOf fs).length) c18 (slv rows19), .blk b20 57 [(.string nm), (.bool wk), (.int .i64 pa), (.int .i64 va), (.slice A ((bsOf fs).length) c), (.slice A17 ((bsOf fs).length) c18), (.pointer none), (.slice none 0 0)]]) | false => (match ls 4 with | true => (∃ (A17 : Option Addr) (c18 : Nat) (rows19 : List RowV) (b20 : Nat), vs 2 = (.slice A17 ((bsOf fs).length) c18) ∧ vs 3 = (.agg #[(.string nm), (.bool wk), (.int .i64 pa), (.int .i64 va), (.slice A ((bsOf fs).length) c), (.slice A17 ((bsOf fs).length) c18), (.pointer none), (.slice none 0 0)]) ∧ vs 4 = (pT b20 0) ∧ (FamOf (Value.int .i64) rows19 (allL (bsOf fs))) ∧ Mem noS w w_ [.blk b1 24 (fV nm wk pa va A c fs), .fam 3 rows19, .row 44 1 A17 ((bsOf fs).length) c18 (slv rows19), .blk b20 57 [(.string nm), (.bool wk), (.int .i64 pa), (.int .i64 va), (.slice A ((bsOf fs).length) c), (.slice A17 ((bsOf fs).length) c18), (.pointer none), (.slice none 0 0)]]) | false => (match ls 3 with | true => (∃ (A17 : Option Addr) (c18 : Nat) (rows19 : List RowV), vs 2 = (.slice A17 ((bsOf fs).length) c18) ∧ vs 3 = (.agg #[(.string nm), (.bool wk), (.int .i64 pa), (.int .i64 va), (.slice A ((bsOf fs).length) c), (.slice A17 ((bsOf fs).length) c18), (.pointer none), (.slice none 0 0)]) ∧ (FamOf (Value.int .i64) rows19 (allL (bsOf fs))) ∧ Mem noS w w_ [.blk b1 24 (fV nm wk pa va A c fs), .fam 3 rows19, .row 44 1 A17 ((bsOf fs).length) c18 (slv rows19)]) | false => (match ls 2 with | true => (∃ (A17 : Option Addr) (c18 : Nat) (rows19 : List RowV), vs 2 = (.slice A17 ((bsOf fs).length) c18) ∧ (FamOf (Value.int .i64) rows19 (allL (bsOf fs))) ∧ Mem noS w w_ [.blk b1 24 (fV nm wk pa va A c fs), .fam 3 rows19, .row 44 1 A17 ((bsOf fs).length) c18 (slv rows19)]) | false => (Mem noS w w_ [.blk b1 24 (fV nm wk pa va A c fs)]))))) fr (plain_ok (.det (.det (.free (.free (.free (.free .nil))))))) (M5.then_ (Mem.drew _)) (la (la (la (la (la (la lz ?_) ?_) ?_) ?_) ?_) ?_) ?_
 intro aa_ w_ ls vs rest_ hJ hi_ hc_ hp hF
 refine okG (g0 := none) ?_
 replace hF : Fr aa_ 106 [(1, (pT b1 0))] := hF.kp [1]
 have f3 : ls 3 = false := notyet hc_ hi_ (n := 6) (by kernel_rfl)
 have f4 : ls 4 = false := notyet hc_ hi_ (n := 6) (by kernel_rfl)
 have f5 : ls 5 = false := notyet hc_ hi_ (n := 6) (by kernel_rfl)
 have hM_ := hJ
 simp only [f3, f4, f5] at hM_
 cases fu : ls 2
 simp only [fu] at hM_
 refine From_loadS (by kernel_rfl : coreAt _ 0 = some (some 15, (.load 24 (.tmp 1)), 24, none)) hF (by kernel_rfl) (by kernel_rfl) (k' := 1) rfl (ad := ⟨b1, 0, none⟩) (vs := (fV nm wk pa va A c fs)) (by kernel_rfl) (by kernel_rfl) (blk_cells (hM_.get 0 rfl)) ?_
 intro a2 ea _
 refine From_end (by kernel_rfl) ?_; exact op_doneJ (d := some 15) (by kernel_rfl) ea rfl hJ
 simp only [fu] at hM_
 obtain ⟨_, _, _, _, _, hM_⟩ := hM_
 refine From_loadS (by kernel_rfl : coreAt _ 0 = some (some 15, (.load 24 (.tmp 1)), 24, none)) hF (by kernel_rfl) (by kernel_rfl) (k' := 1) rfl (ad := ⟨b1, 0, none⟩) (vs := (fV nm wk pa va A c fs)) (by kernel_rfl) (by kernel_rfl) (blk_cells (hM_.get 0 rfl)) ?_
 intro a2 ea _
 refine From_end (by kernel_rfl) ?_; exact op_doneJ (d := some 15) (by kernel_rfl) ea rfl hJ
 intro aa_ w_ ls vs rest_ hJ hi_ hc_ hp hF
 refine okG (g0 := none) ?_
 replace hF : Fr aa_ 106 [(1, (pT b1 0))] := hF.kp [1]
 have f2 : ls 2 = false := notyet hc_ hi_ (n := 6) (by kernel_rfl)
 have f3 : ls 3 = false := notyet hc_ hi_ (n := 6) (by kernel_rfl)
 have f4 : ls 4 = false := notyet hc_ hi_ (n := 6) (by kernel_rfl)
 have f5 : ls 5 = false := notyet hc_ hi_ (n := 6) (by kernel_rfl)
 have hM_ := hJ
 simp only [f2, f3, f4, f5] at hM_
 refine From_loadS (by kernel_rfl : coreAt _ 0 = some (some 16, (.load 24 (.tmp 1)), 24, none)) hF (by kernel_rfl) (by kernel_rfl) (k' := 1) rfl (ad := ⟨b1, 0, none⟩) (vs := (fV nm wk pa va A c fs)) (by kernel_rfl) (by kernel_rfl) (blk_cells (hM_.get 0 rfl)) ?_
 intro a2 ea _
 refine From_end (by kernel_rfl) ?_; exact op_doneJ (d := some 16) (by kernel_rfl) ea rfl hJ
 intro aa_ w_ ls vs rest_ hJ hi_ hc_ hp hF
 refine okG (g0 := none) ?_
 replace hF : Fr aa_ 106 [(16, (fA nm wk pa va A c fs))] := hF.kp [16]
 have f2 : ls 2 = false := hi_
 have f3 : ls 3 = false := notyet hc_ hi_ (n := 6) (by kernel_rfl)
 have f4 : ls 4 = false := notyet hc_ hi_ (n := 6) (by kernel_rfl)
 have f5 : ls 5 = false := notyet hc_ hi_ (n := 6) (by kernel_rfl)
 have hM_ := hJ
 simp only [f2, f3, f4, f5] at hM_
 refine From_call (by kernel_rfl : coreAt _ 0 = some (some 17, (.call { callee := (.value (.func 19)), args := #[(.tmp 16)], argTypes := #[24] }), 52, none)) hF (by kernel_rfl) (by kernel_rfl) (k' := 1) rfl (f := 19) (vs := [(fA nm wk pa va A c fs)]) (cap := []) (by kernel_rfl) (by kernel_rfl) (by kernel_rfl) (all_c _ _ _ _ A c (bsOf fs) w_ hm (hB.at_ hM_)) ?_
 rintro _ w2 ⟨A17p, c18p, rows19p, rfl, hfrows19, hm2⟩ a2 ea _
 have hm3 := hM_.call hm2
 refine From_end (by kernel_rfl) ?_; refine op_doneJ (d := some 17) (by kernel_rfl) ea trivial ?_
 show match ls 5 with | true => _ | false => (match ls 4 with | true => _ | false => (match ls 3 with | true => _ | false => (∃ (A17 : Option Addr) (c18 : Nat) (rows19 : List RowV), _)))
 rw [f5, f4, f3]
 exact ⟨A17p, c18p, rows19p, rfl, hfrows19, hm3⟩
 intro aa_ w_ ls vs rest_ hJ hi_ hc_ hp hF
 refine okG (g0 := none) ?_
 replace hF : Fr aa_ 106 [(15, (fA nm wk pa va A c fs)), (17, vs 2)] := hF.kp [15, 17]
 have f2 : ls 2 = true := donebefore hc_ (fun k hk => (hp k hk).1) (n := 6) (by kernel_rfl)
 have f3 : ls 3 = false := hi_
 have f4 : ls 4 = false := notyet hc_ hi_ (n := 6) (by kernel_rfl)
 have f5 : ls 5 = false := notyet hc_ hi_ (n := 6) (by kernel_rfl)
 have hM_ := hJ
 simp only [f2, f3, f4, f5] at hM_
 obtain ⟨A17p, c18p, rows19p, e2_, hfrows19, hM_⟩ := hM_
 try rw [e2_] at hF
 have hm2 := hM_
 refine From_pure1 (by kernel_rfl : coreAt _ 0 = some (some 18, (.build 57 #[(0, (.tmp 15)), (1, (.tmp 17))]), 57, none)) hF (by kernel_rfl) (by kernel_rfl) (k' := 1) rfl (v := (.agg #[(.string nm), (.bool wk), (.int .i64 pa), (.int .i64 va), (.slice A ((bsOf fs).length) c), (.slice A17p ((bsOf fs).length) c18p), (.pointer none), (.slice none 0 0)])) (by kernel_rfl) ?_
 intro a2 ea _
 refine From_end (by kernel_rfl) ?_; refine op_doneJ (d := some 18) (by kernel_rfl) ea trivial ?_
 show match ls 5 with | true => _ | false => (match ls 4 with | true => _ | false => (∃ (A17 : Option Addr) (c18 : Nat) (rows19 : List RowV), _))
 rw [f5, f4]
 exact ⟨A17p, c18p, rows19p, e2_, rfl, hfrows19, hm2⟩
 intro aa_ w_ ls vs rest_ hJ hi_ hc_ hp hF
 refine okG (g0 := none) ?_
 replace hF : Fr aa_ 106 [(18, vs 3)] := hF.kp [18]
 have f2 : ls 2 = true := donebefore hc_ (fun k hk => (hp k hk).1) (n := 6) (by kernel_rfl)
 have f3 : ls 3 = true := donebefore hc_ (fun k hk => (hp k hk).1) (n := 6) (by kernel_rfl)
 have f4 : ls 4 = false := hi_
 have f5 : ls 5 = false := notyet hc_ hi_ (n := 6) (by kernel_rfl)
 have hM_ := hJ
 simp only [f2, f3, f4, f5] at hM_
 obtain ⟨A17p, c18p, rows19p, e2_, e3_, hfrows19, hM_⟩ := hM_
 try rw [e2_] at hF
 try rw [e3_] at hF
 refine From_box (by kernel_rfl : coreAt _ 0 = some (some 19, (.box 57 (.tmp 18)), 51, none)) hF (by kernel_rfl) (by kernel_rfl) (k' := 1) rfl (v := (.agg #[(.string nm), (.bool wk), (.int .i64 pa), (.int .i64 va), (.slice A ((bsOf fs).length) c), (.slice A17p ((bsOf fs).length) c18p), (.pointer none), (.slice none 0 0)])) (cs := [(.string nm), (.bool wk), (.int .i64 pa), (.int .i64 va), (.slice A ((bsOf fs).length) c), (.slice A17p ((bsOf fs).length) c18p), (.pointer none), (.slice none 0 0)]) (by kernel_rfl) rfl hM_ ?_
 intro b20p w2 _ _ hm2 _ a2 ea _
 refine From_end (by kernel_rfl) ?_; refine op_doneJ (d := some 19) (by kernel_rfl) ea trivial ?_
 show match ls 5 with | true => _ | false => (∃ (A17 : Option Addr) (c18 : Nat) (rows19 : List RowV) (b20 : Nat), _)
 rw [f5]
 exact ⟨A17p, c18p, rows19p, b20p, e2_, e3_, rfl, hfrows19, hm2⟩
 intro aa_ w_ ls vs rest_ hJ hi_ hc_ hp hF
 refine okG (g0 := none) ?_
 replace hF : Fr aa_ 106 [(19, vs 4)] := hF.kp [19]
 have f2 : ls 2 = true := donebefore hc_ (fun k hk => (hp k hk).1) (n := 6) (by kernel_rfl)
 have f3 : ls 3 = true := donebefore hc_ (fun k hk => (hp k hk).1) (n := 6) (by kernel_rfl)
 have f4 : ls 4 = true := donebefore hc_ (fun k hk => (hp k hk).1) (n := 6) (by kernel_rfl)
 have f5 : ls 5 = false := hi_
 have hM_ := hJ
 simp only [f2, f3, f4, f5] at hM_
 obtain ⟨A17p, c18p, rows19p, b20p, e2_, e3_, e4_, hfrows19, hM_⟩ := hM_
 try rw [e2_] at hF
 try rw [e3_] at hF
 try rw [e4_] at hF
 have hm2 := hM_
 refine From_pure1 (by kernel_rfl : coreAt _ 0 = some (some 3, (.assign (.tmp 19)), 51, none)) hF (by kernel_rfl) (by kernel_rfl) (k' := 1) rfl (v := (pT b20p 0)) (by kernel_rfl) ?_
 intro a2 ea _
 refine From_end (by kernel_rfl) ?_; refine op_doneJ (d := some 3) (by kernel_rfl) ea trivial ?_
 show ∃ (A17 : Option Addr) (c18 : Nat) (rows19 : List RowV) (b20 : Nat), _
 exact ⟨A17p, c18p, rows19p, b20p, e2_, e3_, e4_, rfl, hfrows19, hm2⟩
 intro aC w25 ls vs hall M26 hv fr
 simp only [show ls 5 = true from hall 5 (by decide)] at M26
 revert aC; refine zkp [(1, (pT b1 0)), (3, vs 5)] ?_
 obtain ⟨A17, c18, rows19, b20, e2_, e3_, e4_, e5_, hfrows19, M26⟩ := M26
 try rw [e2_]
 try rw [e3_]
 try rw [e4_]
 try rw [e5_]
 clear e2_ e3_ e4_ e5_
 clear hall hv fr aC M5; clear vs ls
 refine zsq <| zsq ?_
 obtain ⟨A0, c0, hr0⟩ : ∃ A0 c0, 0 < (bsOf fs).length → rows19[0]? = some ⟨A0, (srcs (bsOf fs) 0).length, c0, ints (srcs (bsOf fs) 0)⟩ := by
   by_cases h : 0 < (bsOf fs).length
   · obtain ⟨A0, c0, h2⟩ := hfrows19.get (allL_get (t := 0) h); exact ⟨A0, c0, fun _ => h2⟩
   · exact ⟨none, 0, fun h2 => absurd h2 h⟩
 have hsl0 := srcsTo_len (bsOf fs) 0 (bsOf fs).length
 have hol := orderL_len (bsOf fs)
 obtain ⟨Bnm, hBnm⟩ : ∃ B : Bool, B = decide (nameQ nm) := ⟨_, rfl⟩
 cases Bnm
 have cnm : (decide (nameQ nm)) = false := hBnm.symm
 refine zkp [(1, (pT b1 0)), (3, (pT b20 0))] ?_
 intro aC fr
 refine zdr (N := 106) (env0 := [(1, (pT b1 0)), (3, (pT b20 0))]) (specAt [.det (pT b1 0), .det (.string nm), .det (.bool false), .det (.bool true), .det (.bool true), dU, dU, dU, .det (.bool true), .det (.bool true), dU, dU, dU, .det (.bool true), .det (.bool true), dU, dU, dU, dU, dU, .det (.bool true), .det (.bool true), dU, dU, dU, dU, .det (.bool true), .det (.bool true), dU, dU, dU, dU, dU, dU, dU, dU, .det (.bool true), .det (.bool true), dU, dU, dU, dU, dU, dU, dU, .det (.bool true), .det (.bool true), dU, dU, dU, dU, dU, dU, dU, .det (.bool true)]) fr (la (la (la (la (la (la (la (la (la (la (la (la (la (la (la (la (la (la (la (la (la (la (la (la (la (la (la (la (la (la (la (la (la (la (la (la (la (la (la (la (la (la (la (la (la (la (la (la (la (la (la (la (la (la (la lz dP) (dL ⟨b1, 0, none⟩ (.string nm) fun w_ hK => (blk_cell ((M26.then_ hK).get 0 rfl) rfl))) (dD (fun w_ hK => name_c nm w_) (congrArg Value.bool hBnm.symm))) dP) dP) dK) dK) dK) dP) dP) dK) dK) dK) dP) dP) dK) dK) dK) dK) dK) dP) dP) dK) dK) dK) dK) dP) dP) dK) dK) dK) dK) dK) dK) dK) dK) dP) dP) dK) dK) dK) dK) dK) dK) dK) dP) dP) dK) dK) dK) dK) dK) dK) dK) dP) ?_
 intro aC w31 vs hK hv fr
 revert aC; refine zkp [(1, (pT b1 0)), (3, (pT b20 0)), (74, (.bool true))] ?_
 have M32 := M26.then_ hK
 clear hK hv fr aC M26; clear vs
 refine zcT <| zsp <| zre <| zo1 (.int .i64 4) ?_
 have M33 := M32.od [] 0
 exact ⟨congrArg _ (valid_4 hbig (fun h => absurd h.name (of_decide_eq_false cnm))), M33⟩
 have cnm : (decide (nameQ nm)) = true := hBnm.symm
 obtain ⟨Bp0, hBp0⟩ : ∃ B : Bool, B = decide (pa < 0) := ⟨_, rfl⟩
 cases Bp0
 have cp0 : ¬ (pa < 0) := of_decide_eq_false hBp0.symm
 obtain ⟨Bp16, hBp16⟩ : ∃ B : Bool, B = decide (pa > 16) := ⟨_, rfl⟩
 cases Bp16
 have cp16 : ¬ (pa > 16) := of_decide_eq_false hBp16.symm
 obtain ⟨Bpv, hBpv⟩ : ∃ B : Bool, B = decide (pa > va) := ⟨_, rfl⟩
 cases Bpv
 have cpv : ¬ (pa > va) := of_decide_eq_false hBpv.symm
 obtain ⟨Bl0, hBl0⟩ : ∃ B : Bool, B = ((((bsOf fs).length : Nat) : Int) == 0) := ⟨_, rfl⟩
 cases Bl0
 have cl0 : ¬ ((((bsOf fs).length : Nat) : Int) = 0) := zne hBl0
 obtain ⟨g34, rfl⟩ := row_some (M26.get 2 rfl) (by omega)
 obtain ⟨Bsr, hBsr⟩ : ∃ B : Bool, B = decide ((((srcs (bsOf fs) 0).length : Nat) : Int) > 0) := ⟨_, rfl⟩
 cases Bsr
 have csr : ¬ ((((srcs (bsOf fs) 0).length : Nat) : Int) > 0) := of_decide_eq_false hBsr.symm
 obtain ⟨x0, hx0⟩ := get_of (l := fs) (i := 0) (by omega)
 have hl0 : x0.phis.length ≤ 281474976710656 := (hok.get hx0).lp
 obtain ⟨ad35, rfl⟩ := blocks_some (M26.ro hB) (bsOf_get hx0)
 obtain ⟨Bph, hBph⟩ : ∃ B : Bool, B = decide (((x0.phis.length : Nat) : Int) > 0) := ⟨_, rfl⟩
 cases Bph
 have cph : ¬ (((x0.phis.length : Nat) : Int) > 0) := of_decide_eq_false hBph.symm
 obtain ⟨Bor, hBor⟩ : ∃ B : Bool, B = ((((orderL (bsOf fs)).length : Nat) : Int) != (((bsOf fs).length : Nat) : Int)) := ⟨_, rfl⟩
 refine zkp [(1, (pT b1 0)), (3, (pT b20 0))] ?_
 intro aC fr
 refine zdr (N := 106) (env0 := [(1, (pT b1 0)), (3, (pT b20 0))]) (specAt [.det (pT b1 0), .det (.string nm), .det (.bool true), .det (.bool false), .det (.bool false), .det (pT b1 2), .det (.int .i64 pa), .det (.bool false), .det (.bool false), .det (.bool false), .det (pT b1 2), .det (.int .i64 pa), .det (.bool false), .det (.bool false), .det (.bool false), .det (pT b1 2), .det (.int .i64 pa), .det (pT b1 3), .det (.int .i64 va), .det (.bool false), .det (.bool false), .det (.bool false), .det (pT b1 4), .det (.slice (some ad35) ((bsOf fs).length) c), .det (.int .i64 (((bsOf fs).length : Nat) : Int)), .det (.bool false), .det (.bool false), .det (.bool false), .det (pT b20 0), .det (pT b20 0), .det (pT b20 5), .det (.slice (sM g34) ((bsOf fs).length) c18), .det (.pointer (some ((⟨g34, 0, none⟩ : Addr).add ((0 : Int).toNat * 1)))), .det (.slice A0 ((srcs (bsOf fs) 0).length) c0), .det (.int .i64 (((srcs (bsOf fs) 0).length : Nat) : Int)), .det (.bool false), .det (.bool false), .det (.bool false), .det (pT b1 4), .det (.slice (some ad35) ((bsOf fs).length) c), .det (.pointer (some ((ad35 : Addr).add ((0 : Int).toNat * 6)))), .det (.pointer (some ((ad35 : Addr).add ((0 : Int).toNat * 6)))), .det (.slice x0.pA x0.phis.length x0.pc), .det (.int .i64 ((x0.phis.length : Nat) : Int)), .det (.bool false), .det (.bool false), .det (.bool false), .det (fA nm wk pa va (some ad35) c fs), .sl (orderL (bsOf fs)).length (ints (orderL (bsOf fs))), .det (.int .i64 (((orderL (bsOf fs)).length : Nat) : Int)), .det (pT b1 4), .det (.slice (some ad35) ((bsOf fs).length) c), .det (.int .i64 (((bsOf fs).length : Nat) : Int)), .det (.bool Bor), .det (.bool Bor)]) fr (la (la (la (la (la (la (la (la (la (la (la (la (la (la (la (la (la (la (la (la (la (la (la (la (la (la (la (la (la (la (la (la (la (la (la (la (la (la (la (la (la (la (la (la (la (la (la (la (la (la (la (la (la (la (la lz dP) (dL ⟨b1, 0, none⟩ (.string nm) fun w_ hK => (blk_cell ((M26.then_ hK).get 0 rfl) rfl))) (dD (fun w_ hK => name_c nm w_) (congrArg Value.bool hBnm.symm))) dP) dP) dP) (dL ⟨b1, 2, none⟩ (.int .i64 pa) fun w_ hK => (blk_cell ((M26.then_ hK).get 0 rfl) rfl))) (dC (decide (pa < 0)) hBp0)) dP) dP) dP) (dL ⟨b1, 2, none⟩ (.int .i64 pa) fun w_ hK => (blk_cell ((M26.then_ hK).get 0 rfl) rfl))) (dC (decide (pa > 16)) hBp16)) dP) dP) dP) (dL ⟨b1, 2, none⟩ (.int .i64 pa) fun w_ hK => (blk_cell ((M26.then_ hK).get 0 rfl) rfl))) dP) (dL ⟨b1, 3, none⟩ (.int .i64 va) fun w_ hK => (blk_cell ((M26.then_ hK).get 0 rfl) rfl))) (dC (decide (pa > va)) hBpv)) dP) dP) dP) (dL ⟨b1, 4, none⟩ (.slice (some ad35) ((bsOf fs).length) c) fun w_ hK => (blk_cell ((M26.then_ hK).get 0 rfl) rfl))) dP) (dC ((((bsOf fs).length : Nat) : Int) == 0) hBl0)) dP) dP) dP) dP) dP) (dL ⟨b20, 5, none⟩ (.slice (sM g34) ((bsOf fs).length) c18) fun w_ hK => (blk_cell ((M26.then_ hK).get 3 rfl) rfl))) (dI ⟨g34, 0, none⟩ ((bsOf fs).length) 1 0)) (dL ((⟨g34, 0, none⟩ : Addr).add ((0 : Int).toNat * 1)) (.slice A0 ((srcs (bsOf fs) 0).length) c0) fun w_ hK => (rd_get1 (row_rd ((M26.then_ hK).get 2 rfl)) rfl (slv_get (hr0 (by omega)))))) dP) (dC (decide ((((srcs (bsOf fs) 0).length : Nat) : Int) > 0)) hBsr)) dP) dP) dP) (dL ⟨b1, 4, none⟩ (.slice (some ad35) ((bsOf fs).length) c) fun w_ hK => (blk_cell ((M26.then_ hK).get 0 rfl) rfl))) (dI ad35 ((bsOf fs).length) 6 0)) dP) (dL ((ad35 : Addr).add ((0 : Int).toNat * 6)) (.slice x0.pA x0.phis.length x0.pc) fun w_ hK => (fblk_get ((M26.then_ hK).ro hB) rfl hx0 0 _ rfl))) dP) (dC (decide (((x0.phis.length : Nat) : Int) > 0)) hBph)) dP) dP) (dS ⟨b1, 0, none⟩ (fV nm wk pa va (some ad35) c fs) fun w_ hK => (blk_cells ((M26.then_ hK).get 0 rfl)))) ?_) ?_) dP) (dL ⟨b1, 4, none⟩ (.slice (some ad35) ((bsOf fs).length) c) fun w_ hK => (blk_cell ((M26.then_ hK).get 0 rfl) rfl))) dP) (dC ((((orderL (bsOf fs)).length : Nat) : Int) != (((bsOf fs).length : Nat) : Int)) hBor)) dP) ?_
 intro aa_ w_ vs rest_ hK hp hF
 refine ⟨true, opok_guard (g0 := some (46, false)) (by kernel_rfl) (by kernel_rfl), fun _ => ?_, fun h => Bool.noConfusion h⟩
 replace hF : Fr aa_ 106 [(66, (.bool false)), (67, (fA nm wk pa va (some ad35) c fs))] := hF.kp [66, 67]
 refine From_call (by kernel_rfl : coreAt _ 0 = some (some 68, (.call { callee := (.value (.func 21)), args := #[(.tmp 67)], argTypes := #[24] }), 44, none)) hF (by kernel_rfl) (by kernel_rfl) (k' := 1) rfl (f := 21) (vs := [(fA nm wk pa va (some ad35) c fs)]) (cap := []) (by kernel_rfl) (by kernel_rfl) (by kernel_rfl) (order_c _ _ _ _ (some ad35) c (bsOf fs) w_ hm (hB.at_ (M26.then_ hK))) ?_
 rintro _ w2 ⟨A36, c37, rfl, hm_⟩ a2 ea _
 refine From_end (by kernel_rfl) ?_; exact op_done (d := some 68) (by kernel_rfl) ea hm_.kp ⟨_, _, rfl, row_rd (hm_.get 0 rfl)⟩
 intro aa_ w_ vs rest_ hK hp hF
 refine ⟨true, opok_guard (g0 := some (46, false)) (by kernel_rfl) (by kernel_rfl), fun _ => ?_, fun h => Bool.noConfusion h⟩
 replace hF : Fr aa_ 106 [(66, (.bool false)), (68, vs 48)] := hF.kp [66, 68]
 obtain ⟨A36, c37, e48, r48⟩ := hp 48 (mem_preds (by kernel_rfl))
 rw [e48] at hF
 refine From_pure1 (by kernel_rfl : coreAt _ 0 = some (some 69, (.call { callee := (.builtin .len), args := #[(.tmp 68)], argTypes := #[44] }), 3, none)) hF (by kernel_rfl) (by kernel_rfl) (k' := 1) rfl (v := (.int .i64 (((orderL (bsOf fs)).length : Nat) : Int))) (by kernel_rfl) ?_
 intro a2 ea _
 refine From_end (by kernel_rfl) ?_; exact op_done (d := some 69) (by kernel_rfl) ea (Kp.refl _) rfl
 intro aC w42 vs hK hv fr
 revert aC; refine zkp [(1, (pT b1 0)), (3, (pT b20 0)), (74, (.bool Bor))] ?_
 have M43 := M26.then_ hK
 clear hK hv fr aC M26; clear vs
 have iBor : Bor = true ↔ (((((orderL (bsOf fs)).length : Nat) : Int) : Int) ≠ (((bsOf fs).length : Nat) : Int)) := by rw [hBor]; simp only [bne_iff_ne]
 clear hBor
 refine zcP Bor (((((orderL (bsOf fs)).length : Nat) : Int) : Int) ≠ (((bsOf fs).length : Nat) : Int)) iBor (fun c44 => ?_) (fun c44 => ?_)
 refine zsp <| zre <| zo1 (.int .i64 4) ?_
 have M45 := M43.od [] 0
 exact ⟨congrArg _ (valid_4 hbig (fun h => by have := h.all; omega)), M45⟩
 refine zsk <| zsq <| zsr ?_
 have hnmQ : nameQ nm := of_decide_eq_true cnm
 have hpos : 0 < fs.length := by omega
 have hparQ : 0 ≤ pa ∧ pa ≤ 16 ∧ pa ≤ va := by omega
 have hsrc0 : (srcs (bsOf fs) 0).length = 0 := by omega
 have hph0 : x0.phis.length = 0 := by omega
 have hord : (orderL (bsOf fs)).length = fs.length := by omega
 obtain ⟨n, hva⟩ : ∃ n : Nat, va = (n : Int) := ⟨va.toNat, by omega⟩
 have M46 := M43.od [3, 3, 3, 3] 4
 refine zpn 1 <| zld ⟨b1, 4, none⟩ (.slice (some ad35) ((bsOf fs).length) c) (blk_cell (M46.get 0 rfl) rfl) <| zpn 2 <| zfe <| zbk 0 ?_
 intro aC fr
 refine zlp (fun n_ a_ w_ => ∃ (m : Nat), n_ = fs.length - m ∧ Fr a_ 106 [(1, (pT b1 0)), (3, (pT b20 0)), (76, (.slice (some ad35) ((bsOf fs).length) c)), (77, (.int .i64 (((bsOf fs).length : Nat) : Int))), (78, (nV m))] ∧ Mem noS w w_ [.blk b1 24 (fV nm wk pa va (some ad35) c fs), .fam 3 rows19, .row 44 1 (sM g34) ((bsOf fs).length) c18 (slv rows19), .blk b20 57 [(.string nm), (.bool wk), (.int .i64 pa), (.int .i64 va), (.slice (some ad35) ((bsOf fs).length) c), (.slice (sM g34) ((bsOf fs).length) c18), (.pointer none), (.slice none 0 0)]] ∧ (m ≤ fs.length) ∧ (∀ (i : Nat) (x : FBlk), i < m → fs[i]? = some x → endsS ((bsOf fs).length : Int) x)) (n := _) ⟨0, rfl, fr.kp [1, 3, 76, 77, 78], M46, by omega, fun _ _ h => absurd h (Nat.not_lt_zero _)⟩ ?_
 clear fr aC M46; rintro n aC w49 ⟨m, rfl, fr, M50, hm1, hen⟩
 revert aC
 refine zsp <| zsq <| zcD (((m : Int) : Int) < (((bsOf fs).length : Nat) : Int)) (fun c53 => ?_) (fun c53 => ?_)
 refine zsk <| zsq <| zbk 1 <| zsr ?_
 obtain ⟨x, hx⟩ := get_of (l := fs) (i := m) (by omega)
 have hl1 : x.phis.length ≤ 281474976710656 := (hok.get hx).lp
 have hl2 : x.insts.length ≤ 281474976710656 := (hok.get hx).li
 refine zix ad35 ((bsOf fs).length) 6 (m : Int) <| zls ((ad35 : Addr).add (((m : Int)).toNat * 6)) (xV x) (fblk_get (M50.ro hB) rfl hx) <| zal M50 43 [(.slice none 0 0), (.slice none 0 0), (.int .i64 0), (.int .i64 0), (.int .i64 0), (.int .i64 0)] fun b54 w55 hb54 M56 => ?_
 replace M56 := M56.nf
 refine zss M56 4 (xV x) rfl fun w57 M58 => ?_
 replace M58 := M58.nf
 refine zfe <| zsr <| zpn 1 <| zls ⟨b54, 0, none⟩ (xV x) (blk_cells (M58.get 4 rfl)) <| zcl (vs := #[(pT b20 0), (xA x)]) (ends_c b20 (bsOf fs).length _ _ _ _ _ _ _ _ _ x w57 (M58.own_ro 3 rfl)) ?_
 rintro _ w59 ⟨rfl, M60x⟩
 have M60 := M58.cl M60x
 refine zpn 1 <| zfe <| zcP (!(decide (endsS ((bsOf fs).length : Int) x))) (¬ (endsS ((bsOf fs).length : Int) x)) (by simp only [notT, decide_eq_true_eq]) (fun c61 => ?_) (fun c61 => ?_)
 refine zsp <| zre <| zbr <| zbr <| zo1 (.int .i64 4) ?_
 have M62 := M60.od [] 0
 exact ⟨congrArg _ (valid_4 hbig (fun h => c61 (by rw [hbl]; exact ends_sr h x (List.mem_of_getElem? hx)))), M62⟩
 have heq := Classical.not_not.1 c61
 refine zsk <| zrg <| zar ((m : Int) + 1) <| zpn 1 <| zfe ?_
 intro aC fr
 exact ⟨fs.length - (m + 1), by omega, m + 1, rfl, fr.kp [1, 3, 76, 77, 78], (M60.tk 4), by omega, ends_next hen hx heq⟩
 refine zex 0 <| zbh <| zsq <| zsr <| zpn 1 <| zcl (values_c b20 n (.string nm) (.bool wk) pa va (.slice (sM g34) ((bsOf fs).length) c18) (.pointer none) (.slice none 0 0) (some ad35) c fs w49 hN hok hva (by omega) (by omega) (hA.but M50 3 rfl) (M50.get 3 rfl)) ?_
 rintro _ w65 ⟨Bv, gm, l, rfl, hBv, htab, M66x⟩
 have M66 := M50.md 3 rfl M66x
 refine zpn 1 <| zfe <| zcP (!Bv) (¬ (Bv = true)) (by simp only [notT]) (fun c67 => ?_) (fun c67 => ?_)
 replace c67 : Bv = false := Bool.eq_false_iff.2 c67
 refine zsp <| zre <| zo1 (.int .i64 4) ?_
 have M68 := M66.od [] 0
 exact ⟨congrArg _ (valid_4 hbig (fun h => Bool.false_ne_true (c67.symm.trans (hBv.2 h.vals)))), M68⟩
 replace c67 : Bv = true := Classical.not_not.1 c67
 have hvq := hBv.1 c67
 refine zsk <| zsr <| zpn 1 <| zls ⟨b1, 0, none⟩ (fV nm wk pa va (some ad35) c fs) (blk_cells (M66.get 0 rfl)) <| zcl (vs := #[(fA nm wk pa va (some ad35) c fs)]) (newtree_c _ _ _ _ (some ad35) c (bsOf fs) w65 hm (hB.at_ M66) (by omega)) ?_
 rintro _ w69 ⟨up, qt, gi, go, nT, insL, outL, f, g, rfl, hfu, hfin, hin, hout, M70x⟩
 have M70 := M66.cl M70x
 refine zpn 2 <| zsb (ho := (by simp)) M70 3 6 (pT qt 0) rfl fun w71 M72 => ?_
 replace M72 := M72.nf
 refine zfe <| zsq <| zsr ?_
 have hag := agree_ssa hpos hord hfu hfin (by omega)
 refine zpn 1 <| zld ⟨b1, 4, none⟩ (.slice (some ad35) ((bsOf fs).length) c) (blk_cell (M72.get 0 rfl) rfl) <| zpn 2 <| zfe <| zbk 2 ?_
 intro aC fr
 refine zlp (fun n_ a_ w_ => ∃ (k : Nat), n_ = fs.length - k ∧ Fr a_ 106 [(3, (pT b20 0)), (97, (.int .i64 (((bsOf fs).length : Nat) : Int))), (98, (nV k))] ∧ Mem noS w w_ [.blk b1 24 (fV nm wk pa va (some ad35) c fs), .fam 3 rows19, .row 44 1 (sM g34) ((bsOf fs).length) c18 (slv rows19), .blk b20 57 [(.string nm), (.bool wk), (.int .i64 pa), (.int .i64 va), (.slice (some ad35) ((bsOf fs).length) c), (.slice (sM g34) ((bsOf fs).length) c18), (pT qt 0), (.slice (sM gm) n n)], .row 107 2 (sM gm) n n (mdc l), .blk qt 112 [(.slice (sM gi) ((bsOf fs).length) ((bsOf fs).length)), (.slice (sM go) ((bsOf fs).length) ((bsOf fs).length))], .row 3 1 (sM gi) ((bsOf fs).length) ((bsOf fs).length) (ints insL), .row 3 1 (sM go) ((bsOf fs).length) ((bsOf fs).length) (ints outL)] ∧ (k ≤ fs.length) ∧ (∀ j, j < k → readsQ (standQ f g) (endS fs) finS pa va fs j)) (n := _) ⟨0, rfl, fr.kp [3, 97, 98], M72, by omega, fun _ h => absurd h (Nat.not_lt_zero _)⟩ ?_
 clear fr aC M72; rintro n aC w75 ⟨k, rfl, fr, M76, hk, hrd⟩
 revert aC
 refine zsp <| zsq <| zcD (((k : Int) : Int) < (((bsOf fs).length : Nat) : Int)) (fun c79 => ?_) (fun c79 => ?_)
 refine zsk <| zsq <| zbk 3 <| zsp <| zsr <| zpn 2 <| zcl (reads_c b20 gm qt gi go g34 n k c18 (.string nm) (.bool wk) pa va ad35 c fs l insL outL f g rows19 w75 hN (by omega) hok (hA.at_ M76) (M76.own_ro 3 rfl) (M76.own_ro 4 rfl) (M76.own_ro 5 rfl) (M76.own_ro 6 rfl) (M76.own_ro 7 rfl) hin hout (M76.own_ro 1 rfl) (M76.own_ro 2 rfl) hfrows19 hva (htab hvq)) ?_
 rintro _ w80 ⟨rfl, M81x⟩
 have M81 := M76.cl M81x
 refine zpn 1 <| zfe <| zcP (!(decide (readsQ (standQ f g) (endS fs) finS pa va fs k))) (¬ (readsQ (standQ f g) (endS fs) finS pa va fs k)) (by simp only [notT, decide_eq_true_eq]) (fun c82 => ?_) (fun c82 => ?_)
 refine zsp <| zre <| zbr <| zbr <| zo1 (.int .i64 4) ?_
 have M83 := M81.od [] 0
 exact ⟨congrArg _ (valid_4 hbig (fun h => c82 (hag.symm.readsQ (fun x hx hR => (fin_sr (hen _ x (by have := (List.getElem?_eq_some_iff.1 hx).1; omega) hx)).2 hR) (h.reads k (by omega))))), M83⟩
 have hrq := Classical.not_not.1 c82
 refine zsk <| zrg <| zar ((k : Int) + 1) <| zpn 1 <| zfe ?_
 intro aC fr
 exact ⟨fs.length - (k + 1), by omega, k + 1, rfl, fr.kp [3, 97, 98], M81, by omega, lt_succ_cases hrd hrq⟩
 refine zex 2 <| zbh <| zsp <| zre <| zo1 (.int .i64 0) ?_
 have M86 := M76.od [] 0
 exact ⟨congrArg _ (valid_0 hbig ⟨hnmQ, hparQ, hpos, fun x hx => by rw [hx0] at hx; injection hx with hx; subst hx; exact hph0, hsrc0, hord, fun x hx => by obtain ⟨i, hi⟩ := List.mem_iff_getElem?.1 hx; have := (hen i x (by have := (List.getElem?_eq_some_iff.1 hi).1; omega) hi).1; rwa [hbl] at this, hvq, fun j hj => hag.readsQ (fun x hx hR => (fin_sr (hen _ x (by have := (List.getElem?_eq_some_iff.1 hx).1; omega) hx)).1 hR) (hrd j (by omega))⟩), M86⟩
 have cph : ((x0.phis.length : Nat) : Int) > 0 := of_decide_eq_true hBph.symm
 refine zkp [(1, (pT b1 0)), (3, (pT b20 0))] ?_
 intro aC fr
 refine zdr (N := 106) (env0 := [(1, (pT b1 0)), (3, (pT b20 0))]) (specAt [.det (pT b1 0), .det (.string nm), .det (.bool true), .det (.bool false), .det (.bool false), .det (pT b1 2), .det (.int .i64 pa), .det (.bool false), .det (.bool false), .det (.bool false), .det (pT b1 2), .det (.int .i64 pa), .det (.bool false), .det (.bool false), .det (.bool false), .det (pT b1 2), .det (.int .i64 pa), .det (pT b1 3), .det (.int .i64 va), .det (.bool false), .det (.bool false), .det (.bool false), .det (pT b1 4), .det (.slice (some ad35) ((bsOf fs).length) c), .det (.int .i64 (((bsOf fs).length : Nat) : Int)), .det (.bool false), .det (.bool false), .det (.bool false), .det (pT b20 0), .det (pT b20 0), .det (pT b20 5), .det (.slice (sM g34) ((bsOf fs).length) c18), .det (.pointer (some ((⟨g34, 0, none⟩ : Addr).add ((0 : Int).toNat * 1)))), .det (.slice A0 ((srcs (bsOf fs) 0).length) c0), .det (.int .i64 (((srcs (bsOf fs) 0).length : Nat) : Int)), .det (.bool false), .det (.bool false), .det (.bool false), .det (pT b1 4), .det (.slice (some ad35) ((bsOf fs).length) c), .det (.pointer (some ((ad35 : Addr).add ((0 : Int).toNat * 6)))), .det (.pointer (some ((ad35 : Addr).add ((0 : Int).toNat * 6)))), .det (.slice x0.pA x0.phis.length x0.pc), .det (.int .i64 ((x0.phis.length : Nat) : Int)), .det (.bool true), .det (.bool true), .det (.bool true), dU, dU, dU, dU, dU, dU, dU, .det (.bool true)]) fr (la (la (la (la (la (la (la (la (la (la (la (la (la (la (la (la (la (la (la (la (la (la (la (la (la (la (la (la (la (la (la (la (la (la (la (la (la (la (la (la (la (la (la (la (la (la (la (la (la (la (la (la (la (la (la lz dP) (dL ⟨b1, 0, none⟩ (.string nm) fun w_ hK => (blk_cell ((M26.then_ hK).get 0 rfl) rfl))) (dD (fun w_ hK => name_c nm w_) (congrArg Value.bool hBnm.symm))) dP) dP) dP) (dL ⟨b1, 2, none⟩ (.int .i64 pa) fun w_ hK => (blk_cell ((M26.then_ hK).get 0 rfl) rfl))) (dC (decide (pa < 0)) hBp0)) dP) dP) dP) (dL ⟨b1, 2, none⟩ (.int .i64 pa) fun w_ hK => (blk_cell ((M26.then_ hK).get 0 rfl) rfl))) (dC (decide (pa > 16)) hBp16)) dP) dP) dP) (dL ⟨b1, 2, none⟩ (.int .i64 pa) fun w_ hK => (blk_cell ((M26.then_ hK).get 0 rfl) rfl))) dP) (dL ⟨b1, 3, none⟩ (.int .i64 va) fun w_ hK => (blk_cell ((M26.then_ hK).get 0 rfl) rfl))) (dC (decide (pa > va)) hBpv)) dP) dP) dP) (dL ⟨b1, 4, none⟩ (.slice (some ad35) ((bsOf fs).length) c) fun w_ hK => (blk_cell ((M26.then_ hK).get 0 rfl) rfl))) dP) (dC ((((bsOf fs).length : Nat) : Int) == 0) hBl0)) dP) dP) dP) dP) dP) (dL ⟨b20, 5, none⟩ (.slice (sM g34) ((bsOf fs).length) c18) fun w_ hK => (blk_cell ((M26.then_ hK).get 3 rfl) rfl))) (dI ⟨g34, 0, none⟩ ((bsOf fs).length) 1 0)) (dL ((⟨g34, 0, none⟩ : Addr).add ((0 : Int).toNat * 1)) (.slice A0 ((srcs (bsOf fs) 0).length) c0) fun w_ hK => (rd_get1 (row_rd ((M26.then_ hK).get 2 rfl)) rfl (slv_get (hr0 (by omega)))))) dP) (dC (decide ((((srcs (bsOf fs) 0).length : Nat) : Int) > 0)) hBsr)) dP) dP) dP) (dL ⟨b1, 4, none⟩ (.slice (some ad35) ((bsOf fs).length) c) fun w_ hK => (blk_cell ((M26.then_ hK).get 0 rfl) rfl))) (dI ad35 ((bsOf fs).length) 6 0)) dP) (dL ((ad35 : Addr).add ((0 : Int).toNat * 6)) (.slice x0.pA x0.phis.length x0.pc) fun w_ hK => (fblk_get ((M26.then_ hK).ro hB) rfl hx0 0 _ rfl))) dP) (dC (decide (((x0.phis.length : Nat) : Int) > 0)) hBph)) dP) dP) dK) dK) dK) dK) dK) dK) dK) dP) ?_
 intro aC w91 vs hK hv fr
 revert aC; refine zkp [(1, (pT b1 0)), (3, (pT b20 0)), (74, (.bool true))] ?_
 have M92 := M26.then_ hK
 clear hK hv fr aC M26; clear vs
 refine zcT <| zsp <| zre <| zo1 (.int .i64 4) ?_
 have M93 := M92.od [] 0
 exact ⟨congrArg _ (valid_4 hbig (fun h => by have := h.phis x0 hx0; omega)), M93⟩
 have csr : (((srcs (bsOf fs) 0).length : Nat) : Int) > 0 := of_decide_eq_true hBsr.symm
 refine zkp [(1, (pT b1 0)), (3, (pT b20 0))] ?_
 intro aC fr
 refine zdr (N := 106) (env0 := [(1, (pT b1 0)), (3, (pT b20 0))]) (specAt [.det (pT b1 0), .det (.string nm), .det (.bool true), .det (.bool false), .det (.bool false), .det (pT b1 2), .det (.int .i64 pa), .det (.bool false), .det (.bool false), .det (.bool false), .det (pT b1 2), .det (.int .i64 pa), .det (.bool false), .det (.bool false), .det (.bool false), .det (pT b1 2), .det (.int .i64 pa), .det (pT b1 3), .det (.int .i64 va), .det (.bool false), .det (.bool false), .det (.bool false), .det (pT b1 4), .det (.slice A ((bsOf fs).length) c), .det (.int .i64 (((bsOf fs).length : Nat) : Int)), .det (.bool false), .det (.bool false), .det (.bool false), .det (pT b20 0), .det (pT b20 0), .det (pT b20 5), .det (.slice (sM g34) ((bsOf fs).length) c18), .det (.pointer (some ((⟨g34, 0, none⟩ : Addr).add ((0 : Int).toNat * 1)))), .det (.slice A0 ((srcs (bsOf fs) 0).length) c0), .det (.int .i64 (((srcs (bsOf fs) 0).length : Nat) : Int)), .det (.bool true), .det (.bool true), .det (.bool true), dU, dU, dU, dU, dU, dU, dU, .det (.bool true), .det (.bool true), dU, dU, dU, dU, dU, dU, dU, .det (.bool true)]) fr (la (la (la (la (la (la (la (la (la (la (la (la (la (la (la (la (la (la (la (la (la (la (la (la (la (la (la (la (la (la (la (la (la (la (la (la (la (la (la (la (la (la (la (la (la (la (la (la (la (la (la (la (la (la (la lz dP) (dL ⟨b1, 0, none⟩ (.string nm) fun w_ hK => (blk_cell ((M26.then_ hK).get 0 rfl) rfl))) (dD (fun w_ hK => name_c nm w_) (congrArg Value.bool hBnm.symm))) dP) dP) dP) (dL ⟨b1, 2, none⟩ (.int .i64 pa) fun w_ hK => (blk_cell ((M26.then_ hK).get 0 rfl) rfl))) (dC (decide (pa < 0)) hBp0)) dP) dP) dP) (dL ⟨b1, 2, none⟩ (.int .i64 pa) fun w_ hK => (blk_cell ((M26.then_ hK).get 0 rfl) rfl))) (dC (decide (pa > 16)) hBp16)) dP) dP) dP) (dL ⟨b1, 2, none⟩ (.int .i64 pa) fun w_ hK => (blk_cell ((M26.then_ hK).get 0 rfl) rfl))) dP) (dL ⟨b1, 3, none⟩ (.int .i64 va) fun w_ hK => (blk_cell ((M26.then_ hK).get 0 rfl) rfl))) (dC (decide (pa > va)) hBpv)) dP) dP) dP) (dL ⟨b1, 4, none⟩ (.slice A ((bsOf fs).length) c) fun w_ hK => (blk_cell ((M26.then_ hK).get 0 rfl) rfl))) dP) (dC ((((bsOf fs).length : Nat) : Int) == 0) hBl0)) dP) dP) dP) dP) dP) (dL ⟨b20, 5, none⟩ (.slice (sM g34) ((bsOf fs).length) c18) fun w_ hK => (blk_cell ((M26.then_ hK).get 3 rfl) rfl))) (dI ⟨g34, 0, none⟩ ((bsOf fs).length) 1 0)) (dL ((⟨g34, 0, none⟩ : Addr).add ((0 : Int).toNat * 1)) (.slice A0 ((srcs (bsOf fs) 0).length) c0) fun w_ hK => (rd_get1 (row_rd ((M26.then_ hK).get 2 rfl)) rfl (slv_get (hr0 (by omega)))))) dP) (dC (decide ((((srcs (bsOf fs) 0).length : Nat) : Int) > 0)) hBsr)) dP) dP) dK) dK) dK) dK) dK) dK) dK) dP) dP) dK) dK) dK) dK) dK) dK) dK) dP) ?_
 intro aC w98 vs hK hv fr
 revert aC; refine zkp [(1, (pT b1 0)), (3, (pT b20 0)), (74, (.bool true))] ?_
 have M99 := M26.then_ hK
 clear hK hv fr aC M26; clear vs
 refine zcT <| zsp <| zre <| zo1 (.int .i64 4) ?_
 have M100 := M99.od [] 0
 exact ⟨congrArg _ (valid_4 hbig (fun h => by have := h.src; omega)), M100⟩
 have cl0 : (((bsOf fs).length : Nat) : Int) = 0 := beq_iff_eq.1 hBl0.symm
 refine zkp [(1, (pT b1 0)), (3, (pT b20 0))] ?_
 intro aC fr
 refine zdr (N := 106) (env0 := [(1, (pT b1 0)), (3, (pT b20 0))]) (specAt [.det (pT b1 0), .det (.string nm), .det (.bool true), .det (.bool false), .det (.bool false), .det (pT b1 2), .det (.int .i64 pa), .det (.bool false), .det (.bool false), .det (.bool false), .det (pT b1 2), .det (.int .i64 pa), .det (.bool false), .det (.bool false), .det (.bool false), .det (pT b1 2), .det (.int .i64 pa), .det (pT b1 3), .det (.int .i64 va), .det (.bool false), .det (.bool false), .det (.bool false), .det (pT b1 4), .det (.slice A ((bsOf fs).length) c), .det (.int .i64 (((bsOf fs).length : Nat) : Int)), .det (.bool true), .det (.bool true), .det (.bool true), dU, dU, dU, dU, dU, dU, dU, dU, .det (.bool true), .det (.bool true), dU, dU, dU, dU, dU, dU, dU, .det (.bool true), .det (.bool true), dU, dU, dU, dU, dU, dU, dU, .det (.bool true)]) fr (la (la (la (la (la (la (la (la (la (la (la (la (la (la (la (la (la (la (la (la (la (la (la (la (la (la (la (la (la (la (la (la (la (la (la (la (la (la (la (la (la (la (la (la (la (la (la (la (la (la (la (la (la (la (la lz dP) (dL ⟨b1, 0, none⟩ (.string nm) fun w_ hK => (blk_cell ((M26.then_ hK).get 0 rfl) rfl))) (dD (fun w_ hK => name_c nm w_) (congrArg Value.bool hBnm.symm))) dP) dP) dP) (dL ⟨b1, 2, none⟩ (.int .i64 pa) fun w_ hK => (blk_cell ((M26.then_ hK).get 0 rfl) rfl))) (dC (decide (pa < 0)) hBp0)) dP) dP) dP) (dL ⟨b1, 2, none⟩ (.int .i64 pa) fun w_ hK => (blk_cell ((M26.then_ hK).get 0 rfl) rfl))) (dC (decide (pa > 16)) hBp16)) dP) dP) dP) (dL ⟨b1, 2, none⟩ (.int .i64 pa) fun w_ hK => (blk_cell ((M26.then_ hK).get 0 rfl) rfl))) dP) (dL ⟨b1, 3, none⟩ (.int .i64 va) fun w_ hK => (blk_cell ((M26.then_ hK).get 0 rfl) rfl))) (dC (decide (pa > va)) hBpv)) dP) dP) dP) (dL ⟨b1, 4, none⟩ (.slice A ((bsOf fs).length) c) fun w_ hK => (blk_cell ((M26.then_ hK).get 0 rfl) rfl))) dP) (dC ((((bsOf fs).length : Nat) : Int) == 0) hBl0)) dP) dP) dK) dK) dK) dK) dK) dK) dK) dK) dP) dP) dK) dK) dK) dK) dK) dK) dK) dP) dP) dK) dK) dK) dK) dK) dK) dK) dP) ?_
 intro aC w105 vs hK hv fr
 revert aC; refine zkp [(1, (pT b1 0)), (3, (pT b20 0)), (74, (.bool true))] ?_
 have M106 := M26.then_ hK
 clear hK hv fr aC M26; clear vs
 refine zcT <| zsp <| zre <| zo1 (.int .i64 4) ?_
 have M107 := M106.od [] 0
 exact ⟨congrArg _ (valid_4 hbig (fun h => by have := h.pos; omega)), M107⟩
 have cpv : pa > va := of_decide_eq_true hBpv.symm
 refine zkp [(1, (pT b1 0)), (3, (pT b20 0))] ?_
 intro aC fr
 refine zdr (N := 106) (env0 := [(1, (pT b1 0)), (3, (pT b20 0))]) (specAt [.det (pT b1 0), .det (.string nm), .det (.bool true), .det (.bool false), .det (.bool false), .det (pT b1 2), .det (.int .i64 pa), .det (.bool false), .det (.bool false), .det (.bool false), .det (pT b1 2), .det (.int .i64 pa), .det (.bool false), .det (.bool false), .det (.bool false), .det (pT b1 2), .det (.int .i64 pa), .det (pT b1 3), .det (.int .i64 va), .det (.bool true), .det (.bool true), .det (.bool true), dU, dU, dU, dU, .det (.bool true), .det (.bool true), dU, dU, dU, dU, dU, dU, dU, dU, .det (.bool true), .det (.bool true), dU, dU, dU, dU, dU, dU, dU, .det (.bool true), .det (.bool true), dU, dU, dU, dU, dU, dU, dU, .det (.bool true)]) fr (la (la (la (la (la (la (la (la (la (la (la (la (la (la (la (la (la (la (la (la (la (la (la (la (la (la (la (la (la (la (la (la (la (la (la (la (la (la (la (la (la (la (la (la (la (la (la (la (la (la (la (la (la (la (la lz dP) (dL ⟨b1, 0, none⟩ (.string nm) fun w_ hK => (blk_cell ((M26.then_ hK).get 0 rfl) rfl))) (dD (fun w_ hK => name_c nm w_) (congrArg Value.bool hBnm.symm))) dP) dP) dP) (dL ⟨b1, 2, none⟩ (.int .i64 pa) fun w_ hK => (blk_cell ((M26.then_ hK).get 0 rfl) rfl))) (dC (decide (pa < 0)) hBp0)) dP) dP) dP) (dL ⟨b1, 2, none⟩ (.int .i64 pa) fun w_ hK => (blk_cell ((M26.then_ hK).get 0 rfl) rfl))) (dC (decide (pa > 16)) hBp16)) dP) dP) dP) (dL ⟨b1, 2, none⟩ (.int .i64 pa) fun w_ hK => (blk_cell ((M26.then_ hK).get 0 rfl) rfl))) dP) (dL ⟨b1, 3, none⟩ (.int .i64 va) fun w_ hK => (blk_cell ((M26.then_ hK).get 0 rfl) rfl))) (dC (decide (pa > va)) hBpv)) dP) dP) dK) dK) dK) dK) dP) dP) dK) dK) dK) dK) dK) dK) dK) dK) dP) dP) dK) dK) dK) dK) dK) dK) dK) dP) dP) dK) dK) dK) dK) dK) dK) dK) dP) ?_
 intro aC w112 vs hK hv fr
 revert aC; refine zkp [(1, (pT b1 0)), (3, (pT b20 0)), (74, (.bool true))] ?_
 have M113 := M26.then_ hK
 clear hK hv fr aC M26; clear vs
 refine zcT <| zsp <| zre <| zo1 (.int .i64 4) ?_
 have M114 := M113.od [] 0
 exact ⟨congrArg _ (valid_4 hbig (fun h => by have := h.par; omega)), M114⟩
 have cp16 : pa > 16 := of_decide_eq_true hBp16.symm
 refine zkp [(1, (pT b1 0)), (3, (pT b20 0))] ?_
 intro aC fr
 refine zdr (N := 106) (env0 := [(1, (pT b1 0)), (3, (pT b20 0))]) (specAt [.det (pT b1 0), .det (.string nm), .det (.bool true), .det (.bool false), .det (.bool false), .det (pT b1 2), .det (.int .i64 pa), .det (.bool false), .det (.bool false), .det (.bool false), .det (pT b1 2), .det (.int .i64 pa), .det (.bool true), .det (.bool true), .det (.bool true), dU, dU, dU, dU, dU, .det (.bool true), .det (.bool true), dU, dU, dU, dU, .det (.bool true), .det (.bool true), dU, dU, dU, dU, dU, dU, dU, dU, .det (.bool true), .det (.bool true), dU, dU, dU, dU, dU, dU, dU, .det (.bool true), .det (.bool true), dU, dU, dU, dU, dU, dU, dU, .det (.bool true)]) fr (la (la (la (la (la (la (la (la (la (la (la (la (la (la (la (la (la (la (la (la (la (la (la (la (la (la (la (la (la (la (la (la (la (la (la (la (la (la (la (la (la (la (la (la (la (la (la (la (la (la (la (la (la (la (la lz dP) (dL ⟨b1, 0, none⟩ (.string nm) fun w_ hK => (blk_cell ((M26.then_ hK).get 0 rfl) rfl))) (dD (fun w_ hK => name_c nm w_) (congrArg Value.bool hBnm.symm))) dP) dP) dP) (dL ⟨b1, 2, none⟩ (.int .i64 pa) fun w_ hK => (blk_cell ((M26.then_ hK).get 0 rfl) rfl))) (dC (decide (pa < 0)) hBp0)) dP) dP) dP) (dL ⟨b1, 2, none⟩ (.int .i64 pa) fun w_ hK => (blk_cell ((M26.then_ hK).get 0 rfl) rfl))) (dC (decide (pa > 16)) hBp16)) dP) dP) dK) dK) dK) dK) dK) dP) dP) dK) dK) dK) dK) dP) dP) dK) dK) dK) dK) dK) dK) dK) dK) dP) dP) dK) dK) dK) dK) dK) dK) dK) dP) dP) dK) dK) dK) dK) dK) dK) dK) dP) ?_
 intro aC w119 vs hK hv fr
 revert aC; refine zkp [(1, (pT b1 0)), (3, (pT b20 0)), (74, (.bool true))] ?_
 have M120 := M26.then_ hK
 clear hK hv fr aC M26; clear vs
 refine zcT <| zsp <| zre <| zo1 (.int .i64 4) ?_
 have M121 := M120.od [] 0
 exact ⟨congrArg _ (valid_4 hbig (fun h => by have := h.par; omega)), M121⟩
 have cp0 : pa < 0 := of_decide_eq_true hBp0.symm
 refine zkp [(1, (pT b1 0)), (3, (pT b20 0))] ?_
 intro aC fr
 refine zdr (N := 106) (env0 := [(1, (pT b1 0)), (3, (pT b20 0))]) (specAt [.det (pT b1 0), .det (.string nm), .det (.bool true), .det (.bool false), .det (.bool false), .det (pT b1 2), .det (.int .i64 pa), .det (.bool true), .det (.bool true), .det (.bool true), dU, dU, dU, .det (.bool true), .det (.bool true), dU, dU, dU, dU, dU, .det (.bool true), .det (.bool true), dU, dU, dU, dU, .det (.bool true), .det (.bool true), dU, dU, dU, dU, dU, dU, dU, dU, .det (.bool true), .det (.bool true), dU, dU, dU, dU, dU, dU, dU, .det (.bool true), .det (.bool true), dU, dU, dU, dU, dU, dU, dU, .det (.bool true)]) fr (la (la (la (la (la (la (la (la (la (la (la (la (la (la (la (la (la (la (la (la (la (la (la (la (la (la (la (la (la (la (la (la (la (la (la (la (la (la (la (la (la (la (la (la (la (la (la (la (la (la (la (la (la (la (la lz dP) (dL ⟨b1, 0, none⟩ (.string nm) fun w_ hK => (blk_cell ((M26.then_ hK).get 0 rfl) rfl))) (dD (fun w_ hK => name_c nm w_) (congrArg Value.bool hBnm.symm))) dP) dP) dP) (dL ⟨b1, 2, none⟩ (.int .i64 pa) fun w_ hK => (blk_cell ((M26.then_ hK).get 0 rfl) rfl))) (dC (decide (pa < 0)) hBp0)) dP) dP) dK) dK) dK) dP) dP) dK) dK) dK) dK) dK) dP) dP) dK) dK) dK) dK) dP) dP) dK) dK) dK) dK) dK) dK) dK) dK) dP) dP) dK) dK) dK) dK) dK) dK) dK) dP) dP) dK) dK) dK) dK) dK) dK) dK) dP) ?_
 intro aC w126 vs hK hv fr
 revert aC; refine zkp [(1, (pT b1 0)), (3, (pT b20 0)), (74, (.bool true))] ?_
 have M127 := M26.then_ hK
 clear hK hv fr aC M26; clear vs
 refine zcT <| zsp <| zre <| zo1 (.int .i64 4) ?_
 have M128 := M127.od [] 0
 exact ⟨congrArg _ (valid_4 hbig (fun h => by have := h.par; omega)), M128⟩
end Go.Proofs.Ytjekgaabcigphaa
namespace Go.Proofs.Ytjekgaabcigphaa
open Go.Mor
theorem countF_e (cs l : List FFn) (A : Option Addr) (c : Nat) (w : World) (hm : l.length ≤ 1000) (hl : RO noS w (.rds A 5 (l.map FFn.cells))) (hcs : cs = chosenF l) :
    Calls Try.prog 47 #[.slice A l.length c, .func (.func 48) #[] #[]] w (Ret fun v w' => ∃ A' c', v = .slice A' cs.length c' ∧ Mem noS w w' [.row 24 5 A' cs.length c' (cs.flatMap FFn.cells)]) := by
  subst hcs
  exact countF_c l A c w hm hl
set_option maxHeartbeats 2000000 in
theorem run_c (fs : List FFn) (fA : Option Addr) (fc : Nat) (bg : List ByteArray) (gA : Option Addr) (gc : Nat) (mem : Int) (inp : List Int) (iA : Option Addr) (ic : Nat) (fuel : Int) (w : World) (hI : RunIn w fs fA bg gA inp iA ic) :
    Calls Try.prog 16 #[(.slice fA fs.length fc), (.slice none 0 0), (.slice gA bg.length gc), (.int .i64 mem), (.slice iA inp.length ic), (.int .i64 fuel)] w (Ret fun v w' => ∃ oA oc, v = outV (runO fs [] bg mem inp fuel) oA oc ∧ Mem noS w w' [.row 5 1 oA (runO fs [] bg mem inp fuel).2.2.1.length oc (u8s (runO fs [] bg mem inp fuel).2.2.1)]) := by
 have hI1 := hI.len
 have hI2 := hI.glen
 refine zen 180 [(.slice fA fs.length fc), (.slice none 0 0), (.slice gA bg.length gc), (.int .i64 mem), (.slice iA inp.length ic), (.int .i64 fuel)] Try.func16 ?_
 have hM := Mem.init w
 refine zsr <| zal hM 36 [(.int .i64 0), (.int .i64 0), (.slice none 0 0), (.int .i64 0)] fun b1 w2 hb1 M3 => ?_
 replace M3 := M3.nf
 clear hM
 refine zfe <| zsr <| zpn 3 ?_
 obtain ⟨B4, hB4⟩ : ∃ B : Bool, B = decide ((mem : Int) < 1) := ⟨_, rfl⟩
 refine zkp [(0, (.slice fA fs.length fc)), (1, (.slice none 0 0)), (2, (.slice gA bg.length gc)), (3, (.int .i64 mem)), (4, (.slice iA inp.length ic)), (5, (.int .i64 fuel)), (12, (pT b1 0)), (27, (.bool (decide ((mem : Int) < 1))))] ?_
 rw [← hB4]
 have iB4 : B4 = true ↔ ((mem : Int) < 1) := by rw [hB4]; simp only [decide_eq_true_eq]
 clear hB4
 intro aC fr
 refine zpk 4 7 [30, 31] fr (news := [(30, (.bool (B4 || decide ((mem : Int) > 262144)))), (31, (.bool (B4 || decide ((mem : Int) > 262144))))]) (by cases B4 <;> kernel_rfl) ?_
 intro aC fr
 obtain ⟨B9, hB9⟩ : ∃ B : Bool, B = (B4 || decide ((mem : Int) > 262144)) := ⟨_, rfl⟩
 revert aC
 refine zkp [(0, (.slice fA fs.length fc)), (1, (.slice none 0 0)), (2, (.slice gA bg.length gc)), (3, (.int .i64 mem)), (4, (.slice iA inp.length ic)), (5, (.int .i64 fuel)), (12, (pT b1 0)), (31, (.bool (B4 || decide ((mem : Int) > 262144))))] ?_
 rw [← hB9]
 have iB9 : B9 = true ↔ (((mem : Int) < 1) ∨ ((mem : Int) > 262144)) := by rw [hB9]; simp only [Bool.or_eq_true, decide_eq_true_eq, iB4]
 clear hB9
 intro aC fr
 refine zpk 5 12 [13, 35] fr (news := [(13, (.bool (B9 || decide ((((inp.length : Nat) : Int) : Int) > 4096)))), (35, (.bool (B9 || decide ((((inp.length : Nat) : Int) : Int) > 4096))))]) (by cases B9 <;> kernel_rfl) ?_
 intro aC fr
 revert aC
 refine zfe <| zsq <| zsp <| zbk 0 ?_
 obtain ⟨B14, hB14⟩ : ∃ B : Bool, B = (B9 || decide ((((inp.length : Nat) : Int) : Int) > 4096)) := ⟨_, rfl⟩
 refine zkp [(0, (.slice fA fs.length fc)), (1, (.slice none 0 0)), (2, (.slice gA bg.length gc)), (3, (.int .i64 mem)), (4, (.slice iA inp.length ic)), (5, (.int .i64 fuel)), (12, (pT b1 0)), (13, (.bool (B9 || decide ((((inp.length : Nat) : Int) : Int) > 4096)))), (36, (.slice none 0 0)), (37, (.int .i64 0)), (38, (.int .i64 0))] ?_
 rw [← hB14]
 have iB14 : B14 = true ↔ ((((mem : Int) < 1) ∨ ((mem : Int) > 262144)) ∨ ((((inp.length : Nat) : Int) : Int) > 4096)) := by rw [hB14]; simp only [Bool.or_eq_true, decide_eq_true_eq, iB9]
 clear hB14
 have hb0 := bad_start (fs := fs) (B := B14) (mem := mem) (inp := inp) (by rw [iB14]; omega)
 refine zkp [(0, (.slice fA fs.length fc)), (1, (.slice none 0 0)), (2, (.slice gA bg.length gc)), (3, (.int .i64 mem)), (4, (.slice iA inp.length ic)), (5, (.int .i64 fuel)), (12, (pT b1 0)), (13, (.bool B14)), (36, (.slice none 0 0)), (37, (.int .i64 0)), (38, (.int .i64 0))] ?_
 intro aC fr
 refine zlp (fun n_ a_ w_ => n_ = 0 ∧ Fr a_ 180 [(0, (.slice fA fs.length fc)), (1, (.slice none 0 0)), (2, (.slice gA bg.length gc)), (3, (.int .i64 mem)), (4, (.slice iA inp.length ic)), (5, (.int .i64 fuel)), (12, (pT b1 0)), (13, (.bool B14)), (36, (.slice none 0 0)), (37, (.int .i64 0)), (38, (.int .i64 0))] ∧ Mem noS w w_ [.blk b1 36 [(.int .i64 0), (.int .i64 0), (.slice none 0 0), (.int .i64 0)]]) (n := _) ⟨rfl, fr.kp [0, 1, 2, 3, 4, 5, 12, 13, 36, 37, 38], M3⟩ ?_
 clear fr aC M3; rintro n aC w17 ⟨rfl, fr, M18⟩
 revert aC
 refine zsp <| zsq <| zcF <| zex 0 <| zbh <| zsq <| zsp <| zbk 2 ?_
 intro aC fr
 refine zlp (fun n_ a_ w_ => ∃ (j : Nat) (Bk : Bool), n_ = fs.length - j ∧ Fr a_ 180 [(0, (.slice fA fs.length fc)), (1, (.slice none 0 0)), (2, (.slice gA bg.length gc)), (3, (.int .i64 mem)), (4, (.slice iA inp.length ic)), (5, (.int .i64 fuel)), (12, (pT b1 0)), (13, (.bool Bk)), (51, (.slice fA fs.length fc)), (52, (.int .i64 ((fs.length : Nat) : Int))), (53, (nV j))] ∧ Mem noS w w_ [.blk b1 36 [(.int .i64 0), (.int .i64 0), (.slice none 0 0), (.int .i64 0)]] ∧ (j ≤ fs.length) ∧ (Bk = true ↔ badQ fs mem inp j)) (n := _) ⟨0, B14, rfl, fr.kp [0, 1, 2, 3, 4, 5, 12, 13, 51, 52, 53], M18, Nat.zero_le _, hb0⟩ ?_
 clear fr aC M18; rintro n aC w23 ⟨j, Bk, rfl, fr, M24, hj, hbk⟩
 revert aC
 refine zsp <| zsq <| zcD (((j : Int) : Int) < ((fs.length : Nat) : Int)) (fun c27 => ?_) (fun c27 => ?_)
 refine zsk <| zsq <| zbk 3 <| zsr ?_
 obtain ⟨f, hf⟩ := get_of (l := fs) (i := j) (by omega)
 have hfm := List.mem_of_getElem? hf
 obtain ⟨ad28, rfl⟩ := rds_some (M24.ro hI.cells) (i := j) (by rw [List.getElem?_map, hf]; rfl)
 refine zix ad28 fs.length 5 (j : Int) ?_
 refine zls ((ad28 : Addr).add (((j : Int)).toNat * 5)) [(.string f.nm), (.bool f.wk), (.int .i64 f.pa), (.int .i64 f.va), (.slice f.A ((bsOf f.blks).length) f.c)] (rds_cells (i := j) (M24.ro hI.cells) rfl (by rw [List.getElem?_map, hf]; rfl)) ?_
 refine zal M24 24 [(.string ⟨#[]⟩), (.bool false), (.int .i64 0), (.int .i64 0), (.slice none 0 0)] fun b29 w30 hb29 M31 => ?_
 replace M31 := M31.nf
 refine zss M31 1 [(.string f.nm), (.bool f.wk), (.int .i64 f.pa), (.int .i64 f.va), (.slice f.A ((bsOf f.blks).length) f.c)] rfl fun w32 M33 => ?_
 replace M33 := M33.nf
 refine zfe <| zrg <| zpn 2 ?_
 obtain ⟨B34, hB34⟩ : ∃ B : Bool, B = Bk := ⟨_, rfl⟩
 refine zkp [(0, (.slice (some ad28) fs.length fc)), (1, (.slice none 0 0)), (2, (.slice gA bg.length gc)), (3, (.int .i64 mem)), (4, (.slice iA inp.length ic)), (5, (.int .i64 fuel)), (12, (pT b1 0)), (17, (pT b29 0)), (51, (.slice (some ad28) fs.length fc)), (52, (.int .i64 ((fs.length : Nat) : Int))), (53, (nV j)), (58, (.bool Bk))] ?_
 rw [← hB34]
 have iB34 : B34 = true ↔ (Bk = true) := by rw [hB34]
 clear hB34
 cases B34
 have c34 : Bk = false := Bool.eq_false_iff.2 ((fun h => Bool.noConfusion (iB34.2 h) : ¬ (Bk = true)))
 subst c34
 refine zls ⟨b29, 0, none⟩ [(.string f.nm), (.bool f.wk), (.int .i64 f.pa), (.int .i64 f.va), (.slice f.A ((bsOf f.blks).length) f.c)] (blk_cells (M33.get 1 rfl)) <| zcl (valid_c f.nm f.wk f.pa f.va f.A f.c f.blks w32 (hI.ok f hfm).2 (hI.ok f hfm).1 ((hI.fn f hfm).at_ M33)) ?_
 rintro _ w35 ⟨rfl, M36x⟩
 have M36 := M33.cl M36x
 refine zpn 3 <| zfe <| zrg <| zar ((j : Int) + 1) <| zpn 1 <| zfe ?_
 intro aC fr
 exact ⟨fs.length - (j + 1), by omega, j + 1, (((validN f.nm f.pa f.va f.blks) : Int) != 0), rfl, fr.kp [0, 1, 2, 3, 4, 5, 12, 13, 51, 52, 53], (M36.tk 1), by omega, bad_new hbk hf⟩
 have c34 : (Bk = true) := iB34.1 rfl
 subst c34
 refine zpn 5 <| zfe <| zrg <| zar ((j : Int) + 1) <| zpn 1 <| zfe ?_
 intro aC fr
 exact ⟨fs.length - (j + 1), by omega, j + 1, true, rfl, fr.kp [0, 1, 2, 3, 4, 5, 12, 13, 51, 52, 53], (M33.tk 1), by omega, bad_keep hbk⟩
 refine zex 2 <| zbh <| zsq <| zsr ?_
 obtain rfl : j = fs.length := by omega
 refine zpn 1 <| zfe <| zcP Bk (Bk = true) Iff.rfl (fun c41 => ?_) (fun c41 => ?_)
 have hbad : badQ fs mem inp fs.length := hbk.1 c41
 refine zsr <| zpn 1 <| zss M24 0 [(.int .i64 5), (.int .i64 0), (.slice none 0 0), (.int .i64 0)] rfl fun w42 M43 => ?_
 replace M43 := M43.nf
 refine zfe <| zre ?_
 intro aC fr
 refine outC (ad := ⟨b1, 0, none⟩) (vs := [(.int .i64 5), (.int .i64 0), (.slice none 0 0), (.int .i64 0)]) fr rfl (by kernel_rfl) (by kernel_rfl) (blk_cells (M43.get 0 rfl)) ?_
 refine ⟨_, rfl, ?_⟩
 have hMz := M43.cl (Mem.nilrow _ 5 1)
 have M46 := hMz.od [1] 1
 clear hMz
 rw [run_bad hbad]; exact ⟨none, 0, rfl, M46⟩
 replace c41 : Bk = false := Bool.eq_false_iff.2 c41
 have hbad : ¬ badQ fs mem inp fs.length := fun h => by have := hbk.2 h; rw [this] at c41; cases c41
 have hm1 : 1 ≤ mem := by unfold badQ at hbad; omega
 have hm2 : mem ≤ 262144 := by unfold badQ at hbad; omega
 have hin : inp.length ≤ 4096 := by unfold badQ at hbad; omega
 refine zsk <| zsr <| zmm M24 fun b47 w48 hb47 M49 => ?_
 replace M49 := M49.nf
 have M50 : Mem noS w w48 [.blk b1 36 [(.int .i64 0), (.int .i64 0), (.slice none 0 0), (.int .i64 0)], .map b47 (inK .string (vK []))] := M49.cast rfl
 refine zmm M50 fun b51 w52 hb51 M53 => ?_
 replace M53 := M53.nf
 have M54 : Mem noS w w52 [.blk b1 36 [(.int .i64 0), (.int .i64 0), (.slice none 0 0), (.int .i64 0)], .map b47 (inK .string (vK [])), .map b51 (inK .string (vK []))] := M53.cast rfl
 refine zpn 1 ?_
 intro aC fr
 refine From_make1 (by kernel_rfl : coreAt _ 3 = some (some 69, (.makeSlice 75 (.tmp 68) (.tmp 68)), 75, none)) fr (by kernel_rfl) (by kernel_rfl) (k' := 4) rfl (e := 2) (bytes := 8) (z := (.int .i64 0)) (n := mem.toNat) (i := mem) (by kernel_rfl) (by kernel_rfl) (by omega) (by kernel_rfl) (by kernel_rfl) rfl (by omega) (by simp only [maxLen]; omega) M54 ?_
 intro b55 w56 hb55 _ M57 _ aC ea fr; clear ea
 replace M57 := M57.nf
 revert aC
 refine zpn 2 <| zmx (some 72) (.tmp 71) (.const (.int .i64 0)) #[3, 3] 3 .i64 fuel 0 <| zmn (some 73) (.tmp 72) (.const (.int .i64 4194304)) #[3, 3] 3 .i64 (max fuel 0) 4194304 <| zpn 1 ?_
 intro aC fr
 refine zBs 75 31 1 #[(0, (.tmp 74))] 31 fr (e := 24) (size := 5) (zs := [(.string ⟨#[]⟩), (.bool false), (.int .i64 0), (.int .i64 0), (.slice none 0 0)]) (vs := [(0, (.agg #[(.string ⟨#[]⟩), (.bool false), (.int .i64 0), (.int .i64 0), (.slice none 0 0)]))]) (cs := [(.string ⟨#[]⟩), (.bool false), (.int .i64 0), (.int .i64 0), (.slice none 0 0)]) M57 ?_
 intro b62 w63 hb62 _ M64 _ aC ea fr; clear ea
 replace M64 := M64.nf
 refine zBs 76 86 1 #[(0, (.const (.slice none 0 0)))] 86 fr (e := 52) (size := 1) (zs := [(.slice none 0 0)]) (vs := [(0, (.slice none 0 0))]) (cs := [(.slice none 0 0)]) M64 ?_
 intro b69 w70 hb69 _ M71 _ aC ea fr; clear ea
 replace M71 := M71.nf
 revert aC
 refine zkp [(0, (.slice fA fs.length fc)), (1, (.slice none 0 0)), (2, (.slice gA bg.length gc)), (12, (pT b1 0)), (66, (.map (some b47))), (67, (.map (some b51))), (69, (.slice (sM b55) mem.toNat mem.toNat)), (70, (.slice iA inp.length ic)), (73, (.int .i64 (min (max fuel 0) 4194304))), (75, (.slice (sM b62) 1 1)), (76, (.slice (sM b69) 1 1))] <| zpn 1 <| zbx M71 89 (.agg #[(.slice (sM b62) 1 1), (.slice (sM b69) 1 1), (.map (some b47)), (.map (some b51)), (.slice (sM b55) mem.toNat mem.toNat), (.int .i64 0), (.slice iA inp.length ic), (.slice none 0 0), (.int .i64 (min (max fuel 0) 4194304)), (.int .i64 0), (.int .i64 0), (.slice none 0 0)]) [(.slice (sM b62) 1 1), (.slice (sM b69) 1 1), (.map (some b47)), (.map (some b51)), (.slice (sM b55) mem.toNat mem.toNat), (.int .i64 0), (.slice iA inp.length ic), (.slice none 0 0), (.int .i64 (min (max fuel 0) 4194304)), (.int .i64 0), (.int .i64 0), (.slice none 0 0)] fun b74 w75 hb74 M76 => ?_
 replace M76 := M76.nf
 refine zpn 1 <| zfe <| zsr <| zpn 1 ?_
 intro aC fr
 refine From_make1 (by kernel_rfl : coreAt _ 1 = some (some 80, (.makeSlice 87 (.const (.int .i64 13)) (.const (.int .i64 13))), 87, none)) fr (by kernel_rfl) (by kernel_rfl) (k' := 2) rfl (e := 90) (bytes := 8) (z := .nilFunc) (n := 13) (i := 13) (by kernel_rfl) (by kernel_rfl) (by omega) (by kernel_rfl) (by kernel_rfl) rfl (by omega) (by simp only [maxLen]; omega) M76 ?_
 intro b77 w78 hb77 _ M79 _ aC ea fr; clear ea
 replace M79 := M79.nf
 revert aC
 refine zpn 2 <| zsb (ho := (by simp)) M79 6 11 (.slice (sM b77) 13 13) rfl fun w84 M85 => ?_
 replace M85 := M85.nf
 refine zfe <| zsq <| zsr <| zmm M85 fun b86 w87 hb86 M88 => ?_
 replace M88 := M88.nf
 have M89 : Mem noS w w87 [.blk b1 36 [(.int .i64 0), (.int .i64 0), (.slice none 0 0), (.int .i64 0)], .map b47 (inK .string (vK [])), .map b51 (inK .string (vK [])), .row 2 1 (sM b55) mem.toNat mem.toNat (List.replicate mem.toNat (.int .i64 0)), .row 24 5 (sM b62) 1 1 [(.string ⟨#[]⟩), (.bool false), (.int .i64 0), (.int .i64 0), (.slice none 0 0)], .row 52 1 (sM b69) 1 1 [(.slice none 0 0)], .blk b74 89 [(.slice (sM b62) 1 1), (.slice (sM b69) 1 1), (.map (some b47)), (.map (some b51)), (.slice (sM b55) mem.toNat mem.toNat), (.int .i64 0), (.slice iA inp.length ic), (.slice none 0 0), (.int .i64 (min (max fuel 0) 4194304)), (.int .i64 0), (.int .i64 0), (.slice (sM b77) 13 13)], .row 90 1 (sM b77) 13 13 (List.replicate 13 .nilFunc), .map b86 (inK (Value.int .i64) ([] : List (Int × Value)))] := M88.cast rfl
 refine zpn 2 <| zmu (intLaw Try.underlying3) M89 8 1 (.func (.func 35) #[(pT b74 0)] #[]) (l := ([] : List (Int × Value))) rfl Try.underlying91 fun w90 M91 => ?_
 replace M91 := M91.nf
 refine zpn 2 <| zmu (intLaw Try.underlying3) M91 8 2 (.func (.func 36) #[(pT b74 0)] #[]) (l := upk ([] : List (Int × Value)) 1 (.func (.func 35) #[(pT b74 0)] #[])) rfl Try.underlying91 fun w92 M93 => ?_
 replace M93 := M93.nf
 refine zkp [(0, (.slice fA fs.length fc)), (1, (.slice none 0 0)), (2, (.slice gA bg.length gc)), (12, (pT b1 0)), (18, (pT b74 0)), (83, (.map (some b86)))] <| zpn 2 <| zmu (intLaw Try.underlying3) M93 8 3 (.func (.func 37) #[(pT b74 0)] #[]) (l := upk (upk ([] : List (Int × Value)) 1 (.func (.func 35) #[(pT b74 0)] #[])) 2 (.func (.func 36) #[(pT b74 0)] #[])) rfl Try.underlying91 fun w94 M95 => ?_
 replace M95 := M95.nf
 refine zpn 2 <| zmu (intLaw Try.underlying3) M95 8 4 (.func (.func 38) #[(pT b74 0)] #[]) (l := upk (upk (upk ([] : List (Int × Value)) 1 (.func (.func 35) #[(pT b74 0)] #[])) 2 (.func (.func 36) #[(pT b74 0)] #[])) 3 (.func (.func 37) #[(pT b74 0)] #[])) rfl Try.underlying91 fun w96 M97 => ?_
 replace M97 := M97.nf
 refine zpn 2 <| zmu (intLaw Try.underlying3) M97 8 5 (.func (.func 39) #[(pT b74 0)] #[]) (l := upk (upk (upk (upk ([] : List (Int × Value)) 1 (.func (.func 35) #[(pT b74 0)] #[])) 2 (.func (.func 36) #[(pT b74 0)] #[])) 3 (.func (.func 37) #[(pT b74 0)] #[])) 4 (.func (.func 38) #[(pT b74 0)] #[])) rfl Try.underlying91 fun w98 M99 => ?_
 replace M99 := M99.nf
 refine zpn 2 <| zmu (intLaw Try.underlying3) M99 8 6 (.func (.func 40) #[(pT b74 0)] #[]) (l := upk (upk (upk (upk (upk ([] : List (Int × Value)) 1 (.func (.func 35) #[(pT b74 0)] #[])) 2 (.func (.func 36) #[(pT b74 0)] #[])) 3 (.func (.func 37) #[(pT b74 0)] #[])) 4 (.func (.func 38) #[(pT b74 0)] #[])) 5 (.func (.func 39) #[(pT b74 0)] #[])) rfl Try.underlying91 fun w100 M101 => ?_
 replace M101 := M101.nf
 refine zpn 2 <| zmu (intLaw Try.underlying3) M101 8 7 (.func (.func 41) #[(pT b74 0)] #[]) (l := upk (upk (upk (upk (upk (upk ([] : List (Int × Value)) 1 (.func (.func 35) #[(pT b74 0)] #[])) 2 (.func (.func 36) #[(pT b74 0)] #[])) 3 (.func (.func 37) #[(pT b74 0)] #[])) 4 (.func (.func 38) #[(pT b74 0)] #[])) 5 (.func (.func 39) #[(pT b74 0)] #[])) 6 (.func (.func 40) #[(pT b74 0)] #[])) rfl Try.underlying91 fun w102 M103 => ?_
 replace M103 := M103.nf
 refine zpn 2 <| zmu (intLaw Try.underlying3) M103 8 8 (.func (.func 42) #[(pT b74 0)] #[]) (l := upk (upk (upk (upk (upk (upk (upk ([] : List (Int × Value)) 1 (.func (.func 35) #[(pT b74 0)] #[])) 2 (.func (.func 36) #[(pT b74 0)] #[])) 3 (.func (.func 37) #[(pT b74 0)] #[])) 4 (.func (.func 38) #[(pT b74 0)] #[])) 5 (.func (.func 39) #[(pT b74 0)] #[])) 6 (.func (.func 40) #[(pT b74 0)] #[])) 7 (.func (.func 41) #[(pT b74 0)] #[])) rfl Try.underlying91 fun w104 M105 => ?_
 replace M105 := M105.nf
 refine zkp [(0, (.slice fA fs.length fc)), (1, (.slice none 0 0)), (2, (.slice gA bg.length gc)), (12, (pT b1 0)), (18, (pT b74 0)), (83, (.map (some b86)))] <| zpn 2 <| zmu (intLaw Try.underlying3) M105 8 9 (.func (.func 43) #[(pT b74 0)] #[]) (l := upk (upk (upk (upk (upk (upk (upk (upk ([] : List (Int × Value)) 1 (.func (.func 35) #[(pT b74 0)] #[])) 2 (.func (.func 36) #[(pT b74 0)] #[])) 3 (.func (.func 37) #[(pT b74 0)] #[])) 4 (.func (.func 38) #[(pT b74 0)] #[])) 5 (.func (.func 39) #[(pT b74 0)] #[])) 6 (.func (.func 40) #[(pT b74 0)] #[])) 7 (.func (.func 41) #[(pT b74 0)] #[])) 8 (.func (.func 42) #[(pT b74 0)] #[])) rfl Try.underlying91 fun w106 M107 => ?_
 replace M107 := M107.nf
 refine zpn 2 <| zmu (intLaw Try.underlying3) M107 8 10 (.func (.func 44) #[(pT b74 0)] #[]) (l := upk (upk (upk (upk (upk (upk (upk (upk (upk ([] : List (Int × Value)) 1 (.func (.func 35) #[(pT b74 0)] #[])) 2 (.func (.func 36) #[(pT b74 0)] #[])) 3 (.func (.func 37) #[(pT b74 0)] #[])) 4 (.func (.func 38) #[(pT b74 0)] #[])) 5 (.func (.func 39) #[(pT b74 0)] #[])) 6 (.func (.func 40) #[(pT b74 0)] #[])) 7 (.func (.func 41) #[(pT b74 0)] #[])) 8 (.func (.func 42) #[(pT b74 0)] #[])) 9 (.func (.func 43) #[(pT b74 0)] #[])) rfl Try.underlying91 fun w108 M109 => ?_
 replace M109 := M109.nf
 refine zpn 2 <| zmu (intLaw Try.underlying3) M109 8 11 (.func (.func 45) #[(pT b74 0)] #[]) (l := upk (upk (upk (upk (upk (upk (upk (upk (upk (upk ([] : List (Int × Value)) 1 (.func (.func 35) #[(pT b74 0)] #[])) 2 (.func (.func 36) #[(pT b74 0)] #[])) 3 (.func (.func 37) #[(pT b74 0)] #[])) 4 (.func (.func 38) #[(pT b74 0)] #[])) 5 (.func (.func 39) #[(pT b74 0)] #[])) 6 (.func (.func 40) #[(pT b74 0)] #[])) 7 (.func (.func 41) #[(pT b74 0)] #[])) 8 (.func (.func 42) #[(pT b74 0)] #[])) 9 (.func (.func 43) #[(pT b74 0)] #[])) 10 (.func (.func 44) #[(pT b74 0)] #[])) rfl Try.underlying91 fun w110 M111 => ?_
 replace M111 := M111.nf
 refine zpn 2 <| zmu (intLaw Try.underlying3) M111 8 12 (.func (.func 46) #[(pT b74 0)] #[]) (l := upk (upk (upk (upk (upk (upk (upk (upk (upk (upk (upk ([] : List (Int × Value)) 1 (.func (.func 35) #[(pT b74 0)] #[])) 2 (.func (.func 36) #[(pT b74 0)] #[])) 3 (.func (.func 37) #[(pT b74 0)] #[])) 4 (.func (.func 38) #[(pT b74 0)] #[])) 5 (.func (.func 39) #[(pT b74 0)] #[])) 6 (.func (.func 40) #[(pT b74 0)] #[])) 7 (.func (.func 41) #[(pT b74 0)] #[])) 8 (.func (.func 42) #[(pT b74 0)] #[])) 9 (.func (.func 43) #[(pT b74 0)] #[])) 10 (.func (.func 44) #[(pT b74 0)] #[])) 11 (.func (.func 45) #[(pT b74 0)] #[])) rfl Try.underlying91 fun w112 M113 => ?_
 replace M113 := M113.nf
 refine zpn 1 ?_
 have M114 : Mem noS w w112 [.blk b1 36 [(.int .i64 0), (.int .i64 0), (.slice none 0 0), (.int .i64 0)], .map b47 (inK .string (vK [])), .map b51 (inK .string (vK [])), .row 2 1 (sM b55) mem.toNat mem.toNat (List.replicate mem.toNat (.int .i64 0)), .row 24 5 (sM b62) 1 1 [(.string ⟨#[]⟩), (.bool false), (.int .i64 0), (.int .i64 0), (.slice none 0 0)], .row 52 1 (sM b69) 1 1 [(.slice none 0 0)], .blk b74 89 [(.slice (sM b62) 1 1), (.slice (sM b69) 1 1), (.map (some b47)), (.map (some b51)), (.slice (sM b55) mem.toNat mem.toNat), (.int .i64 0), (.slice iA inp.length ic), (.slice none 0 0), (.int .i64 (min (max fuel 0) 4194304)), (.int .i64 0), (.int .i64 0), (.slice (sM b77) 13 13)], .row 90 1 (sM b77) 13 13 (List.replicate 13 .nilFunc), .map b86 (inK (Value.int .i64) (opsL b74))] := M113.cast rfl
 refine zrn M114 8 rfl Try.underlying91 fun b115 w116 M117 => ?_
 replace M117 := M117.nf
 have M118 : Mem noS w w116 [.blk b1 36 [(.int .i64 0), (.int .i64 0), (.slice none 0 0), (.int .i64 0)], .map b47 (inK .string (vK [])), .map b51 (inK .string (vK [])), .row 2 1 (sM b55) mem.toNat mem.toNat (List.replicate mem.toNat (.int .i64 0)), .row 24 5 (sM b62) 1 1 [(.string ⟨#[]⟩), (.bool false), (.int .i64 0), (.int .i64 0), (.slice none 0 0)], .row 52 1 (sM b69) 1 1 [(.slice none 0 0)], .blk b74 89 [(.slice (sM b62) 1 1), (.slice (sM b69) 1 1), (.map (some b47)), (.map (some b51)), (.slice (sM b55) mem.toNat mem.toNat), (.int .i64 0), (.slice iA inp.length ic), (.slice none 0 0), (.int .i64 (min (max fuel 0) 4194304)), (.int .i64 0), (.int .i64 0), (.slice (sM b77) 13 13)], .row 90 1 (sM b77) 13 13 (List.replicate 13 .nilFunc), .rng b86 b115 (inK (Value.int .i64) (opsL b74)) (inK (Value.int .i64) (opsL b74)) none] := M117
 refine zfe <| zbk 4 ?_
 intro aC fr
 refine zlp (fun n_ a_ w_ => ∃ (left : List (Value × Value)) (cur : Option (Value × Value)) (ov : List Value), n_ = left.length ∧ Fr a_ 180 [(0, (.slice fA fs.length fc)), (1, (.slice none 0 0)), (2, (.slice gA bg.length gc)), (12, (pT b1 0)), (18, (pT b74 0)), (109, (pT b115 0))] ∧ Mem noS w w_ [.blk b1 36 [(.int .i64 0), (.int .i64 0), (.slice none 0 0), (.int .i64 0)], .map b47 (inK .string (vK [])), .map b51 (inK .string (vK [])), .row 2 1 (sM b55) mem.toNat mem.toNat (List.replicate mem.toNat (.int .i64 0)), .row 24 5 (sM b62) 1 1 [(.string ⟨#[]⟩), (.bool false), (.int .i64 0), (.int .i64 0), (.slice none 0 0)], .row 52 1 (sM b69) 1 1 [(.slice none 0 0)], .blk b74 89 [(.slice (sM b62) 1 1), (.slice (sM b69) 1 1), (.map (some b47)), (.map (some b51)), (.slice (sM b55) mem.toNat mem.toNat), (.int .i64 0), (.slice iA inp.length ic), (.slice none 0 0), (.int .i64 (min (max fuel 0) 4194304)), (.int .i64 0), (.int .i64 0), (.slice (sM b77) 13 13)], .row 90 1 (sM b77) 13 13 ov, .rng b86 b115 (inK (Value.int .i64) (opsL b74)) left cur] ∧ (OpsTo b74 left ov)) (n := _) ⟨(inK (Value.int .i64) (opsL b74)), none, List.replicate 13 .nilFunc, rfl, fr.kp [0, 1, 2, 12, 18, 109], M118, OpsTo.start b74⟩ ?_
 clear fr aC M118; rintro n aC w121 ⟨left, cur, ov, rfl, fr, M122, hops⟩
 revert aC
 refine zsr <| znx M122 8 rfl (fun hl0 => ?_) (fun kx vx lf2 w125 hm_ hlt_ hal_ hsb_ M126 => ?_)
 subst hl0
 have hopv := hops.done
 subst hopv
 refine zpn 1 <| zfe <| zsq <| zcF <| zex 4 <| zbh <| zsq <| zsr <| zpn 1 ?_
 obtain ⟨cs, hcs⟩ : ∃ z, z = chosenF fs := ⟨_, rfl⟩
 have hcl : cs.length ≤ fs.length := hcs ▸ chosenTo_len
 have hfl := hI.len
 refine zcl (countF_e cs fs fA fc w121 hI.len (hI.cells.at_ M122) hcs) ?_
 rintro _ w129 ⟨A127, c128, rfl, M130x⟩
 have M130 := M122.cl M130x
 refine zpn 2 <| zfe <| zbk 6 ?_
 have M131 : Mem noS w w129 [.pk [], .blk b1 36 [(.int .i64 0), (.int .i64 0), (.slice none 0 0), (.int .i64 0)], .map b47 (inK .string (vK (namesTo cs 0))), .map b51 (inK .string (vK [])), .row 2 1 (sM b55) mem.toNat mem.toNat (List.replicate mem.toNat (.int .i64 0)), .row 24 5 (sM b62) (0 + 1) 1 (fnCells ([] : List RFn)), .row 52 1 (sM b69) (0 + 1) 1 (srcCells ([] : List RFn)), .blk b74 89 [(.slice (sM b62) (0 + 1) 1), (.slice (sM b69) (0 + 1) 1), (.map (some b47)), (.map (some b51)), (.slice (sM b55) mem.toNat mem.toNat), (.int .i64 0), (.slice iA inp.length ic), (.slice none 0 0), (.int .i64 (min (max fuel 0) 4194304)), (.int .i64 0), (.int .i64 0), (.slice (sM b77) 13 13)], .row 90 1 (sM b77) 13 13 (opsV b74), .rng b86 b115 (inK (Value.int .i64) (opsL b74)) [] cur, .row 24 5 A127 cs.length c128 (cs.flatMap FFn.cells)] := Mem.pk0 (M130.cast rfl)
 have hnd : (cs.map (·.nm)).Nodup := hcs ▸ chosenF_nodup fs
 intro aC fr
 refine zlp (fun n_ a_ w_ => ∃ (j : Nat) (qs : List RFn) (X : List Res) (rA : Option Addr) (rc : Nat) (sA : Option Addr) (sc : Nat), n_ = cs.length - j ∧ Fr a_ 180 [(1, (.slice none 0 0)), (2, (.slice gA bg.length gc)), (12, (pT b1 0)), (18, (pT b74 0)), (123, (.slice A127 cs.length c128)), (124, (.int .i64 ((cs.length : Nat) : Int))), (125, (nV j))] ∧ Mem noS w w_ [.pk X, .blk b1 36 [(.int .i64 0), (.int .i64 0), (.slice none 0 0), (.int .i64 0)], .map b47 (inK .string (vK (namesTo cs j))), .map b51 (inK .string (vK [])), .row 2 1 (sM b55) mem.toNat mem.toNat (List.replicate mem.toNat (.int .i64 0)), .row 24 5 rA (j + 1) rc (fnCells qs), .row 52 1 sA (j + 1) sc (srcCells qs), .blk b74 89 [(.slice rA (j + 1) rc), (.slice sA (j + 1) sc), (.map (some b47)), (.map (some b51)), (.slice (sM b55) mem.toNat mem.toNat), (.int .i64 0), (.slice iA inp.length ic), (.slice none 0 0), (.int .i64 (min (max fuel 0) 4194304)), (.int .i64 0), (.int .i64 0), (.slice (sM b77) 13 13)], .row 90 1 (sM b77) 13 13 (opsV b74), .rng b86 b115 (inK (Value.int .i64) (opsL b74)) [] cur, .row 24 5 A127 cs.length c128 (cs.flatMap FFn.cells)] ∧ (j ≤ cs.length) ∧ (qs.length = j) ∧ (qs.map RFn.can = (cs.take j).map canF) ∧ (∀ f, f ∈ qs → InX X f)) (n := _) ⟨0, [], [], (sM b62), 1, (sM b69), 1, rfl, fr.kp [1, 2, 12, 18, 123, 124, 125], M131, Nat.zero_le _, rfl, by simp, by simp⟩ ?_
 clear fr aC M131; rintro n aC w134 ⟨j, qs, X, rA, rc, sA, sc, rfl, fr, M135, hj, hql, hqc, hqX⟩
 revert aC
 refine zsp <| zsq <| zcD (((j : Int) : Int) < ((cs.length : Nat) : Int)) (fun c138 => ?_) (fun c138 => ?_)
 refine zsk <| zsq <| zbk 7 <| zsr ?_
 obtain ⟨x, hx⟩ := get_of (l := cs) (i := j) (by omega)
 have hxm := List.mem_of_getElem? hx
 have hxf : x ∈ fs := chosenTo_mem (hcs ▸ hxm)
 obtain ⟨g140, rfl⟩ := row_some (M135.get 10 rfl) (by omega)
 refine zix ⟨g140, 0, none⟩ cs.length 5 (j : Int) <| zls ((⟨g140, 0, none⟩ : Addr).add (((j : Int)).toNat * 5)) [(.string x.nm), (.bool x.wk), (.int .i64 x.pa), (.int .i64 x.va), (.slice x.A ((bsOf x.blks).length) x.c)] (rds_cells (i := j) (rows_rds (f := FFn.cells) (size := 5) (l := cs) (fun _ => rfl) (by decide) (M135.get 10 rfl)) rfl (by rw [List.getElem?_map, hx]; rfl)) ?_
 refine zal M135 24 [(.string ⟨#[]⟩), (.bool false), (.int .i64 0), (.int .i64 0), (.slice none 0 0)] fun b141 w142 hb141 M143 => ?_
 replace M143 := M143.nf
 refine zss M143 11 [(.string x.nm), (.bool x.wk), (.int .i64 x.pa), (.int .i64 x.va), (.slice x.A ((bsOf x.blks).length) x.c)] rfl fun w144 M145 => ?_
 replace M145 := M145.nf
 refine zfe <| zsq <| zkp [(1, (.slice none 0 0)), (2, (.slice gA bg.length gc)), (12, (pT b1 0)), (18, (pT b74 0)), (22, (pT b141 0)), (123, (.slice (sM g140) cs.length c128)), (124, (.int .i64 ((cs.length : Nat) : Int))), (125, (nV j))] ?_
 intro aC fr
 refine zdt 11 (N := 180) (env0 := [(1, (.slice none 0 0)), (2, (.slice gA bg.length gc)), (12, (pT b1 0)), (18, (pT b74 0)), (22, (pT b141 0)), (123, (.slice (sM g140) cs.length c128)), (124, (.int .i64 ((cs.length : Nat) : Int))), (125, (nV j))]) (specAt [.det (pT b74 0), .det (pT b74 0), .det (pT b74 2), .det (.map (some b47)), .det (pT b141 0), .det (.string x.nm), .det (pT b74 0), .det (pT b74 0), .det (pT b74 0), .det (.slice rA (j + 1) rc), .det (.int .i64 (((j + 1) : Nat) : Int))]) fr (la (la (la (la (la (la (la (la (la (la (la lz dP) dP) dP) (dL ⟨b74, 2, none⟩ (.map (some b47)) fun w_ hK => (blk_cell ((M145.then_ hK).get 7 rfl) rfl))) dP) (dL ⟨b141, 0, none⟩ (.string x.nm) fun w_ hK => (blk_cell ((M145.then_ hK).get 11 rfl) rfl))) dP) dP) dP) (dL ⟨b74, 0, none⟩ (.slice rA (j + 1) rc) fun w_ hK => (blk_cell ((M145.then_ hK).get 7 rfl) rfl))) dP) ?_
 intro aC w150 vs hK hv fr
 revert aC; refine zkp [(1, (.slice none 0 0)), (2, (.slice gA bg.length gc)), (12, (pT b1 0)), (18, (pT b74 0)), (22, (pT b141 0)), (123, (.slice (sM g140) cs.length c128)), (124, (.int .i64 ((cs.length : Nat) : Int))), (125, (nV j)), (132, (.map (some b47))), (134, (.string x.nm)), (139, (.int .i64 (((j + 1) : Nat) : Int)))] ?_
 have M151 := M145.then_ hK
 clear hK hv fr aC M145; clear vs
 refine zmu (strLaw Try.underlying9) M151 2 x.nm (.int .i64 (((j + 1) : Nat) : Int)) (l := (vK (namesTo cs j))) rfl Try.underlying84 fun w152 M153 => ?_
 replace M153 := M153.nf
 have M154 : Mem noS w w152 [.pk X, .blk b1 36 [(.int .i64 0), (.int .i64 0), (.slice none 0 0), (.int .i64 0)], .map b47 (inK .string (vK (namesTo cs (j + 1)))), .map b51 (inK .string (vK [])), .row 2 1 (sM b55) mem.toNat mem.toNat (List.replicate mem.toNat (.int .i64 0)), .row 24 5 rA (j + 1) rc (fnCells qs), .row 52 1 sA (j + 1) sc (srcCells qs), .blk b74 89 [(.slice rA (j + 1) rc), (.slice sA (j + 1) sc), (.map (some b47)), (.map (some b51)), (.slice (sM b55) mem.toNat mem.toNat), (.int .i64 0), (.slice iA inp.length ic), (.slice none 0 0), (.int .i64 (min (max fuel 0) 4194304)), (.int .i64 0), (.int .i64 0), (.slice (sM b77) 13 13)], .row 90 1 (sM b77) 13 13 (opsV b74), .rng b86 b115 (inK (Value.int .i64) (opsL b74)) [] cur, .row 24 5 (sM g140) cs.length c128 (cs.flatMap FFn.cells), .blk b141 24 [(.string x.nm), (.bool x.wk), (.int .i64 x.pa), (.int .i64 x.va), (.slice x.A ((bsOf x.blks).length) x.c)]] := M153.cast (by rw [namesTo_up hnd hx])
 refine zfe <| zsq <| zkp [(1, (.slice none 0 0)), (2, (.slice gA bg.length gc)), (12, (pT b1 0)), (18, (pT b74 0)), (22, (pT b141 0)), (123, (.slice (sM g140) cs.length c128)), (124, (.int .i64 ((cs.length : Nat) : Int))), (125, (nV j))] ?_
 intro aC fr
 refine zdj (N := 180) (env0 := [(1, (.slice none 0 0)), (2, (.slice gA bg.length gc)), (12, (pT b1 0)), (18, (pT b74 0)), (22, (pT b141 0)), (123, (.slice (sM g140) cs.length c128)), (124, (.int .i64 ((cs.length : Nat) : Int))), (125, (nV j))]) (specAt [.det (pT b74 0), .det (pT b74 0), .det (pT b74 0), .det (pT b74 0), .det (.slice rA (j + 1) rc), .det (.agg #[(.string x.nm), (.bool x.wk), (.int .i64 x.pa), (.int .i64 x.va), (.slice x.A ((bsOf x.blks).length) x.c)]), Spec.free, Spec.free, .det (pT b74 0), .det (pT b74 0), .det undef]) (fun ls vs w_ => match ls 10 with | true => (∃ (g155 : Nat) (A156 : Option Addr) (c157 : Nat), vs 6 = (.slice (sM g155) 1 1) ∧ vs 7 = (.slice A156 ((j + 1) + 1) c157) ∧ Mem noS w w_ [.pk X, .blk b1 36 [(.int .i64 0), (.int .i64 0), (.slice none 0 0), (.int .i64 0)], .map b47 (inK .string (vK (namesTo cs (j + 1)))), .map b51 (inK .string (vK [])), .row 2 1 (sM b55) mem.toNat mem.toNat (List.replicate mem.toNat (.int .i64 0)), .row 24 5 A156 ((j + 1) + 1) c157 ((fnCells qs) ++ [(.string x.nm), (.bool x.wk), (.int .i64 x.pa), (.int .i64 x.va), (.slice x.A ((bsOf x.blks).length) x.c)]), .row 52 1 sA (j + 1) sc (srcCells qs), .blk b74 89 [(.slice A156 ((j + 1) + 1) c157), (.slice sA (j + 1) sc), (.map (some b47)), (.map (some b51)), (.slice (sM b55) mem.toNat mem.toNat), (.int .i64 0), (.slice iA inp.length ic), (.slice none 0 0), (.int .i64 (min (max fuel 0) 4194304)), (.int .i64 0), (.int .i64 0), (.slice (sM b77) 13 13)], .row 90 1 (sM b77) 13 13 (opsV b74), .rng b86 b115 (inK (Value.int .i64) (opsL b74)) [] cur, .row 24 5 (sM g140) cs.length c128 (cs.flatMap FFn.cells), .blk b141 24 [(.string x.nm), (.bool x.wk), (.int .i64 x.pa), (.int .i64 x.va), (.slice x.A ((bsOf x.blks).length) x.c)], .row 24 5 (sM g155) 1 1 [(.string x.nm), (.bool x.wk), (.int .i64 x.pa), (.int .i64 x.va), (.slice x.A ((bsOf x.blks).length) x.c)]]) | false => (match ls 7 with | true => (∃ (g155 : Nat) (A156 : Option Addr) (c157 : Nat), vs 6 = (.slice (sM g155) 1 1) ∧ vs 7 = (.slice A156 ((j + 1) + 1) c157) ∧ Mem noS w w_ [.pk X, .blk b1 36 [(.int .i64 0), (.int .i64 0), (.slice none 0 0), (.int .i64 0)], .map b47 (inK .string (vK (namesTo cs (j + 1)))), .map b51 (inK .string (vK [])), .row 2 1 (sM b55) mem.toNat mem.toNat (List.replicate mem.toNat (.int .i64 0)), .row 24 5 A156 ((j + 1) + 1) c157 ((fnCells qs) ++ [(.string x.nm), (.bool x.wk), (.int .i64 x.pa), (.int .i64 x.va), (.slice x.A ((bsOf x.blks).length) x.c)]), .row 52 1 sA (j + 1) sc (srcCells qs), .blk b74 89 [(.slice rA (j + 1) rc), (.slice sA (j + 1) sc), (.map (some b47)), (.map (some b51)), (.slice (sM b55) mem.toNat mem.toNat), (.int .i64 0), (.slice iA inp.length ic), (.slice none 0 0), (.int .i64 (min (max fuel 0) 4194304)), (.int .i64 0), (.int .i64 0), (.slice (sM b77) 13 13)], .row 90 1 (sM b77) 13 13 (opsV b74), .rng b86 b115 (inK (Value.int .i64) (opsL b74)) [] cur, .row 24 5 (sM g140) cs.length c128 (cs.flatMap FFn.cells), .blk b141 24 [(.string x.nm), (.bool x.wk), (.int .i64 x.pa), (.int .i64 x.va), (.slice x.A ((bsOf x.blks).length) x.c)], .row 24 5 (sM g155) 1 1 [(.string x.nm), (.bool x.wk), (.int .i64 x.pa), (.int .i64 x.va), (.slice x.A ((bsOf x.blks).length) x.c)]]) | false => (match ls 6 with | true => (∃ (g155 : Nat), vs 6 = (.slice (sM g155) 1 1) ∧ Mem noS w w_ [.pk X, .blk b1 36 [(.int .i64 0), (.int .i64 0), (.slice none 0 0), (.int .i64 0)], .map b47 (inK .string (vK (namesTo cs (j + 1)))), .map b51 (inK .string (vK [])), .row 2 1 (sM b55) mem.toNat mem.toNat (List.replicate mem.toNat (.int .i64 0)), .row 24 5 rA (j + 1) rc (fnCells qs), .row 52 1 sA (j + 1) sc (srcCells qs), .blk b74 89 [(.slice rA (j + 1) rc), (.slice sA (j + 1) sc), (.map (some b47)), (.map (some b51)), (.slice (sM b55) mem.toNat mem.toNat), (.int .i64 0), (.slice iA inp.length ic), (.slice none 0 0), (.int .i64 (min (max fuel 0) 4194304)), (.int .i64 0), (.int .i64 0), (.slice (sM b77) 13 13)], .row 90 1 (sM b77) 13 13 (opsV b74), .rng b86 b115 (inK (Value.int .i64) (opsL b74)) [] cur, .row 24 5 (sM g140) cs.length c128 (cs.flatMap FFn.cells), .blk b141 24 [(.string x.nm), (.bool x.wk), (.int .i64 x.pa), (.int .i64 x.va), (.slice x.A ((bsOf x.blks).length) x.c)], .row 24 5 (sM g155) 1 1 [(.string x.nm), (.bool x.wk), (.int .i64 x.pa), (.int .i64 x.va), (.slice x.A ((bsOf x.blks).length) x.c)]]) | false => (Mem noS w w_ [.pk X, .blk b1 36 [(.int .i64 0), (.int .i64 0), (.slice none 0 0), (.int .i64 0)], .map b47 (inK .string (vK (namesTo cs (j + 1)))), .map b51 (inK .string (vK [])), .row 2 1 (sM b55) mem.toNat mem.toNat (List.replicate mem.toNat (.int .i64 0)), .row 24 5 rA (j + 1) rc (fnCells qs), .row 52 1 sA (j + 1) sc (srcCells qs), .blk b74 89 [(.slice rA (j + 1) rc), (.slice sA (j + 1) sc), (.map (some b47)), (.map (some b51)), (.slice (sM b55) mem.toNat mem.toNat), (.int .i64 0), (.slice iA inp.length ic), (.slice none 0 0), (.int .i64 (min (max fuel 0) 4194304)), (.int .i64 0), (.int .i64 0), (.slice (sM b77) 13 13)], .row 90 1 (sM b77) 13 13 (opsV b74), .rng b86 b115 (inK (Value.int .i64) (opsL b74)) [] cur, .row 24 5 (sM g140) cs.length c128 (cs.flatMap FFn.cells), .blk b141 24 [(.string x.nm), (.bool x.wk), (.int .i64 x.pa), (.int .i64 x.va), (.slice x.A ((bsOf x.blks).length) x.c)]])))) fr (plain_ok (.det (.det (.det (.det (.det (.det (.free (.free (.det (.det (.det .nil)))))))))))) (M154.then_ (Mem.drew _)) (la (la (la (la (la (la (la (la (la (la (la lz (dPJ fun _ _ _ _ h => h)) (dPJ fun _ _ _ _ h => h)) (dPJ fun _ _ _ _ h => h)) (dPJ fun _ _ _ _ h => h)) (dLJ ⟨b74, 0, none⟩ (.slice rA (j + 1) rc) (fun _ _ _ _ h => h) ?_)) ?_) ?_) ?_) (dPJ fun _ _ _ _ h => h)) (dPJ fun _ _ _ _ h => h)) ?_) ?_
 intro w_ ls vs hJ hi_ hc_ hp
 have f7 : ls 7 = false := notyet hc_ hi_ (n := 11) (by kernel_rfl)
 have f10 : ls 10 = false := notyet hc_ hi_ (n := 11) (by kernel_rfl)
 have hM_ := hJ
 simp only [f7, f10] at hM_
 cases fu : ls 6
 simp only [fu] at hM_
 exact (blk_cell (hM_.get 7 rfl) rfl)
 simp only [fu] at hM_
 obtain ⟨_, _, hM_⟩ := hM_
 exact (blk_cell (hM_.get 7 rfl) rfl)
 intro aa_ w_ ls vs rest_ hJ hi_ hc_ hp hF
 refine okG (g0 := none) ?_
 replace hF : Fr aa_ 180 [(22, (pT b141 0))] := hF.kp [22]
 have f6 : ls 6 = false := notyet hc_ hi_ (n := 11) (by kernel_rfl)
 have f7 : ls 7 = false := notyet hc_ hi_ (n := 11) (by kernel_rfl)
 have f10 : ls 10 = false := notyet hc_ hi_ (n := 11) (by kernel_rfl)
 have hM_ := hJ
 simp only [f6, f7, f10] at hM_
 refine From_loadS (by kernel_rfl : coreAt _ 0 = some (some 145, (.load 24 (.tmp 22)), 24, none)) hF (by kernel_rfl) (by kernel_rfl) (k' := 1) rfl (ad := ⟨b141, 0, none⟩) (vs := [(.string x.nm), (.bool x.wk), (.int .i64 x.pa), (.int .i64 x.va), (.slice x.A ((bsOf x.blks).length) x.c)]) (by kernel_rfl) (by kernel_rfl) (blk_cells (hM_.get 11 rfl)) ?_
 intro a2 ea _
 refine From_end (by kernel_rfl) ?_; exact op_doneJ (d := some 145) (by kernel_rfl) ea rfl hJ
 intro aa_ w_ ls vs rest_ hJ hi_ hc_ hp hF
 refine okG (g0 := none) ?_
 replace hF : Fr aa_ 180 [(145, (.agg #[(.string x.nm), (.bool x.wk), (.int .i64 x.pa), (.int .i64 x.va), (.slice x.A ((bsOf x.blks).length) x.c)]))] := hF.kp [145]
 have f6 : ls 6 = false := hi_
 have f7 : ls 7 = false := notyet hc_ hi_ (n := 11) (by kernel_rfl)
 have f10 : ls 10 = false := notyet hc_ hi_ (n := 11) (by kernel_rfl)
 have hM_ := hJ
 simp only [f6, f7, f10] at hM_
 refine zBs 146 31 1 #[(0, (.tmp 145))] 31 hF (e := 24) (size := 5) (zs := [(.string ⟨#[]⟩), (.bool false), (.int .i64 0), (.int .i64 0), (.slice none 0 0)]) (vs := [(0, (.agg #[(.string x.nm), (.bool x.wk), (.int .i64 x.pa), (.int .i64 x.va), (.slice x.A ((bsOf x.blks).length) x.c)]))]) (cs := [(.string x.nm), (.bool x.wk), (.int .i64 x.pa), (.int .i64 x.va), (.slice x.A ((bsOf x.blks).length) x.c)]) hM_ ?_
 intro g155p w2 _ _ hm2 _ a2 ea _
 refine From_end (by kernel_rfl) ?_; refine op_doneJ (d := some 146) (by kernel_rfl) ea trivial ?_
 show match ls 10 with | true => _ | false => (match ls 7 with | true => _ | false => (∃ (g155 : Nat), _))
 rw [f10, f7]
 exact ⟨g155p, rfl, hm2⟩
 intro aa_ w_ ls vs rest_ hJ hi_ hc_ hp hF
 refine okG (g0 := none) ?_
 replace hF : Fr aa_ 180 [(144, (.slice rA (j + 1) rc)), (146, vs 6)] := hF.kp [144, 146]
 have f6 : ls 6 = true := donebefore hc_ (fun k hk => (hp k hk).1) (n := 11) (by kernel_rfl)
 have f7 : ls 7 = false := hi_
 have f10 : ls 10 = false := notyet hc_ hi_ (n := 11) (by kernel_rfl)
 have hM_ := hJ
 simp only [f6, f7, f10] at hM_
 obtain ⟨g155p, e6_, hM_⟩ := hM_
 try rw [e6_] at hF
 refine zAp 147 (.tmp 144) (.tmp 146) 31 31 hF (e := 24) (size := 5) (bytes := 64) (z := (.agg #[(.string ⟨#[]⟩), (.bool false), (.int .i64 0), (.int .i64 0), (.slice none 0 0)])) (A := rA) (B := (sM g155p)) (n := (j + 1)) (cap := rc) (m := 1) (cap' := 1) (xs := (fnCells qs)) (news := [(.string x.nm), (.bool x.wk), (.int .i64 x.pa), (.int .i64 x.va), (.slice x.A ((bsOf x.blks).length) x.c)]) hM_ 5 rfl (row_rd (hM_.get 12 rfl)) rfl (by simp [Value.oneCell']) (by omega) (by simp only [maxLen]; omega) ?_
 intro A156p c157p w2 hm2 _ a2 ea _
 refine From_end (by kernel_rfl) ?_; refine op_doneJ (d := some 147) (by kernel_rfl) ea trivial ?_
 show match ls 10 with | true => _ | false => (∃ (g155 : Nat) (A156 : Option Addr) (c157 : Nat), _)
 rw [f10]
 exact ⟨g155p, A156p, c157p, e6_, rfl, hm2⟩
 intro aa_ w_ ls vs rest_ hJ hi_ hc_ hp hF
 refine okG (g0 := none) ?_
 replace hF : Fr aa_ 180 [(147, vs 7), (149, (pT b74 0))] := hF.kp [147, 149]
 have f6 : ls 6 = true := donebefore hc_ (fun k hk => (hp k hk).1) (n := 11) (by kernel_rfl)
 have f7 : ls 7 = true := donebefore hc_ (fun k hk => (hp k hk).1) (n := 11) (by kernel_rfl)
 have f10 : ls 10 = false := hi_
 have hM_ := hJ
 simp only [f6, f7, f10] at hM_
 obtain ⟨g155p, A156p, c157p, e6_, e7_, hM_⟩ := hM_
 try rw [e6_] at hF
 try rw [e7_] at hF
 refine From_store_blk (by kernel_rfl : coreAt _ 0 = some (none, (.store 31 (.tmp 149) (.tmp 147)), 0, none)) hF (by kernel_rfl) (by kernel_rfl) (k' := 1) rfl (b := b74) (off := 0) (t0 := 89) (v := (.slice A156p ((j + 1) + 1) c157p)) (cs := [(.slice rA (j + 1) rc), (.slice sA (j + 1) sc), (.map (some b47)), (.map (some b51)), (.slice (sM b55) mem.toNat mem.toNat), (.int .i64 0), (.slice iA inp.length ic), (.slice none 0 0), (.int .i64 (min (max fuel 0) 4194304)), (.int .i64 0), (.int .i64 0), (.slice (sM b77) 13 13)]) (by kernel_rfl) (by kernel_rfl) (by kernel_rfl) rfl hM_ 7 rfl (by simp) ?_
 intro w2 hm2 _ a2 ea _
 refine From_end (by kernel_rfl) ?_; refine op_doneJ (d := none) (by kernel_rfl) ea rfl ?_
 show ∃ (g155 : Nat) (A156 : Option Addr) (c157 : Nat), _
 exact ⟨g155p, A156p, c157p, e6_, e7_, hm2⟩
 intro aC w162 ls vs hall M163 hv fr
 simp only [show ls 10 = true from hall 10 (by decide)] at M163
 revert aC; refine zkp [(1, (.slice none 0 0)), (2, (.slice gA bg.length gc)), (12, (pT b1 0)), (18, (pT b74 0)), (22, (pT b141 0)), (123, (.slice (sM g140) cs.length c128)), (124, (.int .i64 ((cs.length : Nat) : Int))), (125, (nV j))] ?_
 obtain ⟨g155, A156, c157, e6_, e7_, M163⟩ := M163
 try rw [e6_]
 try rw [e7_]
 clear e6_ e7_
 clear hall hv fr aC M154; clear vs ls
 have hA := (hI.fn x hxf).bs
 have hm : (bsOf x.blks).length ≤ 1000000 := by rw [bsOf_len]; have := (hI.ok x hxf).2; omega
 refine zkp [(1, (.slice none 0 0)), (2, (.slice gA bg.length gc)), (12, (pT b1 0)), (18, (pT b74 0)), (22, (pT b141 0)), (123, (.slice (sM g140) cs.length c128)), (124, (.int .i64 ((cs.length : Nat) : Int))), (125, (nV j))] ?_
 intro aC fr
 refine zdj (N := 180) (env0 := [(1, (.slice none 0 0)), (2, (.slice gA bg.length gc)), (12, (pT b1 0)), (18, (pT b74 0)), (22, (pT b141 0)), (123, (.slice (sM g140) cs.length c128)), (124, (.int .i64 ((cs.length : Nat) : Int))), (125, (nV j))]) (specAt [.det (pT b74 0), .det (pT b74 0), .det (pT b74 0), .det (pT b74 1), .det (.slice sA (j + 1) sc), .det (.agg #[(.string x.nm), (.bool x.wk), (.int .i64 x.pa), (.int .i64 x.va), (.slice x.A ((bsOf x.blks).length) x.c)]), Spec.free, Spec.free, Spec.free, .det (pT b74 0), .det (pT b74 1), .det undef]) (fun ls vs w_ => match ls 11 with | true => (∃ (A164 : Option Addr) (c165 : Nat) (rows166 : List RowV) (g167 : Nat) (A168 : Option Addr) (c169 : Nat), vs 6 = (.slice A164 ((bsOf x.blks).length) c165) ∧ vs 7 = (.slice (sM g167) 1 1) ∧ vs 8 = (.slice A168 ((j + 1) + 1) c169) ∧ (FamOf (Value.int .i64) rows166 (allL (bsOf x.blks))) ∧ Mem noS w w_ [.pk X, .blk b1 36 [(.int .i64 0), (.int .i64 0), (.slice none 0 0), (.int .i64 0)], .map b47 (inK .string (vK (namesTo cs (j + 1)))), .map b51 (inK .string (vK [])), .row 2 1 (sM b55) mem.toNat mem.toNat (List.replicate mem.toNat (.int .i64 0)), .row 24 5 A156 ((j + 1) + 1) c157 ((fnCells qs) ++ [(.string x.nm), (.bool x.wk), (.int .i64 x.pa), (.int .i64 x.va), (.slice x.A ((bsOf x.blks).length) x.c)]), .row 52 1 A168 ((j + 1) + 1) c169 ((srcCells qs) ++ [(.slice A164 ((bsOf x.blks).length) c165)]), .blk b74 89 [(.slice A156 ((j + 1) + 1) c157), (.slice A168 ((j + 1) + 1) c169), (.map (some b47)), (.map (some b51)), (.slice (sM b55) mem.toNat mem.toNat), (.int .i64 0), (.slice iA inp.length ic), (.slice none 0 0), (.int .i64 (min (max fuel 0) 4194304)), (.int .i64 0), (.int .i64 0), (.slice (sM b77) 13 13)], .row 90 1 (sM b77) 13 13 (opsV b74), .rng b86 b115 (inK (Value.int .i64) (opsL b74)) [] cur, .row 24 5 (sM g140) cs.length c128 (cs.flatMap FFn.cells), .blk b141 24 [(.string x.nm), (.bool x.wk), (.int .i64 x.pa), (.int .i64 x.va), (.slice x.A ((bsOf x.blks).length) x.c)], .row 24 5 (sM g155) 1 1 [(.string x.nm), (.bool x.wk), (.int .i64 x.pa), (.int .i64 x.va), (.slice x.A ((bsOf x.blks).length) x.c)], .fam 3 rows166, .row 44 1 A164 ((bsOf x.blks).length) c165 (slv rows166), .row 52 1 (sM g167) 1 1 [(.slice A164 ((bsOf x.blks).length) c165)]]) | false => (match ls 8 with | true => (∃ (A164 : Option Addr) (c165 : Nat) (rows166 : List RowV) (g167 : Nat) (A168 : Option Addr) (c169 : Nat), vs 6 = (.slice A164 ((bsOf x.blks).length) c165) ∧ vs 7 = (.slice (sM g167) 1 1) ∧ vs 8 = (.slice A168 ((j + 1) + 1) c169) ∧ (FamOf (Value.int .i64) rows166 (allL (bsOf x.blks))) ∧ Mem noS w w_ [.pk X, .blk b1 36 [(.int .i64 0), (.int .i64 0), (.slice none 0 0), (.int .i64 0)], .map b47 (inK .string (vK (namesTo cs (j + 1)))), .map b51 (inK .string (vK [])), .row 2 1 (sM b55) mem.toNat mem.toNat (List.replicate mem.toNat (.int .i64 0)), .row 24 5 A156 ((j + 1) + 1) c157 ((fnCells qs) ++ [(.string x.nm), (.bool x.wk), (.int .i64 x.pa), (.int .i64 x.va), (.slice x.A ((bsOf x.blks).length) x.c)]), .row 52 1 A168 ((j + 1) + 1) c169 ((srcCells qs) ++ [(.slice A164 ((bsOf x.blks).length) c165)]), .blk b74 89 [(.slice A156 ((j + 1) + 1) c157), (.slice sA (j + 1) sc), (.map (some b47)), (.map (some b51)), (.slice (sM b55) mem.toNat mem.toNat), (.int .i64 0), (.slice iA inp.length ic), (.slice none 0 0), (.int .i64 (min (max fuel 0) 4194304)), (.int .i64 0), (.int .i64 0), (.slice (sM b77) 13 13)], .row 90 1 (sM b77) 13 13 (opsV b74), .rng b86 b115 (inK (Value.int .i64) (opsL b74)) [] cur, .row 24 5 (sM g140) cs.length c128 (cs.flatMap FFn.cells), .blk b141 24 [(.string x.nm), (.bool x.wk), (.int .i64 x.pa), (.int .i64 x.va), (.slice x.A ((bsOf x.blks).length) x.c)], .row 24 5 (sM g155) 1 1 [(.string x.nm), (.bool x.wk), (.int .i64 x.pa), (.int .i64 x.va), (.slice x.A ((bsOf x.blks).length) x.c)], .fam 3 rows166, .row 44 1 A164 ((bsOf x.blks).length) c165 (slv rows166), .row 52 1 (sM g167) 1 1 [(.slice A164 ((bsOf x.blks).length) c165)]]) | false => (match ls 7 with | true => (∃ (A164 : Option Addr) (c165 : Nat) (rows166 : List RowV) (g167 : Nat), vs 6 = (.slice A164 ((bsOf x.blks).length) c165) ∧ vs 7 = (.slice (sM g167) 1 1) ∧ (FamOf (Value.int .i64) rows166 (allL (bsOf x.blks))) ∧ Mem noS w w_ [.pk X, .blk b1 36 [(.int .i64 0), (.int .i64 0), (.slice none 0 0), (.int .i64 0)], .map b47 (inK .string (vK (namesTo cs (j + 1)))), .map b51 (inK .string (vK [])), .row 2 1 (sM b55) mem.toNat mem.toNat (List.replicate mem.toNat (.int .i64 0)), .row 24 5 A156 ((j + 1) + 1) c157 ((fnCells qs) ++ [(.string x.nm), (.bool x.wk), (.int .i64 x.pa), (.int .i64 x.va), (.slice x.A ((bsOf x.blks).length) x.c)]), .row 52 1 sA (j + 1) sc (srcCells qs), .blk b74 89 [(.slice A156 ((j + 1) + 1) c157), (.slice sA (j + 1) sc), (.map (some b47)), (.map (some b51)), (.slice (sM b55) mem.toNat mem.toNat), (.int .i64 0), (.slice iA inp.length ic), (.slice none 0 0), (.int .i64 (min (max fuel 0) 4194304)), (.int .i64 0), (.int .i64 0), (.slice (sM b77) 13 13)], .row 90 1 (sM b77) 13 13 (opsV b74), .rng b86 b115 (inK (Value.int .i64) (opsL b74)) [] cur, .row 24 5 (sM g140) cs.length c128 (cs.flatMap FFn.cells), .blk b141 24 [(.string x.nm), (.bool x.wk), (.int .i64 x.pa), (.int .i64 x.va), (.slice x.A ((bsOf x.blks).length) x.c)], .row 24 5 (sM g155) 1 1 [(.string x.nm), (.bool x.wk), (.int .i64 x.pa), (.int .i64 x.va), (.slice x.A ((bsOf x.blks).length) x.c)], .fam 3 rows166, .row 44 1 A164 ((bsOf x.blks).length) c165 (slv rows166), .row 52 1 (sM g167) 1 1 [(.slice A164 ((bsOf x.blks).length) c165)]]) | false => (match ls 6 with | true => (∃ (A164 : Option Addr) (c165 : Nat) (rows166 : List RowV), vs 6 = (.slice A164 ((bsOf x.blks).length) c165) ∧ (FamOf (Value.int .i64) rows166 (allL (bsOf x.blks))) ∧ Mem noS w w_ [.pk X, .blk b1 36 [(.int .i64 0), (.int .i64 0), (.slice none 0 0), (.int .i64 0)], .map b47 (inK .string (vK (namesTo cs (j + 1)))), .map b51 (inK .string (vK [])), .row 2 1 (sM b55) mem.toNat mem.toNat (List.replicate mem.toNat (.int .i64 0)), .row 24 5 A156 ((j + 1) + 1) c157 ((fnCells qs) ++ [(.string x.nm), (.bool x.wk), (.int .i64 x.pa), (.int .i64 x.va), (.slice x.A ((bsOf x.blks).length) x.c)]), .row 52 1 sA (j + 1) sc (srcCells qs), .blk b74 89 [(.slice A156 ((j + 1) + 1) c157), (.slice sA (j + 1) sc), (.map (some b47)), (.map (some b51)), (.slice (sM b55) mem.toNat mem.toNat), (.int .i64 0), (.slice iA inp.length ic), (.slice none 0 0), (.int .i64 (min (max fuel 0) 4194304)), (.int .i64 0), (.int .i64 0), (.slice (sM b77) 13 13)], .row 90 1 (sM b77) 13 13 (opsV b74), .rng b86 b115 (inK (Value.int .i64) (opsL b74)) [] cur, .row 24 5 (sM g140) cs.length c128 (cs.flatMap FFn.cells), .blk b141 24 [(.string x.nm), (.bool x.wk), (.int .i64 x.pa), (.int .i64 x.va), (.slice x.A ((bsOf x.blks).length) x.c)], .row 24 5 (sM g155) 1 1 [(.string x.nm), (.bool x.wk), (.int .i64 x.pa), (.int .i64 x.va), (.slice x.A ((bsOf x.blks).length) x.c)], .fam 3 rows166, .row 44 1 A164 ((bsOf x.blks).length) c165 (slv rows166)]) | false => (Mem noS w w_ [.pk X, .blk b1 36 [(.int .i64 0), (.int .i64 0), (.slice none 0 0), (.int .i64 0)], .map b47 (inK .string (vK (namesTo cs (j + 1)))), .map b51 (inK .string (vK [])), .row 2 1 (sM b55) mem.toNat mem.toNat (List.replicate mem.toNat (.int .i64 0)), .row 24 5 A156 ((j + 1) + 1) c157 ((fnCells qs) ++ [(.string x.nm), (.bool x.wk), (.int .i64 x.pa), (.int .i64 x.va), (.slice x.A ((bsOf x.blks).length) x.c)]), .row 52 1 sA (j + 1) sc (srcCells qs), .blk b74 89 [(.slice A156 ((j + 1) + 1) c157), (.slice sA (j + 1) sc), (.map (some b47)), (.map (some b51)), (.slice (sM b55) mem.toNat mem.toNat), (.int .i64 0), (.slice iA inp.length ic), (.slice none 0 0), (.int .i64 (min (max fuel 0) 4194304)), (.int .i64 0), (.int .i64 0), (.slice (sM b77) 13 13)], .row 90 1 (sM b77) 13 13 (opsV b74), .rng b86 b115 (inK (Value.int .i64) (opsL b74)) [] cur, .row 24 5 (sM g140) cs.length c128 (cs.flatMap FFn.cells), .blk b141 24 [(.string x.nm), (.bool x.wk), (.int .i64 x.pa), (.int .i64 x.va), (.slice x.A ((bsOf x.blks).length) x.c)], .row 24 5 (sM g155) 1 1 [(.string x.nm), (.bool x.wk), (.int .i64 x.pa), (.int .i64 x.va), (.slice x.A ((bsOf x.blks).length) x.c)]]))))) fr (plain_ok (.det (.det (.det (.det (.det (.det (.free (.free (.free (.det (.det (.det .nil))))))))))))) (M163.then_ (Mem.drew _)) (la (la (la (la (la (la (la (la (la (la (la (la lz (dPJ fun _ _ _ _ h => h)) (dPJ fun _ _ _ _ h => h)) (dPJ fun _ _ _ _ h => h)) (dPJ fun _ _ _ _ h => h)) (dLJ ⟨b74, 1, none⟩ (.slice sA (j + 1) sc) (fun _ _ _ _ h => h) ?_)) ?_) ?_) ?_) ?_) (dPJ fun _ _ _ _ h => h)) (dPJ fun _ _ _ _ h => h)) ?_) ?_
 intro w_ ls vs hJ hi_ hc_ hp
 have f8 : ls 8 = false := notyet hc_ hi_ (n := 12) (by kernel_rfl)
 have f11 : ls 11 = false := notyet hc_ hi_ (n := 12) (by kernel_rfl)
 have hM_ := hJ
 simp only [f8, f11] at hM_
 cases fu7 : ls 7
 simp only [fu7] at hM_
 cases fu6 : ls 6
 simp only [fu6] at hM_
 exact (blk_cell (hM_.get 7 rfl) rfl)
 simp only [fu6] at hM_
 obtain ⟨_, _, _, _, _, hM_⟩ := hM_
 exact (blk_cell (hM_.get 7 rfl) rfl)
 simp only [fu7] at hM_
 obtain ⟨_, _, _, _, _, _, _, hM_⟩ := hM_
 exact (blk_cell (hM_.get 7 rfl) rfl)
 intro aa_ w_ ls vs rest_ hJ hi_ hc_ hp hF
 refine okG (g0 := none) ?_
 replace hF : Fr aa_ 180 [(22, (pT b141 0))] := hF.kp [22]
 have f6 : ls 6 = false := notyet hc_ hi_ (n := 12) (by kernel_rfl)
 have f7 : ls 7 = false := notyet hc_ hi_ (n := 12) (by kernel_rfl)
 have f8 : ls 8 = false := notyet hc_ hi_ (n := 12) (by kernel_rfl)
 have f11 : ls 11 = false := notyet hc_ hi_ (n := 12) (by kernel_rfl)
 have hM_ := hJ
 simp only [f6, f7, f8, f11] at hM_
 refine From_loadS (by kernel_rfl : coreAt _ 0 = some (some 155, (.load 24 (.tmp 22)), 24, none)) hF (by kernel_rfl) (by kernel_rfl) (k' := 1) rfl (ad := ⟨b141, 0, none⟩) (vs := [(.string x.nm), (.bool x.wk), (.int .i64 x.pa), (.int .i64 x.va), (.slice x.A ((bsOf x.blks).length) x.c)]) (by kernel_rfl) (by kernel_rfl) (blk_cells (hM_.get 11 rfl)) ?_
 intro a2 ea _
 refine From_end (by kernel_rfl) ?_; exact op_doneJ (d := some 155) (by kernel_rfl) ea rfl hJ
 intro aa_ w_ ls vs rest_ hJ hi_ hc_ hp hF
 refine okG (g0 := none) ?_
 replace hF : Fr aa_ 180 [(155, (.agg #[(.string x.nm), (.bool x.wk), (.int .i64 x.pa), (.int .i64 x.va), (.slice x.A ((bsOf x.blks).length) x.c)]))] := hF.kp [155]
 have f6 : ls 6 = false := hi_
 have f7 : ls 7 = false := notyet hc_ hi_ (n := 12) (by kernel_rfl)
 have f8 : ls 8 = false := notyet hc_ hi_ (n := 12) (by kernel_rfl)
 have f11 : ls 11 = false := notyet hc_ hi_ (n := 12) (by kernel_rfl)
 have hM_ := hJ
 simp only [f6, f7, f8, f11] at hM_
 refine From_call (by kernel_rfl : coreAt _ 0 = some (some 156, (.call { callee := (.value (.func 19)), args := #[(.tmp 155)], argTypes := #[24] }), 52, none)) hF (by kernel_rfl) (by kernel_rfl) (k' := 1) rfl (f := 19) (vs := [(.agg #[(.string x.nm), (.bool x.wk), (.int .i64 x.pa), (.int .i64 x.va), (.slice x.A ((bsOf x.blks).length) x.c)])]) (cap := []) (by kernel_rfl) (by kernel_rfl) (by kernel_rfl) (all_c _ _ _ _ x.A x.c (bsOf x.blks) w_ hm (hA.at_ hM_)) ?_
 rintro _ w2 ⟨A164p, c165p, rows166p, rfl, hfrows166, hm2⟩ a2 ea _
 have hm3 := hM_.call hm2
 refine From_end (by kernel_rfl) ?_; refine op_doneJ (d := some 156) (by kernel_rfl) ea trivial ?_
 show match ls 11 with | true => _ | false => (match ls 8 with | true => _ | false => (match ls 7 with | true => _ | false => (∃ (A164 : Option Addr) (c165 : Nat) (rows166 : List RowV), _)))
 rw [f11, f8, f7]
 exact ⟨A164p, c165p, rows166p, rfl, hfrows166, hm3⟩
 intro aa_ w_ ls vs rest_ hJ hi_ hc_ hp hF
 refine okG (g0 := none) ?_
 replace hF : Fr aa_ 180 [(156, vs 6)] := hF.kp [156]
 have f6 : ls 6 = true := donebefore hc_ (fun k hk => (hp k hk).1) (n := 12) (by kernel_rfl)
 have f7 : ls 7 = false := hi_
 have f8 : ls 8 = false := notyet hc_ hi_ (n := 12) (by kernel_rfl)
 have f11 : ls 11 = false := notyet hc_ hi_ (n := 12) (by kernel_rfl)
 have hM_ := hJ
 simp only [f6, f7, f8, f11] at hM_
 obtain ⟨A164p, c165p, rows166p, e6_, hfrows166, hM_⟩ := hM_
 try rw [e6_] at hF
 refine zBs 157 86 1 #[(0, (.tmp 156))] 86 hF (e := 52) (size := 1) (zs := [(.slice none 0 0)]) (vs := [(0, (.slice A164p ((bsOf x.blks).length) c165p))]) (cs := [(.slice A164p ((bsOf x.blks).length) c165p)]) hM_ ?_
 intro g167p w2 _ _ hm2 _ a2 ea _
 refine From_end (by kernel_rfl) ?_; refine op_doneJ (d := some 157) (by kernel_rfl) ea trivial ?_
 show match ls 11 with | true => _ | false => (match ls 8 with | true => _ | false => (∃ (A164 : Option Addr) (c165 : Nat) (rows166 : List RowV) (g167 : Nat), _))
 rw [f11, f8]
 exact ⟨A164p, c165p, rows166p, g167p, e6_, rfl, hfrows166, hm2⟩
 intro aa_ w_ ls vs rest_ hJ hi_ hc_ hp hF
 refine okG (g0 := none) ?_
 replace hF : Fr aa_ 180 [(154, (.slice sA (j + 1) sc)), (157, vs 7)] := hF.kp [154, 157]
 have f6 : ls 6 = true := donebefore hc_ (fun k hk => (hp k hk).1) (n := 12) (by kernel_rfl)
 have f7 : ls 7 = true := donebefore hc_ (fun k hk => (hp k hk).1) (n := 12) (by kernel_rfl)
 have f8 : ls 8 = false := hi_
 have f11 : ls 11 = false := notyet hc_ hi_ (n := 12) (by kernel_rfl)
 have hM_ := hJ
 simp only [f6, f7, f8, f11] at hM_
 obtain ⟨A164p, c165p, rows166p, g167p, e6_, e7_, hfrows166, hM_⟩ := hM_
 try rw [e6_] at hF
 try rw [e7_] at hF
 refine zAp 158 (.tmp 154) (.tmp 157) 86 86 hF (e := 52) (size := 1) (bytes := 24) (z := (.slice none 0 0)) (A := sA) (B := (sM g167p)) (n := (j + 1)) (cap := sc) (m := 1) (cap' := 1) (xs := (srcCells qs)) (news := [(.slice A164p ((bsOf x.blks).length) c165p)]) hM_ 6 rfl (row_rd (hM_.get 15 rfl)) rfl (by simp [Value.oneCell']) (by omega) (by simp only [maxLen]; omega) ?_
 intro A168p c169p w2 hm2 _ a2 ea _
 refine From_end (by kernel_rfl) ?_; refine op_doneJ (d := some 158) (by kernel_rfl) ea trivial ?_
 show match ls 11 with | true => _ | false => (∃ (A164 : Option Addr) (c165 : Nat) (rows166 : List RowV) (g167 : Nat) (A168 : Option Addr) (c169 : Nat), _)
 rw [f11]
 exact ⟨A164p, c165p, rows166p, g167p, A168p, c169p, e6_, e7_, rfl, hfrows166, hm2⟩
 intro aa_ w_ ls vs rest_ hJ hi_ hc_ hp hF
 refine okG (g0 := none) ?_
 replace hF : Fr aa_ 180 [(158, vs 8), (160, (pT b74 1))] := hF.kp [158, 160]
 have f6 : ls 6 = true := donebefore hc_ (fun k hk => (hp k hk).1) (n := 12) (by kernel_rfl)
 have f7 : ls 7 = true := donebefore hc_ (fun k hk => (hp k hk).1) (n := 12) (by kernel_rfl)
 have f8 : ls 8 = true := donebefore hc_ (fun k hk => (hp k hk).1) (n := 12) (by kernel_rfl)
 have f11 : ls 11 = false := hi_
 have hM_ := hJ
 simp only [f6, f7, f8, f11] at hM_
 obtain ⟨A164p, c165p, rows166p, g167p, A168p, c169p, e6_, e7_, e8_, hfrows166, hM_⟩ := hM_
 try rw [e6_] at hF
 try rw [e7_] at hF
 try rw [e8_] at hF
 refine From_store_blk (by kernel_rfl : coreAt _ 0 = some (none, (.store 86 (.tmp 160) (.tmp 158)), 0, none)) hF (by kernel_rfl) (by kernel_rfl) (k' := 1) rfl (b := b74) (off := 1) (t0 := 89) (v := (.slice A168p ((j + 1) + 1) c169p)) (cs := [(.slice A156 ((j + 1) + 1) c157), (.slice sA (j + 1) sc), (.map (some b47)), (.map (some b51)), (.slice (sM b55) mem.toNat mem.toNat), (.int .i64 0), (.slice iA inp.length ic), (.slice none 0 0), (.int .i64 (min (max fuel 0) 4194304)), (.int .i64 0), (.int .i64 0), (.slice (sM b77) 13 13)]) (by kernel_rfl) (by kernel_rfl) (by kernel_rfl) rfl hM_ 7 rfl (by simp) ?_
 intro w2 hm2 _ a2 ea _
 refine From_end (by kernel_rfl) ?_; refine op_doneJ (d := none) (by kernel_rfl) ea rfl ?_
 show ∃ (A164 : Option Addr) (c165 : Nat) (rows166 : List RowV) (g167 : Nat) (A168 : Option Addr) (c169 : Nat), _
 exact ⟨A164p, c165p, rows166p, g167p, A168p, c169p, e6_, e7_, e8_, hfrows166, hm2⟩
 intro aC w174 ls vs hall M175 hv fr
 simp only [show ls 11 = true from hall 11 (by decide)] at M175
 revert aC; refine zkp [(1, (.slice none 0 0)), (2, (.slice gA bg.length gc)), (12, (pT b1 0)), (18, (pT b74 0)), (123, (.slice (sM g140) cs.length c128)), (124, (.int .i64 ((cs.length : Nat) : Int))), (125, (nV j))] ?_
 obtain ⟨A164, c165, rows166, g167, A168, c169, e6_, e7_, e8_, hfrows166, M175⟩ := M175
 try rw [e6_]
 try rw [e7_]
 try rw [e8_]
 clear e6_ e7_ e8_
 clear hall hv fr aC M163; clear vs ls
 refine zrg <| zar ((j : Int) + 1) <| zpn 1 <| zfe ?_
 have M176 := M175.od [10, 10, 10, 10, 10, 10, 10, 10, 10, 10, 14, 14, 12] 13
 have M177 : Mem noS w w174 [.pk (X ++ [.fam 3 rows166, .row 44 1 A164 ((bsOf x.blks).length) c165 (slv rows166)]), .blk b1 36 [(.int .i64 0), (.int .i64 0), (.slice none 0 0), (.int .i64 0)], .map b47 (inK .string (vK (namesTo cs (j + 1)))), .map b51 (inK .string (vK [])), .row 2 1 (sM b55) mem.toNat mem.toNat (List.replicate mem.toNat (.int .i64 0)), .row 24 5 A156 ((j + 1) + 1) c157 ((fnCells qs) ++ [(.string x.nm), (.bool x.wk), (.int .i64 x.pa), (.int .i64 x.va), (.slice x.A ((bsOf x.blks).length) x.c)]), .row 52 1 A168 ((j + 1) + 1) c169 ((srcCells qs) ++ [(.slice A164 ((bsOf x.blks).length) c165)]), .blk b74 89 [(.slice A156 ((j + 1) + 1) c157), (.slice A168 ((j + 1) + 1) c169), (.map (some b47)), (.map (some b51)), (.slice (sM b55) mem.toNat mem.toNat), (.int .i64 0), (.slice iA inp.length ic), (.slice none 0 0), (.int .i64 (min (max fuel 0) 4194304)), (.int .i64 0), (.int .i64 0), (.slice (sM b77) 13 13)], .row 90 1 (sM b77) 13 13 (opsV b74), .rng b86 b115 (inK (Value.int .i64) (opsL b74)) [] cur, .row 24 5 (sM g140) cs.length c128 (cs.flatMap FFn.cells)] := Mem.pk2 (l := [.fam 3 rows166, .row 44 1 A164 ((bsOf x.blks).length) c165 (slv rows166)]) M176
 have M178 : Mem noS w w174 [.pk (X ++ [.fam 3 rows166, .row 44 1 A164 ((bsOf x.blks).length) c165 (slv rows166)]), .blk b1 36 [(.int .i64 0), (.int .i64 0), (.slice none 0 0), (.int .i64 0)], .map b47 (inK .string (vK (namesTo cs (j + 1)))), .map b51 (inK .string (vK [])), .row 2 1 (sM b55) mem.toNat mem.toNat (List.replicate mem.toNat (.int .i64 0)), .row 24 5 A156 ((j + 1) + 1) c157 (fnCells (qs ++ [(mkF x A164 c165 rows166)])), .row 52 1 A168 ((j + 1) + 1) c169 (srcCells (qs ++ [(mkF x A164 c165 rows166)])), .blk b74 89 [(.slice A156 ((j + 1) + 1) c157), (.slice A168 ((j + 1) + 1) c169), (.map (some b47)), (.map (some b51)), (.slice (sM b55) mem.toNat mem.toNat), (.int .i64 0), (.slice iA inp.length ic), (.slice none 0 0), (.int .i64 (min (max fuel 0) 4194304)), (.int .i64 0), (.int .i64 0), (.slice (sM b77) 13 13)], .row 90 1 (sM b77) 13 13 (opsV b74), .rng b86 b115 (inK (Value.int .i64) (opsL b74)) [] cur, .row 24 5 (sM g140) cs.length c128 (cs.flatMap FFn.cells)] := M177.cast (by rw [fns_snoc (A := A164) (c := c165) (rows := rows166), srcs_snoc hfrows166])
 intro aC fr
 exact ⟨cs.length - (j + 1), by omega, j + 1, qs ++ [(mkF x A164 c165 rows166)], X ++ [.fam 3 rows166, .row 44 1 A164 ((bsOf x.blks).length) c165 (slv rows166)], A156, c157, A168, c169, rfl, fr.kp [1, 2, 12, 18, 123, 124, 125], M178, by omega, by simp [hql], qs_snoc hqc hx hfrows166, inX_snoc hqX hfrows166⟩
 refine zex 6 <| zbh <| zsr ?_
 have hjl : j = cs.length := by omega
 rw [hjl, List.take_length] at hqc
 have M181 := M135.cl (Mem.nilrow _ 5 1)
 have M182 := M181.od [10, 10, 3, 10, 9, 9, 7, 7, 8, 11, 10, 11] 12
 have M183 : Mem noS w w134 [.blk b74 89 [(.slice rA (j + 1) rc), (.slice sA (j + 1) sc), (.map (some b47)), (.map (some b51)), (.slice (sM b55) mem.toNat mem.toNat), (.int .i64 0), (.slice iA inp.length ic), (.slice none 0 0), (.int .i64 (min (max fuel 0) 4194304)), (.int .i64 0), (.int .i64 0), (.slice (sM b77) 13 13)], .row 2 1 (sM b55) mem.toNat mem.toNat (ints (List.replicate mem.toNat 0)), .row 5 1 none 0 0 [], .map b51 (inK .string (vK [])), .pk X, .map b47 (inK .string (vK (namesTo cs j))), .row 24 5 rA (j + 1) rc (fnCells qs), .row 52 1 sA (j + 1) sc (srcCells qs), .row 90 1 (sM b77) 13 13 (opsV b74), .blk b1 36 [(.int .i64 0), (.int .i64 0), (.slice none 0 0), (.int .i64 0)], .rng b86 b115 (inK (Value.int .i64) (opsL b74)) [] cur, .row 24 5 A127 cs.length c128 (cs.flatMap FFn.cells)] := M182.cast (by rw [mem_ints])
 have M184 : Mem noS w w134 [.blk b74 89 [(.slice rA (qs.length + 1) rc), (.slice sA (qs.length + 1) sc), (.map (some b47)), (.map (some b51)), (.slice (sM b55) mem.toNat mem.toNat), (.int .i64 0), (.slice iA inp.length ic), (.slice none 0 0), (.int .i64 (min (max fuel 0) 4194304)), (.int .i64 0), (.int .i64 0), (.slice (sM b77) 13 13)], .row 2 1 (sM b55) mem.toNat mem.toNat (ints (List.replicate mem.toNat 0)), .row 5 1 none 0 0 [], .map b51 (inK .string (vK [])), .pk X, .map b47 (inK .string (vK (namesTo cs j))), .row 24 5 rA (j + 1) rc (fnCells qs), .row 52 1 sA (j + 1) sc (srcCells qs), .row 90 1 (sM b77) 13 13 (opsV b74), .blk b1 36 [(.int .i64 0), (.int .i64 0), (.slice none 0 0), (.int .i64 0)], .rng b86 b115 (inK (Value.int .i64) (opsL b74)) [] cur, .row 24 5 A127 cs.length c128 (cs.flatMap FFn.cells)] := (by rw [hql]; exact M183)
 have hWF := run_wf (names := namesTo cs j) (data := dataTo (chosenD []) (chosenD []).length) (fuel := fuel) (r := b74) (rA := rA) (rc := rc) (sA := sA) (sc := sc) (mB := b47) (dB := b51) (mG := b55) (oP := ⟨b77, 0, none⟩) hI hcs hqc hbad
 have hro := run_ro (l := (runL (mkC qs (namesTo cs j) (dataTo (chosenD []) (chosenD []).length) inp mem fuel b74 rA rc sA sc b47 b51 b55 iA ic ⟨b77, 0, none⟩) (lyS (List.replicate mem.toNat 0) 0) none 0 ++ [.map b51 (inK .string (vK []))])) (data := dataTo (chosenD []) (chosenD []).length) (mem := mem) (fuel := fuel) (sc := sc) (rc := rc) (dB := b51) (mG := b55) hI hcs hqc hqX M184
 refine zpn 3 <| zcl (play_c (mkC qs (namesTo cs j) (dataTo (chosenD []) (chosenD []).length) inp mem fuel b74 rA rc sA sc b47 b51 b55 iA ic ⟨b77, 0, none⟩) [] none 0 bg gA gc w134 hWF (by simp) (by simp) (by show 1 ≤ mem.toNat; omega) (chosenD []) rfl rfl hI.glen (Mem.pk_holds (l := (runL (mkC qs (namesTo cs j) (dataTo (chosenD []) (chosenD []).length) inp mem fuel b74 rA rc sA sc b47 b51 b55 iA ic ⟨b77, 0, none⟩) (lyS (List.replicate mem.toNat 0) 0) none 0 ++ [.map b51 (inK .string (vK []))])) M184) dats_nil hro (hI.bg.pk_at (l := (runL (mkC qs (namesTo cs j) (dataTo (chosenD []) (chosenD []).length) inp mem fuel b74 rA rc sA sc b47 b51 b55 iA ic ⟨b77, 0, none⟩) (lyS (List.replicate mem.toNat 0) 0) none 0 ++ [.map b51 (inK .string (vK []))])) M184)) ?_
 rintro _ w190 ⟨kk185, cc186, s187, oA188, oc189, hout, rfl, M191x⟩
 have M191 : Mem noS w w190 [.blk b74 89 [(.slice rA (qs.length + 1) rc), (.slice sA (qs.length + 1) sc), (.map (some b47)), (.map (some b51)), (.slice (sM b55) mem.toNat mem.toNat), (.int .i64 s187.next), (.slice ((inAt iA ic s187.pos).1) (inp.length - s187.pos) ((inAt iA ic s187.pos).2)), (.slice oA188 s187.out.length oc189), (.int .i64 (min (max fuel 0) 4194304)), (.int .i64 s187.steps), (.int .i64 s187.opened), (.slice (sM b77) 13 13)], .row 2 1 (sM b55) mem.toNat mem.toNat (ints s187.mem), .row 5 1 oA188 s187.out.length oc189 (u8s s187.out), .map b51 (inK .string (vK (dataTo (chosenD []) (chosenD []).length))), .pk X, .map b47 (inK .string (vK (namesTo cs j))), .row 24 5 rA (j + 1) rc (fnCells qs), .row 52 1 sA (j + 1) sc (srcCells qs), .row 90 1 (sM b77) 13 13 (opsV b74), .blk b1 36 [(.int .i64 0), (.int .i64 0), (.slice none 0 0), (.int .i64 0)], .rng b86 b115 (inK (Value.int .i64) (opsL b74)) [] cur, .row 24 5 A127 cs.length c128 (cs.flatMap FFn.cells)] := M184.mdk M191x
 refine zpn 5 <| zfe <| zsq <| zkp [(12, (pT b1 0)), (18, (pT b74 0)), (23, (.int .i64 kk185)), (24, (.int .i64 cc186))] ?_
 intro aC fr
 refine zdt 10 (N := 180) (env0 := [(12, (pT b1 0)), (18, (pT b74 0)), (23, (.int .i64 kk185)), (24, (.int .i64 cc186))]) (specAt [.det (.int .i64 kk185), .det (.int .i64 cc186), .det (pT b74 0), .det (pT b74 0), .det (pT b74 7), .det (.slice oA188 s187.out.length oc189), .det (pT b74 0), .det (pT b74 0), .det (pT b74 9), .det (.int .i64 s187.steps)]) fr (la (la (la (la (la (la (la (la (la (la lz dP) dP) dP) dP) dP) (dL ⟨b74, 7, none⟩ (.slice oA188 s187.out.length oc189) fun w_ hK => (blk_cell ((M191.then_ hK).get 0 rfl) rfl))) dP) dP) dP) (dL ⟨b74, 9, none⟩ (.int .i64 s187.steps) fun w_ hK => (blk_cell ((M191.then_ hK).get 0 rfl) rfl))) ?_
 intro aC w196 vs hK hv fr
 revert aC; refine zkp [(12, (pT b1 0)), (169, (.int .i64 kk185)), (170, (.int .i64 cc186)), (174, (.slice oA188 s187.out.length oc189)), (178, (.int .i64 s187.steps))] ?_
 have M197 := M191.then_ hK
 clear hK hv fr aC M191; clear vs
 refine zpn 1 <| zss M197 9 [(.int .i64 kk185), (.int .i64 cc186), (.slice oA188 s187.out.length oc189), (.int .i64 s187.steps)] rfl fun w198 M199 => ?_
 replace M199 := M199.nf
 refine zfe <| zre ?_
 intro aC fr
 refine outC (ad := ⟨b1, 0, none⟩) (vs := [(.int .i64 kk185), (.int .i64 cc186), (.slice oA188 s187.out.length oc189), (.int .i64 s187.steps)]) fr rfl (by kernel_rfl) (by kernel_rfl) (blk_cells (M199.get 9 rfl)) ?_
 refine ⟨_, rfl, ?_⟩
 have M202 := M199.od [2] 1
 have hO := run_out (ds := []) (k := kk185) (c := cc186) (s := s187) hcs hqc hbad (by rw [← hjl]; exact hout)
 rw [hO]; exact ⟨oA188, oc189, rfl, M202⟩
 obtain ⟨⟨p1, p2⟩, hp, hpe⟩ := hops.left _ hm_
 obtain ⟨rfl, rfl⟩ := Prod.mk.inj hpe
 obtain ⟨fnn, rfl⟩ := opsL_func hp
 have hop2 := hops.next hp hal_ hsb_
 have hpr := opsL_rng hp
 have hovl := hops.len
 have M203 : Mem noS w w125 [.blk b1 36 [(.int .i64 0), (.int .i64 0), (.slice none 0 0), (.int .i64 0)], .map b47 (inK .string (vK [])), .map b51 (inK .string (vK [])), .row 2 1 (sM b55) mem.toNat mem.toNat (List.replicate mem.toNat (.int .i64 0)), .row 24 5 (sM b62) 1 1 [(.string ⟨#[]⟩), (.bool false), (.int .i64 0), (.int .i64 0), (.slice none 0 0)], .row 52 1 (sM b69) 1 1 [(.slice none 0 0)], .blk b74 89 [(.slice (sM b62) 1 1), (.slice (sM b69) 1 1), (.map (some b47)), (.map (some b51)), (.slice (sM b55) mem.toNat mem.toNat), (.int .i64 0), (.slice iA inp.length ic), (.slice none 0 0), (.int .i64 (min (max fuel 0) 4194304)), (.int .i64 0), (.int .i64 0), (.slice (sM b77) 13 13)], .row 90 1 (sM b77) 13 13 ov, .rng b86 b115 (inK (Value.int .i64) (opsL b74)) lf2 (some (.int .i64 p1, .func (.func fnn) #[pT b74 0] #[]))] := M126
 refine zpn 1 <| zfe <| zsq <| zcT <| zsk <| zbk 5 <| zsr <| zey M203 8 (.int .i64 p1) (.func (.func fnn) #[pT b74 0] #[]) rfl <| zpn 4 <| zfe ?_
 refine zrg <| zpn 3 <| zld ⟨b74, 11, none⟩ (.slice (sM b77) 13 13) (blk_cell (M203.get 6 rfl) rfl) <| zpn 2 <| zix ⟨b77, 0, none⟩ 13 1 p1 <| zsw M203 7 ((⟨b77, 0, none⟩ : Addr).add ((p1).toNat * 1)) ((p1).toNat * 1) (.func (.func fnn) #[pT b74 0] #[]) rfl rfl (by omega) fun w204 M205 => ?_
 replace M205 := M205.nf
 refine zfe ?_
 intro aC fr
 exact ⟨lf2.length, by omega, lf2, some (.int .i64 p1, .func (.func fnn) #[pT b74 0] #[]), ov.set p1.toNat (.func (.func fnn) #[pT b74 0] #[]), rfl, fr.kp [0, 1, 2, 12, 18, 109], (M205.cast (by simp)), hop2⟩
end Go.Proofs.Ytjekgaabcigphaa
namespace Go.Proofs.Ytjekgaabcigphaa
open Go.Mor
theorem alike_c (k c st k2 c2 st2 : Int) (o o2 : List Int) (A A2 : Option Addr) (ac ac2 : Nat) (w : World) (hA : RO noS w (.rd A (u8s o))) (hA2 : RO noS w (.rd A2 (u8s o2))) :
    Calls Try.prog 50 #[(.agg #[(.int .i64 k), (.int .i64 c), (.slice A o.length ac), (.int .i64 st)]), (.agg #[(.int .i64 k2), (.int .i64 c2), (.slice A2 o2.length ac2), (.int .i64 st2)])] w (Ret fun v w' => v = .bool (decide (k = k2 ∧ c = c2 ∧ (strOfNums o).toList = (strOfNums o2).toList)) ∧ Mem noS w w' []) := by
 refine zen 26 [(.agg #[(.int .i64 k), (.int .i64 c), (.slice A o.length ac), (.int .i64 st)]), (.agg #[(.int .i64 k2), (.int .i64 c2), (.slice A2 o2.length ac2), (.int .i64 st2)])] Try.func50 ?_
 have hM := Mem.init w
 refine zsr <| zbx hM 36 (.agg #[(.int .i64 k), (.int .i64 c), (.slice A o.length ac), (.int .i64 st)]) [(.int .i64 k), (.int .i64 c), (.slice A o.length ac), (.int .i64 st)] fun b1 w2 hb1 M3 => ?_
 replace M3 := M3.nf
 clear hM
 refine zbx M3 36 (.agg #[(.int .i64 k2), (.int .i64 c2), (.slice A2 o2.length ac2), (.int .i64 st2)]) [(.int .i64 k2), (.int .i64 c2), (.slice A2 o2.length ac2), (.int .i64 st2)] fun b4 w5 hb4 M6 => ?_
 replace M6 := M6.nf
 refine zpn 1 <| zfe <| zsr <| zpn 1 <| zld ⟨b1, 0, none⟩ (.int .i64 k) (blk_cell (M6.get 0 rfl) rfl) <| zpn 1 <| zld ⟨b4, 0, none⟩ (.int .i64 k2) (blk_cell (M6.get 1 rfl) rfl) <| zpn 2 ?_
 obtain ⟨B7, hB7⟩ : ∃ B : Bool, B = ((k : Int) == k2) := ⟨_, rfl⟩
 refine zkp [(2, (pT b1 0)), (3, (pT b4 0)), (10, (.bool ((k : Int) == k2)))] ?_
 rw [← hB7]
 have iB7 : B7 = true ↔ ((k : Int) = k2) := by rw [hB7]; simp only [beq_iff_eq]
 clear hB7
 intro aC fr
 refine zpk 1 7 [11] fr (news := [(11, (cond B7 (pT b1 1) undef))]) (by cases B7 <;> kernel_rfl) ?_
 intro aC fr
 refine From_either (B := B7) (d := (some 12)) (.int .i64 c) fr (by cases B7 <;> kernel_rfl) (fun hB hh => ?_) ?_
 cases B7 <;> first | (exact absurd hB (by decide)) | skip
 have c7 : ((k : Int) = k2) := iB7.1 rfl
 exact From_ld (some 12) ⟨b1, 1, none⟩ fr (by kernel_rfl) (.int .i64 c) (blk_cell (M6.get 0 rfl) rfl) hh
 intro aC fr
 refine zpk 1 9 [13] fr (news := [(13, (cond B7 (pT b4 1) undef))]) (by cases B7 <;> kernel_rfl) ?_
 intro aC fr
 refine From_either (B := B7) (d := (some 14)) (.int .i64 c2) fr (by cases B7 <;> kernel_rfl) (fun hB hh => ?_) ?_
 cases B7 <;> first | (exact absurd hB (by decide)) | skip
 have c7 : ((k : Int) = k2) := iB7.1 rfl
 exact From_ld (some 14) ⟨b4, 1, none⟩ fr (by kernel_rfl) (.int .i64 c2) (blk_cell (M6.get 1 rfl) rfl) hh
 intro aC fr
 refine zpk 3 13 [16, 17] fr (news := [(16, (.bool (B7 && ((c : Int) == c2)))), (17, (.bool (B7 && ((c : Int) == c2))))]) (by cases B7 <;> kernel_rfl) ?_
 intro aC fr
 obtain ⟨B20, hB20⟩ : ∃ B : Bool, B = (B7 && ((c : Int) == c2)) := ⟨_, rfl⟩
 revert aC
 refine zkp [(2, (pT b1 0)), (3, (pT b4 0)), (17, (.bool (B7 && ((c : Int) == c2))))] ?_
 rw [← hB20]
 have iB20 : B20 = true ↔ (((k : Int) = k2) ∧ ((c : Int) = c2)) := by rw [hB20]; simp only [Bool.and_eq_true, beq_iff_eq, iB7]
 clear hB20
 intro aC fr
 refine zpk 1 14 [18] fr (news := [(18, (cond B20 (pT b1 2) undef))]) (by cases B20 <;> kernel_rfl) ?_
 intro aC fr
 refine From_either (B := B20) (d := (some 19)) (.slice A o.length ac) fr (by cases B20 <;> kernel_rfl) (fun hB hh => ?_) ?_
 cases B20 <;> first | (exact absurd hB (by decide)) | skip
 have c20 : (((k : Int) = k2) ∧ ((c : Int) = c2)) := iB20.1 rfl
 exact From_ld (some 19) ⟨b1, 2, none⟩ fr (by kernel_rfl) (.slice A o.length ac) (blk_cell (M6.get 0 rfl) rfl) hh
 intro aC fr
 cases B20
 have c20 : ¬ (((k : Int) = k2) ∧ ((c : Int) = c2)) := (fun h => Bool.noConfusion (iB20.2 h) : ¬ (((k : Int) = k2) ∧ ((c : Int) = c2)))
 revert aC
 refine zpn 7 <| zfe <| zre <| zo1 (.bool false) ?_
 have hR : false = true ↔ False := by simp
 have M27 := M6.od [] 0
 exact ⟨bool_dec hR (⟨fun h_ => h_.elim, fun h_ => by have h1 := h_.1; have h2 := h_.2.1; omega⟩), M27⟩
 have c20 : (((k : Int) = k2) ∧ ((c : Int) = c2)) := iB20.1 rfl
 revert aC
 refine zcs o A o.length ac rfl (M6.ro hA) <| zpn 1 <| zld ⟨b4, 2, none⟩ (.slice A2 o2.length ac2) (blk_cell (M6.get 1 rfl) rfl) <| zcs o2 A2 o2.length ac2 rfl (M6.ro hA2) <| zpn 3 <| zfe <| zre <| zo1 (.bool (((strOfNums o) : ByteArray).toList == ((strOfNums o2) : ByteArray).toList)) ?_
 have hR : (((strOfNums o) : ByteArray).toList == ((strOfNums o2) : ByteArray).toList) = true ↔ (((strOfNums o)).toList = ((strOfNums o2)).toList) := by simp only [beq_iff_eq]
 have M28 := M6.od [] 0
 exact ⟨bool_dec hR (⟨fun h_ => ⟨by omega, by omega, h_⟩, fun h_ => h_.2.2⟩), M28⟩
theorem same3_c (k c st k2 c2 st2 : Int) (o o2 : List Int) (A A2 : Option Addr) (ac ac2 : Nat) (w : World) (hA : RO noS w (.rd A (u8s o))) (hA2 : RO noS w (.rd A2 (u8s o2))) :
    Calls Try.prog 17 #[(.agg #[(.int .i64 k), (.int .i64 c), (.slice A o.length ac), (.int .i64 st)]), (.agg #[(.int .i64 k2), (.int .i64 c2), (.slice A2 o2.length ac2), (.int .i64 st2)])] w (Ret fun v w' => v = .bool (decide (st = st2 ∧ (k = k2 ∧ c = c2 ∧ (strOfNums o).toList = (strOfNums o2).toList))) ∧ Mem noS w w' []) := by
 refine zen 15 [(.agg #[(.int .i64 k), (.int .i64 c), (.slice A o.length ac), (.int .i64 st)]), (.agg #[(.int .i64 k2), (.int .i64 c2), (.slice A2 o2.length ac2), (.int .i64 st2)])] Try.func17 ?_
 have hM := Mem.init w
 refine zsr <| zbx hM 36 (.agg #[(.int .i64 k), (.int .i64 c), (.slice A o.length ac), (.int .i64 st)]) [(.int .i64 k), (.int .i64 c), (.slice A o.length ac), (.int .i64 st)] fun b1 w2 hb1 M3 => ?_
 replace M3 := M3.nf
 clear hM
 refine zbx M3 36 (.agg #[(.int .i64 k2), (.int .i64 c2), (.slice A2 o2.length ac2), (.int .i64 st2)]) [(.int .i64 k2), (.int .i64 c2), (.slice A2 o2.length ac2), (.int .i64 st2)] fun b4 w5 hb4 M6 => ?_
 replace M6 := M6.nf
 refine zpn 1 <| zfe <| zsr <| zpn 1 <| zld ⟨b1, 3, none⟩ (.int .i64 st) (blk_cell (M6.get 0 rfl) rfl) <| zpn 1 <| zld ⟨b4, 3, none⟩ (.int .i64 st2) (blk_cell (M6.get 1 rfl) rfl) <| zpn 2 ?_
 obtain ⟨B7, hB7⟩ : ∃ B : Bool, B = ((st : Int) == st2) := ⟨_, rfl⟩
 refine zkp [(2, (pT b1 0)), (3, (pT b4 0)), (10, (.bool ((st : Int) == st2)))] ?_
 rw [← hB7]
 have iB7 : B7 = true ↔ ((st : Int) = st2) := by rw [hB7]; simp only [beq_iff_eq]
 clear hB7
 cases B7
 have c7 : ¬ ((st : Int) = st2) := (fun h => Bool.noConfusion (iB7.2 h) : ¬ ((st : Int) = st2))
 refine zpn 5 <| zfe <| zre <| zo1 (.bool false) ?_
 have hR : false = true ↔ False := by simp
 have M8 := M6.od [] 0
 exact ⟨bool_dec hR (⟨fun h_ => h_.elim, fun h_ => by have h1 := h_.1; omega⟩), M8⟩
 have c7 : ((st : Int) = st2) := iB7.1 rfl
 refine zls ⟨b1, 0, none⟩ [(.int .i64 k), (.int .i64 c), (.slice A o.length ac), (.int .i64 st)] (blk_cells (M6.get 0 rfl)) <| zls ⟨b4, 0, none⟩ [(.int .i64 k2), (.int .i64 c2), (.slice A2 o2.length ac2), (.int .i64 st2)] (blk_cells (M6.get 1 rfl)) <| zcl (alike_c k c st k2 c2 st2 o o2 A A2 ac ac2 w5 (hA.at_ M6) (hA2.at_ M6)) ?_
 rintro _ w9 ⟨rfl, M10x⟩
 have M10 := M6.cl M10x
 refine zpn 2 <| zfe <| zre <| zo1 (.bool (decide (k = k2 ∧ c = c2 ∧ (strOfNums o).toList = (strOfNums o2).toList))) ?_
 have hR : decide (k = k2 ∧ c = c2 ∧ (strOfNums o).toList = (strOfNums o2).toList) = true ↔ (k = k2 ∧ c = c2 ∧ (strOfNums o).toList = (strOfNums o2).toList) := by simp only [decide_eq_true_eq]
 have M11 := M10.od [] 0
 exact ⟨bool_dec hR (⟨fun h_ => ⟨by omega, h_⟩, fun h_ => h_.2⟩), M11⟩
theorem awake19_d (w : World) :
    Calls Try.prog 9 #[] w (Ret fun v w' => v = .bool (decide (True)) ∧ Mem noS w w' []) := by
 refine zen 38 [] Try.func9 ?_
 have hM := Mem.init w
 refine zsp <| zsr <| zpn 1 ?_
 intro aC fr
 refine zBs 4 44 1 #[(0, (.const (.int .i64 0)))] 44 fr (e := 3) (size := 1) (zs := [(.int .i64 0)]) (vs := [(0, (.int .i64 0))]) (cs := [(.int .i64 0)]) hM ?_
 intro b1 w2 hb1 _ M3 _ aC ea fr; clear ea
 replace M3 := M3.nf
 clear hM
 revert aC
 refine zpn 1 ?_
 intro aC fr
 refine zBs 6 41 2 #[(0, (.tmp 3)), (1, (.tmp 5))] 41 fr (e := 46) (size := 5) (zs := [(.int .i64 0), (.int .i64 0), (.int .i64 0), (.string ⟨#[]⟩), (.slice none 0 0)]) (vs := [(0, (.agg #[(.int .i64 1), (.int .i64 0), (.int .i64 7), (.string ⟨#[]⟩), (.slice none 0 0)])), (1, (.agg #[(.int .i64 10), (.int .i64 (-1)), (.int .i64 0), (.string ⟨#[]⟩), (.slice (sM b1) 1 1)]))]) (cs := [(.int .i64 1), (.int .i64 0), (.int .i64 7), (.string ⟨#[]⟩), (.slice none 0 0), (.int .i64 10), (.int .i64 (-1)), (.int .i64 0), (.string ⟨#[]⟩), (.slice (sM b1) 1 1)]) M3 ?_
 intro b8 w9 hb8 _ M10 _ aC ea fr; clear ea
 replace M10 := M10.nf
 revert aC
 refine zpn 1 ?_
 intro aC fr
 refine zBs 8 22 1 #[(0, (.tmp 7))] 22 fr (e := 43) (size := 6) (zs := [(.slice none 0 0), (.slice none 0 0), (.int .i64 0), (.int .i64 0), (.int .i64 0), (.int .i64 0)]) (vs := [(0, (.agg #[(.slice none 0 0), (.slice (sM b8) 2 2), (.int .i64 2), (.int .i64 (-1)), (.int .i64 0), (.int .i64 0)]))]) (cs := [(.slice none 0 0), (.slice (sM b8) 2 2), (.int .i64 2), (.int .i64 (-1)), (.int .i64 0), (.int .i64 0)]) M10 ?_
 intro b15 w16 hb15 _ M17 _ aC ea fr; clear ea
 replace M17 := M17.nf
 revert aC
 refine zpn 1 <| zal M17 24 [(.string ⟨#[]⟩), (.bool false), (.int .i64 0), (.int .i64 0), (.slice none 0 0)] fun b22 w23 hb22 M24 => ?_
 replace M24 := M24.nf
 refine zss M24 3 [(.string ⟨#[102]⟩), (.bool false), (.int .i64 0), (.int .i64 1), (.slice (sM b15) 1 1)] rfl fun w25 M26 => ?_
 replace M26 := M26.nf
 refine zfe <| zsr <| zls ⟨b22, 0, none⟩ [(.string ⟨#[102]⟩), (.bool false), (.int .i64 0), (.int .i64 1), (.slice (sM b15) 1 1)] (blk_cells (M26.get 3 rfl)) ?_
 intro aC fr
 refine zBs 11 31 1 #[(0, (.tmp 10))] 31 fr (e := 24) (size := 5) (zs := [(.string ⟨#[]⟩), (.bool false), (.int .i64 0), (.int .i64 0), (.slice none 0 0)]) (vs := [(0, (.agg #[(.string ⟨#[102]⟩), (.bool false), (.int .i64 0), (.int .i64 1), (.slice (sM b15) 1 1)]))]) (cs := [(.string ⟨#[102]⟩), (.bool false), (.int .i64 0), (.int .i64 1), (.slice (sM b15) 1 1)]) M26 ?_
 intro b27 w28 hb27 _ M29 _ aC ea fr; clear ea
 replace M29 := M29.nf
 revert aC
 refine zkp [(1, (pT b22 0)), (11, (.slice (sM b27) 1 1))] ?_
 intro aC fr
 refine zBs 12 32 1 #[(0, (.const (.string { data := #[102] })))] 32 fr (e := 9) (size := 1) (zs := [(.string ⟨#[]⟩)]) (vs := [(0, (.string ⟨#[102]⟩))]) (cs := [(.string ⟨#[102]⟩)]) M29 ?_
 intro b34 w35 hb34 _ M36 _ aC ea fr; clear ea
 replace M36 := M36.nf
 revert aC
 refine zcl ((by have h9 := run_c [awF (sM b15) (sM b8) (sM b1)] (sM b27) 1 [awN] (sM b34) 1 10 [] none 0 10 w35 (aw_in (aw_ro (A5 := (sM b1)) (A7 := (sM b8)) (A9 := (sM b15)) (M36.get 0 rfl) (M36.get 1 rfl) (M36.get 2 rfl)) (M36.get 4 rfl) (M36.get 5 rfl)); rw [aw_run] at h9; exact h9)) ?_
 rintro _ w43 ⟨oA41, oc42, rfl, M44x⟩
 have M44 := M36.cl M44x
 refine zal M44 36 [(.int .i64 0), (.int .i64 0), (.slice none 0 0), (.int .i64 0)] fun b45 w46 hb45 M47 => ?_
 replace M47 := M47.nf
 refine zss M47 7 [(.int .i64 1), (.int .i64 0), (.slice oA41 1 oc42), (.int .i64 3)] rfl fun w48 M49 => ?_
 replace M49 := M49.nf
 refine zfe <| zsr <| zls ⟨b22, 0, none⟩ [(.string ⟨#[102]⟩), (.bool false), (.int .i64 0), (.int .i64 1), (.slice (sM b15) 1 1)] (blk_cells (M49.get 3 rfl)) <| zcl ((by have h9 := valid_c awN false 0 1 (sM b15) 1 [awB (sM b8) (sM b1)] w48 (by simp) aw_ok (aw_ro (A5 := (sM b1)) (A7 := (sM b8)) (A9 := (sM b15)) (M49.get 0 rfl) (M49.get 1 rfl) (M49.get 2 rfl)); rw [aw_valid] at h9; exact h9)) ?_
 rintro _ w50 ⟨rfl, M51x⟩
 have M51 := M49.cl M51x
 refine zpn 2 <| zls ⟨b22, 0, none⟩ [(.string ⟨#[102]⟩), (.bool false), (.int .i64 0), (.int .i64 1), (.slice (sM b15) 1 1)] (blk_cells (M51.get 3 rfl)) <| zcl ((by have h9 := size_c awN false 0 1 (sM b15) 1 [awB (sM b8) (sM b1)] w50 (by simp) aw_ok (aw_ro (A5 := (sM b1)) (A7 := (sM b8)) (A9 := (sM b15)) (M51.get 0 rfl) (M51.get 1 rfl) (M51.get 2 rfl)); rw [aw_size] at h9; exact h9)) ?_
 rintro _ w52 ⟨rfl, M53x⟩
 have M53 := M51.cl M53x
 refine zpn 4 <| zld ⟨b45, 0, none⟩ (.int .i64 1) (blk_cell (M53.get 7 rfl) rfl) <| zpn 4 <| zld ⟨b45, 2, none⟩ (.slice oA41 1 oc42) (blk_cell (M53.get 7 rfl) rfl) <| zkp [(2, (pT b45 0)), (27, (.bool true)), (29, (.slice oA41 1 oc42))] <| zcs [7] oA41 1 oc42 rfl (row_rd (M53.get 6 rfl)) <| zpn 3 ?_
 obtain ⟨B54, hB54⟩ : ∃ B : Bool, B = (((strOfNums [7]) : ByteArray).toList == (⟨#[7]⟩ : ByteArray).toList) := ⟨_, rfl⟩
 refine zkp [(2, (pT b45 0)), (33, (.bool (((strOfNums [7]) : ByteArray).toList == (⟨#[7]⟩ : ByteArray).toList)))] ?_
 rw [← hB54]
 have iB54 : B54 = true ↔ (((strOfNums [7])).toList = (⟨#[7]⟩ : ByteArray).toList) := by rw [hB54]; simp only [beq_iff_eq]
 clear hB54
 intro aC fr
 refine zpk 1 21 [34] fr (news := [(34, (cond B54 (pT b45 3) undef))]) (by cases B54 <;> kernel_rfl) ?_
 intro aC fr
 refine From_either (B := B54) (d := (some 35)) (.int .i64 3) fr (by cases B54 <;> kernel_rfl) (fun hB hh => ?_) ?_
 cases B54 <;> first | (exact absurd hB (by decide)) | skip
 have c54 : (((strOfNums [7])).toList = (⟨#[7]⟩ : ByteArray).toList) := iB54.1 rfl
 exact From_ld (some 35) ⟨b45, 3, none⟩ fr (by kernel_rfl) (.int .i64 3) (blk_cell (M53.get 7 rfl) rfl) hh
 intro aC fr
 refine zpk 3 25 [0, 37] fr (news := [(0, (.bool B54)), (37, (.bool B54))]) (by cases B54 <;> kernel_rfl) ?_
 intro aC fr
 revert aC
 refine zfe <| zre <| zo1 (.bool B54) ?_
 have hR : B54 = true ↔ (((strOfNums [7])).toList = (⟨#[7]⟩ : ByteArray).toList) := by simp only [iB54]
 have M63 := M53.od [] 0
 exact ⟨bool_dec hR (⟨fun _ => trivial, fun _ => congrArg ByteArray.toList (rfl : strOfNums [7] = ⟨#[7]⟩)⟩), M63⟩
theorem awake19_c (w : World) : Calls Try.prog 9 #[] w (Ret fun v w' => v = .bool true ∧ Mem noS w w' []) := by
  have h := awake19_d w
  simpa using h
end Go.Proofs.Ytjekgaabcigphaa
namespace Go.Proofs.Ytjekgaabcigphaa
open Go.Mor
theorem great19_c (nm : ByteArray) (wk : Bool) (pa va : Int) (A : Option Addr) (c : Nat) (fs : List FBlk) (w : World) (hok : FOk fs) (hA : RO noS w (.fn A fs)) :
    Calls Try.prog 8 #[(fA nm wk pa va A c fs)] w (Ret fun v w' => v = .bool (decide (greatQ va fs)) ∧ Mem noS w w' []) := by
 have hbl := bsOf_len fs
 have hB := hA.bs
 refine zen 51 [(fA nm wk pa va A c fs)] Try.func8 ?_
 have hM := Mem.init w
 refine zsr <| zbx hM 24 (fA nm wk pa va A c fs) (fV nm wk pa va A c fs) fun b1 w2 hb1 M3 => ?_
 replace M3 := M3.nf
 clear hM
 refine zpn 1 <| zfe <| zsq <| zsr <| zpn 1 <| zld ⟨b1, 4, none⟩ (.slice A ((bsOf fs).length) c) (blk_cell (M3.get 0 rfl) rfl) <| zpn 3 ?_
 obtain ⟨B4, hB4⟩ : ∃ B : Bool, B = decide (((((bsOf fs).length : Nat) : Int) : Int) > 60) := ⟨_, rfl⟩
 refine zkp [(1, (pT b1 0)), (9, (.bool (decide (((((bsOf fs).length : Nat) : Int) : Int) > 60))))] ?_
 rw [← hB4]
 have iB4 : B4 = true ↔ (((((bsOf fs).length : Nat) : Int) : Int) > 60) := by rw [hB4]; simp only [decide_eq_true_eq]
 clear hB4
 intro aC fr
 refine zpk 1 6 [10] fr (news := [(10, (cond (!B4) (pT b1 3) undef))]) (by cases B4 <;> kernel_rfl) ?_
 intro aC fr
 refine From_either (B := (!B4)) (d := (some 11)) (.int .i64 va) fr (by cases B4 <;> kernel_rfl) (fun hB hh => ?_) ?_
 cases B4 <;> first | (exact absurd hB (by decide)) | skip
 have c4 : ¬ (((((bsOf fs).length : Nat) : Int) : Int) > 60) := (fun h => Bool.noConfusion (iB4.2 h) : ¬ (((((bsOf fs).length : Nat) : Int) : Int) > 60))
 exact From_ld (some 11) ⟨b1, 3, none⟩ fr (by kernel_rfl) (.int .i64 va) (blk_cell (M3.get 0 rfl) rfl) hh
 intro aC fr
 refine zpk 2 9 [13] fr (news := [(13, (.bool (B4 || decide ((va : Int) > 3000))))]) (by cases B4 <;> kernel_rfl) ?_
 intro aC fr
 revert aC
 refine zfe <| zcP (B4 || decide ((va : Int) > 3000)) ((((((bsOf fs).length : Nat) : Int) : Int) > 60) ∨ ((va : Int) > 3000)) (by simp only [Bool.or_eq_true, decide_eq_true_eq, iB4]) (fun c13 => ?_) (fun c13 => ?_)
 refine zsr <| zpn 1 <| zld ⟨b1, 3, none⟩ (.int .i64 va) (blk_cell (M3.get 0 rfl) rfl) <| zpn 2 ?_
 obtain ⟨B14, hB14⟩ : ∃ B : Bool, B = decide ((va : Int) ≤ 20000) := ⟨_, rfl⟩
 refine zkp [(1, (pT b1 0)), (17, (.bool (decide ((va : Int) ≤ 20000))))] ?_
 rw [← hB14]
 have iB14 : B14 = true ↔ ((va : Int) ≤ 20000) := by rw [hB14]; simp only [decide_eq_true_eq]
 clear hB14
 intro aC fr
 refine zpk 1 5 [18] fr (news := [(18, (cond (!B14) (pT b1 4) undef))]) (by cases B14 <;> kernel_rfl) ?_
 intro aC fr
 refine From_either (B := (!B14)) (d := (some 19)) (.slice A ((bsOf fs).length) c) fr (by cases B14 <;> kernel_rfl) (fun hB hh => ?_) ?_
 cases B14 <;> first | (exact absurd hB (by decide)) | skip
 have c14 : ¬ ((va : Int) ≤ 20000) := (fun h => Bool.noConfusion (iB14.2 h) : ¬ ((va : Int) ≤ 20000))
 exact From_ld (some 19) ⟨b1, 4, none⟩ fr (by kernel_rfl) (.slice A ((bsOf fs).length) c) (blk_cell (M3.get 0 rfl) rfl) hh
 intro aC fr
 refine zpk 4 10 [2, 22] fr (news := [(2, (.bool (B14 || decide (((((bsOf fs).length : Nat) : Int) : Int) > 60)))), (22, (.bool (B14 || decide (((((bsOf fs).length : Nat) : Int) : Int) > 60))))]) (by cases B14 <;> kernel_rfl) ?_
 intro aC fr
 revert aC
 refine zfe <| zre <| zo1 (.bool (B14 || decide (((((bsOf fs).length : Nat) : Int) : Int) > 60))) ?_
 have hR : (B14 || decide (((((bsOf fs).length : Nat) : Int) : Int) > 60)) = true ↔ (((va : Int) ≤ 20000) ∨ (((((bsOf fs).length : Nat) : Int) : Int) > 60)) := by simp only [Bool.or_eq_true, decide_eq_true_eq, iB14]
 have M23 := M3.od [] 0
 exact ⟨bool_dec hR (by unfold greatQ; omega), M23⟩
 have hl60 : fs.length ≤ 60 := by omega
 refine zsk <| zsp <| zsq <| zsp <| zbk 0 ?_
 intro aC fr
 refine zlp (fun n_ a_ w_ => ∃ (k : Nat), n_ = fs.length - k ∧ Fr a_ 51 [(1, (pT b1 0)), (3, (.int .i64 ((greatTo fs k : Nat) : Int))), (4, (nV k))] ∧ Mem noS w w_ [.blk b1 24 (fV nm wk pa va A c fs)] ∧ (k ≤ fs.length)) (n := _) ⟨0, rfl, fr.kp [1, 3, 4], M3, by omega⟩ ?_
 clear fr aC M3; rintro n aC w26 ⟨k, rfl, fr, M27, hk⟩
 revert aC
 refine zsq <| zsr <| zpn 2 <| zld ⟨b1, 4, none⟩ (.slice A ((bsOf fs).length) c) (blk_cell (M27.get 0 rfl) rfl) <| zpn 2 <| zfe <| zcD (((k : Int) : Int) < (((bsOf fs).length : Nat) : Int)) (fun c30 => ?_) (fun c30 => ?_)
 refine zsk <| zsq <| zbk 1 ?_
 obtain ⟨x, hx⟩ := get_of (l := fs) (i := k) (by omega)
 have hl1 : x.phis.length ≤ 281474976710656 := (hok.get hx).lp
 have hl2 : x.insts.length ≤ 281474976710656 := (hok.get hx).li
 have hgl := greatTo_le fs k hk
 have hgs := greatTo_succ hx
 obtain ⟨ad31, rfl⟩ := blocks_some (M27.ro hB) (bsOf_get hx)
 refine zkp [(1, (pT b1 0)), (3, (.int .i64 ((greatTo fs k : Nat) : Int))), (4, (nV k))] ?_
 intro aC fr
 refine zdr (N := 51) (env0 := [(1, (pT b1 0)), (3, (.int .i64 ((greatTo fs k : Nat) : Int))), (4, (nV k))]) (specAt [.det (.int .i64 ((greatTo fs k : Nat) : Int)), .det (pT b1 4), .det (.slice (some ad31) ((bsOf fs).length) c), .det (nV k), .det (.pointer (some ((ad31 : Addr).add (((k : Int)).toNat * 6)))), .det (.pointer (some ((ad31 : Addr).add (((k : Int)).toNat * 6)))), .det (.slice x.pA x.phis.length x.pc), .det (.int .i64 ((x.phis.length : Nat) : Int)), .det (.int .i64 ((min x.phis.length 5000 : Nat) : Int)), .det (.int .i64 (((greatTo fs k : Nat) : Int) + ((min x.phis.length 5000 : Nat) : Int))), .det (pT b1 4), .det (.slice (some ad31) ((bsOf fs).length) c), .det (nV k), .det (.pointer (some ((ad31 : Addr).add (((k : Int)).toNat * 6)))), .det (.pointer (some (((ad31 : Addr).add (((k : Int)).toNat * 6)).add 1))), .det (.slice x.iA x.insts.length x.ic), .det (.int .i64 ((x.insts.length : Nat) : Int)), .det (.int .i64 ((min x.insts.length 5000 : Nat) : Int)), .det (.int .i64 (((greatTo fs (k + 1) : Nat) : Int))), .det (.int .i64 (((greatTo fs (k + 1) : Nat) : Int)))]) fr (la (la (la (la (la (la (la (la (la (la (la (la (la (la (la (la (la (la (la (la lz dP) dP) (dL ⟨b1, 4, none⟩ (.slice (some ad31) ((bsOf fs).length) c) fun w_ hK => (blk_cell ((M27.then_ hK).get 0 rfl) rfl))) dP) (dI ad31 ((bsOf fs).length) 6 (k : Int))) dP) (dL ((ad31 : Addr).add (((k : Int)).toNat * 6)) (.slice x.pA x.phis.length x.pc) fun w_ hK => (fblk_get ((M27.then_ hK).ro hB) rfl hx 0 _ rfl))) dP) (dMN .i64 ((x.phis.length : Nat) : Int) 5000 ((min x.phis.length 5000 : Nat) : Int) (.tmp 37) (.const (.int .i64 5000)) #[3, 3] 3 none (by split <;> omega))) (dA (((greatTo fs k : Nat) : Int) + ((min x.phis.length 5000 : Nat) : Int)))) dP) (dL ⟨b1, 4, none⟩ (.slice (some ad31) ((bsOf fs).length) c) fun w_ hK => (blk_cell ((M27.then_ hK).get 0 rfl) rfl))) dP) (dI ad31 ((bsOf fs).length) 6 (k : Int))) dP) (dL (((ad31 : Addr).add (((k : Int)).toNat * 6)).add 1) (.slice x.iA x.insts.length x.ic) fun w_ hK => (fblk_get ((M27.then_ hK).ro hB) rfl hx 1 _ rfl))) dP) (dMN .i64 ((x.insts.length : Nat) : Int) 5000 ((min x.insts.length 5000 : Nat) : Int) (.tmp 46) (.const (.int .i64 5000)) #[3, 3] 3 none (by split <;> omega))) ?_) dP) ?_
 intro aa_ w_ vs rest_ hK hp hF
 refine okG (g0 := none) ?_
 replace hF : Fr aa_ 51 [(39, (.int .i64 (((greatTo fs k : Nat) : Int) + ((min x.phis.length 5000 : Nat) : Int)))), (47, (.int .i64 ((min x.insts.length 5000 : Nat) : Int)))] := hF.kp [39, 47]
 refine From_arith (by kernel_rfl : coreAt _ 0 = some (some 48, (.binOp .add 3 (.tmp 39) (.tmp 47) 3), 3, none)) hF (by kernel_rfl) (by kernel_rfl) (k' := 1) rfl (i := (((greatTo fs k : Nat) : Int) + ((min x.phis.length 5000 : Nat) : Int))) (j := ((min x.insts.length 5000 : Nat) : Int)) (z := (((greatTo fs (k + 1) : Nat) : Int))) (by kernel_rfl) (by kernel_rfl) (congrArg some (by omega)) (by omega) (by omega) ?_
 intro a2 ea _
 refine From_end (by kernel_rfl) ?_; exact op_done (d := some 48) (by kernel_rfl) ea (Kp.refl _) rfl
 intro aC w36 vs hK hv fr
 revert aC; refine zkp [(1, (pT b1 0)), (3, (.int .i64 (((greatTo fs (k + 1) : Nat) : Int)))), (4, (nV k))] ?_
 have M37 := M27.then_ hK
 clear hK hv fr aC M27; clear vs
 refine zrg <| zpn 1 <| zar ((k : Int) + 1) <| zpn 1 <| zfe ?_
 intro aC fr
 exact ⟨fs.length - (k + 1), by omega, k + 1, rfl, fr.kp [1, 3, 4], M37, by omega⟩
 refine zex 0 <| zbh <| zsp <| zre <| zo1 (.bool (decide ((((greatTo fs k : Nat) : Int) : Int) > 3000))) ?_
 have hR : decide ((((greatTo fs k : Nat) : Int) : Int) > 3000) = true ↔ ((((greatTo fs k : Nat) : Int) : Int) > 3000) := by simp only [decide_eq_true_eq]
 have M40 := M27.od [] 0
 exact ⟨bool_dec hR (by unfold greatQ; (try rw [show k = fs.length by omega]); omega), M40⟩
end Go.Proofs.Ytjekgaabcigphaa
namespace Go.Proofs.Ytjekgaabcigphaa
open Go.Mor
theorem begins_c (k c st k2 c2 st2 : Int) (o o2 : List Int) (A A2 : Option Addr) (ac ac2 : Nat) (w : World) (hA : RO noS w (.rd A (u8s o))) (hA2 : RO noS w (.rd A2 (u8s o2))) (hlen : o.length ≤ o2.length) (hc2 : o.length ≤ ac2) :
    Calls Try.prog 18 #[(.agg #[(.int .i64 k), (.int .i64 c), (.slice A o.length ac), (.int .i64 st)]), (.agg #[(.int .i64 k2), (.int .i64 c2), (.slice A2 o2.length ac2), (.int .i64 st2)])] w (Ret fun v w' => v = .bool (decide ((strOfNums (o2.take o.length)).toList = (strOfNums o).toList)) ∧ Mem noS w w' []) := by
 refine zen 25 [(.agg #[(.int .i64 k), (.int .i64 c), (.slice A o.length ac), (.int .i64 st)]), (.agg #[(.int .i64 k2), (.int .i64 c2), (.slice A2 o2.length ac2), (.int .i64 st2)])] Try.func18 ?_
 have hM := Mem.init w
 refine zsr <| zbx hM 36 (.agg #[(.int .i64 k), (.int .i64 c), (.slice A o.length ac), (.int .i64 st)]) [(.int .i64 k), (.int .i64 c), (.slice A o.length ac), (.int .i64 st)] fun b1 w2 hb1 M3 => ?_
 replace M3 := M3.nf
 clear hM
 refine zbx M3 36 (.agg #[(.int .i64 k2), (.int .i64 c2), (.slice A2 o2.length ac2), (.int .i64 st2)]) [(.int .i64 k2), (.int .i64 c2), (.slice A2 o2.length ac2), (.int .i64 st2)] fun b4 w5 hb4 M6 => ?_
 replace M6 := M6.nf
 refine zpn 1 <| zfe <| zsq <| zkp [(2, (pT b1 0)), (3, (pT b4 0))] ?_
 intro aC fr
 refine zdt 18 (N := 25) (env0 := [(2, (pT b1 0)), (3, (pT b4 0))]) (specAt [.det (pT b1 2), .det (.slice A o.length ac), .det (.int .i64 ((o.length : Nat) : Int)), .det (pT b4 2), .det (.slice A2 o2.length ac2), .det (.int .i64 ((o2.length : Nat) : Int)), .det (.bool true), .det (.bool true), .det (pT b4 2), .det (.slice A2 o2.length ac2), .det (pT b1 2), .det (.slice A o.length ac), .det (.int .i64 ((o.length : Nat) : Int)), .det (.slice A2 o.length ac2), .det (.string (strOfNums (o2.take o.length))), .det (pT b1 2), .det (.slice A o.length ac), .det (.string (strOfNums o))]) fr (la (la (la (la (la (la (la (la (la (la (la (la (la (la (la (la (la (la lz dP) (dL ⟨b1, 2, none⟩ (.slice A o.length ac) fun w_ hK => (blk_cell ((M6.then_ hK).get 0 rfl) rfl))) dP) dP) (dL ⟨b4, 2, none⟩ (.slice A2 o2.length ac2) fun w_ hK => (blk_cell ((M6.then_ hK).get 1 rfl) rfl))) dP) (dC (decide ((o.length : Int) ≤ (o2.length : Int))) (B := true) (by rw [eq_comm, decide_eq_true_eq]; omega))) dP) dP) (dL ⟨b4, 2, none⟩ (.slice A2 o2.length ac2) fun w_ hK => (blk_cell ((M6.then_ hK).get 1 rfl) rfl))) dP) (dL ⟨b1, 2, none⟩ (.slice A o.length ac) fun w_ hK => (blk_cell ((M6.then_ hK).get 0 rfl) rfl))) dP) (dSh A2 ac2 o.length (o.length : Int) rfl hc2)) (dCS (o2.take o.length) A2 o.length ac2 (by rw [List.length_take]; omega) (fun w_ hK_ => rd_take (RO.later (hA2.at_ M6) hK_).1))) dP) (dL ⟨b1, 2, none⟩ (.slice A o.length ac) fun w_ hK => (blk_cell ((M6.then_ hK).get 0 rfl) rfl))) (dCS o A o.length ac rfl (fun w_ hK_ => (RO.later (hA.at_ M6) hK_).1))) ?_
 intro aC w11 vs hK hv fr
 revert aC; refine zkp [(12, (.bool true)), (19, (.string (strOfNums (o2.take o.length)))), (22, (.string (strOfNums o)))] ?_
 have M12 := M6.then_ hK
 clear hK hv fr aC M6; clear vs
 refine zpn 3 <| zfe <| zre <| zo1 (.bool (((strOfNums (o2.take o.length)) : ByteArray).toList == ((strOfNums o) : ByteArray).toList)) ?_
 have hR : (((strOfNums (o2.take o.length)) : ByteArray).toList == ((strOfNums o) : ByteArray).toList) = true ↔ (((strOfNums (o2.take o.length))).toList = ((strOfNums o)).toList) := by simp only [beq_iff_eq]
 have M13 := M12.od [] 0
 exact ⟨bool_dec hR (Iff.rfl), M13⟩
theorem heavy_c (fs : List FFn) (fA : Option Addr) (fc : Nat) (g : Nat) (gA : Option Addr) (gc : Nat) (mem : Int) (i : Nat) (iA : Option Addr) (ic : Nat) (fuel : Int) (w : World) (hfl : LenOk fs.length) (hcells : RO noS w (.rds fA 5 (fs.map FFn.cells))) (hok : ∀ x, x ∈ fs → FOk x.blks) (hfn : ∀ x, x ∈ fs → RO noS w (.fn x.A x.blks)) :
    Calls Try.prog 15 #[(.slice fA fs.length fc), (.slice none 0 0), (.slice gA g gc), (.int .i64 mem), (.slice iA i ic), (.int .i64 fuel)] w (Ret fun v w' => v = .bool (decide (heavyQ fs g mem i fuel)) ∧ Mem noS w w' []) := by
 unfold LenOk at hfl
 refine zen 88 [(.slice fA fs.length fc), (.slice none 0 0), (.slice gA g gc), (.int .i64 mem), (.slice iA i ic), (.int .i64 fuel)] Try.func15 ?_
 have hM := Mem.init w
 refine zsp <| zsq <| zsp <| zbk 0 ?_
 intro aC fr
 refine zlp (fun n_ a_ w_ => ∃ (j : Nat), n_ = fs.length - j ∧ Fr a_ 88 [(0, (.slice fA fs.length fc)), (1, (.slice none 0 0)), (2, (.slice gA g gc)), (3, (.int .i64 mem)), (4, (.slice iA i ic)), (5, (.int .i64 fuel)), (13, (nV j))] ∧ Mem noS w w_ [] ∧ (j ≤ fs.length) ∧ (∀ (i : Nat) (x : FFn), i < j → fs[i]? = some x → ¬ greatQ x.va x.blks)) (n := _) ⟨0, rfl, fr.kp [0, 1, 2, 3, 4, 5, 13], hM, Nat.zero_le _, fun _ _ h => absurd h (Nat.not_lt_zero _)⟩ ?_
 clear fr aC hM; rintro n aC w3 ⟨j, rfl, fr, M4, hj, hng⟩
 revert aC
 refine zsq <| zsr <| zpn 5 ?_
 obtain ⟨B7, hB7⟩ : ∃ B : Bool, B = decide (((j : Int) : Int) < ((fs.length : Nat) : Int)) := ⟨_, rfl⟩
 refine zkp [(0, (.slice fA fs.length fc)), (1, (.slice none 0 0)), (2, (.slice gA g gc)), (3, (.int .i64 mem)), (4, (.slice iA i ic)), (5, (.int .i64 fuel)), (13, (nV j)), (20, (.bool (decide (((j : Int) : Int) < ((fs.length : Nat) : Int)))))] ?_
 rw [← hB7]
 have iB7 : B7 = true ↔ (((j : Int) : Int) < ((fs.length : Nat) : Int)) := by rw [hB7]; simp only [decide_eq_true_eq]
 clear hB7
 intro aC fr
 refine zpk 3 8 [23] fr (news := [(23, (.bool (B7 && decide (((j : Int) : Int) < 30))))]) (by cases B7 <;> kernel_rfl) ?_
 intro aC fr
 revert aC
 refine zfe <| zcP (B7 && decide (((j : Int) : Int) < 30)) ((((j : Int) : Int) < ((fs.length : Nat) : Int)) ∧ (((j : Int) : Int) < 30)) (by simp only [Bool.and_eq_true, decide_eq_true_eq, iB7]) (fun c12 => ?_) (fun c12 => ?_)
 refine zsk <| zsq <| zbk 1 <| zsr ?_
 obtain ⟨f, hf⟩ := get_of (l := fs) (i := j) (by omega)
 have hfm := List.mem_of_getElem? hf
 refine zpn 2 ?_
 obtain ⟨ad13, rfl⟩ := rds_some (M4.ro hcells) (i := j) (by rw [List.getElem?_map, hf]; rfl)
 refine zix ad13 fs.length 5 (j : Int) ?_
 refine zls ((ad13 : Addr).add (((j : Int)).toNat * 5)) [(.string f.nm), (.bool f.wk), (.int .i64 f.pa), (.int .i64 f.va), (.slice f.A ((bsOf f.blks).length) f.c)] (rds_cells (i := j) (M4.ro hcells) rfl (by rw [List.getElem?_map, hf]; rfl)) ?_
 refine zcl (great19_c f.nm f.wk f.pa f.va f.A f.c f.blks w3 (hok f hfm) ((hfn f hfm).at_ M4)) ?_
 rintro _ w14 ⟨rfl, M15x⟩
 have M15 := M4.cl M15x
 refine zfe <| zcD (greatQ f.va f.blks) (fun c16 => ?_) (fun c16 => ?_)
 refine zsp <| zre <| zbr <| zbr <| zo1 (.bool true) ?_
 have hR : true = true ↔ True := by simp
 exact ⟨bool_dec hR (⟨fun _ => .inl ⟨j, f, by omega, hf, c16⟩, fun _ => trivial⟩), M15⟩
 refine zsk <| zrg <| zpn 1 <| zar ((j : Int) + 1) <| zpn 1 <| zfe ?_
 intro aC fr
 exact ⟨fs.length - (j + 1), by omega, j + 1, rfl, fr.kp [0, 1, 2, 3, 4, 5, 13], M15, by omega, fun i x hi hx => by rcases Nat.lt_or_ge i j with h_ | h_; exact hng i x h_ hx; obtain rfl : i = j := (by omega); rw [hf] at hx; injection hx with hx; subst hx; exact c16⟩
 refine zex 0 <| zbh <| zsp <| zsq <| zsp <| zbk 2 ?_
 have hno : ¬ ∃ (j : Nat) (f : FFn), j < 30 ∧ fs[j]? = some f ∧ greatQ f.va f.blks := by rintro ⟨i, x, h1_, h2_, h3_⟩; have h4_ := (List.getElem?_eq_some_iff.1 h2_).1; exact hng i x (by omega) h2_ h3_
 intro aC fr
 refine zlp (fun n_ a_ w_ => n_ = 0 ∧ Fr a_ 88 [(0, (.slice fA fs.length fc)), (1, (.slice none 0 0)), (2, (.slice gA g gc)), (3, (.int .i64 mem)), (4, (.slice iA i ic)), (5, (.int .i64 fuel)), (14, (.int .i64 0)), (15, (.int .i64 0))] ∧ Mem noS w w_ []) (n := _) ⟨rfl, fr.kp [0, 1, 2, 3, 4, 5, 14, 15], M4⟩ ?_
 clear fr aC M4; rintro n aC w21 ⟨rfl, fr, M22⟩
 revert aC
 refine zsq <| zsp <| zcF <| zex 2 <| zbh <| zsr <| zpn 4 ?_
 obtain ⟨B25, hB25⟩ : ∃ B : Bool, B = decide ((((fs.length : Nat) : Int) : Int) > 20) := ⟨_, rfl⟩
 refine zkp [(1, (.slice none 0 0)), (2, (.slice gA g gc)), (3, (.int .i64 mem)), (4, (.slice iA i ic)), (5, (.int .i64 fuel)), (14, (.int .i64 0)), (61, (.bool (decide ((((fs.length : Nat) : Int) : Int) > 20))))] ?_
 rw [← hB25]
 have iB25 : B25 = true ↔ ((((fs.length : Nat) : Int) : Int) > 20) := by rw [hB25]; simp only [decide_eq_true_eq]
 clear hB25
 intro aC fr
 refine zpk 14 18 [65, 66, 69, 70, 74, 75] fr (news := [(65, (.bool B25)), (66, (.bool B25)), (69, (.bool B25)), (70, (.bool B25)), (74, (.bool (B25 || decide ((((g : Nat) : Int) : Int) > 50)))), (75, (.bool (B25 || decide ((((g : Nat) : Int) : Int) > 50))))]) (by cases B25 <;> kernel_rfl) ?_
 intro aC fr
 obtain ⟨B30, hB30⟩ : ∃ B : Bool, B = (B25 || decide ((((g : Nat) : Int) : Int) > 50)) := ⟨_, rfl⟩
 revert aC
 refine zkp [(3, (.int .i64 mem)), (4, (.slice iA i ic)), (5, (.int .i64 fuel)), (75, (.bool (B25 || decide ((((g : Nat) : Int) : Int) > 50))))] ?_
 rw [← hB30]
 have iB30 : B30 = true ↔ (((((fs.length : Nat) : Int) : Int) > 20) ∨ ((((g : Nat) : Int) : Int) > 50)) := by rw [hB30]; simp only [Bool.or_eq_true, decide_eq_true_eq, iB25]
 clear hB30
 intro aC fr
 refine zpk 4 22 [78, 79] fr (news := [(78, (.bool (B30 || decide ((mem : Int) > 20000)))), (79, (.bool (B30 || decide ((mem : Int) > 20000))))]) (by cases B30 <;> kernel_rfl) ?_
 intro aC fr
 obtain ⟨B35, hB35⟩ : ∃ B : Bool, B = (B30 || decide ((mem : Int) > 20000)) := ⟨_, rfl⟩
 revert aC
 refine zkp [(4, (.slice iA i ic)), (5, (.int .i64 fuel)), (79, (.bool (B30 || decide ((mem : Int) > 20000))))] ?_
 rw [← hB35]
 have iB35 : B35 = true ↔ ((((((fs.length : Nat) : Int) : Int) > 20) ∨ ((((g : Nat) : Int) : Int) > 50)) ∨ ((mem : Int) > 20000)) := by rw [hB35]; simp only [Bool.or_eq_true, decide_eq_true_eq, iB30]
 clear hB35
 intro aC fr
 refine zpk 5 27 [83, 84] fr (news := [(83, (.bool (B35 || decide ((((i : Nat) : Int) : Int) > 5000)))), (84, (.bool (B35 || decide ((((i : Nat) : Int) : Int) > 5000))))]) (by cases B35 <;> kernel_rfl) ?_
 intro aC fr
 obtain ⟨B40, hB40⟩ : ∃ B : Bool, B = (B35 || decide ((((i : Nat) : Int) : Int) > 5000)) := ⟨_, rfl⟩
 revert aC
 refine zkp [(5, (.int .i64 fuel)), (84, (.bool (B35 || decide ((((i : Nat) : Int) : Int) > 5000))))] ?_
 rw [← hB40]
 have iB40 : B40 = true ↔ (((((((fs.length : Nat) : Int) : Int) > 20) ∨ ((((g : Nat) : Int) : Int) > 50)) ∨ ((mem : Int) > 20000)) ∨ ((((i : Nat) : Int) : Int) > 5000)) := by rw [hB40]; simp only [Bool.or_eq_true, decide_eq_true_eq, iB35]
 clear hB40
 intro aC fr
 refine zpk 4 31 [12, 87] fr (news := [(12, (.bool (B40 || decide ((fuel : Int) > 5000)))), (87, (.bool (B40 || decide ((fuel : Int) > 5000))))]) (by cases B40 <;> kernel_rfl) ?_
 intro aC fr
 revert aC
 refine zfe <| zre <| zo1 (.bool (B40 || decide ((fuel : Int) > 5000))) ?_
 have hR : (B40 || decide ((fuel : Int) > 5000)) = true ↔ ((((((((fs.length : Nat) : Int) : Int) > 20) ∨ ((((g : Nat) : Int) : Int) > 50)) ∨ ((mem : Int) > 20000)) ∨ ((((i : Nat) : Int) : Int) > 5000)) ∨ ((fuel : Int) > 5000)) := by simp only [Bool.or_eq_true, decide_eq_true_eq, iB40]
 exact ⟨bool_dec hR (⟨fun h_ => .inr (by omega), fun h_ => by rcases h_ with h_ | h_; exact absurd h_ hno; omega⟩), M22⟩
end Go.Proofs.Ytjekgaabcigphaa
namespace Go.Proofs.Ytjekgaabcigphaa
open Go.Mor
theorem ssaMore_d (fs : List FFn) (fA : Option Addr) (fc : Nat) (bg : List ByteArray) (gA : Option Addr) (gc : Nat) (inp : List Int) (iA : Option Addr) (ic : Nat) (fuel more : Int) (w : World) (hfl : LenOk fs.length) (hcells : RO noS w (.rds fA 5 (fs.map FFn.cells))) (hok : ∀ x, x ∈ fs → FOk x.blks) (hfn : ∀ x, x ∈ fs → RO noS w (.fn x.A x.blks)) (hgl : LenOk bg.length) (hil : LenOk inp.length) (hbg : RO noS w (.rd gA (bg.map Value.string))) (hic : inp.length ≤ ic) (hin : RO noS w (.rd iA (u8s inp))) (hby : ∀ b, b ∈ inp → 0 ≤ b ∧ b ≤ 255) (hf1 : In64 fuel) (hm1 : In64 more) :
    Calls Try.prog 4 #[(.slice fA fs.length fc), (.slice gA bg.length gc), (.slice iA inp.length ic), (.int .i64 fuel), (.int .i64 more)] w (Ret fun v w' => v = .bool (decide (True)) ∧ Mem noS w w' []) := by
 unfold In64 at hf1 hm1
 refine zen 70 [(.slice fA fs.length fc), (.slice gA bg.length gc), (.slice iA inp.length ic), (.int .i64 fuel), (.int .i64 more)] Try.func4 ?_
 have hM := Mem.init w
 refine zsp <| zsq <| zsr <| zpn 4 <| zcl (heavy_c fs fA fc bg.length gA gc 1000 inp.length iA ic fuel w hfl (hcells.at_ hM) hok (fun x_ h_ => (hfn x_ h_).at_ hM)) ?_
 rintro _ w1 ⟨rfl, M2x⟩
 have M2 := hM.cl M2x
 clear M2x hM
 refine zpn 1 ?_
 obtain ⟨B3, hB3⟩ : ∃ B : Bool, B = decide (heavyQ fs bg.length 1000 inp.length fuel) := ⟨_, rfl⟩
 refine zkp [(0, (.slice fA fs.length fc)), (1, (.slice gA bg.length gc)), (2, (.slice iA inp.length ic)), (3, (.int .i64 fuel)), (4, (.int .i64 more)), (18, (.bool (decide (heavyQ fs bg.length 1000 inp.length fuel))))] ?_
 rw [← hB3]
 have iB3 : B3 = true ↔ (heavyQ fs bg.length 1000 inp.length fuel) := by rw [hB3]; simp only [decide_eq_true_eq]
 clear hB3
 intro aC fr
 refine zpk 4 10 [21, 22] fr (news := [(21, (.bool (B3 || decide ((fuel : Int) < 0)))), (22, (.bool (B3 || decide ((fuel : Int) < 0))))]) (by cases B3 <;> kernel_rfl) ?_
 intro aC fr
 obtain ⟨B8, hB8⟩ : ∃ B : Bool, B = (B3 || decide ((fuel : Int) < 0)) := ⟨_, rfl⟩
 revert aC
 refine zkp [(0, (.slice fA fs.length fc)), (1, (.slice gA bg.length gc)), (2, (.slice iA inp.length ic)), (3, (.int .i64 fuel)), (4, (.int .i64 more)), (22, (.bool (B3 || decide ((fuel : Int) < 0))))] ?_
 rw [← hB8]
 have iB8 : B8 = true ↔ ((heavyQ fs bg.length 1000 inp.length fuel) ∨ ((fuel : Int) < 0)) := by rw [hB8]; simp only [Bool.or_eq_true, decide_eq_true_eq, iB3]
 clear hB8
 intro aC fr
 refine zpk 4 14 [25, 26] fr (news := [(25, (.bool (B8 || decide ((more : Int) < 0)))), (26, (.bool (B8 || decide ((more : Int) < 0))))]) (by cases B8 <;> kernel_rfl) ?_
 intro aC fr
 obtain ⟨B13, hB13⟩ : ∃ B : Bool, B = (B8 || decide ((more : Int) < 0)) := ⟨_, rfl⟩
 revert aC
 refine zkp [(0, (.slice fA fs.length fc)), (1, (.slice gA bg.length gc)), (2, (.slice iA inp.length ic)), (3, (.int .i64 fuel)), (4, (.int .i64 more)), (26, (.bool (B8 || decide ((more : Int) < 0))))] ?_
 rw [← hB13]
 have iB13 : B13 = true ↔ (((heavyQ fs bg.length 1000 inp.length fuel) ∨ ((fuel : Int) < 0)) ∨ ((more : Int) < 0)) := by rw [hB13]; simp only [Bool.or_eq_true, decide_eq_true_eq, iB8]
 clear hB13
 intro aC fr
 refine zpk 3 17 [29] fr (news := [(29, (.bool (B13 || decide ((more : Int) > 5000))))]) (by cases B13 <;> kernel_rfl) ?_
 intro aC fr
 revert aC
 refine zfe <| zcP (B13 || decide ((more : Int) > 5000)) ((((heavyQ fs bg.length 1000 inp.length fuel) ∨ ((fuel : Int) < 0)) ∨ ((more : Int) < 0)) ∨ ((more : Int) > 5000)) (by simp only [Bool.or_eq_true, decide_eq_true_eq, iB13]) (fun c18 => ?_) (fun c18 => ?_)
 refine zsr <| zcl (awake19_c w1) ?_
 rintro _ w19 ⟨rfl, M20x⟩
 have M20 := M2.cl M20x
 refine zpn 1 <| zfe <| zre <| zo1 (.bool true) ?_
 have hR : true = true ↔ True := by simp
 exact ⟨bool_dec hR (⟨fun _ => trivial, fun _ => by first | trivial | omega | exact ⟨by omega, by omega⟩⟩), M20⟩
 have hnh : ¬ heavyQ fs bg.length 1000 inp.length fuel := by first | exact fun h_ => c18 (.inl h_) | exact fun h_ => c18 (.inl (.inl h_)) | exact fun h_ => c18 (.inl (.inl (.inl h_)))
 have hb4 : 0 ≤ fuel ∧ 0 ≤ more ∧ more ≤ 5000 := by omega
 obtain ⟨hb5, hb6, hb7⟩ := hb4
 have hb8 : fuel ≤ 5000 := by have : ¬ 5000 < fuel := fun e => hnh (.inr (.inr (.inr (.inr (.inr e))))); omega
 have hI : RunIn w fs fA bg gA inp iA ic := heavy_in hnh hcells hok hfn hbg hic hin hby
 obtain ⟨ra, hra⟩ : ∃ r : Out, r = runO fs [] bg 1000 inp fuel := ⟨_, rfl⟩
 obtain ⟨rb, hrb⟩ : ∃ r : Out, r = runO fs [] bg 1000 inp (fuel + more) := ⟨_, rfl⟩
 have hmr := more_run (fs := fs) (bg := bg) (mem := 1000) (inp := inp) hb5 hb8 hb6 hb7
 rw [← hra, ← hrb] at hmr
 refine zsk <| zsr <| zpn 4 <| zcl ((by have h9 := run_c fs fA fc bg gA gc 1000 inp iA ic fuel w1 (hI.at_ M2); rw [← hra] at h9; exact h9)) ?_
 rintro _ w23 ⟨oA21, oc22, rfl, M24x⟩
 have M24 := M2.cl M24x
 refine zal M24 36 [(.int .i64 0), (.int .i64 0), (.slice none 0 0), (.int .i64 0)] fun b25 w26 hb25 M27 => ?_
 replace M27 := M27.nf
 refine zss M27 1 [(.int .i64 ra.1), (.int .i64 ra.2.1), (.slice oA21 ra.2.2.1.length oc22), (.int .i64 ra.2.2.2)] rfl fun w28 M29 => ?_
 replace M29 := M29.nf
 refine zfe <| zsr <| zpn 5 <| zar (fuel + more) <| zcl ((by have h9 := run_c fs fA fc bg gA gc 1000 inp iA ic (fuel + more) w28 (hI.at_ M29); rw [← hrb] at h9; exact h9)) ?_
 rintro _ w32 ⟨oA30, oc31, rfl, M33x⟩
 have M33 := M29.cl M33x
 refine zal M33 36 [(.int .i64 0), (.int .i64 0), (.slice none 0 0), (.int .i64 0)] fun b34 w35 hb34 M36 => ?_
 replace M36 := M36.nf
 refine zss M36 3 [(.int .i64 rb.1), (.int .i64 rb.2.1), (.slice oA30 rb.2.2.1.length oc31), (.int .i64 rb.2.2.2)] rfl fun w37 M38 => ?_
 replace M38 := M38.nf
 refine zfe <| zsq <| zsr <| zpn 1 <| zld ⟨b25, 0, none⟩ (.int .i64 ra.1) (blk_cell (M38.get 1 rfl) rfl) <| zkp [(3, (.int .i64 fuel)), (11, (pT b25 0)), (12, (pT b34 0)), (44, (.int .i64 ra.1))] <| zpn 1 <| zfe <| zcP ((ra.1 : Int) != 0) ((ra.1 : Int) ≠ 0) (by simp only [bne_iff_ne]) (fun c39 => ?_) (fun c39 => ?_)
 have hrr : rb = ra := by rcases hmr with h_ | h_; exact h_.2; exact absurd h_.1 c39
 refine zsr <| zls ⟨b25, 0, none⟩ [(.int .i64 ra.1), (.int .i64 ra.2.1), (.slice oA21 ra.2.2.1.length oc22), (.int .i64 ra.2.2.2)] (blk_cells (M38.get 1 rfl)) <| zls ⟨b34, 0, none⟩ [(.int .i64 rb.1), (.int .i64 rb.2.1), (.slice oA30 rb.2.2.1.length oc31), (.int .i64 rb.2.2.2)] (blk_cells (M38.get 3 rfl)) <| zcl (same3_c ra.1 ra.2.1 ra.2.2.2 rb.1 rb.2.1 rb.2.2.2 ra.2.2.1 rb.2.2.1 oA21 oA30 oc22 oc31 w37 (RO.of (row_rd (M38.get 0 rfl))) (RO.of (row_rd (M38.get 2 rfl)))) ?_
 rintro _ w40 ⟨rfl, M41x⟩
 have M41 := M38.cl M41x
 obtain ⟨B42, hB42⟩ : ∃ B : Bool, B = decide ((ra.2.2.2 : Int) = rb.2.2.2 ∧ (ra.1 : Int) = rb.1 ∧ (ra.2.1 : Int) = rb.2.1 ∧ (strOfNums ra.2.2.1).toList = (strOfNums rb.2.2.1).toList) := ⟨_, rfl⟩
 refine zkp [(46, (.agg #[(.int .i64 ra.1), (.int .i64 ra.2.1), (.slice oA21 ra.2.2.1.length oc22), (.int .i64 ra.2.2.2)])), (47, (.agg #[(.int .i64 rb.1), (.int .i64 rb.2.1), (.slice oA30 rb.2.2.1.length oc31), (.int .i64 rb.2.2.2)])), (48, (.bool (decide ((ra.2.2.2 : Int) = rb.2.2.2 ∧ (ra.1 : Int) = rb.1 ∧ (ra.2.1 : Int) = rb.2.1 ∧ (strOfNums ra.2.2.1).toList = (strOfNums rb.2.2.1).toList))))] ?_
 rw [← hB42]
 obtain rfl : B42 = true := by rw [hB42]; exact decide_eq_true (by rw [hrr]; exact ⟨rfl, rfl, rfl, rfl⟩)
 clear hB42
 refine zpn 1 <| zcl (awake19_c w40) ?_
 rintro _ w43 ⟨rfl, M44x⟩
 have M44 := M41.cl M44x
 refine zpn 2 <| zfe <| zre <| zo1 (.bool true) ?_
 have hR : true = true ↔ True := by simp
 have M45 := M44.od [] 0
 exact ⟨bool_dec hR (⟨fun _ => trivial, fun _ => by first | trivial | omega | exact ⟨by omega, by omega⟩⟩), M45⟩
 obtain ⟨hk0, hst, hst2, tb, htb⟩ : ra.1 = 0 ∧ ra.2.2.2 = fuel ∧ fuel ≤ rb.2.2.2 ∧ ∃ t, rb.2.2.1 = ra.2.2.1 ++ t := by rcases hmr with h_ | h_; exact absurd (by omega) h_.1; exact h_
 have hll : ra.2.2.1.length ≤ rb.2.2.1.length := by rw [htb, List.length_append]; omega
 refine zsk <| zsr <| zpn 1 <| zld ⟨b25, 3, none⟩ (.int .i64 ra.2.2.2) (blk_cell (M38.get 1 rfl) rfl) <| zpn 3 ?_
 obtain ⟨B46, hB46⟩ : ∃ B : Bool, B = ((ra.2.2.2 : Int) == fuel) := ⟨_, rfl⟩
 refine zkp [(3, (.int .i64 fuel)), (11, (pT b25 0)), (12, (pT b34 0)), (56, (.bool ((ra.2.2.2 : Int) == fuel)))] ?_
 rw [← hB46]
 have iB46 : B46 = true ↔ ((ra.2.2.2 : Int) = fuel) := by rw [hB46]; simp only [beq_iff_eq]
 clear hB46
 intro aC fr
 refine zpk 1 6 [57] fr (news := [(57, (cond B46 (pT b34 3) undef))]) (by cases B46 <;> kernel_rfl) ?_
 intro aC fr
 refine From_either (B := B46) (d := (some 58)) (.int .i64 rb.2.2.2) fr (by cases B46 <;> kernel_rfl) (fun hB hh => ?_) ?_
 cases B46 <;> first | (exact absurd hB (by decide)) | skip
 have c46 : ((ra.2.2.2 : Int) = fuel) := iB46.1 rfl
 exact From_ld (some 58) ⟨b34, 3, none⟩ fr (by kernel_rfl) (.int .i64 rb.2.2.2) (blk_cell (M38.get 3 rfl) rfl) hh
 intro aC fr
 refine zpk 4 11 [61, 62] fr (news := [(61, (.bool (B46 && decide ((rb.2.2.2 : Int) ≥ fuel)))), (62, (.bool (B46 && decide ((rb.2.2.2 : Int) ≥ fuel))))]) (by cases B46 <;> kernel_rfl) ?_
 intro aC fr
 obtain ⟨B55, hB55⟩ : ∃ B : Bool, B = (B46 && decide ((rb.2.2.2 : Int) ≥ fuel)) := ⟨_, rfl⟩
 revert aC
 refine zkp [(11, (pT b25 0)), (12, (pT b34 0)), (62, (.bool (B46 && decide ((rb.2.2.2 : Int) ≥ fuel))))] ?_
 rw [← hB55]
 have iB55 : B55 = true ↔ (((ra.2.2.2 : Int) = fuel) ∧ ((rb.2.2.2 : Int) ≥ fuel)) := by rw [hB55]; simp only [Bool.and_eq_true, decide_eq_true_eq, iB46]
 clear hB55
 cases B55
 have c55 : ¬ (((ra.2.2.2 : Int) = fuel) ∧ ((rb.2.2.2 : Int) ≥ fuel)) := (fun h => Bool.noConfusion (iB55.2 h) : ¬ (((ra.2.2.2 : Int) = fuel) ∧ ((rb.2.2.2 : Int) ≥ fuel)))
 refine zpn 8 <| zfe <| zre <| zo1 (.bool false) ?_
 have hR : false = true ↔ False := by simp
 have M56 := M38.od [] 0
 exact ⟨bool_dec hR (⟨fun h_ => h_.elim, fun _ => by omega⟩), M56⟩
 have c55 : (((ra.2.2.2 : Int) = fuel) ∧ ((rb.2.2.2 : Int) ≥ fuel)) := iB55.1 rfl
 refine zls ⟨b25, 0, none⟩ [(.int .i64 ra.1), (.int .i64 ra.2.1), (.slice oA21 ra.2.2.1.length oc22), (.int .i64 ra.2.2.2)] (blk_cells (M38.get 1 rfl)) <| zls ⟨b34, 0, none⟩ [(.int .i64 rb.1), (.int .i64 rb.2.1), (.slice oA30 rb.2.2.1.length oc31), (.int .i64 rb.2.2.2)] (blk_cells (M38.get 3 rfl)) <| zcl (begins_c ra.1 ra.2.1 ra.2.2.2 rb.1 rb.2.1 rb.2.2.2 ra.2.2.1 rb.2.2.1 oA21 oA30 oc22 oc31 w37 (RO.of (row_rd (M38.get 0 rfl))) (RO.of (row_rd (M38.get 2 rfl))) hll (Nat.le_trans hll (row_le (M38.get 2 rfl)))) ?_
 rintro _ w57 ⟨rfl, M58x⟩
 have M58 := M38.cl M58x
 obtain ⟨B59, hB59⟩ : ∃ B : Bool, B = decide ((strOfNums (rb.2.2.1.take ra.2.2.1.length)).toList = (strOfNums ra.2.2.1).toList) := ⟨_, rfl⟩
 refine zkp [(62, (.bool true)), (63, (.agg #[(.int .i64 ra.1), (.int .i64 ra.2.1), (.slice oA21 ra.2.2.1.length oc22), (.int .i64 ra.2.2.2)])), (64, (.agg #[(.int .i64 rb.1), (.int .i64 rb.2.1), (.slice oA30 rb.2.2.1.length oc31), (.int .i64 rb.2.2.2)])), (65, (.bool (decide ((strOfNums (rb.2.2.1.take ra.2.2.1.length)).toList = (strOfNums ra.2.2.1).toList))))] ?_
 rw [← hB59]
 obtain rfl : B59 = true := by rw [hB59]; exact decide_eq_true (by rw [htb, List.take_left])
 clear hB59
 refine zpn 2 <| zcl (awake19_c w57) ?_
 rintro _ w60 ⟨rfl, M61x⟩
 have M61 := M58.cl M61x
 refine zpn 2 <| zfe <| zre <| zo1 (.bool true) ?_
 have hR : true = true ↔ True := by simp
 have M62 := M61.od [] 0
 exact ⟨bool_dec hR (⟨fun _ => trivial, fun _ => by first | trivial | omega | exact ⟨by omega, by omega⟩⟩), M62⟩
theorem ssaMore_c (fs : List FFn) (fA : Option Addr) (fc : Nat) (bg : List ByteArray) (gA : Option Addr) (gc : Nat) (inp : List Int) (iA : Option Addr) (ic : Nat) (fuel more : Int) (w : World) (hfl : LenOk fs.length) (hcells : RO noS w (.rds fA 5 (fs.map FFn.cells))) (hok : ∀ x, x ∈ fs → FOk x.blks) (hfn : ∀ x, x ∈ fs → RO noS w (.fn x.A x.blks)) (hgl : LenOk bg.length) (hil : LenOk inp.length) (hbg : RO noS w (.rd gA (bg.map Value.string))) (hic : inp.length ≤ ic) (hin : RO noS w (.rd iA (u8s inp))) (hby : ∀ b, b ∈ inp → 0 ≤ b ∧ b ≤ 255) (hf1 : In64 fuel) (hm1 : In64 more) : Calls Try.prog 4 #[.slice fA fs.length fc, .slice gA bg.length gc, .slice iA inp.length ic, .int .i64 fuel, .int .i64 more] w (Ret fun v w' => v = .bool true ∧ Mem noS w w' []) := by
  have h := ssaMore_d fs fA fc bg gA gc inp iA ic fuel more w hfl hcells hok hfn hgl hil hbg hic hin hby hf1 hm1
  simpa using h
end Go.Proofs.Ytjekgaabcigphaa
namespace Go.Proofs.Ytjekgaabcigphaa
open Go.Mor Go.ChangeShapes Go.WideShapes Go.ChangeAt Go.RowKit Go.Deep
section
variable {H : Type} {enc : TypeId × Value → H} {w : World} {base : Nat} {spare : Nat → Bool} {held : Bool}
theorem slice_cap {t e : TypeId} (ht : Try.prog.underlying t = some (.slice e)) {fuel : Nat} {A : Option Addr} {len cap : Nat} {x : DataW H × List MemPlace} (h : DataW.trod enc Try.prog w base spare held fuel t [.slice A len cap] = some x) : len ≤ cap := by
  rcases DataW.trod_slice ht h with ⟨hcs, _⟩ | ⟨a, len', cap', elems, rest, n, _, hcs, _, _, hl, _, _, _, _, _⟩
  · simp at hcs
    omega
  · simp at hcs
    obtain ⟨_, rfl, rfl⟩ := hcs
    exact hl
theorem u8_of {t : TypeId} (ht : Try.prog.underlying t = some (.int .u8)) {fuel : Nat} {v : Value} {x : DataW H × List MemPlace} (h : DataW.trod enc Try.prog w base spare held fuel t [v] = some x) : ∃ n, v = .int .u8 n ∧ 0 ≤ n ∧ n ≤ 255 := by
  obtain ⟨n, rfl, h1, h2⟩ := int_of ht h
  exact ⟨n, rfl, h1, h2⟩
theorem open_bytes {r : Reach} {b0 : Nat} {v : Value} {d : DataW H} {p : List MemPlace} (hok : Value.okWide Try.prog w r b0 33 v) (h : DataW.Trod enc Try.prog w base spare held 33 v d p) (hz : Reach_ 33 d) :
    ∃ A l c, v = .slice A (List.length l) c ∧ LenOk l.length ∧ l.length ≤ c ∧ (∀ b, b ∈ l → 0 ≤ b ∧ b ≤ 255) ∧ (Res.rd A (u8s l)).holds w := by
  obtain ⟨A, len, cap, rfl⟩ := okWide_slice Try.underlying33 hok
  obtain ⟨fuel, h⟩ := h
  have hcap := slice_cap Try.underlying33 h
  obtain ⟨A', len', cap', e, hl, hx⟩ := open_elems (k := 1) Try.underlying33 (by kernel_rfl) (by omega) (v := .slice A len cap) h hz
  injection e with e1 e2 e3
  subst e1 e2 e3
  have c3 : Try.prog.cellsOf 5 = 1 := by kernel_rfl
  have : ∀ i, i < len → ∃ k : Int, (0 ≤ k ∧ k ≤ 255) ∧ ∃ ad, A = some ad ∧ w.cell? (ad.add i) = some (.int .u8 k) := by
    intro i hi
    obtain ⟨ad, cs, n, y, hA, hlen, hc, htr, _⟩ := hx i hi
    rw [c3] at hlen hc
    match cs, hlen with
    | [c0], _ =>
      obtain ⟨k, rfl, hk⟩ := u8_of Try.underlying5 htr
      refine ⟨k, hk, ad, hA, ?_⟩
      have h0 := hc 0 _ rfl
      rw [Nat.mul_one] at h0
      simpa [Addr.add] using h0
  obtain ⟨l, rfl, hp⟩ := list_of this
  refine ⟨A, l, cap, rfl, hl, hcap, fun k hk => ?_, fun i v hi => ?_⟩
  · obtain ⟨i, hi⟩ := List.mem_iff_getElem?.1 hk
    exact (hp i k hi).1
  · simp only [u8s, List.getElem?_map, Option.map_eq_some_iff] at hi
    obtain ⟨k, hk, rfl⟩ := hi
    exact (hp i k hk).2
theorem open_strs {r : Reach} {b0 : Nat} {v : Value} {d : DataW H} {p : List MemPlace} (hok : Value.okWide Try.prog w r b0 32 v) (h : DataW.Trod enc Try.prog w base spare held 32 v d p) (hz : Reach_ 32 d) :
    ∃ A l c, v = .slice A (List.length l) c ∧ LenOk l.length ∧ (Res.rd A (l.map Value.string)).holds w := by
  obtain ⟨A, len, cap, rfl⟩ := okWide_slice Try.underlying32 hok
  obtain ⟨fuel, h⟩ := h
  obtain ⟨A', len', cap', e, hl, hx⟩ := open_elems (k := 16) Try.underlying32 (by kernel_rfl) (by omega) (v := .slice A len cap) h hz
  injection e with e1 e2 e3
  subst e1 e2 e3
  have c3 : Try.prog.cellsOf 9 = 1 := by kernel_rfl
  have : ∀ i, i < len → ∃ k : ByteArray, True ∧ ∃ ad, A = some ad ∧ w.cell? (ad.add i) = some (.string k) := by
    intro i hi
    obtain ⟨ad, cs, n, y, hA, hlen, hc, htr, hy⟩ := hx i hi
    rw [c3] at hlen hc
    match cs, hlen with
    | [c0], _ =>
      obtain ⟨k, rfl, _⟩ := str_of Try.underlying9 htr hy
      refine ⟨k, trivial, ad, hA, ?_⟩
      have h0 := hc 0 _ rfl
      rw [Nat.mul_one] at h0
      simpa [Addr.add] using h0
  obtain ⟨l, rfl, hp⟩ := list_of this
  refine ⟨A, l, cap, rfl, hl, fun i v hi => ?_⟩
  simp only [List.getElem?_map, Option.map_eq_some_iff] at hi
  obtain ⟨k, hk, rfl⟩ := hi
  exact (hp i k hk).2
theorem open_fns {r : Reach} {b0 : Nat} {v : Value} {d : DataW H} {p : List MemPlace} (hok : Value.okWide Try.prog w r b0 31 v) (h : DataW.Trod enc Try.prog w base spare held 31 v d p) (hz : Reach_ 31 d) :
    ∃ A l c, v = .slice A (List.length l) c ∧ LenOk l.length ∧ (Res.rds A 5 (l.map FFn.cells)).holds w ∧ ∀ x : FFn, x ∈ l → FOk x.blks ∧ (Res.fn x.A x.blks).holds w := by
  obtain ⟨A, len, cap, rfl⟩ := okWide_slice Try.underlying31 hok
  obtain ⟨fuel, h⟩ := h
  obtain ⟨A', len', cap', e, hl, hx⟩ := open_structs2 (k := 64) Try.underlying31 Try.underlying24 (by kernel_rfl) (by kernel_rfl) (by kernel_rfl) (by omega) (v := .slice A len cap) h hz
  injection e with e1 e2 e3
  subst e1 e2 e3
  have : ∀ i, i < len → ∃ b : FFn, (FOk b.blks ∧ (Res.fn b.A b.blks).holds w) ∧ ∃ ad : Addr, A = some ad ∧ ∀ (j : Nat) (v : Value), b.cells[j]? = some v → w.cell? ((ad.add (i * 5)).add j) = some v := by
    intro i hi
    obtain ⟨ad, cs, hA, hln, hc, n, hf⟩ := hx i hi
    obtain ⟨c0, c1, c2, c3, c4, rfl⟩ := list5 hln
    obtain ⟨_, _, e, g0, zg0⟩ := hf 0 _ rfl
    cases e
    obtain ⟨nm, rfl, _⟩ := str_of Try.underlying9 g0 zg0
    obtain ⟨_, _, e, g1, zg1⟩ := hf 1 _ rfl
    cases e
    obtain ⟨wk, hw, _⟩ := DataW.trod_bool Try.underlying4 g1
    simp at hw
    subst hw
    obtain ⟨_, _, e, g2, zg2⟩ := hf 2 _ rfl
    cases e
    obtain ⟨pa, rfl, _⟩ := i64_of Try.underlying3 g2
    obtain ⟨_, _, e, g3, zg3⟩ := hf 3 _ rfl
    cases e
    obtain ⟨va, rfl, _⟩ := i64_of Try.underlying3 g3
    obtain ⟨_, _, e, g, zg⟩ := hf 4 _ rfl
    cases e
    obtain ⟨A, fs, c, rfl, h1, h2⟩ := open_fblks g zg
    exact ⟨⟨nm, wk, pa, va, A, c, fs⟩, ⟨h1, h2⟩, ad, hA, hc⟩
  obtain ⟨l, rfl, hp⟩ := list_of this
  refine ⟨A, l, cap, rfl, hl, fun i cs hi => ?_, fun x hx => ?_⟩
  · rw [List.getElem?_map] at hi
    obtain ⟨b, hb, rfl⟩ := Option.map_eq_some_iff.1 hi
    exact (hp i b hb).2
  · obtain ⟨i, hi⟩ := List.mem_iff_getElem?.1 hx
    exact (hp i x hi).1
theorem wf_i64 {n : Int} (h : (Lit.int .i64 n).wf = true) : In64 n := by
  simp only [Lit.wf, Bool.and_eq_true, decide_eq_true_eq] at h
  exact h
theorem trodAll_five {P : Program} {t0 t1 t2 t3 t4 : TypeId} {args : Array Value} {ds : List (DataW H)} {ps : List MemPlace} (h : DataW.TrodAll enc P w base spare held [t0, t1, t2, t3, t4] args.toList ds ps) :
    ∃ v0 v1 v2 v3 v4 d0 d1 d2 d3 d4 p0 p1 p2 p3 p4, args = #[v0, v1, v2, v3, v4] ∧ ds = [d0, d1, d2, d3, d4] ∧ DataW.Trod enc P w base spare held t0 v0 d0 p0 ∧ DataW.Trod enc P w base spare held t1 v1 d1 p1 ∧ DataW.Trod enc P w base spare held t2 v2 d2 p2 ∧ DataW.Trod enc P w base spare held t3 v3 d3 p3 ∧ DataW.Trod enc P w base spare held t4 v4 d4 p4 := by
  obtain ⟨v0, r0, d0, e0, p0, q0, hargs, rfl, _, h0, g0⟩ := trodAll_cons h
  obtain ⟨v1, r1, d1, e1, p1, q1, rfl, rfl, _, h1, g1⟩ := trodAll_cons g0
  obtain ⟨v2, r2, d2, e2, p2, q2, rfl, rfl, _, h2, g2⟩ := trodAll_cons g1
  obtain ⟨v3, r3, d3, e3, p3, q3, rfl, rfl, _, h3, g3⟩ := trodAll_cons g2
  obtain ⟨v4, r4, d4, e4, p4, q4, rfl, rfl, _, h4, g4⟩ := trodAll_cons g3
  obtain ⟨rfl, rfl, _⟩ := trodAll_nil g4
  exact ⟨v0, v1, v2, v3, v4, d0, d1, d2, d3, d4, p0, p1, p2, p3, p4, by cases args; simp_all, rfl, h0, h1, h2, h3, h4⟩
end
end Go.Proofs.Ytjekgaabcigphaa
