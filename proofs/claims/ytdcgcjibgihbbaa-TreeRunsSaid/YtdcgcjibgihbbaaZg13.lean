/-
  Texts of the proof, part 13.
-/
import Derived.Test.YtdcgcjibgihbbaaZg12
import Derived.Test.YtdcgcjibgihbbaaRows
set_option maxRecDepth 10000
namespace Go.Proofs.Ytdcgcjibgihbbaa
open Go.Mor
set_option maxHeartbeats 4000000 in
theorem rplain_c (X : RX) (z : ZSt) (oA : Option Addr) (oc : Nat) (w : World) (hX : X.WF) (hG : ZGood X z) (hR : (Res.pk (rwnL X z oA oc)).holds w) (hA : RO (xS X z oA oc) w X.ro)  (g : Nat) (hK : XCaOk Try.prog X 39 (callT X.E g) (g : Int)) (e : MEx) (loc l : List Int) (lq m : Nat) (bA : Option Addr) (bc : Nat) (hz : z.ov = false) (hZ : Zok X.E.toEnv0 z (g : Int) (loc ++ l)) (hq : esQ (m : Int) e.op e.n e.nm.size e.kids.length) (h12 : e.op ≠ 12) (h13 : e.op ≠ 13) (hll : l.length = e.kids.length) (hcap : l.length ≤ bc) (hfl : loc.length = m) (hl : RO (xS X z oA oc) w (.rd bA (ints l))) (hFR : RO (xS X z oA oc) w (.rd (sM lq) (ints loc))) :
    Calls Try.prog 93 #[(pT X.r 0), (.agg (EC e).toArray), (vS bA l.length bc), (vS (sM lq) m m)] w (Ret fun v w' => XV X (xS X z oA oc) w z (plainB X.E (callT X.E g) loc e l) v w') := by
 have g1 := hG.n1
 have g2 := hG.n2
 have g3 := hX.mem
 have hli : LI l := fun x hx => hZ.in_ hz (List.mem_append_right _ hx)
 refine zen 109 [(pT X.r 0), (.agg (EC e).toArray), (vS bA l.length bc), (vS (sM lq) m m)] Try.func93 ?_
 have hM := Mem.unpk hR
 refine zsr <| zbx hM 53 (.agg (EC e).toArray) (EC e) fun b1 w2 hb1 M3 => ?_
 replace M3 := M3.nf
 clear hM
 refine zpn 1 <| zfe <| zsq <| zsr <| zpn 1 <| zld ⟨b1, 0, none⟩ (vI e.op) (blk_cell (M3.get 3 rfl) rfl) <| zfe <| zbk 0 <| zsp <| zcQ e.op 1 (fun c4 => ?_) (fun c4 => ?_)
 refine zsr <| zpn 1 <| zld ⟨b1, 1, none⟩ (vI e.n) (blk_cell (M3.get 3 rfl) rfl) <| zpn 1 <| zfe <| zre <| zbr <| zo1 (vI e.n) ?_
 exact ⟨_, z, oA, oc, rfl, hG, Eqv.to (K := plainB X.E (callT X.E g) loc e l) rfl hz hz (pl_1 (by omega)), M3.tk 3⟩
 refine zsp <| zcQ e.op 2 (fun c5 => ?_) (fun c5 => ?_)
 refine zsr ?_
 have hq2 := (esQ_2 (by omega)).1 hq
 refine zpn 2 <| zld ⟨b1, 1, none⟩ (vI e.n) (blk_cell (M3.get 3 rfl) rfl) <| zix (h0 := (by omega)) (h1 := (by omega)) ⟨lq, 0, none⟩ m 1 e.n <| zld ((⟨lq, 0, none⟩ : Addr).add ((e.n).toNat * 1)) (vI (loc.getD e.n.toNat 0)) (rd_int (M3.ro hFR) rfl (by omega) (by omega)) <| zpn 1 <| zfe <| zre <| zbr <| zo1 (vI (loc.getD e.n.toNat 0)) ?_
 exact ⟨_, z, oA, oc, rfl, hG, Eqv.to (K := plainB X.E (callT X.E g) loc e l) rfl hz hz (pl_2 (by omega)), M3.tk 3⟩
 refine zsp <| zcQ e.op 3 (fun c6 => ?_) (fun c6 => ?_)
 refine zsq ?_
 have hq3 := (esQ_3 (by omega)).1 hq
 obtain ⟨ad7, rfl⟩ := rd_some (M3.ro hl) (by rw [ints_len]; omega)
 refine zkp [(0, (pT X.r 0)), (2, (vS (some ad7) l.length bc)), (5, (pT b1 0)), (13, (vI e.op))] ?_
 intro aC fr
 refine zdt 11 (N := 109) (env0 := [(0, (pT X.r 0)), (2, (vS (some ad7) l.length bc)), (5, (pT b1 0)), (13, (vI e.op))]) (specAt [.det (pT X.r 0), .det (pT X.r 0), .det (pT X.r 0), .det (pT b1 1), .det (vI e.n), .det (vS (some ad7) l.length bc), .det (.pointer (some ((ad7 : Addr).add ((0 : Int).toNat * 1)))), .det (vI (a0 l)), .det (vS (some ad7) l.length bc), .det (.pointer (some ((ad7 : Addr).add ((1 : Int).toNat * 1)))), .det (vI (a1 l))]) fr (la (la (la (la (la (la (la (la (la (la (la lz dP) dP) dP) dP) (dL ⟨b1, 1, none⟩ (vI e.n) fun w_ hK => (blk_cell ((M3.then_ hK).get 3 rfl) rfl))) dP) (dI ad7 l.length 1 0)) (dL ((ad7 : Addr).add ((0 : Int).toNat * 1)) (vI (a0 l)) fun w_ hK => (rd_int (i := 0) ((M3.then_ hK).ro hl) rfl (by omega) (by omega)))) dP) (dI ad7 l.length 1 1)) (dL ((ad7 : Addr).add ((1 : Int).toNat * 1)) (vI (a1 l)) fun w_ hK => (rd_int (i := 1) ((M3.then_ hK).ro hl) rfl (by omega) (by omega)))) ?_
 intro aC w12 vs hK hv fr
 revert aC; refine zkp [(29, (pT X.r 0)), (31, (vI e.n)), (34, (vI (a0 l))), (37, (vI (a1 l)))] ?_
 have M13 := M3.then_ hK
 clear hK hv fr aC M3; clear vs
 refine zcl (rsum_c X z oA oc w12 hX hG (Mem.pk_holds (l := rwnL X z oA oc) M13) e.n (a0 l) (a1 l) hz) ?_
 rintro _ w19 ⟨x14, z15, oA16, oc17, rfl, hGz15, he18, M20x⟩
 have M20 : Mem (xS X z oA oc) w w19 [xb_ X z15 oA16 oc17, xm_ X z15, xo_ z15 oA16 oc17, .blk b1 53 (EC e)] := M13.mdk M20x
 refine zpn 1 <| zfe <| zre <| zbr <| zo1 (vI x14) ?_
 exact ⟨_, z15, oA16, oc17, rfl, hGz15, Eqv.tail (Eqv.mk_ (K := plainB X.E (callT X.E g) loc e l) (fun s_ => pl_3 (by omega)) rfl) he18, M20.tk 3⟩
 refine zsp <| zcQ e.op 4 (fun c21 => ?_) (fun c21 => ?_)
 refine zsq ?_
 have hq4 := (esQ_4 (by omega)).1 hq
 obtain ⟨ad22, rfl⟩ := rd_some (M3.ro hl) (by rw [ints_len]; omega)
 refine zkp [(0, (pT X.r 0)), (2, (vS (some ad22) l.length bc)), (5, (pT b1 0)), (13, (vI e.op))] ?_
 intro aC fr
 refine zdt 10 (N := 109) (env0 := [(0, (pT X.r 0)), (2, (vS (some ad22) l.length bc)), (5, (pT b1 0)), (13, (vI e.op))]) (specAt [.det (pT b1 1), .det (vI e.n), .det (vS (some ad22) l.length bc), .det (.pointer (some ((ad22 : Addr).add ((0 : Int).toNat * 1)))), .det (vI (a0 l)), .det (.tuple #[(vI ((unS e.n (a0 l)).1)), (vI ((unS e.n (a0 l)).2))]), .det (.tuple #[(vI ((unS e.n (a0 l)).1)), (vI ((unS e.n (a0 l)).2))]), .det (vI ((unS e.n (a0 l)).1)), .det (vI ((unS e.n (a0 l)).2)), .det (vI ((unS e.n (a0 l)).1))]) fr (la (la (la (la (la (la (la (la (la (la lz dP) (dL ⟨b1, 1, none⟩ (vI e.n) fun w_ hK => (blk_cell ((M3.then_ hK).get 3 rfl) rfl))) dP) (dI ad22 l.length 1 0)) (dL ((ad22 : Addr).add ((0 : Int).toNat * 1)) (vI (a0 l)) fun w_ hK => (rd_int (i := 0) ((M3.then_ hK).ro hl) rfl (by omega) (by omega)))) (dD (fun w_ hK => r1un_c e.n (a0 l) w_) rfl)) dP) dP) dP) dP) ?_
 intro aC w27 vs hK hv fr
 revert aC; refine zkp [(9, (vI ((unS e.n (a0 l)).1))), (49, (vI ((unS e.n (a0 l)).2)))] ?_
 have M28 := M3.then_ hK
 clear hK hv fr aC M3; clear vs
 refine zpn 1 <| zfe <| zsp <| zre <| zbr <| zo1 (vI ((unS e.n (a0 l)).1)) ?_
 exact ⟨_, z, oA, oc, rfl, hG, Eqv.to (K := plainB X.E (callT X.E g) loc e l) rfl hz hz (pl_4 (by omega)), M28.tk 3⟩
 refine zsp <| zcQ e.op 5 (fun c29 => ?_) (fun c29 => ?_)
 refine zsq ?_
 have hq5 := (esQ_5 (by omega)).1 hq
 obtain ⟨ad30, rfl⟩ := rd_some (M3.ro hl) (by rw [ints_len]; omega)
 refine zkp [(0, (pT X.r 0)), (2, (vS (some ad30) l.length bc)), (5, (pT b1 0)), (13, (vI e.op))] ?_
 intro aC fr
 refine zdt 8 (N := 109) (env0 := [(0, (pT X.r 0)), (2, (vS (some ad30) l.length bc)), (5, (pT b1 0)), (13, (vI e.op))]) (specAt [.det (pT X.r 0), .det (pT X.r 0), .det (pT X.r 0), .det (vS (some ad30) l.length bc), .det (.pointer (some ((ad30 : Addr).add ((0 : Int).toNat * 1)))), .det (vI (a0 l)), .det (pT b1 1), .det (vI e.n)]) fr (la (la (la (la (la (la (la (la lz dP) dP) dP) dP) (dI ad30 l.length 1 0)) (dL ((ad30 : Addr).add ((0 : Int).toNat * 1)) (vI (a0 l)) fun w_ hK => (rd_int (i := 0) ((M3.then_ hK).ro hl) rfl (by omega) (by omega)))) dP) (dL ⟨b1, 1, none⟩ (vI e.n) fun w_ hK => (blk_cell ((M3.then_ hK).get 3 rfl) rfl))) ?_
 intro aC w35 vs hK hv fr
 revert aC; refine zkp [(0, (pT X.r 0)), (55, (pT X.r 0)), (58, (vI (a0 l))), (60, (vI e.n))] ?_
 have M36 := M3.then_ hK
 clear hK hv fr aC M3; clear vs
 refine zcl (vs := #[(pT X.r 0), (vI (a0 l)), (vI e.n)]) (rcell_c X z oA oc w35 hX hG (Mem.pk_holds (l := rwnL X z oA oc) M36) (a0 l) e.n (hli _ (a0_mem (by omega))) (by omega) (by omega)) ?_
 rintro _ w42 ⟨x37, z38, oA39, oc40, rfl, hGz38, hc41, M43x⟩
 have M43 : Mem (xS X z oA oc) w w42 [xb_ X z38 oA39 oc40, xm_ X z38, xo_ z38 oA39 oc40, .blk b1 53 (EC e)] := M36.mdk M43x
 refine zpn 1 <| zfe <| zsq <| zsp <| zcD ((x37 : Int) < 0) (fun c44 => ?_) (fun c44 => ?_)
 refine zsp <| zre <| zbr <| zo1 (vI 0) ?_
 rcases hc41 with ⟨h1_, _⟩ | ⟨_, h2_, h3_⟩
 · omega
 exact ⟨0, z38, oA39, oc40, rfl, hGz38, by rw [h2_]; exact Eqv.fin (K := plainB X.E (callT X.E g) loc e l) rfl (fun _ => by rw [pl_5 (by omega), h3_]; rfl), M43.tk 3⟩
 refine zsk <| zsr ?_
 obtain ⟨h1_, h2_, h3_, h4_⟩ := Or.resolve_right hc41 (fun h_ => absurd h_.1 (by omega))
 have h5_ := hG.n2
 refine zpn 4 <| zld ⟨X.r, 2, none⟩ (vS (sM X.mG) X.E.memN X.E.memN) (blk_cell (M43.get 0 rfl) rfl) <| zpn 1 <| zix (h0 := (by omega)) (h1 := (by omega)) ⟨X.mG, 0, none⟩ X.E.memN 1 x37 <| zld ((⟨X.mG, 0, none⟩ : Addr).add ((x37).toNat * 1)) (vI (z38.s.mem.getD x37.toNat 0)) (rd_int (row_rd (M43.get 1 rfl)) rfl (by omega) (by have := hGz38.mem; omega)) <| zpn 1 <| zfe <| zre <| zbr <| zo1 (vI (z38.s.mem.getD x37.toNat 0)) ?_
 exact ⟨_, z38, oA39, oc40, rfl, hGz38, by rw [h3_]; exact Eqv.to (K := plainB X.E (callT X.E g) loc e l) rfl hz hz (by rw [pl_5 (by omega), h4_]; rfl), M43.tk 3⟩
 refine zsp <| zcQ e.op 6 (fun c45 => ?_) (fun c45 => ?_)
 refine zsr ?_
 have hq6 := (esQ_6 (by omega)).1 hq
 refine zpn 3 <| zld ⟨b1, 2, none⟩ (.string e.nm) (blk_cell (M3.get 3 rfl) rfl) <| zkp [(2, (vS bA l.length bc)), (74, (pT X.r 0)), (75, (pT X.r 0)), (77, (.string e.nm))] <| zcl (rnumber_c X z oA oc w2 hX (M3.own_ro 0 rfl) (hA.at_ M3) e.nm) ?_
 rintro _ w46 ⟨rfl, M47x⟩
 have M47 := M3.cl M47x
 refine zpn 1 <| zcl (vs := #[(pT X.r 0), (vI ((lkp X.E.names e.nm).getD 0)), (vS bA l.length bc)]) (hK ((lkp X.E.names e.nm).getD 0) l bA bc z oA oc w46 hG (hZ.weak (Int.le_refl _) (fun x hx => .inl (List.mem_append_right _ hx))) (Mem.pk_holds (l := rwnL X z oA oc) M47) (hA.pk_at (l := rwnL X z oA oc) M47) (hl.pk_at (l := rwnL X z oA oc) M47) (by omega)) ?_
 rintro _ w53 ⟨x48, z49, oA50, oc51, rfl, hGz49, he52, M54x⟩
 have M54 : Mem (xS X z oA oc) w w53 [xb_ X z49 oA50 oc51, xm_ X z49, xo_ z49 oA50 oc51, .blk b1 53 (EC e)] := M47.mdk M54x
 refine zpn 1 <| zfe <| zre <| zbr <| zo1 (vI x48) ?_
 exact ⟨_, z49, oA50, oc51, rfl, hGz49, Eqv.tail (Eqv.mk_ (K := plainB X.E (callT X.E g) loc e l) (fun s_ => (pl_6 (by omega)).trans call_lk) rfl) he52, M54.tk 3⟩
 refine zsp <| zcQ e.op 7 (fun c55 => ?_) (fun c55 => ?_)
 refine zsq ?_
 have hq7 := (esQ_7 (by omega)).1 hq
 obtain ⟨x0, l1, rfl⟩ : ∃ x l2, l = x :: l2 := by cases l with | nil => exact absurd hll (by simp; omega) | cons x l2 => exact ⟨x, l2, rfl⟩
 simp only [List.length_cons] at hll hcap
 obtain ⟨ad56, rfl⟩ := rd_some (M3.ro hl) (by rw [ints_len]; simp)
 refine zkp [(0, (pT X.r 0)), (2, (vS (some ad56) (l1.length + 1) bc)), (5, (pT b1 0)), (13, (vI e.op))] ?_
 intro aC fr
 refine zdt 6 (N := 109) (env0 := [(0, (pT X.r 0)), (2, (vS (some ad56) (l1.length + 1) bc)), (5, (pT b1 0)), (13, (vI e.op))]) (specAt [.det (pT X.r 0), .det (vS (some ad56) (l1.length + 1) bc), .det (.pointer (some ((ad56 : Addr).add ((0 : Int).toNat * 1)))), .det (vI x0), .det (vS (some ad56) (l1.length + 1) bc), .det (cutV (some ad56) (l1.length + 1) bc 1 1)]) fr (la (la (la (la (la (la lz dP) dP) (dI ad56 (l1.length + 1) 1 0)) (dL ((ad56 : Addr).add ((0 : Int).toNat * 1)) (vI x0) fun w_ hK => (rd_int (i := 0) (l := x0 :: l1) ((M3.then_ hK).ro hl) rfl (by omega) (by simp)))) dP) (dSl (some ad56) (l1.length + 1) bc 1 1 (by omega))) ?_
 intro aC w61 vs hK hv fr
 revert aC; refine zkp [(83, (pT X.r 0)), (86, (vI x0)), (88, (vS (if bc = 1 then (some ad56) else Option.map (·.add (1 * 1)) (some ad56)) l1.length (bc - 1)))] ?_
 have M62 := M3.then_ hK
 clear hK hv fr aC M3; clear vs
 refine zcl (vs := #[(pT X.r 0), (vI x0), (vS (if bc = 1 then (some ad56) else Option.map (·.add (1 * 1)) (some ad56)) l1.length (bc - 1))]) (hK x0 l1 (if bc = 1 then (some ad56) else Option.map (·.add (1 * 1)) (some ad56)) (bc - 1) z oA oc w61 hG (hZ.weak (Int.le_refl _) (fun x hx => .inl (List.mem_append_right _ (List.mem_cons_of_mem _ hx)))) (Mem.pk_holds (l := rwnL X z oA oc) M62) (hA.pk_at (l := rwnL X z oA oc) M62) (RO.rd_cut (vs := ints l1) (hl.pk_at (l := rwnL X z oA oc) M62) (by rw [ints_len]; exact hcap)) (by omega)) ?_
 rintro _ w68 ⟨x63, z64, oA65, oc66, rfl, hGz64, he67, M69x⟩
 have M69 : Mem (xS X z oA oc) w w68 [xb_ X z64 oA65 oc66, xm_ X z64, xo_ z64 oA65 oc66, .blk b1 53 (EC e)] := M62.mdk M69x
 refine zpn 1 <| zfe <| zre <| zbr <| zo1 (vI x63) ?_
 exact ⟨_, z64, oA65, oc66, rfl, hGz64, Eqv.tail (Eqv.mk_ (K := plainB X.E (callT X.E g) loc e (x0 :: l1)) (fun s_ => pl_7 (by omega)) rfl) he67, M69.tk 3⟩
 refine zsq <| zsp ?_
 obtain ⟨B70, hB70⟩ : ∃ B : Bool, B = ((e.op : Int) == 8) := ⟨_, rfl⟩
 refine zkp [(0, (pT X.r 0)), (2, (vS bA l.length bc)), (5, (pT b1 0)), (13, (vI e.op)), (90, (.bool ((e.op : Int) == 8)))] ?_
 rw [← hB70]
 have iB70 : B70 = true ↔ ((e.op : Int) = 8) := by rw [hB70]; simp only [beq_iff_eq]
 clear hB70
 cases B70
 have c70 : ¬ ((e.op : Int) = 8) := (fun h => Bool.noConfusion (iB70.2 h) : ¬ ((e.op : Int) = 8))
 refine zcF <| zrp <| zcQ e.op 9 (fun c71 => ?_) (fun c71 => ?_)
 refine zsr <| zpn 1 <| zls ⟨b1, 0, none⟩ (EC e) (blk_cells (M3.get 3 rfl)) <| zcl (rnamed_c X z oA oc w2 hX hG (Mem.pk_holds (l := rwnL X z oA oc) M3) (hA.pk_at (l := rwnL X z oA oc) M3) e hz (by omega)) ?_
 rintro _ w77 ⟨x72, z73, oA74, oc75, rfl, hGz73, he76, M78x⟩
 have M78 : Mem (xS X z oA oc) w w77 [xb_ X z73 oA74 oc75, xm_ X z73, xo_ z73 oA74 oc75, .blk b1 53 (EC e)] := M3.mdk M78x
 refine zpn 1 <| zfe <| zre <| zbr <| zo1 (vI x72) ?_
 exact ⟨_, z73, oA74, oc75, rfl, hGz73, Eqv.tail (Eqv.mk_ (K := plainB X.E (callT X.E g) loc e l) (fun s_ => by unfold namS; first | exact (pl_8 (by omega)).trans (if_pos (by omega)).symm | exact (pl_9 (by omega)).trans (if_neg (by omega)).symm) rfl) he76, M78.tk 3⟩
 refine zsp <| zcQ e.op 10 (fun c79 => ?_) (fun c79 => ?_)
 refine zsq ?_
 have hq10 := (esQ_10 (by omega)).1 hq
 obtain ⟨ad80, rfl⟩ := rd_some (M3.ro hl) (by rw [ints_len]; omega)
 refine zkp [(0, (pT X.r 0)), (2, (vS (some ad80) l.length bc))] ?_
 intro aC fr
 refine zdt 6 (N := 109) (env0 := [(0, (pT X.r 0)), (2, (vS (some ad80) l.length bc))]) (specAt [.det (pT X.r 0), .det (pT X.r 0), .det (pT X.r 0), .det (vS (some ad80) l.length bc), .det (.pointer (some ((ad80 : Addr).add ((0 : Int).toNat * 1)))), .det (vI (a0 l))]) fr (la (la (la (la (la (la lz dP) dP) dP) dP) (dI ad80 l.length 1 0)) (dL ((ad80 : Addr).add ((0 : Int).toNat * 1)) (vI (a0 l)) fun w_ hK => (rd_int (i := 0) ((M3.then_ hK).ro hl) rfl (by omega) (by omega)))) ?_
 intro aC w85 vs hK hv fr
 revert aC; refine zkp [(100, (pT X.r 0)), (103, (vI (a0 l)))] ?_
 have M86 := M3.then_ hK
 clear hK hv fr aC M3; clear vs
 refine zcl (ralloc_c X z oA oc w85 hX hG (Mem.pk_holds (l := rwnL X z oA oc) M86) (a0 l) hz) ?_
 rintro _ w92 ⟨x87, z88, oA89, oc90, rfl, hGz88, he91, M93x⟩
 have M93 : Mem (xS X z oA oc) w w92 [xb_ X z88 oA89 oc90, xm_ X z88, xo_ z88 oA89 oc90, .blk b1 53 (EC e)] := M86.mdk M93x
 refine zpn 1 <| zfe <| zre <| zbr <| zo1 (vI x87) ?_
 exact ⟨_, z88, oA89, oc90, rfl, hGz88, Eqv.tail (Eqv.mk_ (K := plainB X.E (callT X.E g) loc e l) (fun s_ => pl_10 (by omega)) rfl) he91, M93.tk 3⟩
 refine zsk <| zsr <| zpn 3 <| zcl (rread_c X z oA oc w2 hX hG (Mem.pk_holds (l := rwnL X z oA oc) M3) (hA.pk_at (l := rwnL X z oA oc) M3) hz) ?_
 rintro _ w99 ⟨x94, z95, oA96, oc97, rfl, hGz95, he98, M100x⟩
 have M100 : Mem (xS X z oA oc) w w99 [xb_ X z95 oA96 oc97, xm_ X z95, xo_ z95 oA96 oc97, .blk b1 53 (EC e)] := M3.mdk M100x
 refine zpn 1 <| zfe <| zre <| zo1 (vI x94) ?_
 exact ⟨_, z95, oA96, oc97, rfl, hGz95, Eqv.tail (Eqv.mk_ (K := plainB X.E (callT X.E g) loc e l) (fun s_ => pl_11 (by have := esQ_rng hq; omega)) rfl) he98, M100.tk 3⟩
 have c70 : ((e.op : Int) = 8) := iB70.1 rfl
 refine zcT <| zsk <| zcT <| zsr <| zpn 1 <| zls ⟨b1, 0, none⟩ (EC e) (blk_cells (M3.get 3 rfl)) <| zcl (rnamed_c X z oA oc w2 hX hG (Mem.pk_holds (l := rwnL X z oA oc) M3) (hA.pk_at (l := rwnL X z oA oc) M3) e hz (by omega)) ?_
 rintro _ w106 ⟨x101, z102, oA103, oc104, rfl, hGz102, he105, M107x⟩
 have M107 : Mem (xS X z oA oc) w w106 [xb_ X z102 oA103 oc104, xm_ X z102, xo_ z102 oA103 oc104, .blk b1 53 (EC e)] := M3.mdk M107x
 refine zpn 1 <| zfe <| zre <| zbr <| zo1 (vI x101) ?_
 exact ⟨_, z102, oA103, oc104, rfl, hGz102, Eqv.tail (Eqv.mk_ (K := plainB X.E (callT X.E g) loc e l) (fun s_ => by unfold namS; first | exact (pl_8 (by omega)).trans (if_pos (by omega)).symm | exact (pl_9 (by omega)).trans (if_neg (by omega)).symm) rfl) he105, M107.tk 3⟩
end Go.Proofs.Ytdcgcjibgihbbaa
namespace Go.Proofs.Ytdcgcjibgihbbaa
open Go.Mor
set_option maxHeartbeats 4000000 in
theorem rexpr_c (X : RX) (z : ZSt) (oA : Option Addr) (oc : Nat) (w : World) (hX : X.WF) (hG : ZGood X z) (hR : (Res.pk (rwnL X z oA oc)).holds w) (hA : RO (xS X z oA oc) w X.ro)  (g : Nat) (hEK : z.ov = false → XExOk Try.prog X 83 (exS X.E g) (g : Int) ∧ XCaOk Try.prog X 39 (callT X.E g) (g : Int)) (e : MEx) (d : Int) (loc : List Int) (lq m : Nat) (hZ : Zok X.E.toEnv0 z ((g : Int) + 1) loc) (hse : SubE X.T e) (hwe : ExW (m : Int) e) (hV : exV (m : Int) d e = true) (hfl : loc.length = m) (hFR : RO (xS X z oA oc) w (.rd (sM lq) (ints loc))) :
    Calls Try.prog 83 #[(pT X.r 0), (.agg (EC e).toArray), (vS (sM lq) m m)] w (Ret fun v w' => XV X (xS X z oA oc) w z (exprF X.E (callT X.E g) (exS X.E g loc) loc e) v w') := by
 have hein := hX.ein
 rw [exV_eq, Bool.and_eq_true, decide_eq_true_eq] at hV
 obtain ⟨⟨_, hq⟩, hqk⟩ := hV
 have hkl := hwe.sh.kids
 refine zen 98 [(pT X.r 0), (.agg (EC e).toArray), (vS (sM lq) m m)] Try.func83 ?_
 have hM := Mem.unpk hR
 refine zsr <| zbx hM 53 (.agg (EC e).toArray) (EC e) fun b1 w2 hb1 M3 => ?_
 replace M3 := M3.nf
 clear hM
 refine zpn 1 <| zfe <| zsq <| zsr <| zpn 3 <| zcl (rstep_c X z oA oc w2 hX hG (Mem.pk_holds (l := rwnL X z oA oc) M3)) ?_
 rintro _ w10 ⟨b4, z5, oA6, oc7, rfl, ho8, hGz5, he9, M11x⟩
 have M11 : Mem (xS X z oA oc) w w10 [xb_ X z5 oA6 oc7, xm_ X z5, xo_ z5 oA6 oc7, .blk b1 53 (EC e)] := M3.mdk M11x
 have hr := Eqv.step (G := z.go (exprF X.E (callT X.E g) (exS X.E g loc) loc e)) (A := stepS X.E.toEnv0) (F := fun _ s => exprB X.E (callT X.E g) (exS X.E g loc) loc e s) rfl he9
 refine zpn 1 <| zfe <| zcP (!b4) (¬ (b4 = true)) (by simp only [notT]) (fun c12 => ?_) (fun c12 => ?_)
 replace c12 : b4 = false := Bool.eq_false_iff.2 c12
 have hz1 : z5.ov = true := by rw [ho8, c12]; rfl
 refine zsp <| zre <| zo1 (vI 0) ?_
 exact ⟨0, z5, oA6, oc7, rfl, hGz5, Eqv.over hz1 hr, M11.tk 3⟩
 replace c12 : b4 = true := Classical.not_not.1 c12
 have hz1 : z5.ov = false := by rw [ho8, c12]; rfl
 have hZ1 := hZ.step hz1 he9
 have hz0 := (he9.got hz1).1
 obtain ⟨hE, hK⟩ := hEK hz0
 refine zsk <| zsq <| zsr <| zpn 1 <| zld ⟨b1, 0, none⟩ (vI e.op) (blk_cell (M11.get 3 rfl) rfl) <| zfe <| zbk 0 <| zsp <| zcQ e.op 12 (fun c13 => ?_) (fun c13 => ?_)
 refine zsq <| zsr ?_
 have hq12 := (esQ_12 (by omega)).1 hq
 obtain ⟨k0_, hk0_⟩ := get_of (l := e.kids) (i := 0) (by omega)
 have hkm0_ := List.mem_of_getElem? hk0_
 refine zpn 2 <| zld ⟨b1, 3, none⟩ (vS e.A e.kids.length e.c) (blk_cell (M11.get 3 rfl) rfl) ?_
 obtain ⟨ad14, had15⟩ := rds_some (M11.ro (hA.xtree hse.kids.1)) (cs := k0_.cells) (i := 0) (gm hk0_)
 intro aC fr
 refine From_ixA (some 22) e.A ad14 e.kids.length 4 0 fr (by kernel_rfl) had15 (by omega) (by omega) ?_
 intro aC fr
 revert aC
 refine zls ((ad14 : Addr).add ((0 : Int).toNat * 4)) (EC k0_) (rds_cells (i := 0) (M11.ro (hA.xtree hse.kids.1)) had15 (gm hk0_)) ?_
 refine zkp [(0, (pT X.r 0)), (2, (vS (sM lq) m m)), (4, (pT b1 0)), (19, (pT X.r 0)), (23, (.agg (EC k0_).toArray))] <| zpn 1 <| zcl (hE k0_ (d + 1) loc lq m z5 oA6 oc7 w10 hGz5 hZ1 (Mem.pk_holds (l := rwnL X z5 oA6 oc7) M11) (hA.pk_at (l := rwnL X z5 oA6 oc7) M11) (hse.kids.2 k0_ hkm0_) (hwe.kid k0_ hkm0_) (exsV_mem hqk k0_ hkm0_) hfl (hFR.pk_at (l := rwnL X z5 oA6 oc7) M11)) ?_
 rintro _ w27 ⟨x20, z21, oA22, oc23, rfl, hGz21, he24, M28x⟩
 have M28 : Mem (xS X z oA oc) w w27 [xb_ X z21 oA22 oc23, xm_ X z21, xo_ z21 oA22 oc23, .blk b1 53 (EC e)] := M11.mdk M28x
 have hr25 := Eqv.step (A := exS X.E g loc k0_) (F := fun a s => if a ≠ 0 then kidS (exS X.E g loc) e.kids 1 s else kidS (exS X.E g loc) e.kids 2 s) (Eqv.mk_ (fun s_ => by rw [ex_12 (by omega), kid_at hk0_]) hr) he24
 have hZ26 := (hZ1.ex hein (hwe.kid k0_ hkm0_) (fun _ h => h) he24).weak (Int.le_refl _) (L' := loc) (fun x hx => .inl (List.mem_append_left _ hx))
 refine zpn 1 <| zfe <| zcP ((x20 : Int) != 0) ((x20 : Int) ≠ 0) (by simp only [bne_iff_ne]) (fun c29 => ?_) (fun c29 => ?_)
 refine zsr ?_
 obtain ⟨k1_, hk1_⟩ := get_of (l := e.kids) (i := 1) (by omega)
 have hkm1_ := List.mem_of_getElem? hk1_
 refine zpn 2 <| zld ⟨b1, 3, none⟩ (vS e.A e.kids.length e.c) (blk_cell (M28.get 3 rfl) rfl) ?_
 obtain ⟨ad30, had31⟩ := rds_some (M28.ro (hA.xtree hse.kids.1)) (cs := k1_.cells) (i := 1) (gm hk1_)
 intro aC fr
 refine From_ixA (some 30) e.A ad30 e.kids.length 4 1 fr (by kernel_rfl) had31 (by omega) (by omega) ?_
 intro aC fr
 revert aC
 refine zls ((ad30 : Addr).add ((1 : Int).toNat * 4)) (EC k1_) (rds_cells (i := 1) (M28.ro (hA.xtree hse.kids.1)) had31 (gm hk1_)) ?_
 refine zpn 1 <| zcl (hE k1_ (d + 1) loc lq m z21 oA22 oc23 w27 hGz21 hZ26 (Mem.pk_holds (l := rwnL X z21 oA22 oc23) M28) (hA.pk_at (l := rwnL X z21 oA22 oc23) M28) (hse.kids.2 k1_ hkm1_) (hwe.kid k1_ hkm1_) (exsV_mem hqk k1_ hkm1_) hfl (hFR.pk_at (l := rwnL X z21 oA22 oc23) M28)) ?_
 rintro _ w41 ⟨x36, z37, oA38, oc39, rfl, hGz37, he40, M42x⟩
 have M42 : Mem (xS X z oA oc) w w41 [xb_ X z37 oA38 oc39, xm_ X z37, xo_ z37 oA38 oc39, .blk b1 53 (EC e)] := M28.mdk M42x
 refine zpn 1 <| zfe <| zre <| zbr <| zo1 (vI x36) ?_
 exact ⟨_, z37, oA38, oc39, rfl, hGz37, Eqv.tail (Eqv.mk_ (fun s_ => by rw [if_pos (by omega), kid_at hk1_]) hr25) he40, M42.tk 3⟩
 refine zsk <| zsq <| zsr <| zpn 4 <| zld ⟨X.r, 10, none⟩ (.bool z21.ov) (blk_cell (M28.get 0 rfl) rfl) <| zfe <| zcP z21.ov (z21.ov = true) Iff.rfl (fun c43 => ?_) (fun c43 => ?_)
 refine zsp <| zre <| zbr <| zo1 (vI 0) ?_
 exact ⟨0, z21, oA22, oc23, rfl, hGz21, Eqv.over c43 hr25, M28.tk 3⟩
 replace c43 : z21.ov = false := Bool.eq_false_iff.2 c43
 refine zsk <| zsr ?_
 obtain ⟨k2_, hk2_⟩ := get_of (l := e.kids) (i := 2) (by omega)
 have hkm2_ := List.mem_of_getElem? hk2_
 refine zpn 2 <| zld ⟨b1, 3, none⟩ (vS e.A e.kids.length e.c) (blk_cell (M28.get 3 rfl) rfl) ?_
 obtain ⟨ad44, had45⟩ := rds_some (M28.ro (hA.xtree hse.kids.1)) (cs := k2_.cells) (i := 2) (gm hk2_)
 intro aC fr
 refine From_ixA (some 42) e.A ad44 e.kids.length 4 2 fr (by kernel_rfl) had45 (by omega) (by omega) ?_
 intro aC fr
 revert aC
 refine zls ((ad44 : Addr).add ((2 : Int).toNat * 4)) (EC k2_) (rds_cells (i := 2) (M28.ro (hA.xtree hse.kids.1)) had45 (gm hk2_)) ?_
 refine zpn 1 <| zcl (hE k2_ (d + 1) loc lq m z21 oA22 oc23 w27 hGz21 hZ26 (Mem.pk_holds (l := rwnL X z21 oA22 oc23) M28) (hA.pk_at (l := rwnL X z21 oA22 oc23) M28) (hse.kids.2 k2_ hkm2_) (hwe.kid k2_ hkm2_) (exsV_mem hqk k2_ hkm2_) hfl (hFR.pk_at (l := rwnL X z21 oA22 oc23) M28)) ?_
 rintro _ w55 ⟨x50, z51, oA52, oc53, rfl, hGz51, he54, M56x⟩
 have M56 : Mem (xS X z oA oc) w w55 [xb_ X z51 oA52 oc53, xm_ X z51, xo_ z51 oA52 oc53, .blk b1 53 (EC e)] := M28.mdk M56x
 refine zpn 1 <| zfe <| zre <| zbr <| zo1 (vI x50) ?_
 exact ⟨_, z51, oA52, oc53, rfl, hGz51, Eqv.tail (Eqv.mk_ (fun s_ => by rw [if_neg (by omega), kid_at hk2_]) hr25) he54, M56.tk 3⟩
 refine zsp <| zcQ e.op 13 (fun c57 => ?_) (fun c57 => ?_)
 refine zsr ?_
 have hq13 := (esQ_13 (by omega)).1 hq
 obtain ⟨k0_, hk0_⟩ := get_of (l := e.kids) (i := 0) (by omega)
 have hkm0_ := List.mem_of_getElem? hk0_
 refine zpn 2 <| zld ⟨b1, 3, none⟩ (vS e.A e.kids.length e.c) (blk_cell (M11.get 3 rfl) rfl) ?_
 obtain ⟨ad58, had59⟩ := rds_some (M11.ro (hA.xtree hse.kids.1)) (cs := k0_.cells) (i := 0) (gm hk0_)
 intro aC fr
 refine From_ixA (some 51) e.A ad58 e.kids.length 4 0 fr (by kernel_rfl) had59 (by omega) (by omega) ?_
 intro aC fr
 revert aC
 refine zkp [(0, (pT X.r 0)), (2, (vS (sM lq) m m)), (4, (pT b1 0)), (48, (pT X.r 0)), (51, (.pointer (some ((ad58 : Addr).add ((0 : Int).toNat * 4)))))] ?_
 refine zls ((ad58 : Addr).add ((0 : Int).toNat * 4)) (EC k0_) (rds_cells (i := 0) (M11.ro (hA.xtree hse.kids.1)) had59 (gm hk0_)) ?_
 refine zpn 1 <| zcl (hE k0_ (d + 1) loc lq m z5 oA6 oc7 w10 hGz5 hZ1 (Mem.pk_holds (l := rwnL X z5 oA6 oc7) M11) (hA.pk_at (l := rwnL X z5 oA6 oc7) M11) (hse.kids.2 k0_ hkm0_) (hwe.kid k0_ hkm0_) (exsV_mem hqk k0_ hkm0_) hfl (hFR.pk_at (l := rwnL X z5 oA6 oc7) M11)) ?_
 rintro _ w71 ⟨x64, z65, oA66, oc67, rfl, hGz65, he68, M72x⟩
 have M72 : Mem (xS X z oA oc) w w71 [xb_ X z65 oA66 oc67, xm_ X z65, xo_ z65 oA66 oc67, .blk b1 53 (EC e)] := M11.mdk M72x
 have hr69 := Eqv.step (A := exS X.E g loc k0_) (F := fun a s => if a = 0 then .stop 2 e.n s else kidS (exS X.E g loc) e.kids 1 s) (Eqv.mk_ (fun s_ => by rw [ex_13 (by omega), kid_at hk0_]) hr) he68
 have hZ70 := (hZ1.ex hein (hwe.kid k0_ hkm0_) (fun _ h => h) he68).weak (Int.le_refl _) (L' := loc) (fun x hx => .inl (List.mem_append_left _ hx))
 refine zpn 1 <| zfe <| zsq <| zsp <| zcQ x64 0 (fun c73 => ?_) (fun c73 => ?_)
 refine zsq <| zkp [(0, (pT X.r 0)), (2, (vS (sM lq) m m)), (4, (pT b1 0))] ?_
 intro aC fr
 refine zdt 5 (N := 98) (env0 := [(0, (pT X.r 0)), (2, (vS (sM lq) m m)), (4, (pT b1 0))]) (specAt [.det (pT X.r 0), .det (pT X.r 0), .det (pT X.r 0), .det (pT b1 1), .det (vI e.n)]) fr (la (la (la (la (la lz dP) dP) dP) dP) (dL ⟨b1, 1, none⟩ (vI e.n) fun w_ hK => (blk_cell ((M72.then_ hK).get 3 rfl) rfl))) ?_
 intro aC w78 vs hK hv fr
 revert aC; refine zkp [(59, (pT X.r 0)), (61, (vI e.n))] ?_
 have M79 := M72.then_ hK
 clear hK hv fr aC M72; clear vs
 refine zcl (rend_c X z65 oA66 oc67 w78 hX hGz65 (Mem.pk_holds (l := rwnL X z65 oA66 oc67) M79) 2 e.n) ?_
 rintro _ w80 ⟨rfl, M81x⟩
 have M81 : Mem (xS X z oA oc) w w80 [xb_ X (z65.fin 2 e.n) oA66 oc67, xm_ X (z65.fin 2 e.n), xo_ (z65.fin 2 e.n) oA66 oc67, .blk b1 53 (EC e)] := M79.mdk M81x
 refine zfe <| zsp <| zre <| zbr <| zo1 (vI 0) ?_
 exact ⟨0, (z65.fin 2 e.n), oA66, oc67, rfl, hGz65.fin, Eqv.fin hr69 (fun _ => by rw [if_pos (by omega)]; rfl), M81.tk 3⟩
 refine zsk <| zsr ?_
 obtain ⟨k1_, hk1_⟩ := get_of (l := e.kids) (i := 1) (by omega)
 have hkm1_ := List.mem_of_getElem? hk1_
 refine zpn 2 <| zld ⟨b1, 3, none⟩ (vS e.A e.kids.length e.c) (blk_cell (M72.get 3 rfl) rfl) ?_
 obtain ⟨ad82, had83⟩ := rds_some (M72.ro (hA.xtree hse.kids.1)) (cs := k1_.cells) (i := 1) (gm hk1_)
 intro aC fr
 refine From_ixA (some 66) e.A ad82 e.kids.length 4 1 fr (by kernel_rfl) had83 (by omega) (by omega) ?_
 intro aC fr
 revert aC
 refine zls ((ad82 : Addr).add ((1 : Int).toNat * 4)) (EC k1_) (rds_cells (i := 1) (M72.ro (hA.xtree hse.kids.1)) had83 (gm hk1_)) ?_
 refine zpn 1 <| zcl (hE k1_ (d + 1) loc lq m z65 oA66 oc67 w71 hGz65 hZ70 (Mem.pk_holds (l := rwnL X z65 oA66 oc67) M72) (hA.pk_at (l := rwnL X z65 oA66 oc67) M72) (hse.kids.2 k1_ hkm1_) (hwe.kid k1_ hkm1_) (exsV_mem hqk k1_ hkm1_) hfl (hFR.pk_at (l := rwnL X z65 oA66 oc67) M72)) ?_
 rintro _ w93 ⟨x88, z89, oA90, oc91, rfl, hGz89, he92, M94x⟩
 have M94 : Mem (xS X z oA oc) w w93 [xb_ X z89 oA90 oc91, xm_ X z89, xo_ z89 oA90 oc91, .blk b1 53 (EC e)] := M72.mdk M94x
 refine zpn 1 <| zfe <| zre <| zbr <| zo1 (vI x88) ?_
 exact ⟨_, z89, oA90, oc91, rfl, hGz89, Eqv.tail (Eqv.mk_ (fun s_ => by rw [if_neg (by omega), kid_at hk1_]) hr69) he92, M94.tk 3⟩
 refine zsk <| zsp <| zsq <| zsp <| zbk 1 ?_
 have M95 := M11.cl (Mem.nilrow _ 2 1)
 have hrk := kz_start (Eqv.mk_ (fun s_ => ex_plain hq (by omega) (by omega)) hr)
 intro aC fr
 refine zlp (fun n_ a_ w_ => ∃ (j : Nat) (vs : List Int) (zj : ZSt) (oAj : Option Addr) (ocj : Nat) (Aj : Option Addr) (cj : Nat), n_ = e.kids.length - j ∧ Fr a_ 98 [(0, (pT X.r 0)), (2, (vS (sM lq) m m)), (4, (pT b1 0)), (8, (vS Aj vs.length cj)), (9, (nV j))] ∧ Mem (xS X z oA oc) w w_ [xb_ X zj oAj ocj, xm_ X zj, xo_ zj oAj ocj, .blk b1 53 (EC e), .row 2 1 Aj vs.length cj (ints vs)] ∧ (j ≤ e.kids.length) ∧ (vs.length = j) ∧ (ZGood X zj) ∧ (Zok X.E.toEnv0 zj (g : Int) (loc ++ vs)) ∧ (Eqv (z.go (exprF X.E (callT X.E g) (exS X.E g loc) loc e)) (zj.go fun s => (kidsS (exS X.E g loc) (e.kids.drop j) s).bind fun r s => plainB X.E (callT X.E g) loc e (vs ++ r) s))) (n := _) ⟨0, [], z5, oA6, oc7, none, 0, rfl, fr.kp [0, 2, 4, 8, 9], M95, Nat.zero_le _, rfl, hGz5, (by rw [List.append_nil]; exact hZ1), hrk⟩ ?_
 clear fr aC M95; rintro n aC w98 ⟨j, vs, zj, oAj, ocj, Aj, cj, rfl, fr, M99, hj, hvj, hGj, hZj, hrj⟩
 revert aC
 refine zsq <| zsr <| zpn 2 <| zld ⟨b1, 3, none⟩ (vS e.A e.kids.length e.c) (blk_cell (M99.get 3 rfl) rfl) <| zpn 2 <| zfe <| zcD (((j : Int) : Int) < ((e.kids.length : Nat) : Int)) (fun c102 => ?_) (fun c102 => ?_)
 refine zsk <| zsq <| zbk 2 <| zrg ?_
 obtain ⟨k, hk⟩ := get_of (l := e.kids) (i := j) (by omega)
 have hkm := List.mem_of_getElem? hk
 refine zpn 3 <| zld ⟨b1, 3, none⟩ (vS e.A e.kids.length e.c) (blk_cell (M99.get 3 rfl) rfl) <| zpn 1 ?_
 obtain ⟨ad103, had104⟩ := rds_some (M99.ro (hA.xtree hse.kids.1)) (cs := k.cells) (i := j) (gm hk)
 intro aC fr
 refine From_ixA (some 82) e.A ad103 e.kids.length 4 (j : Int) fr (by kernel_rfl) had104 (by omega) (by omega) ?_
 intro aC fr
 revert aC
 refine zls ((ad103 : Addr).add (((j : Int)).toNat * 4)) (EC k) (rds_cells (i := j) (M99.ro (hA.xtree hse.kids.1)) had104 (gm hk)) ?_
 refine zpn 1 <| zcl (vs := #[(pT X.r 0), (.agg (EC k).toArray), (vS (sM lq) m m)]) (hE k (d + 1) loc lq m zj oAj ocj w98 hGj (hZj.weak (Int.le_refl _) (L' := loc) (fun x hx => .inl (List.mem_append_left _ hx))) (Mem.pk_holds (l := rwnL X zj oAj ocj) M99) (hA.pk_at (l := rwnL X zj oAj ocj) M99) (hse.kids.2 k hkm) (hwe.kid k hkm) (exsV_mem hqk k hkm) hfl (hFR.pk_at (l := rwnL X zj oAj ocj) M99)) ?_
 rintro _ w114 ⟨x109, z110, oA111, oc112, rfl, hGz110, he113, M115x⟩
 have M115 : Mem (xS X z oA oc) w w114 [xb_ X z110 oA111 oc112, xm_ X z110, xo_ z110 oA111 oc112, .blk b1 53 (EC e), .row 2 1 Aj vs.length cj (ints vs)] := M99.mdk M115x
 intro aC fr
 refine zBs 86 56 1 #[(0, (.tmp 85))] 56 fr (e := 2) (size := 1) (zs := [(vI 0)]) (vs := [(0, (vI x109))]) (cs := [(vI x109)]) M115 ?_
 intro b116 w117 hb116 _ M118 _ aC ea fr; clear ea
 replace M118 := M118.nf
 refine zAN 87 (.tmp 77) (.tmp 86) 56 56 fr (e := 2) (size := 1) (bytes := 8) (z := (vI 0)) (A := Aj) (B := (sM b116)) (n := vs.length) (cap := cj) (m := 1) (cap' := 1) (xs := (ints vs)) (news := [(vI x109)]) M118 4 rfl (row_rd (M118.get 5 rfl)) rfl (by simp [Value.oneCell']) (by omega) (by simp only [maxLen]; omega) ((vs ++ [x109]).length) (ints (vs ++ [x109])) (by rw [List.length_append]; rfl) (by rw [ints_append]; rfl) ?_
 intro A123 c124 w125 M126 _ aC ea fr; clear ea
 replace M126 := M126.nf
 have M129 := M126.od [4, 4, 4, 4, 4] 5
 revert aC
 refine zkp [(0, (pT X.r 0)), (2, (vS (sM lq) m m)), (4, (pT b1 0)), (9, (nV j)), (87, (vS A123 (vs ++ [x109]).length c124))] <| zpn 1 <| zfe <| zrg <| zpn 1 <| zar ((j : Int) + 1) <| zpn 1 <| zfe ?_
 intro aC fr
 exact ⟨e.kids.length - (j + 1), by omega, j + 1, vs ++ [x109], z110, oA111, oc112, A123, c124, rfl, fr.kp [0, 2, 4, 8, 9], (M129.tk 5), by omega, by rw [List.length_append, hvj]; rfl, hGz110, by rw [← List.append_assoc]; exact hZj.ex hein (hwe.kid k hkm) (fun _ h => List.mem_append_left _ h) he113, kz_next hrj hk he113⟩
 refine zex 1 <| zbh <| zsq <| zsr <| zpn 4 <| zld ⟨X.r, 10, none⟩ (.bool zj.ov) (blk_cell (M99.get 0 rfl) rfl) <| zfe <| zcP zj.ov (zj.ov = true) Iff.rfl (fun c132 => ?_) (fun c132 => ?_)
 refine zsp <| zre <| zo1 (vI 0) ?_
 exact ⟨0, zj, oAj, ocj, rfl, hGj, Eqv.over c132 hrj, M99.tk 3⟩
 replace c132 : zj.ov = false := Bool.eq_false_iff.2 c132
 refine zsk <| zsr <| zpn 1 <| zls ⟨b1, 0, none⟩ (EC e) (blk_cells (M99.get 3 rfl)) <| zpn 2 <| zcl (rplain_c X zj oAj ocj w98 hX hGj (Mem.pk_holds (l := rwnL X zj oAj ocj) M99) (hA.pk_at (l := rwnL X zj oAj ocj) M99) g hK e loc vs lq m Aj cj c132 hZj hq (by omega) (by omega) (by omega) (row_le (M99.get 4 rfl)) hfl (RO.row_rd (RO.pk_own (l := rwnL X zj oAj ocj) M99 1 rfl)) (hFR.pk_at (l := rwnL X zj oAj ocj) M99)) ?_
 rintro _ w138 ⟨x133, z134, oA135, oc136, rfl, hGz134, he137, M139x⟩
 have M139 : Mem (xS X z oA oc) w w138 [xb_ X z134 oA135 oc136, xm_ X z134, xo_ z134 oA135 oc136, .blk b1 53 (EC e), .row 2 1 Aj vs.length cj (ints vs)] := M99.mdk M139x
 refine zpn 1 <| zfe <| zre <| zo1 (vI x133) ?_
 exact ⟨_, z134, oA135, oc136, rfl, hGz134, Eqv.tail (kz_end hrj (by omega)) he137, M139.tk 3⟩
end Go.Proofs.Ytdcgcjibgihbbaa
namespace Go.Mor
open Go.RowKit
def iaE (P : Program) (c : Code) (N : FN) (env : Env) (k : Nat) : Option (Option Nat × Addr × Nat × Nat × Int) := match coreAt c k with
  | some (d, .indexAddr t x y, _, g) => match guardE c g env, okd d N, ev env x, ev env y with
    | some true, true, some (.pointer (some ad)), some (.int _ i) => match P.underlying t with
      | some (.array n e) => match P.info? e with
        | some inf => some (d, ad, n, inf.size, i)
        | none => none
      | _ => none
    | _, _, _, _ => none
  | _ => none
section
variable {P : Program} {c : Code} {K : Act → World → Prop} {Q : Exit → Act → World → Prop} {w : World} {N : FN} {env : Env} {a : Act}
theorem ia_spec {k : Nat} {d : Option Nat} {ad : Addr} {n size : Nat} {j : Int} (hk : iaE P c N env k = some (d, ad, n, size, j)) :
    ∃ t x y ty g e kd, coreAt c k = some (d, .indexAddr t x y, ty, g) ∧ guardE c g env = some true ∧ okd d N = true ∧ ev env x = some (.pointer (some ad)) ∧ ev env y = some (.int kd j) ∧ P.underlying t = some (.array n e) ∧ (P.info? e).map (·.size) = some size := by
  unfold iaE at hk
  split at hk
  · rename_i g0
    split at hk
    · rename_i g1 g2 g3 g4
      split at hk
      · rename_i e ht
        split at hk
        · rename_i inf hs
          simp only [Option.some.injEq, Prod.mk.injEq] at hk
          obtain ⟨rfl, rfl, rfl, rfl, rfl⟩ := hk
          exact ⟨_, _, _, _, _, _, _, g0, g1, g2, g3, g4, ht, by rw [hs]; rfl⟩
        · cases hk
      · cases hk
    · cases hk
  · cases hk
theorem From_ia {k k' : Nat} {d : Option Nat} {ty : Nat} {g : Option (Nat × Bool)} {t : TypeId} {x y : Operand} (hk : coreAt c k = some (d, .indexAddr t x y, ty, g)) (hF : Fr a N env) (hg : guardE c g env = some true) (hd : okd d N = true) (hk' : k + 1 = k')
    {ad : Addr} {n e size : Nat} {kd : IntKind} {i : Int} (hx : ev env x = some (.pointer (some ad))) (hy : ev env y = some (.int kd i))
    (ht : P.underlying t = some (.array n e)) (hs : (P.info? e).map (·.size) = some size) (h0 : 0 ≤ i) (h1 : i < n)
    (h : ∀ a', a' = a.put d (.pointer (some (ad.add (i.toNat * size)))) → Fr a' N (putE env d (.pointer (some (ad.add (i.toNat * size))))) → From P c K Q k' a' w) : From P c K Q k a w := by
  refine From_same hk hF hg hd hk' (fun o ho => ?_) h
  unfold execOp
  rw [ho]
  cases hi : P.info? e with
  | none => simp [hi] at hs
  | some inf =>
    simp [hi] at hs
    subst hs
    simp [Instr.indexAt, Instr.sureAddr, asIntOf, hF.ev hx, hF.ev hy, run_underlying ht, h0, h1, sizeOf, typeInfo, hi]
theorem zia {k : Nat} (ad ad' : Addr) (n size : Nat) (i : Int) (he : ad.add (i.toNat * size) = ad') (h : ∀ a, Fr a N (putE env (dstAt c k) (.pointer (some ad'))) → From P c K Q (k + 1) a w) (h0 : 0 ≤ i := by omega) (h1 : i < n := by omega)
    (hk : iaE P c N env k = some (dstAt c k, ad, n, size, i) := by kernel_rfl) : ∀ a, Fr a N env → From P c K Q k a w := fun a hF => by
  obtain ⟨t, x, y, ty, g, e, kd, g0, g1, g2, g3, g4, g5, g6⟩ := ia_spec hk
  subst he
  exact From_ia g0 hF g1 g2 rfl g3 g4 g5 g6 h0 h1 (fun a' _ hF' => h a' hF')
end
section
variable {P : Program} {c : Code} {Q : Exit → Act → World → Prop} {N : FN} {env0 : Env} {wr : World} {sp : Nat → Spec} {i : Nat}
theorem dIr (ad ad' : Addr) (n size : Nat) (j : Int) (he2 : ad.add (j.toNat * size) = ad') (h0 : 0 ≤ j := by omega) (h1 : j < n := by omega) (hv : sp i = .det (.pointer (some ad')) := by rfl) (hg : ∀ vs, gtE c i (predE c i sp vs env0) = some true := by intro _; kernel_rfl)
    (hk : ∀ vs, iaE P (one c i) N (predE c i sp vs env0) 0 = some (dstAt c i, ad, n, size, j) := by intro _; kernel_rfl) (he : coreAt (one c i) 1 = none := by kernel_rfl) : OpOK P c Q N env0 wr sp i := by
  refine op_of hg (fun w vs hK hp a hF => ?_)
  obtain ⟨t, x, y, ty, g, e, kd, g0, g1, g2, g3, g4, g5, g6⟩ := ia_spec (hk vs)
  subst he2
  exact From_ia g0 hF g1 g2 rfl g3 g4 g5 g6 h0 h1 (fun a' ea _ => From_end he ⟨_, ea, Kp.refl w, by rw [hv]; rfl⟩)
end
section
variable {P : Program} {c : Code} {K : Act → World → Prop} {Q : Exit → Act → World → Prop} {w w0 : World} {N : FN} {env : Env} {a : Act} {S : Nat → Prop} {L : List Res}
theorem From_storeP_blk {k k' : Nat} {d : Option Nat} {ty : Nat} {g : Option (Nat × Bool)} {t : TypeId} {x y : Operand} (hk : coreAt c k = some (d, .store t x y, ty, g)) (hF : Fr a N env) (hg : guardE c g env = some true) (hd : okd d N = true) (hk' : k + 1 = k')
    {b t0 : Nat} {vs cs : List Value} (hx : ev env x = some (.pointer (some ⟨b, 0, none⟩))) (hy : ev env y = some (.agg vs.toArray)) (ht : aggT P t = some vs.length) (hv : ∀ v ∈ vs, v.oneCell' = true) (hM : Mem S w0 w L)
    (i : Nat) (hi : L[i]? = some (.blk b t0 cs)) (ho : vs.length ≤ cs.length)
    (h : ∀ w', Mem S w0 w' (L.set i (.blk b t0 (vs ++ cs.drop vs.length))) → ∀ a', a' = a.put d undef → Fr a' N (putE env d undef) → From P c K Q k' a' w') : From P c K Q k a w := by
  subst hk'
  have hb := hM.get i hi
  obtain ⟨w', hr, hm⟩ := storeCells_blk (P := P) vs 0 hv hb (by omega)
  have hl : cs.take 0 ++ vs ++ cs.drop (0 + vs.length) = vs ++ cs.drop vs.length := by simp
  rw [hl] at hm
  refine From_unit hk hF hg (w' := w') (fun o ho' => ?_) (h _ (by simpa using hM.mod i hi hm) _ rfl (hF.put hd _))
  unfold execOp
  rw [ho']
  simp [Instr.storeAt, Instr.sureAddr, hF.ev hx, hF.ev hy, storeVar, (isAgg_agg ht w).2, Value.cells, hr]
theorem zspt {k : Nat} (hM : Mem S w0 w L) (i : Nat) (vs : List Value) {b t0 : Nat} {cs : List Value} (hi : L[i]? = some (.blk b t0 cs)) (h : ∀ w', Mem S w0 w' (L.set i (.blk b t0 (vs ++ cs.drop vs.length))) → ∀ a, Fr a N (putE env (dstAt c k) undef) → From P c K Q (k + 1) a w')
    (hv : vs.all Value.oneCell' = true := by rfl) (ho : vs.length ≤ cs.length := by simp) (hk : ssE P c N env k = some (dstAt c k, b, 0, vs.toArray, some vs.length) := by kernel_rfl) : ∀ a, Fr a N env → From P c K Q k a w := by
  intro a hF
  unfold ssE at hk
  split at hk
  · rename_i g0
    split at hk
    · rename_i g1 g2 g3 g4
      simp only [Option.some.injEq, Prod.mk.injEq] at hk
      obtain ⟨e1, rfl, rfl, rfl, e5⟩ := hk
      rw [e1] at g0 g2
      exact From_storeP_blk g0 hF g1 g2 rfl g3 g4 e5 (List.all_eq_true.1 hv) hM i hi ho (fun w' hM' a' _ hF' => h w' hM' a' hF')
    · cases hk
  · cases hk
end
theorem blk_cells_at {w : World} {g t : Nat} {cs vs : List Value} (h : (Res.blk g t cs).holds w) (off : Nat) (he : (cs.drop off).take vs.length = vs) (j : Nat) (v : Value) (hj : vs[j]? = some v) : w.cell? ((⟨g, off, none⟩ : Addr).add j) = some v := by
  have h1 : cs[off + j]? = some v := by
    have h2 := hj
    rw [← he, List.getElem?_take_of_lt (List.getElem?_eq_some_iff.1 hj).1, List.getElem?_drop] at h2
    exact h2
  have e : (⟨g, off, none⟩ : Addr).add j = ⟨g, off + j, none⟩ := by unfold Addr.add; split <;> simp_all
  rw [e]
  exact blk_cell h h1
end Go.Mor
namespace Go.Proofs.Ytdcgcjibgihbbaa
open Go.Mor
set_option maxHeartbeats 4000000 in
theorem rstats_c (X : RX) (z : ZSt) (oA : Option Addr) (oc : Nat) (w : World) (hX : X.WF) (hG : ZGood X z) (f : Frm) (lq m : Nat) (hR : (Res.pk (rwnL X z oA oc ++ [frmR lq m f])).holds w) (hA : RO (xZ X z oA oc lq m f) w X.ro) (hfl : f.loc.length = m) (hfb : f.back = 0) (g : Nat) (hS : XStOk Try.prog X 73 (stS X.E g) (g : Int)) (l : List MSt) (lp d : Int) (A : Option Addr) (c : Nat) (hZ : Zok X.E.toEnv0 z (g : Int) f.loc) (hl : SubXs X.T A l) (hw : ∀ x, x ∈ l → StW (m : Int) x) (hv : ∀ x, x ∈ l → stV (m : Int) lp d x = true) (hll : LenOk l.length) :
    Calls Try.prog 60 #[(pT X.r 0), (vS A l.length c), (vS (sM lq) m m)] w (Ret fun v w' => XSV X (xZ X z oA oc lq m f) w z lq m (stmS (stS X.E g) l f) v w') := by
 have hein := hX.ein
 have hll2 := hll; unfold LenOk at hll2
 refine zen 32 [(pT X.r 0), (vS A l.length c), (vS (sM lq) m m)] Try.func60 ?_
 have hM := Mem.unpk hR
 refine zsp <| zsq <| zsp <| zbk 0 ?_
 intro aC fr
 refine zlp (fun n_ a_ w_ => ∃ (j : Nat) (fj : Frm) (zj : ZSt) (oAj : Option Addr) (ocj : Nat), n_ = l.length - j ∧ Fr a_ 32 [(0, (pT X.r 0)), (1, (vS A l.length c)), (2, (vS (sM lq) m m)), (7, (nV j))] ∧ Mem (xZ X z oA oc lq m f) w w_ [xb_ X zj oAj ocj, xm_ X zj, xo_ zj oAj ocj, .row 2 1 (sM lq) m m (ints fj.loc)] ∧ (j ≤ l.length) ∧ (ZGood X zj) ∧ (fj.loc.length = m) ∧ (fj.back = 0) ∧ (Zok X.E.toEnv0 zj (g : Int) fj.loc) ∧ (Eqv (z.go (stmS (stS X.E g) l f)) (zj.go (stmS (stS X.E g) (l.drop j) fj)))) (n := _) ⟨0, f, z, oA, oc, rfl, fr.kp [0, 1, 2, 7], hM, Nat.zero_le _, hG, hfl, hfb, hZ, (by rw [List.drop_zero]; rfl)⟩ ?_
 clear fr aC hM; rintro n aC w3 ⟨j, fj, zj, oAj, ocj, rfl, fr, M4, hj, hGj, hfj, hbj, hZj, hr⟩
 revert aC
 refine zsq <| zsp <| zcD (((j : Int) : Int) < ((l.length : Nat) : Int)) (fun c7 => ?_) (fun c7 => ?_)
 refine zsk <| zsq <| zbk 1 <| zsr ?_
 obtain ⟨x, hx⟩ := get_of (l := l) (i := j) (by omega)
 have hxm := List.mem_of_getElem? hx
 refine zpn 3 ?_
 obtain ⟨ad8, rfl⟩ := rds_some (M4.ro (hA.xtree hl.1)) (cs := x.cells) (i := j) (gm hx)
 refine zix ad8 l.length 5 (j : Int) ?_
 refine zls ((ad8 : Addr).add (((j : Int)).toNat * 5)) (SC x) (rds_cells (i := j) (M4.ro (hA.xtree hl.1)) rfl (gm hx)) ?_
 refine zpn 1 <| zcl (hS x lp d fj lq m zj oAj ocj w3 hGj hZj (Mem.pk_holds (l := rwnL X zj oAj ocj ++ [frmR lq m fj]) M4) (hA.pk_at (l := rwnL X zj oAj ocj ++ [frmR lq m fj]) M4) (hl.2 x hxm) (hw x hxm) (hv x hxm) hfj hbj) ?_
 rintro _ w16 ⟨how9, f10, z11, oA12, oc13, rfl, hGz11, hflf10, hq14, he15, M17x⟩
 have M17 : Mem (xZ X z oA oc lq m f) w w16 [xb_ X z11 oA12 oc13, xm_ X z11, xo_ z11 oA12 oc13, .row 2 1 (sM lq) m m (ints f10.loc)] := M4.mdk M17x
 have hr2 := Eqv.step (A := stS X.E g x fj) (F := fun p s => if p.1 ≠ 0 then .ok p s else stmS (stS X.E g) (l.drop (j + 1)) p.2 s) (Eqv.mk_ (fun s_ => stm_at hx) hr) he15
 refine zpn 1 <| zfe <| zsr <| zpn 3 ?_
 obtain ⟨B18, hB18⟩ : ∃ B : Bool, B = ((how9 : Int) != 0) := ⟨_, rfl⟩
 refine zkp [(0, (pT X.r 0)), (1, (vS (some ad8) l.length c)), (2, (vS (sM lq) m m)), (7, (nV j)), (8, (vI how9)), (24, (.bool ((how9 : Int) != 0)))] ?_
 rw [← hB18]
 have iB18 : B18 = true ↔ ((how9 : Int) ≠ 0) := by rw [hB18]; simp only [bne_iff_ne]
 clear hB18
 intro aC fr
 refine zpk 4 7 [28] fr (news := [(28, (cond (!B18) (.pointer (some ⟨X.r, 10, none⟩)) undef))]) (by cases B18 <;> kernel_rfl) ?_
 intro aC fr
 refine From_either (B := (!B18)) (d := (some 29)) (.bool z11.ov) fr (by cases B18 <;> kernel_rfl) (fun hB hh => ?_) ?_
 cases B18 <;> try exact absurd hB (by decide)
 have c18 : ¬ ((how9 : Int) ≠ 0) := (fun h => Bool.noConfusion (iB18.2 h) : ¬ ((how9 : Int) ≠ 0))
 exact From_ld (some 29) ⟨X.r, 10, none⟩ fr (by kernel_rfl) (.bool z11.ov) (blk_cell (M17.get 0 rfl) rfl) hh
 intro aC fr
 refine zpk 1 9 [30] fr (news := [(30, (.bool (B18 || z11.ov)))]) (by cases B18 <;> kernel_rfl) ?_
 intro aC fr
 revert aC
 refine zfe <| zcP (B18 || z11.ov) (((how9 : Int) ≠ 0) ∨ (z11.ov = true)) (by simp only [Bool.or_eq_true, iB18]) (fun c27 => ?_) (fun c27 => ?_)
 refine zsp <| zre <| zbr <| zbr <| zo1 (vI how9) ?_
 exact ⟨how9, f10, z11, oA12, oc13, rfl, hGz11, hflf10, hq14, hr2.at_ (fun hv_ => congrArg Got.no (if_pos (c27.resolve_right (fun h_ => by rw [hv_] at h_; cases h_)))), M17⟩
 refine zsk <| zrg <| zpn 1 <| zar ((j : Int) + 1) <| zpn 1 <| zfe ?_
 intro aC fr
 exact ⟨l.length - (j + 1), by omega, j + 1, f10, z11, oA12, oc13, rfl, fr.kp [0, 1, 2, 7], M17, by omega, hGz11, hflf10, hq14.n (fun h => c27 (.inl (by omega))), Zok.st hein hZj hbj (hw x hxm) he15, Eqv.mk_ (fun s_ => if_neg (fun h => c27 (.inl h))) hr2⟩
 refine zex 0 <| zbh <| zsp <| zre <| zo1 (vI 0) ?_
 exact ⟨0, fj, zj, oAj, ocj, rfl, hGj, hfj, FQ.zero hbj, Eqv.mk_ (fun s_ => by rw [List.drop_eq_nil_of_le (by omega)]; rfl) hr, M4⟩
set_option maxHeartbeats 4000000 in
theorem rloop_c (X : RX) (z : ZSt) (oA : Option Addr) (oc : Nat) (w : World) (hX : X.WF) (hG : ZGood X z) (f : Frm) (lq m : Nat) (hR : (Res.pk (rwnL X z oA oc ++ [frmR lq m f])).holds w) (hA : RO (xZ X z oA oc lq m f) w X.ro) (hfl : f.loc.length = m) (hfb : f.back = 0) (g nn : Nat) (hng : nn ≤ g) (hSS : XStsOk Try.prog X 60 (stmS (stS X.E g)) (g : Int)) (l : List MSt) (lp d : Int) (A : Option Addr) (c : Nat) (hZ : Zok X.E.toEnv0 z (nn : Int) f.loc) (hl : SubXs X.T A l) (hw : ∀ x, x ∈ l → StW (m : Int) x) (hv : ∀ x, x ∈ l → stV (m : Int) lp d x = true) (hll : LenOk l.length) :
    Calls Try.prog 86 #[(pT X.r 0), (vS A l.length c), (vS (sM lq) m m)] w (Ret fun v w' => XSV X (xZ X z oA oc lq m f) w z lq m (loopF X.E.toEnv0 (stmS (stS X.E g) l) nn f) v w') := by
 have hein := hX.ein
 refine zen 44 [(pT X.r 0), (vS A l.length c), (vS (sM lq) m m)] Try.func86 ?_
 have hM := Mem.unpk hR
 refine zsp <| zsq <| zbk 0 ?_
 obtain ⟨k0, hk0, hZ0, hr0⟩ : ∃ k, k ≤ nn ∧ Zok X.E.toEnv0 z ((k : Int) + 1) f.loc ∧ Eqv (z.go (loopF X.E.toEnv0 (stmS (stS X.E g) l) nn f)) (z.go (loopF X.E.toEnv0 (stmS (stS X.E g) l) (k + 1) f)) := loop_start hZ hG.s2
 intro aC fr
 refine zlp (fun n_ a_ w_ => ∃ (k : Nat) (fj : Frm) (zj : ZSt) (oAj : Option Addr) (ocj : Nat), n_ = 2 * k ∧ Fr a_ 44 [(0, (pT X.r 0)), (1, (vS A l.length c)), (2, (vS (sM lq) m m))] ∧ Mem (xZ X z oA oc lq m f) w w_ [xb_ X zj oAj ocj, xm_ X zj, xo_ zj oAj ocj, .row 2 1 (sM lq) m m (ints fj.loc)] ∧ (k ≤ nn) ∧ (ZGood X zj) ∧ (fj.loc.length = m) ∧ (fj.back = 0) ∧ (Zok X.E.toEnv0 zj ((k : Int) + 1) fj.loc) ∧ (Eqv (z.go (loopF X.E.toEnv0 (stmS (stS X.E g) l) nn f)) (zj.go (loopF X.E.toEnv0 (stmS (stS X.E g) l) (k + 1) fj)))) (n := _) ⟨k0, f, z, oA, oc, rfl, fr.kp [0, 1, 2], hM, hk0, hG, hfl, hfb, hZ0, hr0⟩ ?_
 clear fr aC hM; rintro n aC w3 ⟨k, fj, zj, oAj, ocj, rfl, fr, M4, hkn, hGj, hfj, hbj, hZj, hr1⟩
 revert aC
 refine zsq <| zsr <| zpn 3 <| zcl (rstep_c X zj oAj ocj w3 hX hGj (Mem.pk_holds (l := rwnL X zj oAj ocj) M4)) ?_
 rintro _ w13 ⟨b7, z8, oA9, oc10, rfl, ho11, hGz8, he12, M14x⟩
 have M14 : Mem (xZ X z oA oc lq m f) w w13 [xb_ X z8 oA9 oc10, xm_ X z8, xo_ z8 oA9 oc10, .row 2 1 (sM lq) m m (ints fj.loc)] := M4.mdk M14x
 have hr := Eqv.step (G := z.go (loopF X.E.toEnv0 (stmS (stS X.E g) l) nn f)) (A := stepS X.E.toEnv0) (F := fun _ s => (stmS (stS X.E g) l fj s).bind (lpB X.E.toEnv0 (stmS (stS X.E g) l) k)) hr1 he12
 refine zfe <| zcP b7 (b7 = true) Iff.rfl (fun c15 => ?_) (fun c15 => ?_)
 have hz1 : z8.ov = false := by rw [ho11, c15]; rfl
 have hZ1 := hZj.step hz1 he12
 have hz0 := (he12.got hz1).1
 refine zsk <| zbk 1 <| zsr <| zpn 3 <| zcl (hSS l lp d A c fj lq m z8 oA9 oc10 w13 hGz8 (hZ1.weak (by omega) (fun x hx => .inl hx)) (Mem.pk_holds (l := rwnL X z8 oA9 oc10 ++ [frmR lq m fj]) M14) (hA.pk_at (l := rwnL X z8 oA9 oc10 ++ [frmR lq m fj]) M14) hl hw hv hll hfj hbj) ?_
 rintro _ w23 ⟨how16, f17, z18, oA19, oc20, rfl, hGz18, hflf17, hq21, he22, M24x⟩
 have M24 : Mem (xZ X z oA oc lq m f) w w23 [xb_ X z18 oA19 oc20, xm_ X z18, xo_ z18 oA19 oc20, .row 2 1 (sM lq) m m (ints f17.loc)] := M14.mdk M24x
 have hr3_ := Eqv.step (A := stmS (stS X.E g) l fj) (F := lpB X.E.toEnv0 (stmS (stS X.E g) l) k) hr he22
 have hZ2_ := Zok.sts hein hZ1 hbj hw he22
 refine zpn 1 <| zfe <| zsq <| zsr <| zpn 3 ?_
 obtain ⟨B25, hB25⟩ : ∃ B : Bool, B = ((how16 : Int) == 3) := ⟨_, rfl⟩
 refine zkp [(0, (pT X.r 0)), (1, (vS A l.length c)), (2, (vS (sM lq) m m)), (7, (vI how16)), (18, (.bool ((how16 : Int) == 3)))] ?_
 rw [← hB25]
 have iB25 : B25 = true ↔ ((how16 : Int) = 3) := by rw [hB25]; simp only [beq_iff_eq]
 clear hB25
 intro aC fr
 refine zpk 4 7 [22] fr (news := [(22, (cond (!B25) (.pointer (some ⟨X.r, 10, none⟩)) undef))]) (by cases B25 <;> kernel_rfl) ?_
 intro aC fr
 refine From_either (B := (!B25)) (d := (some 23)) (.bool z18.ov) fr (by cases B25 <;> kernel_rfl) (fun hB hh => ?_) ?_
 cases B25 <;> try exact absurd hB (by decide)
 have c25 : ¬ ((how16 : Int) = 3) := (fun h => Bool.noConfusion (iB25.2 h) : ¬ ((how16 : Int) = 3))
 exact From_ld (some 23) ⟨X.r, 10, none⟩ fr (by kernel_rfl) (.bool z18.ov) (blk_cell (M24.get 0 rfl) rfl) hh
 intro aC fr
 refine zpk 1 9 [24] fr (news := [(24, (.bool (B25 || z18.ov)))]) (by cases B25 <;> kernel_rfl) ?_
 intro aC fr
 revert aC
 refine zfe <| zcP (B25 || z18.ov) (((how16 : Int) = 3) ∨ (z18.ov = true)) (by simp only [Bool.or_eq_true, iB25]) (fun c34 => ?_) (fun c34 => ?_)
 refine zsp <| zre <| zbr <| zbr <| zo1 (vI 3) ?_
 exact ⟨3, { f17 with back := z18.V }, z18, oA19, oc20, rfl, hGz18, hflf17, FQ.three, lp_ret3 hr3_ hq21 c34, M24⟩
 refine zsk <| zsq <| zsr <| zpn 3 ?_
 obtain ⟨B35, hB35⟩ : ∃ B : Bool, B = ((how16 : Int) != 0) := ⟨_, rfl⟩
 refine zkp [(0, (pT X.r 0)), (1, (vS A l.length c)), (2, (vS (sM lq) m m)), (7, (vI how16)), (27, (.bool ((how16 : Int) != 0)))] ?_
 rw [← hB35]
 have iB35 : B35 = true ↔ ((how16 : Int) ≠ 0) := by rw [hB35]; simp only [bne_iff_ne]
 clear hB35
 intro aC fr
 refine zpk 3 6 [30] fr (news := [(30, (cond B35 (.pointer (some ⟨X.r, 14, none⟩)) undef))]) (by cases B35 <;> kernel_rfl) ?_
 intro aC fr
 refine From_either (B := B35) (d := (some 31)) (vI z18.N) fr (by cases B35 <;> kernel_rfl) (fun hB hh => ?_) ?_
 cases B35 <;> try exact absurd hB (by decide)
 have c35 : ((how16 : Int) ≠ 0) := iB35.1 rfl
 exact From_ld (some 31) ⟨X.r, 14, none⟩ fr (by kernel_rfl) (vI z18.N) (blk_cell (M24.get 0 rfl) rfl) hh
 intro aC fr
 refine zpk 2 9 [33] fr (news := [(33, (.bool (B35 && decide ((z18.N : Int) > 0))))]) (by cases B35 <;> kernel_rfl) ?_
 intro aC fr
 revert aC
 refine zfe <| zcP (B35 && decide ((z18.N : Int) > 0)) (((how16 : Int) ≠ 0) ∧ ((z18.N : Int) > 0)) (by simp only [Bool.and_eq_true, decide_eq_true_eq, iB35]) (fun c44 => ?_) (fun c44 => ?_)
 refine zsr <| zpn 3 <| zld ⟨X.r, 14, none⟩ (vI z18.N) (blk_cell (M24.get 0 rfl) rfl) <| zbi .i64 (IntKind.i64.wrap (z18.N - 1)) 1 <| zpn 2 <| zsb (ho := (by simp)) M24 0 14 (vI (IntKind.i64.wrap (z18.N - 1))) rfl fun w45 M46 => ?_
 replace M46 := M46.nf
 refine zfe <| zsp <| zre <| zbr <| zbr <| zo1 (vI how16) ?_
 exact ⟨how16, { f17 with deep := IntKind.i64.wrap (f17.deep - 1) }, { z18 with N := IntKind.i64.wrap (z18.N - 1) }, oA19, oc20, rfl, hGz18.toN, hflf17, lp_downF hq21 c34 c44, lp_down hr3_ hq21 c34 c44, M46⟩
 refine zsk <| zsp <| zcQ how16 1 (fun c47 => ?_) (fun c47 => ?_)
 refine zsp <| zre <| zbr <| zbr <| zo1 (vI 0) ?_
 exact ⟨0, f17, z18, oA19, oc20, rfl, hGz18, hflf17, FQ.zero (hq21.n (fun h => c34 (.inl h))), lp_ret0 hr3_ hq21 c34 c44 c47, M24⟩
 refine zsk ?_
 have hv_ : z18.ov = false := Bool.eq_false_iff.2 (fun h_ => c34 (.inr h_))
 obtain ⟨k2, rfl⟩ : ∃ k2, k = k2 + 1 := ⟨k - 1, by have h1_ := (hZ2_.run hv_).1; have h2_ := hGz18.s2; have h3_ : (X.E.toEnv0).fuel = X.E.fuel := rfl; omega⟩
 intro aC fr
 exact ⟨2 * k2, by omega, k2, f17, z18, oA19, oc20, rfl, fr.kp [0, 1, 2], M24, by omega, hGz18, hflf17, hq21.n (fun h => c34 (.inl h)), by have h_ := hZ2_; rw [Int.natCast_add] at h_; exact h_, lp_next3 hr3_ hq21 c34 c44 c47⟩
 replace c15 : b7 = false := Bool.eq_false_iff.2 c15
 have hz1 : z8.ov = true := by rw [ho11, c15]; rfl
 refine zex 0 <| zbh <| zsp <| zre <| zo1 (vI 3) ?_
 exact ⟨3, { fj with back := z8.V }, z8, oA9, oc10, rfl, hGz8, hfj, FQ.three, Eqv.over hz1 hr, M14⟩
end Go.Proofs.Ytdcgcjibgihbbaa
namespace Go.Proofs.Ytdcgcjibgihbbaa
open Go.Mor
set_option maxHeartbeats 4000000 in
theorem rstat_c (X : RX) (z : ZSt) (oA : Option Addr) (oc : Nat) (w : World) (hX : X.WF) (hG : ZGood X z) (f : Frm) (lq m : Nat) (hR : (Res.pk (rwnL X z oA oc ++ [frmR lq m f])).holds w) (hA : RO (xZ X z oA oc lq m f) w X.ro) (hfl : f.loc.length = m) (hfb : f.back = 0) (g : Nat) (hEK : z.ov = false → XExOk Try.prog X 83 (exS X.E g) (g : Int) ∧ XStsOk Try.prog X 60 (stmS (stS X.E g)) (g : Int) ∧ XStsOk Try.prog X 86 (fun l => loopF X.E.toEnv0 (stmS (stS X.E g) l) g) (g : Int)) (x : MSt) (lp d : Int) (hZ : Zok X.E.toEnv0 z ((g : Int) + 1) f.loc) (hsx : SubX X.T x) (hwx : StW (m : Int) x) (hV : stV (m : Int) lp d x = true) :
    Calls Try.prog 73 #[(pT X.r 0), (.agg (SC x).toArray), (vS (sM lq) m m)] w (Ret fun v w' => XSV X (xZ X z oA oc lq m f) w z lq m (statF X.E g (exS X.E g) (stS X.E g) x f) v w') := by
 have hein := hX.ein
 rw [stV_eq, Bool.and_eq_true, Bool.and_eq_true, Bool.and_eq_true, decide_eq_true_eq] at hV
 obtain ⟨⟨_, hq⟩, hve, hvb, hvl⟩ := hV
 have hfew := hwx.sf.few
 have g3 := hX.mem
 refine zen 127 [(pT X.r 0), (.agg (SC x).toArray), (vS (sM lq) m m)] Try.func73 ?_
 have hM := Mem.unpk hR
 refine zsr <| zbx hM 48 (.agg (SC x).toArray) (SC x) fun b1 w2 hb1 M3 => ?_
 replace M3 := M3.nf
 clear hM
 refine zpn 1 <| zfe <| zsq <| zsr <| zpn 3 <| zcl (rstep_c X z oA oc w2 hX hG (Mem.pk_holds (l := rwnL X z oA oc) M3)) ?_
 rintro _ w10 ⟨b4, z5, oA6, oc7, rfl, ho8, hGz5, he9, M11x⟩
 have M11 : Mem (xZ X z oA oc lq m f) w w10 [xb_ X z5 oA6 oc7, xm_ X z5, xo_ z5 oA6 oc7, .row 2 1 (sM lq) m m (ints f.loc), .blk b1 48 (SC x)] := M3.mdk M11x
 have hr := Eqv.step (G := z.go (statF X.E g (exS X.E g) (stS X.E g) x f)) (A := stepS X.E.toEnv0) (F := fun _ s => statB X.E g (exS X.E g) (stS X.E g) x f s) rfl he9
 refine zpn 1 <| zfe <| zcP (!b4) (¬ (b4 = true)) (by simp only [notT]) (fun c12 => ?_) (fun c12 => ?_)
 replace c12 : b4 = false := Bool.eq_false_iff.2 c12
 have hz1 : z5.ov = true := by rw [ho8, c12]; rfl
 refine zsp <| zre <| zo1 (vI 3) ?_
 exact ⟨3, { f with back := z5.V }, z5, oA6, oc7, rfl, hGz5, hfl, FQ.three, Eqv.over hz1 hr, M11.tk 4⟩
 replace c12 : b4 = true := Classical.not_not.1 c12
 have hz1 : z5.ov = false := by rw [ho8, c12]; rfl
 have hZ1 := hZ.step hz1 he9
 have hz0 := (he9.got hz1).1
 obtain ⟨hE, hSS, hL⟩ := hEK hz0
 refine zsk <| zsr <| zal M11 129 [(vI 0), (vI 0)] fun b13 w14 hb13 M15 => ?_
 replace M15 := M15.nf
 refine zfe <| zsq <| zsp <| zbk 0 ?_
 have hrk := kz_start (Eqv.mk_ (fun s_ => st_plain hq hfb) hr)
 intro aC fr
 refine zlp (fun n_ a_ w_ => ∃ (j : Nat) (us : List Int) (zj : ZSt) (oAj : Option Addr) (ocj : Nat), n_ = x.exprs.length - j ∧ Fr a_ 127 [(0, (pT X.r 0)), (2, (vS (sM lq) m m)), (4, (pT b1 0)), (7, (pT b13 0)), (8, (nV j))] ∧ Mem (xZ X z oA oc lq m f) w w_ [xb_ X zj oAj ocj, xm_ X zj, xo_ zj oAj ocj, .row 2 1 (sM lq) m m (ints f.loc), .blk b1 48 (SC x), .blk b13 129 [(vI (a0 us)), (vI (a1 us))]] ∧ (j ≤ x.exprs.length) ∧ (us.length = j) ∧ (ZGood X zj) ∧ (Zok X.E.toEnv0 zj (g : Int) (f.loc ++ us)) ∧ (Eqv (z.go (statF X.E g (exS X.E g) (stS X.E g) x f)) (zj.go fun s => (kidsS (exS X.E g f.loc) (x.exprs.drop j) s).bind fun r s => statP X.E g (stS X.E g) x f (us ++ r) s))) (n := _) ⟨0, [], z5, oA6, oc7, rfl, fr.kp [0, 2, 4, 7, 8], M15, Nat.zero_le _, rfl, hGz5, (by rw [List.append_nil]; exact hZ1), hrk⟩ ?_
 clear fr aC M15; rintro n aC w18 ⟨j, us, zj, oAj, ocj, rfl, fr, M19, hj, hvj, hGj, hZj, hrj⟩
 revert aC
 refine zsq <| zsr <| zpn 2 <| zld ⟨b1, 2, none⟩ (vS x.eA x.exprs.length x.ec) (blk_cell (M19.get 4 rfl) rfl) <| zpn 2 <| zfe <| zcD (((j : Int) : Int) < ((x.exprs.length : Nat) : Int)) (fun c22 => ?_) (fun c22 => ?_)
 refine zsk <| zsq <| zbk 1 <| zrg ?_
 obtain ⟨k, hk⟩ := get_of (l := x.exprs) (i := j) (by omega)
 have hkm := List.mem_of_getElem? hk
 refine zpn 3 <| zld ⟨b1, 2, none⟩ (vS x.eA x.exprs.length x.ec) (blk_cell (M19.get 4 rfl) rfl) <| zpn 1 ?_
 obtain ⟨ad23, had24⟩ := rds_some (M19.ro (hA.xtree hsx.exprs.1)) (cs := k.cells) (i := j) (gm hk)
 intro aC fr
 refine From_ixA (some 27) x.eA ad23 x.exprs.length 4 (j : Int) fr (by kernel_rfl) had24 (by omega) (by omega) ?_
 intro aC fr
 revert aC
 refine zls ((ad23 : Addr).add (((j : Int)).toNat * 4)) (EC k) (rds_cells (i := j) (M19.ro (hA.xtree hsx.exprs.1)) had24 (gm hk)) ?_
 refine zpn 1 <| zcl (vs := #[(pT X.r 0), (.agg (EC k).toArray), (vS (sM lq) m m)]) (hE k (d + 1) f.loc lq m zj oAj ocj w18 hGj (hZj.weak (Int.le_refl _) (L' := f.loc) (fun x hx => .inl (List.mem_append_left _ hx))) (Mem.pk_holds (l := rwnL X zj oAj ocj) M19) (hA.pk_at (l := rwnL X zj oAj ocj) M19) (hsx.exprs.2 k hkm) (hwx.ex k hkm) (exsV_mem hve k hkm) hfl (RO.row_rd (RO.pk_own (l := rwnL X zj oAj ocj) M19 0 rfl))) ?_
 rintro _ w34 ⟨x29, z30, oA31, oc32, rfl, hGz30, he33, M35x⟩
 have M35 : Mem (xZ X z oA oc lq m f) w w34 [xb_ X z30 oA31 oc32, xm_ X z30, xo_ z30 oA31 oc32, .row 2 1 (sM lq) m m (ints f.loc), .blk b1 48 (SC x), .blk b13 129 [(vI (a0 us)), (vI (a1 us))]] := M19.mdk M35x
 rcases (show j = 0 ∨ j = 1 by omega) with hj01 | hj01
 refine zia ⟨b13, 0, none⟩ ⟨b13, 0, none⟩ 2 1 (j : Int) (by rw [hj01]; rfl) <| zsb (ho := (by simp)) M35 5 0 (vI x29) rfl fun w36 M37 => ?_
 replace M37 := M37.nf
 refine zfe <| zrg <| zpn 1 <| zar ((j : Int) + 1) <| zkp [(0, (pT X.r 0)), (2, (vS (sM lq) m m)), (4, (pT b1 0)), (7, (pT b13 0)), (21, (vI ((j : Int) + 1)))] <| zpn 1 <| zfe ?_
 have M38 : Mem (xZ X z oA oc lq m f) w w36 [xb_ X z30 oA31 oc32, xm_ X z30, xo_ z30 oA31 oc32, .row 2 1 (sM lq) m m (ints f.loc), .blk b1 48 (SC x), .blk b13 129 [(vI (a0 (us ++ [x29]))), (vI (a1 (us ++ [x29])))]] := M37.cast (by rw [(arr_0 (show us.length = 0 by omega)).1, (arr_0 (show us.length = 0 by omega)).2])
 intro aC fr
 exact ⟨x.exprs.length - (j + 1), by omega, j + 1, us ++ [x29], z30, oA31, oc32, rfl, fr.kp [0, 2, 4, 7, 8], M38, by omega, by rw [List.length_append, hvj]; rfl, hGz30, by rw [← List.append_assoc]; exact hZj.ex hein (hwx.ex k hkm) (fun _ h => List.mem_append_left _ h) he33, kz_next hrj hk he33⟩
 refine zia ⟨b13, 0, none⟩ ⟨b13, 1, none⟩ 2 1 (j : Int) (by rw [hj01]; rfl) <| zsb (ho := (by simp)) M35 5 1 (vI x29) rfl fun w41 M42 => ?_
 replace M42 := M42.nf
 refine zfe <| zrg <| zpn 1 <| zar ((j : Int) + 1) <| zkp [(0, (pT X.r 0)), (2, (vS (sM lq) m m)), (4, (pT b1 0)), (7, (pT b13 0)), (21, (vI ((j : Int) + 1)))] <| zpn 1 <| zfe ?_
 have M43 : Mem (xZ X z oA oc lq m f) w w41 [xb_ X z30 oA31 oc32, xm_ X z30, xo_ z30 oA31 oc32, .row 2 1 (sM lq) m m (ints f.loc), .blk b1 48 (SC x), .blk b13 129 [(vI (a0 (us ++ [x29]))), (vI (a1 (us ++ [x29])))]] := M42.cast (by rw [(arr_1 (show us.length = 1 by omega)).1, (arr_1 (show us.length = 1 by omega)).2])
 intro aC fr
 exact ⟨x.exprs.length - (j + 1), by omega, j + 1, us ++ [x29], z30, oA31, oc32, rfl, fr.kp [0, 2, 4, 7, 8], M43, by omega, by rw [List.length_append, hvj]; rfl, hGz30, by rw [← List.append_assoc]; exact hZj.ex hein (hwx.ex k hkm) (fun _ h => List.mem_append_left _ h) he33, kz_next hrj hk he33⟩
 refine zex 0 <| zbh <| zsq <| zsr <| zpn 4 <| zld ⟨X.r, 10, none⟩ (.bool zj.ov) (blk_cell (M19.get 0 rfl) rfl) <| zfe <| zcP zj.ov (zj.ov = true) Iff.rfl (fun c46 => ?_) (fun c46 => ?_)
 refine zsp <| zre <| zo1 (vI 3) ?_
 exact ⟨3, { f with back := zj.V }, zj, oAj, ocj, rfl, hGj, hfl, FQ.three, Eqv.over c46 hrj, M19.tk 4⟩
 replace c46 : zj.ov = false := Bool.eq_false_iff.2 c46
 have hz := c46
 have hk := kz_end hrj (by omega)
 have hvs : us.length = x.exprs.length := by omega
 have hli : LI us := fun x hx => hZj.in_ hz (List.mem_append_right _ hx)
 refine zsk <| zsq <| zsr <| zpn 1 <| zld ⟨b1, 0, none⟩ (vI x.op) (blk_cell (M19.get 4 rfl) rfl) <| zfe <| zbk 2 <| zsp <| zcQ x.op 1 (fun c47 => ?_) (fun c47 => ?_)
 refine zrg ?_
 have hq1 := (sfQ_1 (by omega)).1 hq
 refine zpn 2 <| zld ⟨b1, 1, none⟩ (vI x.n) (blk_cell (M19.get 4 rfl) rfl) <| zia ⟨b13, 0, none⟩ ⟨b13, 0, none⟩ 2 1 0 rfl <| zld ⟨b13, 0, none⟩ (vI (a0 us)) (blk_cell (M19.get 5 rfl) rfl) <| zkp [(41, (vS (sM lq) m m)), (43, (vI x.n)), (45, (vI (a0 us)))] <| zix (h0 := (by omega)) (h1 := (by omega)) ⟨lq, 0, none⟩ m 1 x.n <| zsw M19 3 ((⟨lq, 0, none⟩ : Addr).add ((x.n).toNat * 1)) ((x.n).toNat * 1) (vI (a0 us)) rfl rfl (by omega) fun w48 M49 => ?_
 replace M49 := M49.nf
 refine zfe <| zsp <| zre <| zo1 (vI 0) ?_
 have M50 : Mem (xZ X z oA oc lq m f) w w48 [xb_ X zj oAj ocj, xm_ X zj, xo_ zj oAj ocj, .row 2 1 (sM lq) m m (ints (f.loc.set x.n.toNat (a0 us))), .blk b1 48 (SC x), .blk b13 129 [(vI (a0 us)), (vI (a1 us))]] := M49.cast (by rw [set_row_int])
 exact ⟨0, { f with loc := f.loc.set x.n.toNat (a0 us) }, zj, oAj, ocj, rfl, hGj, (by show (f.loc.set _ _).length = m; rw [List.length_set]; exact hfl), FQ.zero hfb, Eqv.to hk hz hz (sp_1 (by omega)), M50.tk 4⟩
 refine zsp <| zcQ x.op 2 (fun c51 => ?_) (fun c51 => ?_)
 refine zsq ?_
 have hq2 := (sfQ_2 (by omega)).1 hq
 refine zkp [(0, (pT X.r 0)), (2, (vS (sM lq) m m)), (4, (pT b1 0)), (7, (pT b13 0)), (38, (vI x.op))] ?_
 intro aC fr
 refine zdt 7 (N := 127) (env0 := [(0, (pT X.r 0)), (2, (vS (sM lq) m m)), (4, (pT b1 0)), (7, (pT b13 0)), (38, (vI x.op))]) (specAt [.det (pT X.r 0), .det (pT X.r 0), .det (pT X.r 0), .det (pT b13 0), .det (vI (a0 us)), .det (pT b1 1), .det (vI x.n)]) fr (la (la (la (la (la (la (la lz dP) dP) dP) (dIr ⟨b13, 0, none⟩ ⟨b13, 0, none⟩ 2 1 0 rfl)) (dL ⟨b13, 0, none⟩ (vI (a0 us)) fun w_ hK => (blk_cell ((M19.then_ hK).get 5 rfl) rfl))) dP) (dL ⟨b1, 1, none⟩ (vI x.n) fun w_ hK => (blk_cell ((M19.then_ hK).get 4 rfl) rfl))) ?_
 intro aC w56 vs hK hv fr
 revert aC; refine zkp [(0, (pT X.r 0)), (7, (pT b13 0)), (51, (pT X.r 0)), (53, (vI (a0 us))), (55, (vI x.n))] ?_
 have M57 := M19.then_ hK
 clear hK hv fr aC M19; clear vs
 refine zcl (vs := #[(pT X.r 0), (vI (a0 us)), (vI x.n)]) (rcell_c X zj oAj ocj w56 hX hGj (Mem.pk_holds (l := rwnL X zj oAj ocj) M57) (a0 us) x.n (hli _ (a0_mem (by omega))) (by omega) (by omega)) ?_
 rintro _ w63 ⟨x58, z59, oA60, oc61, rfl, hGz59, hc62, M64x⟩
 have M64 : Mem (xZ X z oA oc lq m f) w w63 [xb_ X z59 oA60 oc61, xm_ X z59, xo_ z59 oA60 oc61, .row 2 1 (sM lq) m m (ints f.loc), .blk b1 48 (SC x), .blk b13 129 [(vI (a0 us)), (vI (a1 us))]] := M57.mdk M64x
 refine zpn 1 <| zfe <| zsp <| zcD ((x58 : Int) ≥ 0) (fun c65 => ?_) (fun c65 => ?_)
 obtain ⟨h1_, h2_, h3_, h4_⟩ := Or.resolve_right hc62 (fun h_ => absurd h_.1 (by omega))
 have h5_ := hGj.n2
 have h6_ := hGz59.mem
 refine zkp [(0, (pT X.r 0)), (7, (pT b13 0)), (9, (vI x58))] ?_
 intro aC fr
 refine zdt 8 (N := 127) (env0 := [(0, (pT X.r 0)), (7, (pT b13 0)), (9, (vI x58))]) (specAt [.det (pT X.r 0), .det (pT X.r 0), .det (pT X.r 0), .det (.pointer (some ⟨X.r, 2, none⟩)), .det (vS (sM X.mG) X.E.memN X.E.memN), .det (vI x58), .det (pT b13 1), .det (vI (a1 us))]) fr (la (la (la (la (la (la (la (la lz dP) dP) dP) dP) (dL ⟨X.r, 2, none⟩ (vS (sM X.mG) X.E.memN X.E.memN) fun w_ hK => (blk_cell ((M64.then_ hK).get 0 rfl) rfl))) dP) (dIr ⟨b13, 0, none⟩ ⟨b13, 1, none⟩ 2 1 1 rfl)) (dL ⟨b13, 1, none⟩ (vI (a1 us)) fun w_ hK => (blk_cell ((M64.then_ hK).get 5 rfl) rfl))) ?_
 intro aC w70 vs hK hv fr
 revert aC; refine zkp [(63, (vS (sM X.mG) X.E.memN X.E.memN)), (64, (vI x58)), (66, (vI (a1 us)))] ?_
 have M71 := M64.then_ hK
 clear hK hv fr aC M64; clear vs
 refine zix (h0 := (by omega)) (h1 := (by omega)) ⟨X.mG, 0, none⟩ X.E.memN 1 x58 <| zsw M71 1 ((⟨X.mG, 0, none⟩ : Addr).add ((x58).toNat * 1)) ((x58).toNat * 1) (vI (a1 us)) rfl rfl (by omega) fun w72 M73 => ?_
 replace M73 := M73.nf
 refine zfe <| zsp <| zre <| zo1 (vI 0) ?_
 have M74 : Mem (xZ X z oA oc lq m f) w w72 [xb_ X z59 oA60 oc61, .row 2 1 (sM X.mG) X.E.memN X.E.memN (ints (z59.s.mem.set x58.toNat (a1 us))), xo_ z59 oA60 oc61, .row 2 1 (sM lq) m m (ints f.loc), .blk b1 48 (SC x), .blk b13 129 [(vI (a0 us)), (vI (a1 us))]] := M73.cast (by rw [set_row_int])
 exact ⟨0, f, { z59 with s := { z59.s with mem := z59.s.mem.set x58.toNat (a1 us) } }, oA60, oc61, rfl, (hGz59.set _ _), hfl, FQ.zero hfb, Eqv.to hk hz (by show z59.ov = false; rw [h3_]; exact hz) (by rw [sp_2 (by omega), h4_, h3_]; rfl), M74.tk 4⟩
 obtain ⟨h2_, h3_, h4_⟩ := Or.resolve_left hc62 (fun h_ => absurd h_.1 (by omega))
 refine zsk <| zsp <| zre <| zo1 (vI 0) ?_
 exact ⟨0, f, z59, oA60, oc61, rfl, hGz59, hfl, FQ.zero hfb, by rw [h3_]; exact Eqv.fin hk (fun _ => by rw [sp_2 (by omega), h4_]; rfl), M64.tk 4⟩
 refine zsp <| zcQ x.op 4 (fun c75 => ?_) (fun c75 => ?_)
 have hq4 := (sfQ_4 (by omega)).1 hq
 refine zkp [(0, (pT X.r 0)), (2, (vS (sM lq) m m)), (4, (pT b1 0)), (7, (pT b13 0)), (38, (vI x.op))] ?_
 intro aC fr
 refine zdt 5 (N := 127) (env0 := [(0, (pT X.r 0)), (2, (vS (sM lq) m m)), (4, (pT b1 0)), (7, (pT b13 0)), (38, (vI x.op))]) (specAt [.det (pT X.r 0), .det (pT X.r 0), .det (pT X.r 0), .det (pT b13 0), .det (vI (a0 us))]) fr (la (la (la (la (la lz dP) dP) dP) (dIr ⟨b13, 0, none⟩ ⟨b13, 0, none⟩ 2 1 0 rfl)) (dL ⟨b13, 0, none⟩ (vI (a0 us)) fun w_ hK => (blk_cell ((M19.then_ hK).get 5 rfl) rfl))) ?_
 intro aC w80 vs hK hv fr
 revert aC; refine zkp [(72, (pT X.r 0)), (74, (vI (a0 us)))] ?_
 have M81 := M19.then_ hK
 clear hK hv fr aC M19; clear vs
 refine zcl (rwrite_c X zj oAj ocj w80 hX hGj (Mem.pk_holds (l := rwnL X zj oAj ocj) M81) (a0 us)) ?_
 rintro _ w87 ⟨z82, oA83, oc84, rfl, hGz82, ho85, hs86, M88x⟩
 have M88 : Mem (xZ X z oA oc lq m f) w w87 [xb_ X z82 oA83 oc84, xm_ X z82, xo_ z82 oA83 oc84, .row 2 1 (sM lq) m m (ints f.loc), .blk b1 48 (SC x), .blk b13 129 [(vI (a0 us)), (vI (a1 us))]] := M81.mdk M88x
 refine zfe <| zsp <| zre <| zo1 (vI 0) ?_
 exact ⟨0, f, z82, oA83, oc84, rfl, hGz82, hfl, FQ.zero hfb, Eqv.to hk hz (by rw [ho85]; exact hz) (by rw [sp_4 (by omega), hs86]), M88.tk 4⟩
 refine zsp <| zcQ x.op 5 (fun c89 => ?_) (fun c89 => ?_)
 refine zsq <| zsr ?_
 have hq5 := (sfQ_5 (by omega)).1 hq
 refine zia ⟨b13, 0, none⟩ ⟨b13, 0, none⟩ 2 1 0 rfl <| zkp [(0, (pT X.r 0)), (2, (vS (sM lq) m m)), (4, (pT b1 0)), (78, (pT b13 0))] <| zld ⟨b13, 0, none⟩ (vI (a0 us)) (blk_cell (M19.get 5 rfl) rfl) <| zpn 1 <| zfe <| zcP (((a0 us) : Int) != 0) (((a0 us) : Int) ≠ 0) (by simp only [bne_iff_ne]) (fun c90 => ?_) (fun c90 => ?_)
 refine zsr <| zpn 2 <| zld ⟨b1, 3, none⟩ (vS x.bA x.body.length x.bc) (blk_cell (M19.get 4 rfl) rfl) <| zpn 1 <| zcl (vs := #[(pT X.r 0), (vS x.bA x.body.length x.bc), (vS (sM lq) m m)]) (hSS x.body _ _ x.bA x.bc f lq m zj oAj ocj w18 hGj (hZj.weak (Int.le_refl _) (L' := f.loc) (fun x hx => .inl (List.mem_append_left _ hx))) (Mem.pk_holds (l := rwnL X zj oAj ocj ++ [frmR lq m f]) M19) (hA.pk_at (l := rwnL X zj oAj ocj ++ [frmR lq m f]) M19) hsx.body hwx.bd (fun y hy => stsV_mem hvb y hy) hwx.sf.body hfl hfb) ?_
 rintro _ w98 ⟨how91, f92, z93, oA94, oc95, rfl, hGz93, hflf92, hq96, he97, M99x⟩
 have M99 : Mem (xZ X z oA oc lq m f) w w98 [xb_ X z93 oA94 oc95, xm_ X z93, xo_ z93 oA94 oc95, .row 2 1 (sM lq) m m (ints f92.loc), .blk b1 48 (SC x), .blk b13 129 [(vI (a0 us)), (vI (a1 us))]] := M19.mdk M99x
 refine zpn 1 <| zfe <| zre <| zbr <| zo1 (vI how91) ?_
 exact ⟨how91, f92, z93, oA94, oc95, rfl, hGz93, hflf92, hq96, Eqv.tail (Eqv.mk_ (fun s_ => (sp_5 (by omega)).trans (if_pos (by omega))) hk) he97, M99.tk 4⟩
 refine zsk <| zsr <| zpn 2 <| zld ⟨b1, 4, none⟩ (vS x.lA x.els.length x.lc) (blk_cell (M19.get 4 rfl) rfl) <| zpn 1 <| zcl (vs := #[(pT X.r 0), (vS x.lA x.els.length x.lc), (vS (sM lq) m m)]) (hSS x.els _ _ x.lA x.lc f lq m zj oAj ocj w18 hGj (hZj.weak (Int.le_refl _) (L' := f.loc) (fun x hx => .inl (List.mem_append_left _ hx))) (Mem.pk_holds (l := rwnL X zj oAj ocj ++ [frmR lq m f]) M19) (hA.pk_at (l := rwnL X zj oAj ocj ++ [frmR lq m f]) M19) hsx.els hwx.el (fun y hy => stsV_mem hvl y hy) hwx.sf.els hfl hfb) ?_
 rintro _ w107 ⟨how100, f101, z102, oA103, oc104, rfl, hGz102, hflf101, hq105, he106, M108x⟩
 have M108 : Mem (xZ X z oA oc lq m f) w w107 [xb_ X z102 oA103 oc104, xm_ X z102, xo_ z102 oA103 oc104, .row 2 1 (sM lq) m m (ints f101.loc), .blk b1 48 (SC x), .blk b13 129 [(vI (a0 us)), (vI (a1 us))]] := M19.mdk M108x
 refine zpn 1 <| zfe <| zre <| zbr <| zo1 (vI how100) ?_
 exact ⟨how100, f101, z102, oA103, oc104, rfl, hGz102, hflf101, hq105, Eqv.tail (Eqv.mk_ (fun s_ => (sp_5 (by omega)).trans (if_neg (by omega))) hk) he106, M108.tk 4⟩
 refine zsp <| zcQ x.op 6 (fun c109 => ?_) (fun c109 => ?_)
 refine zsr <| zpn 2 <| zld ⟨b1, 3, none⟩ (vS x.bA x.body.length x.bc) (blk_cell (M19.get 4 rfl) rfl) <| zkp [(2, (vS (sM lq) m m)), (93, (pT X.r 0)), (95, (vS x.bA x.body.length x.bc))] <| zpn 1 <| zcl (vs := #[(pT X.r 0), (vS x.bA x.body.length x.bc), (vS (sM lq) m m)]) (hL x.body _ _ x.bA x.bc f lq m zj oAj ocj w18 hGj (hZj.weak (Int.le_refl _) (L' := f.loc) (fun x hx => .inl (List.mem_append_left _ hx))) (Mem.pk_holds (l := rwnL X zj oAj ocj ++ [frmR lq m f]) M19) (hA.pk_at (l := rwnL X zj oAj ocj ++ [frmR lq m f]) M19) hsx.body hwx.bd (fun y hy => stsV_mem hvb y hy) hwx.sf.body hfl hfb) ?_
 rintro _ w117 ⟨how110, f111, z112, oA113, oc114, rfl, hGz112, hflf111, hq115, he116, M118x⟩
 have M118 : Mem (xZ X z oA oc lq m f) w w117 [xb_ X z112 oA113 oc114, xm_ X z112, xo_ z112 oA113 oc114, .row 2 1 (sM lq) m m (ints f111.loc), .blk b1 48 (SC x), .blk b13 129 [(vI (a0 us)), (vI (a1 us))]] := M19.mdk M118x
 refine zpn 1 <| zfe <| zre <| zbr <| zo1 (vI how110) ?_
 exact ⟨how110, f111, z112, oA113, oc114, rfl, hGz112, hflf111, hq115, Eqv.tail (Eqv.mk_ (fun s_ => sp_6 (by omega)) hk) he116, M118.tk 4⟩
 refine zsp <| zcQ x.op 7 (fun c119 => ?_) (fun c119 => ?_)
 refine zsr <| zpn 2 <| zld ⟨b1, 1, none⟩ (vI x.n) (blk_cell (M19.get 4 rfl) rfl) <| zkp [(100, (pT X.r 0)), (102, (vI x.n))] <| zpn 2 <| zsb (ho := (by simp)) M19 0 14 (vI x.n) rfl fun w120 M121 => ?_
 replace M121 := M121.nf
 refine zfe <| zsp <| zre <| zbr <| zo1 (vI 1) ?_
 exact ⟨1, { f with deep := x.n }, { zj with N := x.n }, oAj, ocj, rfl, hGj.toN, hfl, ⟨⟨by decide, by decide⟩, (fun h => by cases h), fun _ => hfb, fun _ => rfl⟩, Eqv.to hk hz hz (sp_7 (by omega)), M121.tk 4⟩
 refine zsp <| zcQ x.op 8 (fun c122 => ?_) (fun c122 => ?_)
 refine zsr <| zpn 2 <| zld ⟨b1, 1, none⟩ (vI x.n) (blk_cell (M19.get 4 rfl) rfl) <| zkp [(107, (pT X.r 0)), (109, (vI x.n))] <| zpn 2 <| zsb (ho := (by simp)) M19 0 14 (vI x.n) rfl fun w123 M124 => ?_
 replace M124 := M124.nf
 refine zfe <| zsp <| zre <| zbr <| zo1 (vI 2) ?_
 exact ⟨2, { f with deep := x.n }, { zj with N := x.n }, oAj, ocj, rfl, hGj.toN, hfl, ⟨⟨by decide, by decide⟩, (fun h => by cases h), fun _ => hfb, fun _ => rfl⟩, Eqv.to hk hz hz (sp_8 (by omega)), M124.tk 4⟩
 refine zsp <| zcQ x.op 9 (fun c125 => ?_) (fun c125 => ?_)
 refine zsr <| zpn 1 <| zia ⟨b13, 0, none⟩ ⟨b13, 0, none⟩ 2 1 0 rfl <| zkp [(114, (pT X.r 0)), (115, (pT b13 0))] <| zld ⟨b13, 0, none⟩ (vI (a0 us)) (blk_cell (M19.get 5 rfl) rfl) <| zpn 2 <| zsb (ho := (by simp)) M19 0 15 (vI (a0 us)) rfl fun w126 M127 => ?_
 replace M127 := M127.nf
 refine zfe <| zsp <| zre <| zbr <| zo1 (vI 3) ?_
 exact ⟨3, { f with back := a0 us }, { zj with V := a0 us }, oAj, ocj, rfl, hGj.toV, hfl, (FQ.three (f := f) (z := { zj with V := a0 us })), Eqv.to hk hz hz (sp_9 (by omega)), M127.tk 4⟩
 refine zsp <| zcQ x.op 10 (fun c128 => ?_) (fun c128 => ?_)
 refine zsq <| zkp [(0, (pT X.r 0)), (4, (pT b1 0))] ?_
 intro aC fr
 refine zdt 5 (N := 127) (env0 := [(0, (pT X.r 0)), (4, (pT b1 0))]) (specAt [.det (pT X.r 0), .det (pT X.r 0), .det (pT X.r 0), .det (pT b1 1), .det (vI x.n)]) fr (la (la (la (la (la lz dP) dP) dP) dP) (dL ⟨b1, 1, none⟩ (vI x.n) fun w_ hK => (blk_cell ((M19.then_ hK).get 4 rfl) rfl))) ?_
 intro aC w133 vs hK hv fr
 revert aC; refine zkp [(123, (pT X.r 0)), (125, (vI x.n))] ?_
 have M134 := M19.then_ hK
 clear hK hv fr aC M19; clear vs
 refine zcl (rend_c X zj oAj ocj w133 hX hGj (Mem.pk_holds (l := rwnL X zj oAj ocj) M134) 2 x.n) ?_
 rintro _ w135 ⟨rfl, M136x⟩
 have M136 : Mem (xZ X z oA oc lq m f) w w135 [xb_ X (zj.fin 2 x.n) oAj ocj, xm_ X (zj.fin 2 x.n), xo_ (zj.fin 2 x.n) oAj ocj, .row 2 1 (sM lq) m m (ints f.loc), .blk b1 48 (SC x), .blk b13 129 [(vI (a0 us)), (vI (a1 us))]] := M134.mdk M136x
 refine zfe <| zsp <| zre <| zbr <| zo1 (vI 3) ?_
 exact ⟨3, { f with back := (zj.fin 2 x.n).V }, (zj.fin 2 x.n), oAj, ocj, rfl, hGj.fin, hfl, FQ.three, Eqv.fin hk (fun _ => by rw [sp_10 (by omega)]; rfl), M136.tk 4⟩
 refine zsk <| zsp <| zre <| zo1 (vI 0) ?_
 exact ⟨0, f, zj, oAj, ocj, rfl, hGj, hfl, FQ.zero hfb, Eqv.mk_ (fun s_ => sp_3 (by have := sfQ_rng hq; omega)) hk, M19.tk 4⟩
end Go.Proofs.Ytdcgcjibgihbbaa
namespace Go.Proofs.Ytdcgcjibgihbbaa
open Go.Mor
set_option maxHeartbeats 4000000 in
theorem rcall_c (X : RX) (z : ZSt) (oA : Option Addr) (oc : Nat) (w : World) (hX : X.WF) (hG : ZGood X z) (hR : (Res.pk (rwnL X z oA oc)).holds w) (hA : RO (xS X z oA oc) w X.ro)  (g : Nat) (hSS : XStsOk Try.prog X 60 (stmS (stS X.E g)) (g : Int)) (n : Int) (l : List Int) (bA : Option Addr) (bc : Nat) (hZ : Zok X.E.toEnv0 z (g : Int) l) (hl : RO (xS X z oA oc) w (.rd bA (ints l))) (hlen : l.length ≤ 17) :
    Calls Try.prog 39 #[(pT X.r 0), (vI n), (vS bA l.length bc)] w (Ret fun v w' => XV X (xS X z oA oc) w z (callT X.E g n l) v w') := by
 have hein := hX.ein
 have hnf := hX.nfns
 have hopn : z.ov = false → 0 ≤ z.s.opened ∧ z.s.opened ≤ 1200 := fun h => (hZ.run h).2.2.1
 refine zen 111 [(pT X.r 0), (vI n), (vS bA l.length bc)] Try.func39 ?_
 have hM := Mem.unpk hR
 refine zsp <| zsq <| zsr <| zpn 4 <| zld ⟨X.r, 10, none⟩ (.bool z.ov) (blk_cell (hM.get 0 rfl) rfl) <| zfe <| zcP z.ov (z.ov = true) Iff.rfl (fun c1 => ?_) (fun c1 => ?_)
 refine zsp <| zre <| zo1 (vI 0) ?_
 exact ⟨0, z, oA, oc, rfl, hG, Eqv.over c1 (K := callT X.E g n l) rfl, hM⟩
 replace c1 : z.ov = false := Bool.eq_false_iff.2 c1
 have hz := c1
 obtain ⟨hZ1, hZ2, hZ3, hZ4⟩ := hZ.run hz
 refine zsk <| zsq <| zsr <| zpn 3 ?_
 obtain ⟨B2, hB2⟩ : ∃ B : Bool, B = decide ((n : Int) < 1) := ⟨_, rfl⟩
 refine zkp [(0, (pT X.r 0)), (1, (vI n)), (2, (vS bA l.length bc)), (18, (.bool (decide ((n : Int) < 1))))] ?_
 rw [← hB2]
 have iB2 : B2 = true ↔ ((n : Int) < 1) := by rw [hB2]; simp only [decide_eq_true_eq]
 clear hB2
 intro aC fr
 refine zpk 4 7 [19, 22] fr (news := [(19, (cond (!B2) (vI n) undef)), (22, (cond (!B2) (.pointer (some ⟨X.r, 13, none⟩)) undef))]) (by cases B2 <;> kernel_rfl) ?_
 intro aC fr
 refine From_either (B := (!B2)) (d := (some 23)) (vS X.fA X.E.tfs.length X.fc) fr (by cases B2 <;> kernel_rfl) (fun hB hh => ?_) ?_
 cases B2 <;> try exact absurd hB (by decide)
 have c2 : ¬ ((n : Int) < 1) := (fun h => Bool.noConfusion (iB2.2 h) : ¬ ((n : Int) < 1))
 exact From_ld (some 23) ⟨X.r, 13, none⟩ fr (by kernel_rfl) (vS X.fA X.E.tfs.length X.fc) (blk_cell (hM.get 0 rfl) rfl) hh
 intro aC fr
 refine zpk 4 12 [26, 27] fr (news := [(26, (.bool (B2 || decide ((n : Int) > ((X.E.tfs.length : Nat) : Int))))), (27, (.bool (B2 || decide ((n : Int) > ((X.E.tfs.length : Nat) : Int)))))]) (by cases B2 <;> kernel_rfl) ?_
 intro aC fr
 obtain ⟨B11, hB11⟩ : ∃ B : Bool, B = (B2 || decide ((n : Int) > ((X.E.tfs.length : Nat) : Int))) := ⟨_, rfl⟩
 revert aC
 refine zkp [(0, (pT X.r 0)), (1, (vI n)), (2, (vS bA l.length bc)), (27, (.bool (B2 || decide ((n : Int) > ((X.E.tfs.length : Nat) : Int)))))] ?_
 rw [← hB11]
 have iB11 : B11 = true ↔ (((n : Int) < 1) ∨ ((n : Int) > ((X.E.tfs.length : Nat) : Int))) := by rw [hB11]; simp only [Bool.or_eq_true, decide_eq_true_eq, iB2]
 clear hB11
 intro aC fr
 refine zpk 3 15 [30] fr (news := [(30, (cond (!B11) (.pointer (some ⟨X.r, 13, none⟩)) undef))]) (by cases B11 <;> kernel_rfl) ?_
 intro aC fr
 refine From_either (B := (!B11)) (d := (some 31)) (vS X.fA X.E.tfs.length X.fc) fr (by cases B11 <;> kernel_rfl) (fun hB hh => ?_) ?_
 cases B11 <;> try exact absurd hB (by decide)
 have c11 : ¬ (((n : Int) < 1) ∨ ((n : Int) > ((X.E.tfs.length : Nat) : Int))) := (fun h => Bool.noConfusion (iB11.2 h) : ¬ (((n : Int) < 1) ∨ ((n : Int) > ((X.E.tfs.length : Nat) : Int))))
 exact From_ld (some 31) ⟨X.r, 13, none⟩ fr (by kernel_rfl) (vS X.fA X.E.tfs.length X.fc) (blk_cell (hM.get 0 rfl) rfl) hh
 intro aC fr
 refine zpk 1 17 [32] fr (news := [(32, (cond (!B11) (vI n) undef))]) (by cases B11 <;> kernel_rfl) ?_
 intro aC fr
 refine From_either (B := (!B11)) (d := (some 33)) (vI (n - 1)) fr (by cases B11 <;> kernel_rfl) (fun hB hh => ?_) ?_
 cases B11 <;> try exact absurd hB (by decide)
 have c11 : ¬ (((n : Int) < 1) ∨ ((n : Int) > ((X.E.tfs.length : Nat) : Int))) := (fun h => Bool.noConfusion (iB11.2 h) : ¬ (((n : Int) < 1) ∨ ((n : Int) > ((X.E.tfs.length : Nat) : Int))))
 exact From_ar (some 33) (n - 1) fr (z0 := n - 1) (by kernel_rfl) rfl (by omega) (by omega) hh
 intro aC fr
 cases B11
 have c11 : ¬ (((n : Int) < 1) ∨ ((n : Int) > ((X.E.tfs.length : Nat) : Int))) := (fun h => Bool.noConfusion (iB11.2 h) : ¬ (((n : Int) < 1) ∨ ((n : Int) > ((X.E.tfs.length : Nat) : Int))))
 obtain ⟨q, hq⟩ := get_of (l := X.E.tfs) (i := (n - 1).toNat) (by omega)
 have hqm := List.mem_of_getElem? hq
 have hW := (hX.fns q hqm).1
 have hV := (hX.fns q hqm).2
 have hlo := hW.lo
 have hpa0 := hW.pa0
 have hpal := hW.pal
 have hent := enterT_at (st := stS X.E g) (l := l) (s := z.s) (by omega) hq
 change callT X.E g n l z.s = _ at hent
 obtain ⟨ad22, had23⟩ := rds_some (hM.ro hA.xfns) (cs := q.cells) (i := (n - 1).toNat) (gm hq)
 refine From_ixA (some 34) X.fA ad22 X.E.tfs.length 5 (n - 1) fr (by kernel_rfl) had23 (by omega) (by omega) ?_
 intro aC fr
 revert aC
 refine zpn 1 ?_
 refine zld (((ad22 : Addr).add (((n - 1)).toNat * 5)).add 2) (vI q.pa) (rds_get (hM.ro hA.xfns) had23 (i := (n - 1).toNat) (cs := q.cells) (gm hq) 2 _ rfl) ?_
 refine zpn 4 <| zfe <| zcP ((q.pa : Int) != ((l.length : Nat) : Int)) ((q.pa : Int) ≠ ((l.length : Nat) : Int)) (by simp only [bne_iff_ne]) (fun c26 => ?_) (fun c26 => ?_)
 refine zsr <| zpn 3 <| zcl (rend_c X z oA oc w hX hG (Mem.pk_holds (l := rwnL X z oA oc) hM) 5 0) ?_
 rintro _ w27 ⟨rfl, M28x⟩
 have M28 : Mem (xS X z oA oc) w w27 [xb_ X (z.fin 5 0) oA oc, xm_ X (z.fin 5 0), xo_ (z.fin 5 0) oA oc] := hM.mdk M28x
 clear M28x hM
 refine zfe <| zsp <| zre <| zo1 (vI 0) ?_
 exact ⟨0, (z.fin 5 0), oA, oc, rfl, hG.fin, Eqv.fin (K := callT X.E g n l) rfl (fun _ => congrArg Got.no (hent.trans (if_pos (by omega)))), M28⟩
 refine zsk <| zsq <| zsr <| zpn 4 <| zld ⟨X.r, 12, none⟩ (vI z.s.opened) (blk_cell (hM.get 0 rfl) rfl) <| zpn 1 <| zfe <| zcD ((z.s.opened : Int) ≥ 1200) (fun c29 => ?_) (fun c29 => ?_)
 refine zsr <| zpn 3 <| zcl (rend_c X z oA oc w hX hG (Mem.pk_holds (l := rwnL X z oA oc) hM) 4 0) ?_
 rintro _ w30 ⟨rfl, M31x⟩
 have M31 : Mem (xS X z oA oc) w w30 [xb_ X (z.fin 4 0) oA oc, xm_ X (z.fin 4 0), xo_ (z.fin 4 0) oA oc] := hM.mdk M31x
 clear M31x hM
 refine zkp [] <| zfe <| zsp <| zre <| zo1 (vI 0) ?_
 exact ⟨0, (z.fin 4 0), oA, oc, rfl, hG.fin, Eqv.fin (K := callT X.E g n l) rfl (fun _ => congrArg Got.no (hent.trans (by rw [if_neg (by omega), if_pos (by omega)]))), M31⟩
 refine zsk <| zsr <| zpn 4 <| zld ⟨X.r, 12, none⟩ (vI z.s.opened) (blk_cell (hM.get 0 rfl) rfl) <| zkp [(0, (pT X.r 0)), (1, (vI n)), (2, (vS bA l.length bc)), (55, (pT X.r 0)), (59, (vI z.s.opened))] <| zar (z.s.opened + 1) <| zpn 3 <| zsb (ho := (by simp)) hM 0 12 (vI (z.s.opened + 1)) rfl fun w32 M33 => ?_
 replace M33 := M33.nf
 clear hM
 refine zfe <| zsr <| zpn 3 <| zld ⟨X.r, 13, none⟩ (vS X.fA X.E.tfs.length X.fc) (blk_cell (M33.get 0 rfl) rfl) <| zpn 1 <| zar (n - 1) ?_
 obtain ⟨ad34, had35⟩ := rds_some (M33.ro hA.xfns) (cs := q.cells) (i := (n - 1).toNat) (gm hq)
 intro aC fr
 refine From_ixA (some 70) X.fA ad34 X.E.tfs.length 5 (n - 1) fr (by kernel_rfl) had35 (by omega) (by omega) ?_
 intro aC fr
 revert aC
 refine zls ((ad34 : Addr).add (((n - 1)).toNat * 5)) (FC q) (rds_cells (i := (n - 1).toNat) (M33.ro hA.xfns) had35 (gm hq)) ?_
 refine zal M33 45 [(.string ⟨#[]⟩), (.bool false), (vI 0), (vI 0), (vS none 0 0)] fun b40 w41 hb40 M42 => ?_
 replace M42 := M42.nf
 refine zss M42 3 (FC q) rfl fun w43 M44 => ?_
 replace M44 := M44.nf
 refine zfe <| zsr <| zpn 1 <| zld ⟨b40, 3, none⟩ (vI q.lo) (blk_cell (M44.get 3 rfl) rfl) <| zkp [(0, (pT X.r 0)), (2, (vS bA l.length bc)), (7, (pT b40 0)), (73, (vI q.lo))] ?_
 intro aC fr
 refine From_make1 (by kernel_rfl : coreAt _ 2 = some (some 74, (.makeSlice 56 (.tmp 73) (.tmp 73)), 56, none)) fr (by kernel_rfl) (by kernel_rfl) (k' := 3) rfl (e := 2) (bytes := 8) (z := (vI 0)) (n := q.lo.toNat) (i := q.lo) (by kernel_rfl) (by kernel_rfl) (by omega) (by kernel_rfl) (by kernel_rfl) rfl (by omega) (by simp only [maxLen]; omega) M44 ?_
 intro b45 w46 hb45 _ M47 _ aC ea fr; clear ea
 replace M47 := M47.nf
 revert aC
 refine zpn 1 <| zfe <| zsq <| zsp <| zbk 0 ?_
 have M52 := M47.od [3, 4, 4, 4, 4] 5
 have M53 : Mem (xS X z oA oc) w w46 [.blk X.r 75 [(vS X.dA X.ds.length X.dc), (vS X.pA X.ds.length X.pc), (vS (sM X.mG) X.E.memN X.E.memN), (vI z.s.next), (vS X.iA X.E.inp.length X.ic), (vI (z.s.pos : Int)), (vI z.k), (vI z.c), (vS oA z.s.out.length oc), (vI z.s.steps), (.bool z.ov), (vI X.E.fuel), (vI (z.s.opened + 1)), (vS X.fA X.E.tfs.length X.fc), (vI z.N), (vI z.V)], xm_ X z, xo_ z oA oc, .row 2 1 (sM b45) q.lo.toNat q.lo.toNat (ints (l.take 0 ++ List.replicate (q.lo.toNat - 0) 0)), .blk b40 45 (FC q)] := M52.cast (by rw [rep_0])
 intro aC fr
 refine zlp (fun n_ a_ w_ => ∃ (j : Nat), n_ = l.length - j ∧ Fr a_ 111 [(0, (pT X.r 0)), (2, (vS bA l.length bc)), (7, (pT b40 0)), (8, (vS (sM b45) q.lo.toNat q.lo.toNat)), (9, (nV j))] ∧ Mem (xS X z oA oc) w w_ [.blk X.r 75 [(vS X.dA X.ds.length X.dc), (vS X.pA X.ds.length X.pc), (vS (sM X.mG) X.E.memN X.E.memN), (vI z.s.next), (vS X.iA X.E.inp.length X.ic), (vI (z.s.pos : Int)), (vI z.k), (vI z.c), (vS oA z.s.out.length oc), (vI z.s.steps), (.bool z.ov), (vI X.E.fuel), (vI (z.s.opened + 1)), (vS X.fA X.E.tfs.length X.fc), (vI z.N), (vI z.V)], xm_ X z, xo_ z oA oc, .row 2 1 (sM b45) q.lo.toNat q.lo.toNat (ints (l.take j ++ List.replicate (q.lo.toNat - j) 0)), .blk b40 45 (FC q)] ∧ (j ≤ l.length)) (n := _) ⟨0, rfl, fr.kp [0, 2, 7, 8, 9], M53, Nat.zero_le _⟩ ?_
 clear fr aC M53; rintro n aC w56 ⟨j, rfl, fr, M57, hj⟩
 revert aC
 refine zsq <| zsp <| zcD (((j : Int) : Int) < ((l.length : Nat) : Int)) (fun c60 => ?_) (fun c60 => ?_)
 refine zsk <| zsq <| zbk 1 <| zrg <| zpn 4 ?_
 obtain ⟨ad61, rfl⟩ := rd_some (M57.ro hl) (by rw [ints_len]; omega)
 refine zix ad61 l.length 1 (j : Int) <| zld ((ad61 : Addr).add (((j : Int)).toNat * 1)) (vI (l.getD (j : Int).toNat 0)) (rd_int (M57.ro hl) rfl (by omega) (by omega)) <| zix (h1 := (by omega)) ⟨b45, 0, none⟩ q.lo.toNat 1 (j : Int) <| zsw M57 3 ((⟨b45, 0, none⟩ : Addr).add (((j : Int)).toNat * 1)) (((j : Int)).toNat * 1) (vI (l.getD (j : Int).toNat 0)) rfl rfl (by omega) fun w62 M63 => ?_
 replace M63 := M63.nf
 refine zfe <| zrg <| zpn 1 <| zar ((j : Int) + 1) <| zpn 1 <| zfe ?_
 have M64 : Mem (xS X z oA oc) w w62 [.blk X.r 75 [(vS X.dA X.ds.length X.dc), (vS X.pA X.ds.length X.pc), (vS (sM X.mG) X.E.memN X.E.memN), (vI z.s.next), (vS X.iA X.E.inp.length X.ic), (vI (z.s.pos : Int)), (vI z.k), (vI z.c), (vS oA z.s.out.length oc), (vI z.s.steps), (.bool z.ov), (vI X.E.fuel), (vI (z.s.opened + 1)), (vS X.fA X.E.tfs.length X.fc), (vI z.N), (vI z.V)], xm_ X z, xo_ z oA oc, .row 2 1 (sM b45) q.lo.toNat q.lo.toNat (ints (l.take (j + 1) ++ List.replicate (q.lo.toNat - (j + 1)) 0)), .blk b40 45 (FC q)] := M63.cast (by rw [set_row_int, Int.toNat_natCast, cp_set (by omega) (by omega)])
 intro aC fr
 exact ⟨l.length - (j + 1), by omega, j + 1, rfl, fr.kp [0, 2, 7, 8, 9], M64, by omega⟩
 refine zex 0 <| zbh <| zsr ?_
 obtain rfl : j = l.length := by omega
 obtain ⟨z1, hz1⟩ : ∃ y : ZSt, y = { z with s := { z.s with opened := z.s.opened + 1 }, V := 0 } := ⟨_, rfl⟩
 obtain ⟨f0, hf0⟩ : ∃ y : Frm, y = ⟨l ++ List.replicate (q.lo.toNat - l.length) 0, 0, 0⟩ := ⟨_, rfl⟩
 have hz1o : z1.ov = false := by rw [hz1]; exact hz
 have hG1 : ZGood X z1 := by rw [hz1]; exact ⟨hG.mem, hG.n1, hG.n2, hG.pos, hG.out, hG.s1, hG.s2⟩
 have hZ1 : Zok X.E.toEnv0 z1 (g : Int) f0.loc := by rw [hz1, hf0]; exact .inr ⟨hZ1, hZ2, by show 0 ≤ z.s.opened + 1 ∧ z.s.opened + 1 ≤ 1200; omega, pad_in hZ4⟩
 have hgo : Eqv (z.go (callT X.E g n l)) (z1.go fun s => (stmS (stS X.E g) q.body f0 s).bind fun p s => .ok p.2.back { s with opened := s.opened - 1 }) := Eqv.to (K := callT X.E g n l) rfl hz hz1o (hent.trans (by rw [if_neg (by omega), if_neg (by omega), hz1, hf0]))
 have hfl0 : f0.loc.length = q.lo.toNat := by rw [hf0]; show (l ++ List.replicate _ 0).length = _; rw [List.length_append, List.length_replicate]; omega
 unfold fnV at hV; rw [Bool.and_eq_true] at hV
 have hm : ((q.lo.toNat : Nat) : Int) = q.lo := Int.toNat_of_nonneg (by omega)
 refine zpn 3 <| zsb (ho := (by simp)) M57 0 15 (vI 0) rfl fun w67 M68 => ?_
 replace M68 := M68.nf
 refine zfe <| zsr ?_
 have M69 : Mem (xS X z oA oc) w w67 [xb_ X z1 oA oc, xm_ X z1, xo_ z1 oA oc, .row 2 1 (sM b45) q.lo.toNat q.lo.toNat (ints f0.loc), .blk b40 45 (FC q)] := M68.cast (by rw [hz1, hf0, List.take_length])
 refine zpn 2 <| zld ⟨b40, 4, none⟩ (vS q.A q.body.length q.c) (blk_cell (M69.get 4 rfl) rfl) <| zpn 1 <| zcl (hSS q.body 0 0 q.A q.c f0 b45 q.lo.toNat z1 oA oc w67 hG1 hZ1 (Mem.pk_holds (l := rwnL X z1 oA oc ++ [frmR b45 q.lo.toNat f0]) M69) (hA.pk_at (l := rwnL X z1 oA oc ++ [frmR b45 q.lo.toNat f0]) M69) (sub_fn hqm) (by rw [hm]; exact hW.body) (by rw [hm]; exact stsV_mem hV.2) hW.len hfl0 (by rw [hf0])) ?_
 rintro _ w77 ⟨how70, f71, z72, oA73, oc74, rfl, hGz72, hflf71, hq75, he76, M78x⟩
 have M78 : Mem (xS X z oA oc) w w77 [xb_ X z72 oA73 oc74, xm_ X z72, xo_ z72 oA73 oc74, .row 2 1 (sM b45) q.lo.toNat q.lo.toNat (ints f71.loc), .blk b40 45 (FC q)] := M69.mdk M78x
 have hr2 := Eqv.step (A := stmS (stS X.E g) q.body f0) (F := fun p s => .ok p.2.back { s with opened := s.opened - 1 }) hgo he76
 have hZe := Zok.sts hein hZ1 (by rw [hf0]) (lo := q.lo) hW.body he76
 refine zpn 1 <| zfe <| zsr <| zpn 4 <| zld ⟨X.r, 12, none⟩ (vI z72.s.opened) (blk_cell (M78.get 0 rfl) rfl) <| zbi .i64 (IntKind.i64.wrap (z72.s.opened - 1)) 1 <| zpn 3 <| zsb (ho := (by simp)) M78 0 12 (vI (IntKind.i64.wrap (z72.s.opened - 1))) rfl fun w79 M80 => ?_
 replace M80 := M80.nf
 refine zkp [(0, (pT X.r 0)), (10, (vI how70))] <| zfe <| zsq <| zsp <| zcP ((how70 : Int) != 3) ((how70 : Int) ≠ 3) (by simp only [bne_iff_ne]) (fun c81 => ?_) (fun c81 => ?_)
 refine zsp <| zre <| zo1 (vI 0) ?_
 exact ⟨0, { z72 with s := { z72.s with opened := IntKind.i64.wrap (z72.s.opened - 1) } }, oA73, oc74, rfl, hGz72.toO, by rw [← hq75.n (by omega)]; exact leave_go hr2 (fun hv_ => by have := (hZe.run hv_).2.2.1; exact ⟨by omega, by omega⟩), M80.tk 3⟩
 refine zsk <| zsr <| zpn 3 <| zld ⟨X.r, 15, none⟩ (vI z72.V) (blk_cell (M80.get 0 rfl) rfl) <| zpn 1 <| zfe <| zre <| zo1 (vI z72.V) ?_
 exact ⟨z72.V, { z72 with s := { z72.s with opened := IntKind.i64.wrap (z72.s.opened - 1) } }, oA73, oc74, rfl, hGz72.toO, by rw [← hq75.b (by omega)]; exact leave_go hr2 (fun hv_ => by have := (hZe.run hv_).2.2.1; exact ⟨by omega, by omega⟩), M80.tk 3⟩
 have c11 : (((n : Int) < 1) ∨ ((n : Int) > ((X.E.tfs.length : Nat) : Int))) := iB11.1 rfl
 revert aC
 refine zpn 7 <| zfe <| zcT <| zsr <| zpn 3 <| zcl (rend_c X z oA oc w hX hG (Mem.pk_holds (l := rwnL X z oA oc) hM) 5 0) ?_
 rintro _ w82 ⟨rfl, M83x⟩
 have M83 : Mem (xS X z oA oc) w w82 [xb_ X (z.fin 5 0) oA oc, xm_ X (z.fin 5 0), xo_ (z.fin 5 0) oA oc] := hM.mdk M83x
 clear M83x hM
 refine zfe <| zsp <| zre <| zo1 (vI 0) ?_
 exact ⟨0, (z.fin 5 0), oA, oc, rfl, hG.fin, Eqv.fin (K := callT X.E g n l) rfl (fun _ => congrArg Got.no (enterT_rng (by omega))), M83⟩
theorem rall_c (X : RX) (hX : X.WF) : ∀ g : Nat, XExOk Try.prog X 83 (exS X.E g) (g : Int) ∧ XStOk Try.prog X 73 (stS X.E g) (g : Int)
  | 0 => by
    have ho : ∀ {z : ZSt} {L : List Int}, ZGood X z → Zok X.E.toEnv0 z ((0 : Nat) : Int) L → z.ov = true := fun hG h => h.elim id (fun h => by have h1 := h.1; have h2 := hG.s2; have h3 : X.E.toEnv0.fuel = X.E.fuel := rfl; omega)
    refine ⟨fun e d loc la m z oA oc w hG hZ hR hA hse hwe hV hfl hFR => ?_, fun x lp d f la m z oA oc w hG hZ hR hA hsx hwx hV hfl hfb => ?_⟩
    · have hz := ho hG hZ
      refine Ret_weak (rexpr_c X z oA oc w hX hG hR hA 0 (fun h => by rw [hz] at h; cases h) e d loc la m (.inl hz) hse hwe hV hfl hFR) fun v w' ⟨x, z', oA', oc', h1, h2, h3, h4⟩ => ⟨x, z', oA', oc', h1, h2, Eq.trans (by rw [go_over hz, go_over hz]) h3, h4⟩
    · have hz := ho hG hZ
      refine Ret_weak (rstat_c X z oA oc w hX hG f la m hR hA hfl hfb 0 (fun h => by rw [hz] at h; cases h) x lp d (.inl hz) hsx hwx hV) fun v w' ⟨how, f', z', oA', oc', h1, h2, h3, h4, h5, h6⟩ => ⟨how, f', z', oA', oc', h1, h2, h3, h4, Eq.trans (by rw [go_over hz, go_over hz]) h5, h6⟩
  | g + 1 => by
    obtain ⟨hE, hS⟩ := rall_c X hX g
    have hSS : XStsOk Try.prog X 60 (stmS (stS X.E g)) (g : Int) := fun l lp d A c f la m z oA oc w hG hZ hR hA hl hw hv hll hfl hfb => rstats_c X z oA oc w hX hG f la m hR hA hfl hfb g hS l lp d A c hZ hl hw hv hll
    have hL : XStsOk Try.prog X 86 (fun l => loopF X.E.toEnv0 (stmS (stS X.E g) l) g) (g : Int) := fun l lp d A c f la m z oA oc w hG hZ hR hA hl hw hv hll hfl hfb => rloop_c X z oA oc w hX hG f la m hR hA hfl hfb g g (Nat.le_refl _) hSS l lp d A c hZ hl hw hv hll
    have hK : XCaOk Try.prog X 39 (callT X.E g) (g : Int) := fun n l bA bc z oA oc w hG hZ hR hA hl hlen => rcall_c X z oA oc w hX hG hR hA g hSS n l bA bc hZ hl hlen
    exact ⟨fun e d loc la m z oA oc w hG hZ hR hA hse hwe hV hfl hFR => rexpr_c X z oA oc w hX hG hR hA g (fun _ => ⟨hE, hK⟩) e d loc la m (by rw [Int.natCast_add] at hZ; exact hZ) hse hwe hV hfl hFR,
      fun x lp d f la m z oA oc w hG hZ hR hA hsx hwx hV hfl hfb => rstat_c X z oA oc w hX hG f la m hR hA hfl hfb g (fun _ => ⟨hE, hSS, hL⟩) x lp d (by rw [Int.natCast_add] at hZ; exact hZ) hsx hwx hV⟩
theorem rcall_all (X : RX) (hX : X.WF) (g : Nat) : XCaOk Try.prog X 39 (callT X.E g) (g : Int) := fun n l bA bc z oA oc w hG hZ hR hA hl hlen =>
  rcall_c X z oA oc w hX hG hR hA g (fun l lp d A c f la m z oA oc w hG hZ hR hA hl hw hv hll hfl hfb => rstats_c X z oA oc w hX hG f la m hR hA hfl hfb g (rall_c X hX g).2 l lp d A c hZ hl hw hv hll) n l bA bc hZ hl hlen
end Go.Proofs.Ytdcgcjibgihbbaa
namespace Go.Proofs.Ytdcgcjibgihbbaa
open Go.Mor
theorem rname_c (nm : ByteArray) (w : World) :
    Calls Try.prog 50 #[(.string nm)] w (Ret fun v w' => v = .bool (decide (nameQ nm)) ∧ Mem noS w w' []) := by
 refine zen 11 [(.string nm)] Try.func50 ?_
 have hM := Mem.init w
 refine zsp <| zsr <| zpn 4 ?_
 obtain ⟨B1, hB1⟩ : ∃ B : Bool, B = decide ((((nm).size : Int) : Int) ≥ 1) := ⟨_, rfl⟩
 refine zkp [(0, (.string nm)), (6, (.bool (decide ((((nm).size : Int) : Int) ≥ 1))))] ?_
 rw [← hB1]
 have iB1 : B1 = true ↔ ((((nm).size : Int) : Int) ≥ 1) := by rw [hB1]; simp only [decide_eq_true_eq]
 clear hB1
 intro aC fr
 refine zpk 5 9 [2, 10] fr (news := [(2, (.bool (B1 && decide ((((nm).size : Int) : Int) ≤ 60)))), (10, (.bool (B1 && decide ((((nm).size : Int) : Int) ≤ 60))))]) (by cases B1 <;> kernel_rfl) ?_
 intro aC fr
 revert aC
 refine zfe <| zre <| zo1 (.bool (B1 && decide ((((nm).size : Int) : Int) ≤ 60))) ?_
 have hR : (B1 && decide ((((nm).size : Int) : Int) ≤ 60)) = true ↔ (((((nm).size : Int) : Int) ≥ 1) ∧ ((((nm).size : Int) : Int) ≤ 60)) := by simp only [Bool.and_eq_true, decide_eq_true_eq, iB1]
 exact ⟨bool_dec hR (by unfold nameQ; omega), hM⟩
end Go.Proofs.Ytdcgcjibgihbbaa
namespace Go.Proofs.Ytdcgcjibgihbbaa
open Go.Mor
theorem rexv_c (e : MEx) (ih : ∀ k, k ∈ e.kids → RExOk Try.prog k) (lo d : Int) (T : List Res) (w : World) (hd0 : 0 ≤ d) (hd : d ≤ 1000) (hT : RO noS w (.all T)) (hs : SubE T e) (hI : exI e) :
    Calls Try.prog 80 #[(.agg (EC e).toArray), (vI lo), (vI d)] w (Ret fun v w' => v = .bool (exV lo d e) ∧ Mem noS w w' []) := by
 have hkl := hI.own.kids
 have hnl := hI.own.nm
 unfold LenOk at hkl hnl
 refine zen 136 [(.agg (EC e).toArray), (vI lo), (vI d)] Try.func80 ?_
 have hM := Mem.init w
 refine zsr <| zbx hM 53 (.agg (EC e).toArray) (EC e) fun b1 w2 hb1 M3 => ?_
 replace M3 := M3.nf
 clear hM
 refine zpn 1 <| zfe <| zsp <| zsq ?_
 obtain ⟨B4, hB4⟩ : ∃ B : Bool, B = (e.n == 0) := ⟨_, rfl⟩
 refine zkp [(1, (vI lo)), (2, (vI d)), (3, (pT b1 0)), (7, (vI 0)), (8, (vI 0))] ?_
 intro aC fr
 refine zdt 4 (N := 136) (env0 := [(1, (vI lo)), (2, (vI d)), (3, (pT b1 0)), (7, (vI 0)), (8, (vI 0))]) (specAt [.det (pT b1 1), .det (vI e.n), .det (.bool B4), .det (.bool false)]) fr (la (la (la (la lz dP) (dL ⟨b1, 1, none⟩ (vI e.n) fun w_ hK => (blk_cell ((M3.then_ hK).get 0 rfl) rfl))) (dC (e.n == 0) hB4)) dP) ?_
 intro aC w9 vs hK hv fr
 revert aC; refine zkp [(1, (vI lo)), (2, (vI d)), (3, (pT b1 0)), (7, (vI 0)), (8, (vI 0)), (9, (.bool false)), (14, (.bool B4))] ?_
 have M10 := M3.then_ hK
 clear hK hv fr aC M3; clear vs
 have iB4 : B4 = true ↔ ((e.n : Int) = 0) := by rw [hB4]; simp only [beq_iff_eq]
 clear hB4
 refine zpn 1 <| zfe <| zsq <| zsr <| zpn 1 <| zld ⟨b1, 0, none⟩ (vI e.op) (blk_cell (M10.get 0 rfl) rfl) <| zfe ?_
 intro aC fr
 refine W_cut (fun a_ w_ => ∃ (le : Int) (mo : Int) (bn : Bool) (bm : Bool), Fr a_ 136 [(1, (vI lo)), (2, (vI d)), (3, (pT b1 0)), (7, (vI le)), (8, (vI mo)), (9, (.bool bm)), (10, (.bool bn))] ∧ Mem noS w w_ [.blk b1 53 (EC e)] ∧ (esQ lo e.op e.n e.nm.size e.kids.length ↔ caseE le mo bn bm e.nm.size e.kids.length)) ?_ ?_
 clear fr aC M10; rintro aC w13 ⟨le, mo, bn, bm, fr, M14, hsh⟩
 revert aC
 refine zsq <| zsr <| zpn 3 ?_
 obtain ⟨B17, hB17⟩ : ∃ B : Bool, B = (!bn) := ⟨_, rfl⟩
 refine zkp [(1, (vI lo)), (2, (vI d)), (3, (pT b1 0)), (7, (vI le)), (8, (vI mo)), (9, (.bool bm)), (85, (.bool (!bn)))] ?_
 rw [← hB17]
 have iB17 : B17 = true ↔ (¬ (bn = true)) := by rw [hB17]; simp only [notT]
 clear hB17
 intro aC fr
 refine zpk 2 5 [86, 87] fr (news := [(86, (cond (!B17) (.bool bm) undef)), (87, (cond (!B17) (pT b1 2) undef))]) (by cases B17 <;> kernel_rfl) ?_
 intro aC fr
 refine From_either (B := (!B17)) (d := (some 88)) (.string e.nm) fr (by cases B17 <;> kernel_rfl) (fun hB hh => ?_) ?_
 cases B17 <;> try exact absurd hB (by decide)
 have c17 : ¬ (¬ (bn = true)) := (fun h => Bool.noConfusion (iB17.2 h) : ¬ (¬ (bn = true)))
 exact From_ld (some 88) ⟨b1, 2, none⟩ fr (by kernel_rfl) (.string e.nm) (blk_cell (M14.get 0 rfl) rfl) hh
 intro aC fr
 refine zpk 4 10 [91, 92] fr (news := [(91, (.bool (B17 || (!(bm == (!((e.nm : ByteArray).toList == (⟨#[]⟩ : ByteArray).toList))))))), (92, (.bool (B17 || (!(bm == (!((e.nm : ByteArray).toList == (⟨#[]⟩ : ByteArray).toList)))))))]) (by cases B17 <;> kernel_rfl) ?_
 intro aC fr
 obtain ⟨B26, hB26⟩ : ∃ B : Bool, B = (B17 || (!(bm == (!((e.nm : ByteArray).toList == (⟨#[]⟩ : ByteArray).toList))))) := ⟨_, rfl⟩
 revert aC
 refine zkp [(1, (vI lo)), (2, (vI d)), (3, (pT b1 0)), (7, (vI le)), (8, (vI mo)), (9, (.bool bm)), (92, (.bool (B17 || (!(bm == (!((e.nm : ByteArray).toList == (⟨#[]⟩ : ByteArray).toList)))))))] ?_
 rw [← hB26]
 have iB26 : B26 = true ↔ ((¬ (bn = true)) ∨ (¬ (bm = (!((e.nm : ByteArray).toList == (⟨#[]⟩ : ByteArray).toList))))) := by rw [hB26]; simp only [Bool.or_eq_true, notT, beq_iff_eq, seq_nil, iB17]
 clear hB26
 intro aC fr
 refine zpk 3 13 [94, 95] fr (news := [(94, (cond (!B26) (.bool bm) undef)), (95, (cond (!B26 && bm) (pT b1 2) undef))]) (by cases B26 <;> cases bm <;> kernel_rfl) ?_
 intro aC fr
 refine From_either (B := (!B26 && bm)) (d := (some 96)) (.string e.nm) fr (by cases B26 <;> cases bm <;> kernel_rfl) (fun hB hh => ?_) ?_
 cases B26 <;> cases bm <;> try exact absurd hB (by decide)
 exact From_ld (some 96) ⟨b1, 2, none⟩ fr (by kernel_rfl) (.string e.nm) (blk_cell (M14.get 0 rfl) rfl) hh
 intro aC fr
 refine From_eitherC (B := (!B26 && bm)) (d := (some 97)) (.bool (decide (nameQ e.nm))) fr (by cases B26 <;> cases bm <;> kernel_rfl) (fun hB hh => ?_) ?_
 cases B26 <;> cases bm <;> try exact absurd hB (by decide)
 refine From_cl (some 97) 50 [(.string e.nm)] fr (by kernel_rfl) (rname_c e.nm w13) ?_
 rintro _ w2 ⟨rfl, hm2⟩ a2 hF2; exact hh a2 w2 hm2 hF2
 intro aC w33 M34x fr
 have M34 := M14.cl M34x
 refine zpk 4 19 [100, 101] fr (news := [(100, (.bool (B26 || (bm && (!(decide (nameQ e.nm))))))), (101, (.bool (B26 || (bm && (!(decide (nameQ e.nm)))))))]) (by cases B26 <;> cases bm <;> kernel_rfl) ?_
 intro aC fr
 obtain ⟨B39, hB39⟩ : ∃ B : Bool, B = (B26 || (bm && (!(decide (nameQ e.nm))))) := ⟨_, rfl⟩
 revert aC
 refine zkp [(1, (vI lo)), (2, (vI d)), (3, (pT b1 0)), (7, (vI le)), (8, (vI mo)), (101, (.bool (B26 || (bm && (!(decide (nameQ e.nm)))))))] ?_
 rw [← hB39]
 have iB39 : B39 = true ↔ (((¬ (bn = true)) ∨ (¬ (bm = (!((e.nm : ByteArray).toList == (⟨#[]⟩ : ByteArray).toList))))) ∨ ((bm = true) ∧ (¬ (nameQ e.nm)))) := by rw [hB39]; simp only [Bool.or_eq_true, Bool.and_eq_true, notT, decide_eq_true_eq, iB26]
 clear hB39
 intro aC fr
 refine zpk 1 20 [102] fr (news := [(102, (cond (!B39) (pT b1 3) undef))]) (by cases B39 <;> kernel_rfl) ?_
 intro aC fr
 refine From_either (B := (!B39)) (d := (some 103)) (vS e.A e.kids.length e.c) fr (by cases B39 <;> kernel_rfl) (fun hB hh => ?_) ?_
 cases B39 <;> try exact absurd hB (by decide)
 have c39 : ¬ (((¬ (bn = true)) ∨ (¬ (bm = (!((e.nm : ByteArray).toList == (⟨#[]⟩ : ByteArray).toList))))) ∨ ((bm = true) ∧ (¬ (nameQ e.nm)))) := (fun h => Bool.noConfusion (iB39.2 h) : ¬ (((¬ (bn = true)) ∨ (¬ (bm = (!((e.nm : ByteArray).toList == (⟨#[]⟩ : ByteArray).toList))))) ∨ ((bm = true) ∧ (¬ (nameQ e.nm)))))
 exact From_ld (some 103) ⟨b1, 3, none⟩ fr (by kernel_rfl) (vS e.A e.kids.length e.c) (blk_cell (M34.get 0 rfl) rfl) hh
 intro aC fr
 refine zpk 5 26 [107, 108] fr (news := [(107, (.bool (B39 || decide ((((e.kids.length : Nat) : Int) : Int) < le)))), (108, (.bool (B39 || decide ((((e.kids.length : Nat) : Int) : Int) < le))))]) (by cases B39 <;> kernel_rfl) ?_
 intro aC fr
 obtain ⟨B48, hB48⟩ : ∃ B : Bool, B = (B39 || decide ((((e.kids.length : Nat) : Int) : Int) < le)) := ⟨_, rfl⟩
 revert aC
 refine zkp [(1, (vI lo)), (2, (vI d)), (3, (pT b1 0)), (8, (vI mo)), (108, (.bool (B39 || decide ((((e.kids.length : Nat) : Int) : Int) < le))))] ?_
 rw [← hB48]
 have iB48 : B48 = true ↔ ((((¬ (bn = true)) ∨ (¬ (bm = (!((e.nm : ByteArray).toList == (⟨#[]⟩ : ByteArray).toList))))) ∨ ((bm = true) ∧ (¬ (nameQ e.nm)))) ∨ ((((e.kids.length : Nat) : Int) : Int) < le)) := by rw [hB48]; simp only [Bool.or_eq_true, decide_eq_true_eq, iB39]
 clear hB48
 intro aC fr
 refine zpk 1 27 [109] fr (news := [(109, (cond (!B48) (pT b1 3) undef))]) (by cases B48 <;> kernel_rfl) ?_
 intro aC fr
 refine From_either (B := (!B48)) (d := (some 110)) (vS e.A e.kids.length e.c) fr (by cases B48 <;> kernel_rfl) (fun hB hh => ?_) ?_
 cases B48 <;> try exact absurd hB (by decide)
 have c48 : ¬ ((((¬ (bn = true)) ∨ (¬ (bm = (!((e.nm : ByteArray).toList == (⟨#[]⟩ : ByteArray).toList))))) ∨ ((bm = true) ∧ (¬ (nameQ e.nm)))) ∨ ((((e.kids.length : Nat) : Int) : Int) < le)) := (fun h => Bool.noConfusion (iB48.2 h) : ¬ ((((¬ (bn = true)) ∨ (¬ (bm = (!((e.nm : ByteArray).toList == (⟨#[]⟩ : ByteArray).toList))))) ∨ ((bm = true) ∧ (¬ (nameQ e.nm)))) ∨ ((((e.kids.length : Nat) : Int) : Int) < le)))
 exact From_ld (some 110) ⟨b1, 3, none⟩ fr (by kernel_rfl) (vS e.A e.kids.length e.c) (blk_cell (M34.get 0 rfl) rfl) hh
 intro aC fr
 refine zpk 5 33 [114, 115] fr (news := [(114, (.bool (B48 || decide ((((e.kids.length : Nat) : Int) : Int) > mo)))), (115, (.bool (B48 || decide ((((e.kids.length : Nat) : Int) : Int) > mo))))]) (by cases B48 <;> kernel_rfl) ?_
 intro aC fr
 obtain ⟨B57, hB57⟩ : ∃ B : Bool, B = (B48 || decide ((((e.kids.length : Nat) : Int) : Int) > mo)) := ⟨_, rfl⟩
 revert aC
 refine zkp [(1, (vI lo)), (2, (vI d)), (3, (pT b1 0)), (115, (.bool (B48 || decide ((((e.kids.length : Nat) : Int) : Int) > mo))))] ?_
 rw [← hB57]
 have iB57 : B57 = true ↔ (((((¬ (bn = true)) ∨ (¬ (bm = (!((e.nm : ByteArray).toList == (⟨#[]⟩ : ByteArray).toList))))) ∨ ((bm = true) ∧ (¬ (nameQ e.nm)))) ∨ ((((e.kids.length : Nat) : Int) : Int) < le)) ∨ ((((e.kids.length : Nat) : Int) : Int) > mo)) := by rw [hB57]; simp only [Bool.or_eq_true, decide_eq_true_eq, iB48]
 clear hB57
 intro aC fr
 refine zpk 3 36 [118] fr (news := [(118, (.bool (B57 || decide ((d : Int) > 100))))]) (by cases B57 <;> kernel_rfl) ?_
 intro aC fr
 revert aC
 refine zfe <| zcP (B57 || decide ((d : Int) > 100)) ((((((¬ (bn = true)) ∨ (¬ (bm = (!((e.nm : ByteArray).toList == (⟨#[]⟩ : ByteArray).toList))))) ∨ ((bm = true) ∧ (¬ (nameQ e.nm)))) ∨ ((((e.kids.length : Nat) : Int) : Int) < le)) ∨ ((((e.kids.length : Nat) : Int) : Int) > mo)) ∨ ((d : Int) > 100)) (by simp only [Bool.or_eq_true, decide_eq_true_eq, iB57]) (fun c62 => ?_) (fun c62 => ?_)
 have hno := (rex_iff (seq_nil _) hsh).1 c62
 refine zsp <| zre <| zo1 (.bool false) ?_
 have M63 := M34.od [] 0
 exact ⟨congrArg Value.bool (show exV lo d e = false by rw [exV_eq, decide_eq_false hno, Bool.false_and]).symm, M63⟩
 have hok := Classical.not_not.1 (fun h_ => c62 ((rex_iff (seq_nil _) hsh).2 h_))
 refine zsk <| zsq <| zsp <| zbk 1 ?_
 intro aC fr
 refine zlp (fun n_ a_ w_ => ∃ (j : Nat), n_ = e.kids.length - j ∧ Fr a_ 136 [(1, (vI lo)), (2, (vI d)), (3, (pT b1 0)), (11, (nV j))] ∧ Mem noS w w_ [.blk b1 53 (EC e)] ∧ (j ≤ e.kids.length) ∧ (exsV lo (d + 1) e.kids = exsV lo (d + 1) (e.kids.drop j))) (n := _) ⟨0, rfl, fr.kp [1, 2, 3, 11], M34, Nat.zero_le _, (by rw [List.drop_zero])⟩ ?_
 clear fr aC M34; rintro n aC w66 ⟨j, rfl, fr, M67, hj, hr⟩
 revert aC
 refine zsq <| zsr <| zpn 2 <| zld ⟨b1, 3, none⟩ (vS e.A e.kids.length e.c) (blk_cell (M67.get 0 rfl) rfl) <| zpn 2 <| zfe <| zcD (((j : Int) : Int) < ((e.kids.length : Nat) : Int)) (fun c70 => ?_) (fun c70 => ?_)
 refine zsk <| zsq <| zbk 2 <| zsr ?_
 obtain ⟨k, hk⟩ := get_of (l := e.kids) (i := j) (by omega)
 have hkm := List.mem_of_getElem? hk
 refine zpn 1 <| zld ⟨b1, 3, none⟩ (vS e.A e.kids.length e.c) (blk_cell (M67.get 0 rfl) rfl) <| zpn 1 ?_
 obtain ⟨ad71, had72⟩ := rds_some (M67.ro (hT.sub hs.kids.1)) (cs := k.cells) (i := j) (gm hk)
 intro aC fr
 refine From_ixA (some 129) e.A ad71 e.kids.length 4 (j : Int) fr (by kernel_rfl) had72 (by omega) (by omega) ?_
 intro aC fr
 revert aC
 refine zls ((ad71 : Addr).add (((j : Int)).toNat * 4)) (EC k) (rds_cells (i := j) (M67.ro (hT.sub hs.kids.1)) had72 (gm hk)) ?_
 refine zpn 2 <| zar (d + 1) <| zcl (ih k hkm lo (d + 1) T w66 (by omega) (by omega) (hT.at_ M67) (hs.kids.2 k hkm) (exsI_mem hI.kids hkm)) ?_
 rintro _ w77 ⟨rfl, M78x⟩
 have M78 := M67.cl M78x
 refine zpn 1 <| zfe <| zcP (!(exV lo (d + 1) k)) (¬ ((exV lo (d + 1) k) = true)) (by simp only [notT]) (fun c79 => ?_) (fun c79 => ?_)
 replace c79 : (exV lo (d + 1) k) = false := Bool.eq_false_iff.2 c79
 have ck_ : exV lo (d + 1) k = false := by simpa using c79
 refine zsp <| zre <| zbr <| zbr <| zo1 (.bool false) ?_
 have M80 := M78.od [] 0
 exact ⟨congrArg Value.bool (show exV lo d e = false by rw [exV_eq, hr, exsV_at hk, ck_, Bool.false_and, Bool.and_false]).symm, M80⟩
 replace c79 : (exV lo (d + 1) k) = true := Classical.not_not.1 c79
 have ck_ : exV lo (d + 1) k = true := by simpa using c79
 refine zsk <| zrg <| zpn 1 <| zar ((j : Int) + 1) <| zkp [(1, (vI lo)), (2, (vI d)), (3, (pT b1 0)), (125, (vI ((j : Int) + 1)))] <| zpn 1 <| zfe ?_
 intro aC fr
 exact ⟨e.kids.length - (j + 1), by omega, j + 1, rfl, fr.kp [1, 2, 3, 11], M78, by omega, hr.trans (by rw [exsV_at hk, ck_, Bool.true_and])⟩
 refine zex 1 <| zbh <| zsp <| zre <| zo1 (.bool true) ?_
 have M83 := M67.od [] 0
 exact ⟨congrArg Value.bool (show exV lo d e = true by rw [exV_eq, decide_eq_true hok, hr, List.drop_eq_nil_of_le (by omega), exsV_nil, Bool.true_and]).symm, M83⟩
 revert aC
 refine zbk 0 <| zsp <| zcQ e.op 1 (fun c84 => ?_) (fun c84 => ?_)
 refine zrp ?_
 intro aC fr
 exact ⟨0, 0, true, false, fr.kp [1, 2, 3, 7, 8, 9, 10], M10, by rw [esQ_1 (by omega), caseEF litT']; constructor <;> intro h_ <;> first | omega | exact h_.elim | exact h_.1.elim | exact ⟨trivial, by omega⟩ | exact ⟨by omega, by omega⟩⟩
 refine zsp <| zcQ e.op 2 (fun c87 => ?_) (fun c87 => ?_)
 refine zrg <| zpn 1 <| zld ⟨b1, 1, none⟩ (vI e.n) (blk_cell (M10.get 0 rfl) rfl) <| zpn 2 ?_
 obtain ⟨B88, hB88⟩ : ∃ B : Bool, B = decide ((e.n : Int) ≥ 0) := ⟨_, rfl⟩
 refine zkp [(1, (vI lo)), (2, (vI d)), (3, (pT b1 0)), (7, (vI 0)), (8, (vI 0)), (9, (.bool false)), (24, (.bool (decide ((e.n : Int) ≥ 0))))] ?_
 rw [← hB88]
 have iB88 : B88 = true ↔ ((e.n : Int) ≥ 0) := by rw [hB88]; simp only [decide_eq_true_eq]
 clear hB88
 intro aC fr
 refine zpk 1 5 [25] fr (news := [(25, (cond B88 (pT b1 1) undef))]) (by cases B88 <;> kernel_rfl) ?_
 intro aC fr
 refine From_either (B := B88) (d := (some 26)) (vI e.n) fr (by cases B88 <;> kernel_rfl) (fun hB hh => ?_) ?_
 cases B88 <;> try exact absurd hB (by decide)
 have c88 : ((e.n : Int) ≥ 0) := iB88.1 rfl
 exact From_ld (some 26) ⟨b1, 1, none⟩ fr (by kernel_rfl) (vI e.n) (blk_cell (M10.get 0 rfl) rfl) hh
 intro aC fr
 refine zpk 4 10 [10, 29] fr (news := [(10, (.bool (B88 && decide ((e.n : Int) < lo)))), (29, (.bool (B88 && decide ((e.n : Int) < lo))))]) (by cases B88 <;> kernel_rfl) ?_
 intro aC fr
 revert aC
 refine zfe ?_
 intro aC fr
 exact ⟨0, 0, (B88 && decide ((e.n : Int) < lo)), false, fr.kp [1, 2, 3, 7, 8, 9, 10], M10, by rw [esQ_2 (by omega), caseEF (show (B88 && decide ((e.n : Int) < lo)) = true ↔ (((e.n : Int) ≥ 0) ∧ ((e.n : Int) < lo)) by simp only [Bool.and_eq_true, decide_eq_true_eq, iB88])]; constructor <;> intro h_ <;> first | omega | exact h_.elim | exact h_.1.elim | exact ⟨trivial, by omega⟩ | exact ⟨by omega, by omega⟩⟩
 refine zsp <| zcQ e.op 3 (fun c99 => ?_) (fun c99 => ?_)
 obtain ⟨B100, hB100⟩ : ∃ B : Bool, B = decide (e.n ≥ 1) := ⟨_, rfl⟩
 cases B100
 have c100 : ¬ (e.n ≥ 1) := of_decide_eq_false hB100.symm
 refine zkp [(1, (vI lo)), (2, (vI d)), (3, (pT b1 0)), (7, (vI 0)), (8, (vI 0)), (9, (.bool false)), (10, (.bool B4)), (16, (vI e.op))] ?_
 intro aC fr
 refine zdt 10 (N := 136) (env0 := [(1, (vI lo)), (2, (vI d)), (3, (pT b1 0)), (7, (vI 0)), (8, (vI 0)), (9, (.bool false)), (10, (.bool B4)), (16, (vI e.op))]) (specAt [.det (pT b1 1), .det (vI e.n), .det (.bool false), .det (.bool false), dU, dU, dU, .det (.bool false), .det (vI 2), .det (vI 2)]) fr (la (la (la (la (la (la (la (la (la (la lz dP) (dL ⟨b1, 1, none⟩ (vI e.n) fun w_ hK => (blk_cell ((M10.then_ hK).get 0 rfl) rfl))) (dC (decide (e.n ≥ 1)) hB100)) dP) dK) dK) dK) dP) dP) dP) ?_
 intro aC w105 vs hK hv fr
 revert aC; refine zkp [(1, (vI lo)), (2, (vI d)), (3, (pT b1 0)), (7, (vI 2)), (8, (vI 2)), (9, (.bool false)), (39, (.bool false))] ?_
 have M106 := M10.then_ hK
 clear hK hv fr aC M10; clear vs
 refine zpn 1 <| zfe ?_
 intro aC fr
 exact ⟨2, 2, false, false, fr.kp [1, 2, 3, 7, 8, 9, 10], M106, by rw [esQ_3 (by omega), caseEF litF']; constructor <;> intro h_ <;> first | omega | exact h_.elim | exact h_.1.elim | exact ⟨trivial, by omega⟩ | exact ⟨by omega, by omega⟩⟩
 have c100 : e.n ≥ 1 := of_decide_eq_true hB100.symm
 obtain ⟨B109, hB109⟩ : ∃ B : Bool, B = decide (e.n ≤ 16) := ⟨_, rfl⟩
 refine zkp [(1, (vI lo)), (2, (vI d)), (3, (pT b1 0)), (7, (vI 0)), (8, (vI 0)), (9, (.bool false)), (10, (.bool B4)), (16, (vI e.op))] ?_
 intro aC fr
 refine zdt 10 (N := 136) (env0 := [(1, (vI lo)), (2, (vI d)), (3, (pT b1 0)), (7, (vI 0)), (8, (vI 0)), (9, (.bool false)), (10, (.bool B4)), (16, (vI e.op))]) (specAt [.det (pT b1 1), .det (vI e.n), .det (.bool true), .det (.bool true), .det (pT b1 1), .det (vI e.n), .det (.bool B109), .det (.bool B109), .det (vI 2), .det (vI 2)]) fr (la (la (la (la (la (la (la (la (la (la lz dP) (dL ⟨b1, 1, none⟩ (vI e.n) fun w_ hK => (blk_cell ((M10.then_ hK).get 0 rfl) rfl))) (dC (decide (e.n ≥ 1)) hB100)) dP) dP) (dL ⟨b1, 1, none⟩ (vI e.n) fun w_ hK => (blk_cell ((M10.then_ hK).get 0 rfl) rfl))) (dC (decide (e.n ≤ 16)) hB109)) dP) dP) dP) ?_
 intro aC w114 vs hK hv fr
 revert aC; refine zkp [(1, (vI lo)), (2, (vI d)), (3, (pT b1 0)), (7, (vI 2)), (8, (vI 2)), (9, (.bool false)), (39, (.bool B109))] ?_
 have M115 := M10.then_ hK
 clear hK hv fr aC M10; clear vs
 have iB109 : B109 = true ↔ ((e.n : Int) ≤ 16) := by rw [hB109]; simp only [decide_eq_true_eq]
 clear hB109
 refine zpn 1 <| zfe ?_
 intro aC fr
 exact ⟨2, 2, B109, false, fr.kp [1, 2, 3, 7, 8, 9, 10], M115, by rw [esQ_3 (by omega), caseEF (show B109 = true ↔ ((e.n : Int) ≤ 16) by simp only [iB109])]; constructor <;> intro h_ <;> first | omega | exact h_.elim | exact h_.1.elim | exact ⟨trivial, by omega⟩ | exact ⟨by omega, by omega⟩⟩
 refine zsp <| zcQ e.op 4 (fun c118 => ?_) (fun c118 => ?_)
 obtain ⟨B119, hB119⟩ : ∃ B : Bool, B = decide (e.n ≥ 1) := ⟨_, rfl⟩
 cases B119
 have c119 : ¬ (e.n ≥ 1) := of_decide_eq_false hB119.symm
 refine zkp [(1, (vI lo)), (2, (vI d)), (3, (pT b1 0)), (7, (vI 0)), (8, (vI 0)), (9, (.bool false)), (10, (.bool B4)), (16, (vI e.op))] ?_
 intro aC fr
 refine zdt 10 (N := 136) (env0 := [(1, (vI lo)), (2, (vI d)), (3, (pT b1 0)), (7, (vI 0)), (8, (vI 0)), (9, (.bool false)), (10, (.bool B4)), (16, (vI e.op))]) (specAt [.det (pT b1 1), .det (vI e.n), .det (.bool false), .det (.bool false), dU, dU, dU, .det (.bool false), .det (vI 1), .det (vI 1)]) fr (la (la (la (la (la (la (la (la (la (la lz dP) (dL ⟨b1, 1, none⟩ (vI e.n) fun w_ hK => (blk_cell ((M10.then_ hK).get 0 rfl) rfl))) (dC (decide (e.n ≥ 1)) hB119)) dP) dK) dK) dK) dP) dP) dP) ?_
 intro aC w124 vs hK hv fr
 revert aC; refine zkp [(1, (vI lo)), (2, (vI d)), (3, (pT b1 0)), (7, (vI 1)), (8, (vI 1)), (9, (.bool false)), (49, (.bool false))] ?_
 have M125 := M10.then_ hK
 clear hK hv fr aC M10; clear vs
 refine zpn 1 <| zfe ?_
 intro aC fr
 exact ⟨1, 1, false, false, fr.kp [1, 2, 3, 7, 8, 9, 10], M125, by rw [esQ_4 (by omega), caseEF litF']; constructor <;> intro h_ <;> first | omega | exact h_.elim | exact h_.1.elim | exact ⟨trivial, by omega⟩ | exact ⟨by omega, by omega⟩⟩
 have c119 : e.n ≥ 1 := of_decide_eq_true hB119.symm
 obtain ⟨B128, hB128⟩ : ∃ B : Bool, B = decide (e.n ≤ 3) := ⟨_, rfl⟩
 refine zkp [(1, (vI lo)), (2, (vI d)), (3, (pT b1 0)), (7, (vI 0)), (8, (vI 0)), (9, (.bool false)), (10, (.bool B4)), (16, (vI e.op))] ?_
 intro aC fr
 refine zdt 10 (N := 136) (env0 := [(1, (vI lo)), (2, (vI d)), (3, (pT b1 0)), (7, (vI 0)), (8, (vI 0)), (9, (.bool false)), (10, (.bool B4)), (16, (vI e.op))]) (specAt [.det (pT b1 1), .det (vI e.n), .det (.bool true), .det (.bool true), .det (pT b1 1), .det (vI e.n), .det (.bool B128), .det (.bool B128), .det (vI 1), .det (vI 1)]) fr (la (la (la (la (la (la (la (la (la (la lz dP) (dL ⟨b1, 1, none⟩ (vI e.n) fun w_ hK => (blk_cell ((M10.then_ hK).get 0 rfl) rfl))) (dC (decide (e.n ≥ 1)) hB119)) dP) dP) (dL ⟨b1, 1, none⟩ (vI e.n) fun w_ hK => (blk_cell ((M10.then_ hK).get 0 rfl) rfl))) (dC (decide (e.n ≤ 3)) hB128)) dP) dP) dP) ?_
 intro aC w133 vs hK hv fr
 revert aC; refine zkp [(1, (vI lo)), (2, (vI d)), (3, (pT b1 0)), (7, (vI 1)), (8, (vI 1)), (9, (.bool false)), (49, (.bool B128))] ?_
 have M134 := M10.then_ hK
 clear hK hv fr aC M10; clear vs
 have iB128 : B128 = true ↔ ((e.n : Int) ≤ 3) := by rw [hB128]; simp only [decide_eq_true_eq]
 clear hB128
 refine zpn 1 <| zfe ?_
 intro aC fr
 exact ⟨1, 1, B128, false, fr.kp [1, 2, 3, 7, 8, 9, 10], M134, by rw [esQ_4 (by omega), caseEF (show B128 = true ↔ ((e.n : Int) ≤ 3) by simp only [iB128])]; constructor <;> intro h_ <;> first | omega | exact h_.elim | exact h_.1.elim | exact ⟨trivial, by omega⟩ | exact ⟨by omega, by omega⟩⟩
 refine zsp <| zcQ e.op 5 (fun c137 => ?_) (fun c137 => ?_)
 obtain ⟨B138, hB138⟩ : ∃ B : Bool, B = decide (e.n ≥ 0) := ⟨_, rfl⟩
 cases B138
 have c138 : ¬ (e.n ≥ 0) := of_decide_eq_false hB138.symm
 refine zkp [(1, (vI lo)), (2, (vI d)), (3, (pT b1 0)), (7, (vI 0)), (8, (vI 0)), (9, (.bool false)), (10, (.bool B4)), (16, (vI e.op))] ?_
 intro aC fr
 refine zdt 10 (N := 136) (env0 := [(1, (vI lo)), (2, (vI d)), (3, (pT b1 0)), (7, (vI 0)), (8, (vI 0)), (9, (.bool false)), (10, (.bool B4)), (16, (vI e.op))]) (specAt [.det (pT b1 1), .det (vI e.n), .det (.bool false), .det (.bool false), dU, dU, dU, .det (.bool false), .det (vI 1), .det (vI 1)]) fr (la (la (la (la (la (la (la (la (la (la lz dP) (dL ⟨b1, 1, none⟩ (vI e.n) fun w_ hK => (blk_cell ((M10.then_ hK).get 0 rfl) rfl))) (dC (decide (e.n ≥ 0)) hB138)) dP) dK) dK) dK) dP) dP) dP) ?_
 intro aC w143 vs hK hv fr
 revert aC; refine zkp [(1, (vI lo)), (2, (vI d)), (3, (pT b1 0)), (7, (vI 1)), (8, (vI 1)), (9, (.bool false)), (59, (.bool false))] ?_
 have M144 := M10.then_ hK
 clear hK hv fr aC M10; clear vs
 refine zpn 1 <| zfe ?_
 intro aC fr
 exact ⟨1, 1, false, false, fr.kp [1, 2, 3, 7, 8, 9, 10], M144, by rw [esQ_5 (by omega), caseEF litF']; constructor <;> intro h_ <;> first | omega | exact h_.elim | exact h_.1.elim | exact ⟨trivial, by omega⟩ | exact ⟨by omega, by omega⟩⟩
 have c138 : e.n ≥ 0 := of_decide_eq_true hB138.symm
 obtain ⟨B147, hB147⟩ : ∃ B : Bool, B = decide (e.n ≤ 2147483647) := ⟨_, rfl⟩
 refine zkp [(1, (vI lo)), (2, (vI d)), (3, (pT b1 0)), (7, (vI 0)), (8, (vI 0)), (9, (.bool false)), (10, (.bool B4)), (16, (vI e.op))] ?_
 intro aC fr
 refine zdt 10 (N := 136) (env0 := [(1, (vI lo)), (2, (vI d)), (3, (pT b1 0)), (7, (vI 0)), (8, (vI 0)), (9, (.bool false)), (10, (.bool B4)), (16, (vI e.op))]) (specAt [.det (pT b1 1), .det (vI e.n), .det (.bool true), .det (.bool true), .det (pT b1 1), .det (vI e.n), .det (.bool B147), .det (.bool B147), .det (vI 1), .det (vI 1)]) fr (la (la (la (la (la (la (la (la (la (la lz dP) (dL ⟨b1, 1, none⟩ (vI e.n) fun w_ hK => (blk_cell ((M10.then_ hK).get 0 rfl) rfl))) (dC (decide (e.n ≥ 0)) hB138)) dP) dP) (dL ⟨b1, 1, none⟩ (vI e.n) fun w_ hK => (blk_cell ((M10.then_ hK).get 0 rfl) rfl))) (dC (decide (e.n ≤ 2147483647)) hB147)) dP) dP) dP) ?_
 intro aC w152 vs hK hv fr
 revert aC; refine zkp [(1, (vI lo)), (2, (vI d)), (3, (pT b1 0)), (7, (vI 1)), (8, (vI 1)), (9, (.bool false)), (59, (.bool B147))] ?_
 have M153 := M10.then_ hK
 clear hK hv fr aC M10; clear vs
 have iB147 : B147 = true ↔ ((e.n : Int) ≤ 2147483647) := by rw [hB147]; simp only [decide_eq_true_eq]
 clear hB147
 refine zpn 1 <| zfe ?_
 intro aC fr
 exact ⟨1, 1, B147, false, fr.kp [1, 2, 3, 7, 8, 9, 10], M153, by rw [esQ_5 (by omega), caseEF (show B147 = true ↔ ((e.n : Int) ≤ 2147483647) by simp only [iB147])]; constructor <;> intro h_ <;> first | omega | exact h_.elim | exact h_.1.elim | exact ⟨trivial, by omega⟩ | exact ⟨by omega, by omega⟩⟩
 refine zsp <| zcQ e.op 6 (fun c156 => ?_) (fun c156 => ?_)
 refine zrp ?_
 intro aC fr
 exact ⟨0, 16, B4, true, fr.kp [1, 2, 3, 7, 8, 9, 10], M10, by rw [esQ_6 (by omega), caseET (show B4 = true ↔ ((e.n : Int) = 0) by simp only [iB4])]; constructor <;> intro h_ <;> first | omega | exact h_.elim | exact h_.1.elim | exact ⟨trivial, by omega⟩ | exact ⟨by omega, by omega⟩⟩
 refine zsp <| zcQ e.op 7 (fun c159 => ?_) (fun c159 => ?_)
 refine zrp ?_
 intro aC fr
 exact ⟨1, 17, B4, false, fr.kp [1, 2, 3, 7, 8, 9, 10], M10, by rw [esQ_7 (by omega), caseEF (show B4 = true ↔ ((e.n : Int) = 0) by simp only [iB4])]; constructor <;> intro h_ <;> first | omega | exact h_.elim | exact h_.1.elim | exact ⟨trivial, by omega⟩ | exact ⟨by omega, by omega⟩⟩
 refine zsq <| zsp ?_
 obtain ⟨B162, hB162⟩ : ∃ B : Bool, B = ((e.op : Int) == 8) := ⟨_, rfl⟩
 refine zkp [(1, (vI lo)), (2, (vI d)), (3, (pT b1 0)), (7, (vI 0)), (8, (vI 0)), (9, (.bool false)), (10, (.bool B4)), (16, (vI e.op)), (64, (.bool ((e.op : Int) == 8)))] ?_
 rw [← hB162]
 have iB162 : B162 = true ↔ ((e.op : Int) = 8) := by rw [hB162]; simp only [beq_iff_eq]
 clear hB162
 cases B162
 have c162 : ¬ ((e.op : Int) = 8) := (fun h => Bool.noConfusion (iB162.2 h) : ¬ ((e.op : Int) = 8))
 refine zcF <| zrp <| zcQ e.op 9 (fun c163 => ?_) (fun c163 => ?_)
 refine zrp ?_
 intro aC fr
 exact ⟨0, 0, B4, true, fr.kp [1, 2, 3, 7, 8, 9, 10], M10, by rw [esQ_9 (by omega), caseET (show B4 = true ↔ ((e.n : Int) = 0) by simp only [iB4])]; constructor <;> intro h_ <;> first | omega | exact h_.elim | exact h_.1.elim | exact ⟨trivial, by omega⟩ | exact ⟨by omega, by omega⟩⟩
 refine zsp <| zcQ e.op 10 (fun c166 => ?_) (fun c166 => ?_)
 refine zrp ?_
 intro aC fr
 exact ⟨1, 1, B4, false, fr.kp [1, 2, 3, 7, 8, 9, 10], M10, by rw [esQ_10 (by omega), caseEF (show B4 = true ↔ ((e.n : Int) = 0) by simp only [iB4])]; constructor <;> intro h_ <;> first | omega | exact h_.elim | exact h_.1.elim | exact ⟨trivial, by omega⟩ | exact ⟨by omega, by omega⟩⟩
 refine zsp <| zcQ e.op 11 (fun c169 => ?_) (fun c169 => ?_)
 refine zsk ?_
 intro aC fr
 exact ⟨0, 0, B4, false, fr.kp [1, 2, 3, 7, 8, 9, 10], M10, by rw [esQ_11 (by omega), caseEF (show B4 = true ↔ ((e.n : Int) = 0) by simp only [iB4])]; constructor <;> intro h_ <;> first | omega | exact h_.elim | exact h_.1.elim | exact ⟨trivial, by omega⟩ | exact ⟨by omega, by omega⟩⟩
 refine zsp <| zcQ e.op 12 (fun c172 => ?_) (fun c172 => ?_)
 refine zrp ?_
 intro aC fr
 exact ⟨3, 3, B4, false, fr.kp [1, 2, 3, 7, 8, 9, 10], M10, by rw [esQ_12 (by omega), caseEF (show B4 = true ↔ ((e.n : Int) = 0) by simp only [iB4])]; constructor <;> intro h_ <;> first | omega | exact h_.elim | exact h_.1.elim | exact ⟨trivial, by omega⟩ | exact ⟨by omega, by omega⟩⟩
 refine zsp <| zcQ e.op 13 (fun c175 => ?_) (fun c175 => ?_)
 obtain ⟨B176, hB176⟩ : ∃ B : Bool, B = decide (e.n ≥ 1) := ⟨_, rfl⟩
 cases B176
 have c176 : ¬ (e.n ≥ 1) := of_decide_eq_false hB176.symm
 refine zkp [(1, (vI lo)), (2, (vI d)), (3, (pT b1 0)), (9, (.bool false))] ?_
 intro aC fr
 refine zdt 10 (N := 136) (env0 := [(1, (vI lo)), (2, (vI d)), (3, (pT b1 0)), (9, (.bool false))]) (specAt [.det (pT b1 1), .det (vI e.n), .det (.bool false), .det (.bool false), dU, dU, dU, .det (.bool false), .det (vI 2), .det (vI 2)]) fr (la (la (la (la (la (la (la (la (la (la lz dP) (dL ⟨b1, 1, none⟩ (vI e.n) fun w_ hK => (blk_cell ((M10.then_ hK).get 0 rfl) rfl))) (dC (decide (e.n ≥ 1)) hB176)) dP) dK) dK) dK) dP) dP) dP) ?_
 intro aC w181 vs hK hv fr
 revert aC; refine zkp [(1, (vI lo)), (2, (vI d)), (3, (pT b1 0)), (7, (vI 2)), (8, (vI 2)), (9, (.bool false)), (82, (.bool false))] ?_
 have M182 := M10.then_ hK
 clear hK hv fr aC M10; clear vs
 refine zpn 1 <| zfe ?_
 intro aC fr
 exact ⟨2, 2, false, false, fr.kp [1, 2, 3, 7, 8, 9, 10], M182, by rw [esQ_13 (by omega), caseEF litF']; constructor <;> intro h_ <;> first | omega | exact h_.elim | exact h_.1.elim | exact ⟨trivial, by omega⟩ | exact ⟨by omega, by omega⟩⟩
 have c176 : e.n ≥ 1 := of_decide_eq_true hB176.symm
 obtain ⟨B185, hB185⟩ : ∃ B : Bool, B = decide (e.n ≤ 999) := ⟨_, rfl⟩
 refine zkp [(1, (vI lo)), (2, (vI d)), (3, (pT b1 0)), (9, (.bool false))] ?_
 intro aC fr
 refine zdt 10 (N := 136) (env0 := [(1, (vI lo)), (2, (vI d)), (3, (pT b1 0)), (9, (.bool false))]) (specAt [.det (pT b1 1), .det (vI e.n), .det (.bool true), .det (.bool true), .det (pT b1 1), .det (vI e.n), .det (.bool B185), .det (.bool B185), .det (vI 2), .det (vI 2)]) fr (la (la (la (la (la (la (la (la (la (la lz dP) (dL ⟨b1, 1, none⟩ (vI e.n) fun w_ hK => (blk_cell ((M10.then_ hK).get 0 rfl) rfl))) (dC (decide (e.n ≥ 1)) hB176)) dP) dP) (dL ⟨b1, 1, none⟩ (vI e.n) fun w_ hK => (blk_cell ((M10.then_ hK).get 0 rfl) rfl))) (dC (decide (e.n ≤ 999)) hB185)) dP) dP) dP) ?_
 intro aC w190 vs hK hv fr
 revert aC; refine zkp [(1, (vI lo)), (2, (vI d)), (3, (pT b1 0)), (7, (vI 2)), (8, (vI 2)), (9, (.bool false)), (82, (.bool B185))] ?_
 have M191 := M10.then_ hK
 clear hK hv fr aC M10; clear vs
 have iB185 : B185 = true ↔ ((e.n : Int) ≤ 999) := by rw [hB185]; simp only [decide_eq_true_eq]
 clear hB185
 refine zpn 1 <| zfe ?_
 intro aC fr
 exact ⟨2, 2, B185, false, fr.kp [1, 2, 3, 7, 8, 9, 10], M191, by rw [esQ_13 (by omega), caseEF (show B185 = true ↔ ((e.n : Int) ≤ 999) by simp only [iB185])]; constructor <;> intro h_ <;> first | omega | exact h_.elim | exact h_.1.elim | exact ⟨trivial, by omega⟩ | exact ⟨by omega, by omega⟩⟩
 refine zsp <| zre <| zbr <| zo1 (.bool false) ?_
 have M194 := M10.od [] 0
 exact ⟨congrArg Value.bool (show exV lo d e = false by rw [exV_eq, decide_eq_false (fun h_ => by have h2_ := esQ_rng h_.2; omega), Bool.false_and]).symm, M194⟩
 have c162 : ((e.op : Int) = 8) := iB162.1 rfl
 refine zcT <| zsk <| zcT <| zrp ?_
 intro aC fr
 exact ⟨0, 0, B4, true, fr.kp [1, 2, 3, 7, 8, 9, 10], M10, by rw [esQ_8 (by omega), caseET (show B4 = true ↔ ((e.n : Int) = 0) by simp only [iB4])]; constructor <;> intro h_ <;> first | omega | exact h_.elim | exact h_.1.elim | exact ⟨trivial, by omega⟩ | exact ⟨by omega, by omega⟩⟩
theorem rexv_all (e : MEx) : RExOk Try.prog e := MEx.ind (fun e ih lo d T w h0 h1 hT hs hI => rexv_c e ih lo d T w h0 h1 hT hs hI) e
set_option maxHeartbeats 1000000 in
theorem rstv_c (x : MSt) (ihb : RStOk Try.prog x.body) (ihl : RStOk Try.prog x.els) (lo d lp : Int) (T : List Res) (w : World) (hd0 : 0 ≤ d) (hd : d ≤ 1000) (hp0 : 0 ≤ lp) (hpd : lp ≤ d) (hT : RO noS w (.all T)) (hs : SubX T x) (hI : stI x) :
    Calls Try.prog 69 #[(.agg (SC x).toArray), (vI lo), (vI d), (vI lp)] w (Ret fun v w' => v = .bool (stV lo lp d x) ∧ Mem noS w w' []) := by
 have h1_ := hI.own.exprs
 have h2_ := hI.own.body
 have h3_ := hI.own.els
 unfold LenOk at h1_ h2_ h3_
 refine zen 149 [(.agg (SC x).toArray), (vI lo), (vI d), (vI lp)] Try.func69 ?_
 have hM := Mem.init w
 refine zsr <| zbx hM 48 (.agg (SC x).toArray) (SC x) fun b1 w2 hb1 M3 => ?_
 replace M3 := M3.nf
 clear hM
 refine zpn 1 <| zfe <| zsp <| zsr <| zpn 1 <| zld ⟨b1, 1, none⟩ (vI x.n) (blk_cell (M3.get 0 rfl) rfl) <| zpn 2 <| zfe <| zsp <| zsq ?_
 refine zsr <| zpn 1 <| zld ⟨b1, 0, none⟩ (vI x.op) (blk_cell (M3.get 0 rfl) rfl) <| zfe ?_
 intro aC fr
 refine W_cut (fun a_ w_ => ∃ (le : Int) (mo : Int) (bn : Bool) (bb : Bool) (bo : Bool) (inn : Int), Fr a_ 149 [(1, (vI lo)), (2, (vI d)), (4, (pT b1 0)), (9, (vI le)), (10, (vI mo)), (11, (.bool bn)), (12, (.bool bb)), (13, (.bool bo)), (14, (vI inn))] ∧ Mem noS w w_ [.blk b1 48 (SC x)] ∧ (sfQ lo lp x.op x.n x.exprs.length x.body.length x.els.length ↔ caseS le mo bn bb bo x.exprs.length x.body.length x.els.length) ∧ (inn = inner x.op lp)) ?_ ?_
 clear fr aC M3; rintro aC w6 ⟨le, mo, bn, bb, bo, inn, fr, M7, hsh, hin⟩
 revert aC
 refine zsq <| zsr <| zpn 3 ?_
 obtain ⟨B10, hB10⟩ : ∃ B : Bool, B = (!bn) := ⟨_, rfl⟩
 refine zkp [(1, (vI lo)), (2, (vI d)), (4, (pT b1 0)), (9, (vI le)), (10, (vI mo)), (12, (.bool bb)), (13, (.bool bo)), (14, (vI inn)), (78, (.bool (!bn)))] ?_
 rw [← hB10]
 have iB10 : B10 = true ↔ (¬ (bn = true)) := by rw [hB10]; simp only [notT]
 clear hB10
 intro aC fr
 refine zpk 1 4 [79] fr (news := [(79, (cond (!B10) (pT b1 2) undef))]) (by cases B10 <;> kernel_rfl) ?_
 intro aC fr
 refine From_either (B := (!B10)) (d := (some 80)) (vS x.eA x.exprs.length x.ec) fr (by cases B10 <;> kernel_rfl) (fun hB hh => ?_) ?_
 cases B10 <;> try exact absurd hB (by decide)
 have c10 : ¬ (¬ (bn = true)) := (fun h => Bool.noConfusion (iB10.2 h) : ¬ (¬ (bn = true)))
 exact From_ld (some 80) ⟨b1, 2, none⟩ fr (by kernel_rfl) (vS x.eA x.exprs.length x.ec) (blk_cell (M7.get 0 rfl) rfl) hh
 intro aC fr
 refine zpk 5 10 [84, 85] fr (news := [(84, (.bool (B10 || decide ((((x.exprs.length : Nat) : Int) : Int) < le)))), (85, (.bool (B10 || decide ((((x.exprs.length : Nat) : Int) : Int) < le))))]) (by cases B10 <;> kernel_rfl) ?_
 intro aC fr
 obtain ⟨B19, hB19⟩ : ∃ B : Bool, B = (B10 || decide ((((x.exprs.length : Nat) : Int) : Int) < le)) := ⟨_, rfl⟩
 revert aC
 refine zkp [(1, (vI lo)), (2, (vI d)), (4, (pT b1 0)), (10, (vI mo)), (12, (.bool bb)), (13, (.bool bo)), (14, (vI inn)), (85, (.bool (B10 || decide ((((x.exprs.length : Nat) : Int) : Int) < le))))] ?_
 rw [← hB19]
 have iB19 : B19 = true ↔ ((¬ (bn = true)) ∨ ((((x.exprs.length : Nat) : Int) : Int) < le)) := by rw [hB19]; simp only [Bool.or_eq_true, decide_eq_true_eq, iB10]
 clear hB19
 intro aC fr
 refine zpk 1 11 [86] fr (news := [(86, (cond (!B19) (pT b1 2) undef))]) (by cases B19 <;> kernel_rfl) ?_
 intro aC fr
 refine From_either (B := (!B19)) (d := (some 87)) (vS x.eA x.exprs.length x.ec) fr (by cases B19 <;> kernel_rfl) (fun hB hh => ?_) ?_
 cases B19 <;> try exact absurd hB (by decide)
 have c19 : ¬ ((¬ (bn = true)) ∨ ((((x.exprs.length : Nat) : Int) : Int) < le)) := (fun h => Bool.noConfusion (iB19.2 h) : ¬ ((¬ (bn = true)) ∨ ((((x.exprs.length : Nat) : Int) : Int) < le)))
 exact From_ld (some 87) ⟨b1, 2, none⟩ fr (by kernel_rfl) (vS x.eA x.exprs.length x.ec) (blk_cell (M7.get 0 rfl) rfl) hh
 intro aC fr
 refine zpk 5 17 [91, 92] fr (news := [(91, (.bool (B19 || decide ((((x.exprs.length : Nat) : Int) : Int) > mo)))), (92, (.bool (B19 || decide ((((x.exprs.length : Nat) : Int) : Int) > mo))))]) (by cases B19 <;> kernel_rfl) ?_
 intro aC fr
 obtain ⟨B28, hB28⟩ : ∃ B : Bool, B = (B19 || decide ((((x.exprs.length : Nat) : Int) : Int) > mo)) := ⟨_, rfl⟩
 revert aC
 refine zkp [(1, (vI lo)), (2, (vI d)), (4, (pT b1 0)), (12, (.bool bb)), (13, (.bool bo)), (14, (vI inn)), (92, (.bool (B19 || decide ((((x.exprs.length : Nat) : Int) : Int) > mo))))] ?_
 rw [← hB28]
 have iB28 : B28 = true ↔ (((¬ (bn = true)) ∨ ((((x.exprs.length : Nat) : Int) : Int) < le)) ∨ ((((x.exprs.length : Nat) : Int) : Int) > mo)) := by rw [hB28]; simp only [Bool.or_eq_true, decide_eq_true_eq, iB19]
 clear hB28
 intro aC fr
 refine zpk 3 20 [95] fr (news := [(95, (cond (!B28) (.bool (!bb)) undef))]) (by cases B28 <;> kernel_rfl) ?_
 intro aC fr
 obtain ⟨B33, hB33⟩ : ∃ B : Bool, B = (!bb) := ⟨_, rfl⟩
 revert aC
 refine zkp [(1, (vI lo)), (2, (vI d)), (4, (pT b1 0)), (13, (.bool bo)), (14, (vI inn)), (92, (.bool B28)), (95, (cond (!B28) (.bool (!bb)) undef))] ?_
 rw [← hB33]
 have iB33 : B33 = true ↔ (¬ (bb = true)) := by rw [hB33]; simp only [notT]
 clear hB33
 intro aC fr
 refine zpk 1 21 [96] fr (news := [(96, (cond (!B28 && B33) (pT b1 3) undef))]) (by cases B28 <;> cases B33 <;> kernel_rfl) ?_
 intro aC fr
 refine From_either (B := (!B28 && B33)) (d := (some 97)) (vS x.bA x.body.length x.bc) fr (by cases B28 <;> cases B33 <;> kernel_rfl) (fun hB hh => ?_) ?_
 cases B28 <;> cases B33 <;> try exact absurd hB (by decide)
 have c28 : ¬ (((¬ (bn = true)) ∨ ((((x.exprs.length : Nat) : Int) : Int) < le)) ∨ ((((x.exprs.length : Nat) : Int) : Int) > mo)) := (fun h => Bool.noConfusion (iB28.2 h) : ¬ (((¬ (bn = true)) ∨ ((((x.exprs.length : Nat) : Int) : Int) < le)) ∨ ((((x.exprs.length : Nat) : Int) : Int) > mo)))
 have c33 : (¬ (bb = true)) := iB33.1 rfl
 exact From_ld (some 97) ⟨b1, 3, none⟩ fr (by kernel_rfl) (vS x.bA x.body.length x.bc) (blk_cell (M7.get 0 rfl) rfl) hh
 intro aC fr
 refine zpk 5 27 [101, 102] fr (news := [(101, (.bool (B28 || (B33 && decide ((((x.body.length : Nat) : Int) : Int) > 0))))), (102, (.bool (B28 || (B33 && decide ((((x.body.length : Nat) : Int) : Int) > 0)))))]) (by cases B28 <;> cases B33 <;> kernel_rfl) ?_
 intro aC fr
 obtain ⟨B42, hB42⟩ : ∃ B : Bool, B = (B28 || (B33 && decide ((((x.body.length : Nat) : Int) : Int) > 0))) := ⟨_, rfl⟩
 revert aC
 refine zkp [(1, (vI lo)), (2, (vI d)), (4, (pT b1 0)), (13, (.bool bo)), (14, (vI inn)), (102, (.bool (B28 || (B33 && decide ((((x.body.length : Nat) : Int) : Int) > 0)))))] ?_
 rw [← hB42]
 have iB42 : B42 = true ↔ ((((¬ (bn = true)) ∨ ((((x.exprs.length : Nat) : Int) : Int) < le)) ∨ ((((x.exprs.length : Nat) : Int) : Int) > mo)) ∨ ((¬ (bb = true)) ∧ ((((x.body.length : Nat) : Int) : Int) > 0))) := by rw [hB42]; simp only [Bool.or_eq_true, Bool.and_eq_true, decide_eq_true_eq, iB28, iB33]
 clear hB42
 intro aC fr
 refine zpk 3 30 [105] fr (news := [(105, (cond (!B42) (.bool (!bo)) undef))]) (by cases B42 <;> kernel_rfl) ?_
 intro aC fr
 obtain ⟨B47, hB47⟩ : ∃ B : Bool, B = (!bo) := ⟨_, rfl⟩
 revert aC
 refine zkp [(1, (vI lo)), (2, (vI d)), (4, (pT b1 0)), (14, (vI inn)), (102, (.bool B42)), (105, (cond (!B42) (.bool (!bo)) undef))] ?_
 rw [← hB47]
 have iB47 : B47 = true ↔ (¬ (bo = true)) := by rw [hB47]; simp only [notT]
 clear hB47
 intro aC fr
 refine zpk 1 31 [106] fr (news := [(106, (cond (!B42 && B47) (pT b1 4) undef))]) (by cases B42 <;> cases B47 <;> kernel_rfl) ?_
 intro aC fr
 refine From_either (B := (!B42 && B47)) (d := (some 107)) (vS x.lA x.els.length x.lc) fr (by cases B42 <;> cases B47 <;> kernel_rfl) (fun hB hh => ?_) ?_
 cases B42 <;> cases B47 <;> try exact absurd hB (by decide)
 have c42 : ¬ ((((¬ (bn = true)) ∨ ((((x.exprs.length : Nat) : Int) : Int) < le)) ∨ ((((x.exprs.length : Nat) : Int) : Int) > mo)) ∨ ((¬ (bb = true)) ∧ ((((x.body.length : Nat) : Int) : Int) > 0))) := (fun h => Bool.noConfusion (iB42.2 h) : ¬ ((((¬ (bn = true)) ∨ ((((x.exprs.length : Nat) : Int) : Int) < le)) ∨ ((((x.exprs.length : Nat) : Int) : Int) > mo)) ∨ ((¬ (bb = true)) ∧ ((((x.body.length : Nat) : Int) : Int) > 0))))
 have c47 : (¬ (bo = true)) := iB47.1 rfl
 exact From_ld (some 107) ⟨b1, 4, none⟩ fr (by kernel_rfl) (vS x.lA x.els.length x.lc) (blk_cell (M7.get 0 rfl) rfl) hh
 intro aC fr
 refine zpk 5 37 [111, 112] fr (news := [(111, (.bool (B42 || (B47 && decide ((((x.els.length : Nat) : Int) : Int) > 0))))), (112, (.bool (B42 || (B47 && decide ((((x.els.length : Nat) : Int) : Int) > 0)))))]) (by cases B42 <;> cases B47 <;> kernel_rfl) ?_
 intro aC fr
 obtain ⟨B56, hB56⟩ : ∃ B : Bool, B = (B42 || (B47 && decide ((((x.els.length : Nat) : Int) : Int) > 0))) := ⟨_, rfl⟩
 revert aC
 refine zkp [(1, (vI lo)), (2, (vI d)), (4, (pT b1 0)), (14, (vI inn)), (112, (.bool (B42 || (B47 && decide ((((x.els.length : Nat) : Int) : Int) > 0)))))] ?_
 rw [← hB56]
 have iB56 : B56 = true ↔ (((((¬ (bn = true)) ∨ ((((x.exprs.length : Nat) : Int) : Int) < le)) ∨ ((((x.exprs.length : Nat) : Int) : Int) > mo)) ∨ ((¬ (bb = true)) ∧ ((((x.body.length : Nat) : Int) : Int) > 0))) ∨ ((¬ (bo = true)) ∧ ((((x.els.length : Nat) : Int) : Int) > 0))) := by rw [hB56]; simp only [Bool.or_eq_true, Bool.and_eq_true, decide_eq_true_eq, iB42, iB47]
 clear hB56
 intro aC fr
 refine zpk 3 40 [115] fr (news := [(115, (.bool (B56 || decide ((d : Int) > 100))))]) (by cases B56 <;> kernel_rfl) ?_
 intro aC fr
 revert aC
 refine zfe <| zcP (B56 || decide ((d : Int) > 100)) ((((((¬ (bn = true)) ∨ ((((x.exprs.length : Nat) : Int) : Int) < le)) ∨ ((((x.exprs.length : Nat) : Int) : Int) > mo)) ∨ ((¬ (bb = true)) ∧ ((((x.body.length : Nat) : Int) : Int) > 0))) ∨ ((¬ (bo = true)) ∧ ((((x.els.length : Nat) : Int) : Int) > 0))) ∨ ((d : Int) > 100)) (by simp only [Bool.or_eq_true, decide_eq_true_eq, iB56]) (fun c61 => ?_) (fun c61 => ?_)
 have hno := (rst_iff hsh).1 c61
 refine zsp <| zre <| zo1 (.bool false) ?_
 have M62 := M7.od [] 0
 exact ⟨congrArg Value.bool (show stV lo lp d x = false by rw [stV_eq, decide_eq_false hno, Bool.false_and]).symm, M62⟩
 have hok := Classical.not_not.1 (fun h_ => c61 ((rst_iff hsh).2 h_))
 refine zsk <| zsq <| zsp <| zbk 1 ?_
 intro aC fr
 refine zlp (fun n_ a_ w_ => ∃ (j : Nat), n_ = x.exprs.length - j ∧ Fr a_ 149 [(1, (vI lo)), (2, (vI d)), (4, (pT b1 0)), (14, (vI inn)), (15, (nV j))] ∧ Mem noS w w_ [.blk b1 48 (SC x)] ∧ (j ≤ x.exprs.length) ∧ (exsV lo (d + 1) x.exprs = exsV lo (d + 1) (x.exprs.drop j))) (n := _) ⟨0, rfl, fr.kp [1, 2, 4, 14, 15], M7, Nat.zero_le _, (by rw [List.drop_zero])⟩ ?_
 clear fr aC M7; rintro n aC w65 ⟨j, rfl, fr, M66, hj, hr⟩
 revert aC
 refine zsq <| zsr <| zpn 2 <| zld ⟨b1, 2, none⟩ (vS x.eA x.exprs.length x.ec) (blk_cell (M66.get 0 rfl) rfl) <| zpn 2 <| zfe <| zcD (((j : Int) : Int) < ((x.exprs.length : Nat) : Int)) (fun c69 => ?_) (fun c69 => ?_)
 refine zsk <| zsq <| zbk 2 <| zsr ?_
 obtain ⟨k, hk⟩ := get_of (l := x.exprs) (i := j) (by omega)
 have hkm := List.mem_of_getElem? hk
 refine zpn 1 <| zld ⟨b1, 2, none⟩ (vS x.eA x.exprs.length x.ec) (blk_cell (M66.get 0 rfl) rfl) <| zpn 1 ?_
 obtain ⟨ad70, had71⟩ := rds_some (M66.ro (hT.sub hs.exprs.1)) (cs := k.cells) (i := j) (gm hk)
 intro aC fr
 refine From_ixA (some 126) x.eA ad70 x.exprs.length 4 (j : Int) fr (by kernel_rfl) had71 (by omega) (by omega) ?_
 intro aC fr
 revert aC
 refine zls ((ad70 : Addr).add (((j : Int)).toNat * 4)) (EC k) (rds_cells (i := j) (M66.ro (hT.sub hs.exprs.1)) had71 (gm hk)) ?_
 refine zpn 2 <| zar (d + 1) <| zcl (rexv_all k lo (d + 1) T w65 (by omega) (by omega) (hT.at_ M66) (hs.exprs.2 k hkm) (exsI_mem hI.exprs hkm)) ?_
 rintro _ w76 ⟨rfl, M77x⟩
 have M77 := M66.cl M77x
 refine zpn 1 <| zfe <| zcP (!(exV lo (d + 1) k)) (¬ ((exV lo (d + 1) k) = true)) (by simp only [notT]) (fun c78 => ?_) (fun c78 => ?_)
 replace c78 : (exV lo (d + 1) k) = false := Bool.eq_false_iff.2 c78
 have ck_ : exV lo (d + 1) k = false := by simpa using c78
 refine zsp <| zre <| zbr <| zbr <| zo1 (.bool false) ?_
 have M79 := M77.od [] 0
 exact ⟨congrArg Value.bool (show stV lo lp d x = false by rw [stV_eq, hr, exsV_at hk, ck_, Bool.false_and, Bool.false_and, Bool.and_false]).symm, M79⟩
 replace c78 : (exV lo (d + 1) k) = true := Classical.not_not.1 c78
 have ck_ : exV lo (d + 1) k = true := by simpa using c78
 refine zsk <| zrg <| zpn 1 <| zar ((j : Int) + 1) <| zkp [(1, (vI lo)), (2, (vI d)), (4, (pT b1 0)), (14, (vI inn)), (122, (vI ((j : Int) + 1)))] <| zpn 1 <| zfe ?_
 intro aC fr
 exact ⟨x.exprs.length - (j + 1), by omega, j + 1, rfl, fr.kp [1, 2, 4, 14, 15], M77, by omega, hr.trans (by rw [exsV_at hk, ck_, Bool.true_and])⟩
 refine zex 1 <| zbh <| zsr ?_
 have hi1_ : 0 ≤ inn ∧ inn ≤ d + 1 := by rw [hin]; unfold inner; split <;> omega
 refine zpn 1 <| zld ⟨b1, 3, none⟩ (vS x.bA x.body.length x.bc) (blk_cell (M66.get 0 rfl) rfl) <| zpn 2 <| zar (d + 1) <| zpn 1 <| zcl (ihb x.bA x.bc lo (d + 1) inn T w65 (by omega) (by omega) hi1_.1 hi1_.2 (hT.at_ M66) hs.body hI.body hI.own.body) ?_
 rintro _ w82 ⟨rfl, M83x⟩
 have M83 := M66.cl M83x
 refine zpn 1 ?_
 obtain ⟨B84, hB84⟩ : ∃ B : Bool, B = (stsV lo inn (d + 1) x.body) := ⟨_, rfl⟩
 refine zkp [(1, (vI lo)), (2, (vI d)), (4, (pT b1 0)), (14, (vI inn)), (140, (.bool (stsV lo inn (d + 1) x.body)))] ?_
 rw [← hB84]
 have iB84 : B84 = true ↔ ((stsV lo inn (d + 1) x.body) = true) := by rw [hB84]
 clear hB84
 intro aC fr
 refine zpk 1 9 [141] fr (news := [(141, (cond B84 (pT b1 4) undef))]) (by cases B84 <;> kernel_rfl) ?_
 intro aC fr
 refine From_either (B := B84) (d := (some 142)) (vS x.lA x.els.length x.lc) fr (by cases B84 <;> kernel_rfl) (fun hB hh => ?_) ?_
 cases B84 <;> try exact absurd hB (by decide)
 have c84 : ((stsV lo inn (d + 1) x.body) = true) := iB84.1 rfl
 exact From_ld (some 142) ⟨b1, 4, none⟩ fr (by kernel_rfl) (vS x.lA x.els.length x.lc) (blk_cell (M83.get 0 rfl) rfl) hh
 intro aC fr
 refine zpk 2 12 [143, 144] fr (news := [(143, (cond B84 (vI lo) undef)), (144, (cond B84 (vI d) undef))]) (by cases B84 <;> kernel_rfl) ?_
 intro aC fr
 refine From_either (B := B84) (d := (some 145)) (vI (d + 1)) fr (by cases B84 <;> kernel_rfl) (fun hB hh => ?_) ?_
 cases B84 <;> try exact absurd hB (by decide)
 have c84 : ((stsV lo inn (d + 1) x.body) = true) := iB84.1 rfl
 exact From_ar (some 145) (d + 1) fr (z0 := d + 1) (by kernel_rfl) rfl (by omega) (by omega) hh
 intro aC fr
 refine zpk 1 14 [146] fr (news := [(146, (cond B84 (vI inn) undef))]) (by cases B84 <;> kernel_rfl) ?_
 intro aC fr
 refine From_eitherC (B := B84) (d := (some 147)) (.bool (stsV lo inn (d + 1) x.els)) fr (by cases B84 <;> kernel_rfl) (fun hB hh => ?_) ?_
 cases B84 <;> try exact absurd hB (by decide)
 have c84 : ((stsV lo inn (d + 1) x.body) = true) := iB84.1 rfl
 refine From_cl (some 147) 51 [(vS x.lA x.els.length x.lc), (vI lo), (vI (d + 1)), (vI inn)] fr (by kernel_rfl) (ihl x.lA x.lc lo (d + 1) inn T w82 (by omega) (by omega) hi1_.1 hi1_.2 (hT.at_ M83) hs.els hI.els hI.own.els) ?_
 rintro _ w2 ⟨rfl, hm2⟩ a2 hF2; exact hh a2 w2 hm2 hF2
 intro aC w97 M98x fr
 have M98 := M83.cl M98x
 refine zpk 2 17 [8, 148] fr (news := [(8, (.bool (B84 && (stsV lo inn (d + 1) x.els)))), (148, (.bool (B84 && (stsV lo inn (d + 1) x.els))))]) (by cases B84 <;> kernel_rfl) ?_
 intro aC fr
 revert aC
 refine zfe <| zre <| zo1 (.bool (B84 && (stsV lo inn (d + 1) x.els))) ?_
 have M103 := M98.od [] 0
 exact ⟨congrArg Value.bool (show stV lo lp d x = (B84 && (stsV lo inn (d + 1) x.els)) by rw [stV_eq, decide_eq_true hok, hr, List.drop_eq_nil_of_le (by omega), exsV_nil, ← hin, Bool.true_and, Bool.true_and]; first | rfl | simp_all).symm, M103⟩
 revert aC
 refine zbk 0 <| zsp <| zcQ x.op 1 (fun c104 => ?_) (fun c104 => ?_)
 refine zrg <| zpn 1 <| zld ⟨b1, 1, none⟩ (vI x.n) (blk_cell (M3.get 0 rfl) rfl) <| zkp [(1, (vI lo)), (2, (vI d)), (4, (pT b1 0)), (9, (vI 1)), (10, (vI 1)), (12, (.bool false)), (13, (.bool false)), (14, (vI lp)), (25, (vI x.n))] <| zpn 2 ?_
 obtain ⟨B105, hB105⟩ : ∃ B : Bool, B = decide ((x.n : Int) ≥ 0) := ⟨_, rfl⟩
 refine zkp [(1, (vI lo)), (2, (vI d)), (4, (pT b1 0)), (9, (vI 1)), (10, (vI 1)), (12, (.bool false)), (13, (.bool false)), (14, (vI lp)), (27, (.bool (decide ((x.n : Int) ≥ 0))))] ?_
 rw [← hB105]
 have iB105 : B105 = true ↔ ((x.n : Int) ≥ 0) := by rw [hB105]; simp only [decide_eq_true_eq]
 clear hB105
 intro aC fr
 refine zpk 1 5 [28] fr (news := [(28, (cond B105 (pT b1 1) undef))]) (by cases B105 <;> kernel_rfl) ?_
 intro aC fr
 refine From_either (B := B105) (d := (some 29)) (vI x.n) fr (by cases B105 <;> kernel_rfl) (fun hB hh => ?_) ?_
 cases B105 <;> try exact absurd hB (by decide)
 have c105 : ((x.n : Int) ≥ 0) := iB105.1 rfl
 exact From_ld (some 29) ⟨b1, 1, none⟩ fr (by kernel_rfl) (vI x.n) (blk_cell (M3.get 0 rfl) rfl) hh
 intro aC fr
 refine zpk 4 10 [11, 32] fr (news := [(11, (.bool (B105 && decide ((x.n : Int) < lo)))), (32, (.bool (B105 && decide ((x.n : Int) < lo))))]) (by cases B105 <;> kernel_rfl) ?_
 intro aC fr
 revert aC
 refine zfe ?_
 intro aC fr
 exact ⟨1, 1, (B105 && decide ((x.n : Int) < lo)), false, false, lp, fr.kp [1, 2, 4, 9, 10, 11, 12, 13, 14], M3, by rw [sfQ_1 (by omega), caseS_FF (show (B105 && decide ((x.n : Int) < lo)) = true ↔ (((x.n : Int) ≥ 0) ∧ ((x.n : Int) < lo)) by simp only [Bool.and_eq_true, decide_eq_true_eq, iB105])]; constructor <;> intro h_ <;> first | omega | exact h_.elim | exact h_.1.elim | exact ⟨trivial, by omega⟩ | exact ⟨by omega, by omega⟩, by unfold inner; split <;> omega⟩
 refine zsp <| zcQ x.op 2 (fun c116 => ?_) (fun c116 => ?_)
 obtain ⟨B117, hB117⟩ : ∃ B : Bool, B = decide (x.n ≥ 0) := ⟨_, rfl⟩
 cases B117
 have c117 : ¬ (x.n ≥ 0) := of_decide_eq_false hB117.symm
 refine zkp [(1, (vI lo)), (2, (vI d)), (3, (vI lp)), (4, (pT b1 0)), (9, (vI 1)), (10, (vI 1)), (11, (.bool ((x.n : Int) == 0))), (12, (.bool false)), (13, (.bool false)), (14, (vI lp)), (21, (vI x.op))] ?_
 intro aC fr
 refine zdt 10 (N := 149) (env0 := [(1, (vI lo)), (2, (vI d)), (3, (vI lp)), (4, (pT b1 0)), (9, (vI 1)), (10, (vI 1)), (11, (.bool ((x.n : Int) == 0))), (12, (.bool false)), (13, (.bool false)), (14, (vI lp)), (21, (vI x.op))]) (specAt [.det (pT b1 1), .det (vI x.n), .det (.bool false), .det (.bool false), dU, dU, dU, .det (.bool false), .det (vI 2), .det (vI 2)]) fr (la (la (la (la (la (la (la (la (la (la lz dP) (dL ⟨b1, 1, none⟩ (vI x.n) fun w_ hK => (blk_cell ((M3.then_ hK).get 0 rfl) rfl))) (dC (decide (x.n ≥ 0)) hB117)) dP) dK) dK) dK) dP) dP) dP) ?_
 intro aC w122 vs hK hv fr
 revert aC; refine zkp [(1, (vI lo)), (2, (vI d)), (4, (pT b1 0)), (9, (vI 2)), (10, (vI 2)), (12, (.bool false)), (13, (.bool false)), (14, (vI lp)), (42, (.bool false))] ?_
 have M123 := M3.then_ hK
 clear hK hv fr aC M3; clear vs
 refine zpn 1 <| zfe ?_
 intro aC fr
 exact ⟨2, 2, false, false, false, lp, fr.kp [1, 2, 4, 9, 10, 11, 12, 13, 14], M123, by rw [sfQ_2 (by omega), caseS_FF litF']; constructor <;> intro h_ <;> first | omega | exact h_.elim | exact h_.1.elim | exact ⟨trivial, by omega⟩ | exact ⟨by omega, by omega⟩, by unfold inner; split <;> omega⟩
 have c117 : x.n ≥ 0 := of_decide_eq_true hB117.symm
 obtain ⟨B126, hB126⟩ : ∃ B : Bool, B = decide (x.n ≤ 2147483647) := ⟨_, rfl⟩
 refine zkp [(1, (vI lo)), (2, (vI d)), (3, (vI lp)), (4, (pT b1 0)), (9, (vI 1)), (10, (vI 1)), (11, (.bool ((x.n : Int) == 0))), (12, (.bool false)), (13, (.bool false)), (14, (vI lp)), (21, (vI x.op))] ?_
 intro aC fr
 refine zdt 10 (N := 149) (env0 := [(1, (vI lo)), (2, (vI d)), (3, (vI lp)), (4, (pT b1 0)), (9, (vI 1)), (10, (vI 1)), (11, (.bool ((x.n : Int) == 0))), (12, (.bool false)), (13, (.bool false)), (14, (vI lp)), (21, (vI x.op))]) (specAt [.det (pT b1 1), .det (vI x.n), .det (.bool true), .det (.bool true), .det (pT b1 1), .det (vI x.n), .det (.bool B126), .det (.bool B126), .det (vI 2), .det (vI 2)]) fr (la (la (la (la (la (la (la (la (la (la lz dP) (dL ⟨b1, 1, none⟩ (vI x.n) fun w_ hK => (blk_cell ((M3.then_ hK).get 0 rfl) rfl))) (dC (decide (x.n ≥ 0)) hB117)) dP) dP) (dL ⟨b1, 1, none⟩ (vI x.n) fun w_ hK => (blk_cell ((M3.then_ hK).get 0 rfl) rfl))) (dC (decide (x.n ≤ 2147483647)) hB126)) dP) dP) dP) ?_
 intro aC w131 vs hK hv fr
 revert aC; refine zkp [(1, (vI lo)), (2, (vI d)), (4, (pT b1 0)), (9, (vI 2)), (10, (vI 2)), (12, (.bool false)), (13, (.bool false)), (14, (vI lp)), (42, (.bool B126))] ?_
 have M132 := M3.then_ hK
 clear hK hv fr aC M3; clear vs
 have iB126 : B126 = true ↔ ((x.n : Int) ≤ 2147483647) := by rw [hB126]; simp only [decide_eq_true_eq]
 clear hB126
 refine zpn 1 <| zfe ?_
 intro aC fr
 exact ⟨2, 2, B126, false, false, lp, fr.kp [1, 2, 4, 9, 10, 11, 12, 13, 14], M132, by rw [sfQ_2 (by omega), caseS_FF (show B126 = true ↔ ((x.n : Int) ≤ 2147483647) by simp only [iB126])]; constructor <;> intro h_ <;> first | omega | exact h_.elim | exact h_.1.elim | exact ⟨trivial, by omega⟩ | exact ⟨by omega, by omega⟩, by unfold inner; split <;> omega⟩
 refine zsq <| zsp ?_
 obtain ⟨B135, hB135⟩ : ∃ B : Bool, B = ((x.op : Int) == 3) := ⟨_, rfl⟩
 refine zkp [(1, (vI lo)), (2, (vI d)), (3, (vI lp)), (4, (pT b1 0)), (9, (vI 1)), (10, (vI 1)), (11, (.bool ((x.n : Int) == 0))), (12, (.bool false)), (13, (.bool false)), (14, (vI lp)), (21, (vI x.op)), (43, (.bool ((x.op : Int) == 3)))] ?_
 rw [← hB135]
 have iB135 : B135 = true ↔ ((x.op : Int) = 3) := by rw [hB135]; simp only [beq_iff_eq]
 clear hB135
 cases B135
 have c135 : ¬ ((x.op : Int) = 3) := (fun h => Bool.noConfusion (iB135.2 h) : ¬ ((x.op : Int) = 3))
 refine zcF <| zrp <| zcQ x.op 4 (fun c136 => ?_) (fun c136 => ?_)
 refine zsk ?_
 intro aC fr
 exact ⟨1, 1, ((x.n : Int) == 0), false, false, lp, fr.kp [1, 2, 4, 9, 10, 11, 12, 13, 14], M3, by rw [sfQ_4 (by omega), caseS_FF (show ((x.n : Int) == 0) = true ↔ ((x.n : Int) = 0) by simp only [beq_iff_eq])]; constructor <;> intro h_ <;> first | omega | exact h_.elim | exact h_.1.elim | exact ⟨trivial, by omega⟩ | exact ⟨by omega, by omega⟩, by unfold inner; split <;> omega⟩
 refine zsp <| zcQ x.op 5 (fun c139 => ?_) (fun c139 => ?_)
 refine zrp ?_
 intro aC fr
 exact ⟨1, 1, ((x.n : Int) == 0), true, true, lp, fr.kp [1, 2, 4, 9, 10, 11, 12, 13, 14], M3, by rw [sfQ_5 (by omega), caseS_TT (show ((x.n : Int) == 0) = true ↔ ((x.n : Int) = 0) by simp only [beq_iff_eq])]; constructor <;> intro h_ <;> first | omega | exact h_.elim | exact h_.1.elim | exact ⟨trivial, by omega⟩ | exact ⟨by omega, by omega⟩, by unfold inner; split <;> omega⟩
 refine zsp <| zcQ x.op 6 (fun c142 => ?_) (fun c142 => ?_)
 refine zrg <| zpn 1 <| zar (lp + 1) <| zpn 4 <| zfe ?_
 intro aC fr
 exact ⟨0, 0, ((x.n : Int) == 0), true, false, (lp + 1), fr.kp [1, 2, 4, 9, 10, 11, 12, 13, 14], M3, by rw [sfQ_6 (by omega), caseS_TF (show ((x.n : Int) == 0) = true ↔ ((x.n : Int) = 0) by simp only [beq_iff_eq])]; constructor <;> intro h_ <;> first | omega | exact h_.elim | exact h_.1.elim | exact ⟨trivial, by omega⟩ | exact ⟨by omega, by omega⟩, by unfold inner; split <;> omega⟩
 refine zsq <| zsp ?_
 obtain ⟨B145, hB145⟩ : ∃ B : Bool, B = ((x.op : Int) == 7) := ⟨_, rfl⟩
 refine zkp [(1, (vI lo)), (2, (vI d)), (3, (vI lp)), (4, (pT b1 0)), (10, (vI 1)), (11, (.bool ((x.n : Int) == 0))), (12, (.bool false)), (13, (.bool false)), (14, (vI lp)), (21, (vI x.op)), (52, (.bool ((x.op : Int) == 7)))] ?_
 rw [← hB145]
 have iB145 : B145 = true ↔ ((x.op : Int) = 7) := by rw [hB145]; simp only [beq_iff_eq]
 clear hB145
 cases B145
 have c145 : ¬ ((x.op : Int) = 7) := (fun h => Bool.noConfusion (iB145.2 h) : ¬ ((x.op : Int) = 7))
 refine zcF <| zrp <| zcQ x.op 8 (fun c146 => ?_) (fun c146 => ?_)
 obtain ⟨B147, hB147⟩ : ∃ B : Bool, B = decide (x.n ≥ 0) := ⟨_, rfl⟩
 cases B147
 have c147 : ¬ (x.n ≥ 0) := of_decide_eq_false hB147.symm
 refine zkp [(1, (vI lo)), (2, (vI d)), (3, (vI lp)), (4, (pT b1 0)), (10, (vI 1)), (11, (.bool ((x.n : Int) == 0))), (12, (.bool false)), (13, (.bool false)), (14, (vI lp)), (21, (vI x.op))] ?_
 intro aC fr
 refine zdt 11 (N := 149) (env0 := [(1, (vI lo)), (2, (vI d)), (3, (vI lp)), (4, (pT b1 0)), (10, (vI 1)), (11, (.bool ((x.n : Int) == 0))), (12, (.bool false)), (13, (.bool false)), (14, (vI lp)), (21, (vI x.op))]) (specAt [.det (pT b1 1), .det (vI x.n), .det (.bool false), .det (.bool false), dU, dU, dU, dU, .det (.bool false), .det (vI 0), .det (vI 0)]) fr (la (la (la (la (la (la (la (la (la (la (la lz dP) (dL ⟨b1, 1, none⟩ (vI x.n) fun w_ hK => (blk_cell ((M3.then_ hK).get 0 rfl) rfl))) (dC (decide (x.n ≥ 0)) hB147)) dP) dK) dK) dK) dK) dP) dP) dP) ?_
 intro aC w152 vs hK hv fr
 revert aC; refine zkp [(1, (vI lo)), (2, (vI d)), (4, (pT b1 0)), (9, (vI 0)), (10, (vI 0)), (12, (.bool false)), (13, (.bool false)), (14, (vI lp)), (63, (.bool false))] ?_
 have M153 := M3.then_ hK
 clear hK hv fr aC M3; clear vs
 refine zpn 1 <| zfe ?_
 intro aC fr
 exact ⟨0, 0, false, false, false, lp, fr.kp [1, 2, 4, 9, 10, 11, 12, 13, 14], M153, by rw [sfQ_8 (by omega), caseS_FF litF']; constructor <;> intro h_ <;> first | omega | exact h_.elim | exact h_.1.elim | exact ⟨trivial, by omega⟩ | exact ⟨by omega, by omega⟩, by unfold inner; split <;> omega⟩
 have c147 : x.n ≥ 0 := of_decide_eq_true hB147.symm
 obtain ⟨B156, hB156⟩ : ∃ B : Bool, B = decide (x.n < lp) := ⟨_, rfl⟩
 refine zkp [(1, (vI lo)), (2, (vI d)), (3, (vI lp)), (4, (pT b1 0)), (10, (vI 1)), (11, (.bool ((x.n : Int) == 0))), (12, (.bool false)), (13, (.bool false)), (14, (vI lp)), (21, (vI x.op))] ?_
 intro aC fr
 refine zdt 11 (N := 149) (env0 := [(1, (vI lo)), (2, (vI d)), (3, (vI lp)), (4, (pT b1 0)), (10, (vI 1)), (11, (.bool ((x.n : Int) == 0))), (12, (.bool false)), (13, (.bool false)), (14, (vI lp)), (21, (vI x.op))]) (specAt [.det (pT b1 1), .det (vI x.n), .det (.bool true), .det (.bool true), .det (pT b1 1), .det (vI x.n), .det (vI lp), .det (.bool B156), .det (.bool B156), .det (vI 0), .det (vI 0)]) fr (la (la (la (la (la (la (la (la (la (la (la lz dP) (dL ⟨b1, 1, none⟩ (vI x.n) fun w_ hK => (blk_cell ((M3.then_ hK).get 0 rfl) rfl))) (dC (decide (x.n ≥ 0)) hB147)) dP) dP) (dL ⟨b1, 1, none⟩ (vI x.n) fun w_ hK => (blk_cell ((M3.then_ hK).get 0 rfl) rfl))) dP) (dC (decide (x.n < lp)) hB156)) dP) dP) dP) ?_
 intro aC w161 vs hK hv fr
 revert aC; refine zkp [(1, (vI lo)), (2, (vI d)), (4, (pT b1 0)), (9, (vI 0)), (10, (vI 0)), (12, (.bool false)), (13, (.bool false)), (14, (vI lp)), (63, (.bool B156))] ?_
 have M162 := M3.then_ hK
 clear hK hv fr aC M3; clear vs
 have iB156 : B156 = true ↔ ((x.n : Int) < lp) := by rw [hB156]; simp only [decide_eq_true_eq]
 clear hB156
 refine zpn 1 <| zfe ?_
 intro aC fr
 exact ⟨0, 0, B156, false, false, lp, fr.kp [1, 2, 4, 9, 10, 11, 12, 13, 14], M162, by rw [sfQ_8 (by omega), caseS_FF (show B156 = true ↔ ((x.n : Int) < lp) by simp only [iB156])]; constructor <;> intro h_ <;> first | omega | exact h_.elim | exact h_.1.elim | exact ⟨trivial, by omega⟩ | exact ⟨by omega, by omega⟩, by unfold inner; split <;> omega⟩
 refine zsp <| zcQ x.op 9 (fun c165 => ?_) (fun c165 => ?_)
 refine zrp ?_
 intro aC fr
 exact ⟨0, 1, ((x.n : Int) == 0), false, false, lp, fr.kp [1, 2, 4, 9, 10, 11, 12, 13, 14], M3, by rw [sfQ_9 (by omega), caseS_FF (show ((x.n : Int) == 0) = true ↔ ((x.n : Int) = 0) by simp only [beq_iff_eq])]; constructor <;> intro h_ <;> first | omega | exact h_.elim | exact h_.1.elim | exact ⟨trivial, by omega⟩ | exact ⟨by omega, by omega⟩, by unfold inner; split <;> omega⟩
 refine zsp <| zcQ x.op 10 (fun c168 => ?_) (fun c168 => ?_)
 obtain ⟨B169, hB169⟩ : ∃ B : Bool, B = decide (x.n ≥ 1) := ⟨_, rfl⟩
 cases B169
 have c169 : ¬ (x.n ≥ 1) := of_decide_eq_false hB169.symm
 refine zkp [(1, (vI lo)), (2, (vI d)), (4, (pT b1 0)), (12, (.bool false)), (13, (.bool false)), (14, (vI lp))] ?_
 intro aC fr
 refine zdt 10 (N := 149) (env0 := [(1, (vI lo)), (2, (vI d)), (4, (pT b1 0)), (12, (.bool false)), (13, (.bool false)), (14, (vI lp))]) (specAt [.det (pT b1 1), .det (vI x.n), .det (.bool false), .det (.bool false), dU, dU, dU, .det (.bool false), .det (vI 0), .det (vI 0)]) fr (la (la (la (la (la (la (la (la (la (la lz dP) (dL ⟨b1, 1, none⟩ (vI x.n) fun w_ hK => (blk_cell ((M3.then_ hK).get 0 rfl) rfl))) (dC (decide (x.n ≥ 1)) hB169)) dP) dK) dK) dK) dP) dP) dP) ?_
 intro aC w174 vs hK hv fr
 revert aC; refine zkp [(1, (vI lo)), (2, (vI d)), (4, (pT b1 0)), (9, (vI 0)), (10, (vI 0)), (12, (.bool false)), (13, (.bool false)), (14, (vI lp)), (75, (.bool false))] ?_
 have M175 := M3.then_ hK
 clear hK hv fr aC M3; clear vs
 refine zpn 1 <| zfe ?_
 intro aC fr
 exact ⟨0, 0, false, false, false, lp, fr.kp [1, 2, 4, 9, 10, 11, 12, 13, 14], M175, by rw [sfQ_10 (by omega), caseS_FF litF']; constructor <;> intro h_ <;> first | omega | exact h_.elim | exact h_.1.elim | exact ⟨trivial, by omega⟩ | exact ⟨by omega, by omega⟩, by unfold inner; split <;> omega⟩
 have c169 : x.n ≥ 1 := of_decide_eq_true hB169.symm
 obtain ⟨B178, hB178⟩ : ∃ B : Bool, B = decide (x.n ≤ 999) := ⟨_, rfl⟩
 refine zkp [(1, (vI lo)), (2, (vI d)), (4, (pT b1 0)), (12, (.bool false)), (13, (.bool false)), (14, (vI lp))] ?_
 intro aC fr
 refine zdt 10 (N := 149) (env0 := [(1, (vI lo)), (2, (vI d)), (4, (pT b1 0)), (12, (.bool false)), (13, (.bool false)), (14, (vI lp))]) (specAt [.det (pT b1 1), .det (vI x.n), .det (.bool true), .det (.bool true), .det (pT b1 1), .det (vI x.n), .det (.bool B178), .det (.bool B178), .det (vI 0), .det (vI 0)]) fr (la (la (la (la (la (la (la (la (la (la lz dP) (dL ⟨b1, 1, none⟩ (vI x.n) fun w_ hK => (blk_cell ((M3.then_ hK).get 0 rfl) rfl))) (dC (decide (x.n ≥ 1)) hB169)) dP) dP) (dL ⟨b1, 1, none⟩ (vI x.n) fun w_ hK => (blk_cell ((M3.then_ hK).get 0 rfl) rfl))) (dC (decide (x.n ≤ 999)) hB178)) dP) dP) dP) ?_
 intro aC w183 vs hK hv fr
 revert aC; refine zkp [(1, (vI lo)), (2, (vI d)), (4, (pT b1 0)), (9, (vI 0)), (10, (vI 0)), (12, (.bool false)), (13, (.bool false)), (14, (vI lp)), (75, (.bool B178))] ?_
 have M184 := M3.then_ hK
 clear hK hv fr aC M3; clear vs
 have iB178 : B178 = true ↔ ((x.n : Int) ≤ 999) := by rw [hB178]; simp only [decide_eq_true_eq]
 clear hB178
 refine zpn 1 <| zfe ?_
 intro aC fr
 exact ⟨0, 0, B178, false, false, lp, fr.kp [1, 2, 4, 9, 10, 11, 12, 13, 14], M184, by rw [sfQ_10 (by omega), caseS_FF (show B178 = true ↔ ((x.n : Int) ≤ 999) by simp only [iB178])]; constructor <;> intro h_ <;> first | omega | exact h_.elim | exact h_.1.elim | exact ⟨trivial, by omega⟩ | exact ⟨by omega, by omega⟩, by unfold inner; split <;> omega⟩
 refine zsp <| zre <| zbr <| zo1 (.bool false) ?_
 have M187 := M3.od [] 0
 exact ⟨congrArg Value.bool (show stV lo lp d x = false by rw [stV_eq, decide_eq_false (fun h_ => by have h2_ := sfQ_rng h_.2; omega), Bool.false_and]).symm, M187⟩
 have c145 : ((x.op : Int) = 7) := iB145.1 rfl
 refine zcT <| zsk <| zcT ?_
 obtain ⟨B188, hB188⟩ : ∃ B : Bool, B = decide (x.n ≥ 0) := ⟨_, rfl⟩
 cases B188
 have c188 : ¬ (x.n ≥ 0) := of_decide_eq_false hB188.symm
 refine zkp [(1, (vI lo)), (2, (vI d)), (3, (vI lp)), (4, (pT b1 0)), (10, (vI 1)), (11, (.bool ((x.n : Int) == 0))), (12, (.bool false)), (13, (.bool false)), (14, (vI lp)), (21, (vI x.op)), (52, (.bool true))] ?_
 intro aC fr
 refine zdt 11 (N := 149) (env0 := [(1, (vI lo)), (2, (vI d)), (3, (vI lp)), (4, (pT b1 0)), (10, (vI 1)), (11, (.bool ((x.n : Int) == 0))), (12, (.bool false)), (13, (.bool false)), (14, (vI lp)), (21, (vI x.op)), (52, (.bool true))]) (specAt [.det (pT b1 1), .det (vI x.n), .det (.bool false), .det (.bool false), dU, dU, dU, dU, .det (.bool false), .det (vI 0), .det (vI 0)]) fr (la (la (la (la (la (la (la (la (la (la (la lz dP) (dL ⟨b1, 1, none⟩ (vI x.n) fun w_ hK => (blk_cell ((M3.then_ hK).get 0 rfl) rfl))) (dC (decide (x.n ≥ 0)) hB188)) dP) dK) dK) dK) dK) dP) dP) dP) ?_
 intro aC w193 vs hK hv fr
 revert aC; refine zkp [(1, (vI lo)), (2, (vI d)), (4, (pT b1 0)), (9, (vI 0)), (10, (vI 0)), (12, (.bool false)), (13, (.bool false)), (14, (vI lp)), (63, (.bool false))] ?_
 have M194 := M3.then_ hK
 clear hK hv fr aC M3; clear vs
 refine zpn 1 <| zfe ?_
 intro aC fr
 exact ⟨0, 0, false, false, false, lp, fr.kp [1, 2, 4, 9, 10, 11, 12, 13, 14], M194, by rw [sfQ_7 (by omega), caseS_FF litF']; constructor <;> intro h_ <;> first | omega | exact h_.elim | exact h_.1.elim | exact ⟨trivial, by omega⟩ | exact ⟨by omega, by omega⟩, by unfold inner; split <;> omega⟩
 have c188 : x.n ≥ 0 := of_decide_eq_true hB188.symm
 obtain ⟨B197, hB197⟩ : ∃ B : Bool, B = decide (x.n < lp) := ⟨_, rfl⟩
 refine zkp [(1, (vI lo)), (2, (vI d)), (3, (vI lp)), (4, (pT b1 0)), (10, (vI 1)), (11, (.bool ((x.n : Int) == 0))), (12, (.bool false)), (13, (.bool false)), (14, (vI lp)), (21, (vI x.op)), (52, (.bool true))] ?_
 intro aC fr
 refine zdt 11 (N := 149) (env0 := [(1, (vI lo)), (2, (vI d)), (3, (vI lp)), (4, (pT b1 0)), (10, (vI 1)), (11, (.bool ((x.n : Int) == 0))), (12, (.bool false)), (13, (.bool false)), (14, (vI lp)), (21, (vI x.op)), (52, (.bool true))]) (specAt [.det (pT b1 1), .det (vI x.n), .det (.bool true), .det (.bool true), .det (pT b1 1), .det (vI x.n), .det (vI lp), .det (.bool B197), .det (.bool B197), .det (vI 0), .det (vI 0)]) fr (la (la (la (la (la (la (la (la (la (la (la lz dP) (dL ⟨b1, 1, none⟩ (vI x.n) fun w_ hK => (blk_cell ((M3.then_ hK).get 0 rfl) rfl))) (dC (decide (x.n ≥ 0)) hB188)) dP) dP) (dL ⟨b1, 1, none⟩ (vI x.n) fun w_ hK => (blk_cell ((M3.then_ hK).get 0 rfl) rfl))) dP) (dC (decide (x.n < lp)) hB197)) dP) dP) dP) ?_
 intro aC w202 vs hK hv fr
 revert aC; refine zkp [(1, (vI lo)), (2, (vI d)), (4, (pT b1 0)), (9, (vI 0)), (10, (vI 0)), (12, (.bool false)), (13, (.bool false)), (14, (vI lp)), (63, (.bool B197))] ?_
 have M203 := M3.then_ hK
 clear hK hv fr aC M3; clear vs
 have iB197 : B197 = true ↔ ((x.n : Int) < lp) := by rw [hB197]; simp only [decide_eq_true_eq]
 clear hB197
 refine zpn 1 <| zfe ?_
 intro aC fr
 exact ⟨0, 0, B197, false, false, lp, fr.kp [1, 2, 4, 9, 10, 11, 12, 13, 14], M203, by rw [sfQ_7 (by omega), caseS_FF (show B197 = true ↔ ((x.n : Int) < lp) by simp only [iB197])]; constructor <;> intro h_ <;> first | omega | exact h_.elim | exact h_.1.elim | exact ⟨trivial, by omega⟩ | exact ⟨by omega, by omega⟩, by unfold inner; split <;> omega⟩
 have c135 : ((x.op : Int) = 3) := iB135.1 rfl
 refine zcT <| zsk <| zcT <| zsk ?_
 intro aC fr
 exact ⟨1, 1, ((x.n : Int) == 0), false, false, lp, fr.kp [1, 2, 4, 9, 10, 11, 12, 13, 14], M3, by rw [sfQ_3 (by omega), caseS_FF (show ((x.n : Int) == 0) = true ↔ ((x.n : Int) = 0) by simp only [beq_iff_eq])]; constructor <;> intro h_ <;> first | omega | exact h_.elim | exact h_.1.elim | exact ⟨trivial, by omega⟩ | exact ⟨by omega, by omega⟩, by unfold inner; split <;> omega⟩
theorem rsts_c (l : List MSt) (ih : ∀ x, x ∈ l → RSxOk Try.prog x) (A : Option Addr) (c : Nat) (lo d lp : Int) (T : List Res) (w : World) (hd0 : 0 ≤ d) (hd : d ≤ 1000) (hp0 : 0 ≤ lp) (hpd : lp ≤ d) (hT : RO noS w (.all T)) (hs : SubXs T A l) (hI : stsI l) (hll : LenOk l.length) :
    Calls Try.prog 51 #[(vS A l.length c), (vI lo), (vI d), (vI lp)] w (Ret fun v w' => v = .bool (stsV lo lp d l) ∧ Mem noS w w' []) := by
 unfold LenOk at hll
 refine zen 25 [(vS A l.length c), (vI lo), (vI d), (vI lp)] Try.func51 ?_
 have hM := Mem.init w
 refine zsp <| zsq <| zsp <| zbk 0 ?_
 intro aC fr
 refine zlp (fun n_ a_ w_ => ∃ (j : Nat), n_ = l.length - j ∧ Fr a_ 25 [(0, (vS A l.length c)), (1, (vI lo)), (2, (vI d)), (3, (vI lp)), (9, (nV j))] ∧ Mem noS w w_ [] ∧ (j ≤ l.length) ∧ (stsV lo lp d l = stsV lo lp d (l.drop j))) (n := _) ⟨0, rfl, fr.kp [0, 1, 2, 3, 9], hM, Nat.zero_le _, (by rw [List.drop_zero])⟩ ?_
 clear fr aC hM; rintro n aC w3 ⟨j, rfl, fr, M4, hj, hr⟩
 revert aC
 refine zsq <| zsp <| zcD (((j : Int) : Int) < ((l.length : Nat) : Int)) (fun c7 => ?_) (fun c7 => ?_)
 refine zsk <| zsq <| zbk 1 <| zsr ?_
 obtain ⟨x, hx⟩ := get_of (l := l) (i := j) (by omega)
 have hxm := List.mem_of_getElem? hx
 refine zpn 2 ?_
 obtain ⟨ad8, rfl⟩ := rds_some (M4.ro (hT.sub hs.1)) (cs := x.cells) (i := j) (gm hx)
 refine zix ad8 l.length 5 (j : Int) ?_
 refine zls ((ad8 : Addr).add (((j : Int)).toNat * 5)) (SC x) (rds_cells (i := j) (M4.ro (hT.sub hs.1)) rfl (gm hx)) ?_
 refine zpn 3 <| zcl (ih x hxm lo d lp T w3 hd0 hd hp0 hpd (hT.at_ M4) (hs.2 x hxm) (stsI_mem hI hxm)) ?_
 rintro _ w9 ⟨rfl, M10x⟩
 have M10 := M4.cl M10x
 refine zpn 1 <| zfe <| zcP (!(stV lo lp d x)) (¬ ((stV lo lp d x) = true)) (by simp only [notT]) (fun c11 => ?_) (fun c11 => ?_)
 replace c11 : (stV lo lp d x) = false := Bool.eq_false_iff.2 c11
 have ck_ : stV lo lp d x = false := by simpa using c11
 refine zsp <| zre <| zbr <| zbr <| zo1 (.bool false) ?_
 exact ⟨congrArg Value.bool (hr.trans (by rw [stsV_at hx, ck_, Bool.false_and])).symm, M10⟩
 replace c11 : (stV lo lp d x) = true := Classical.not_not.1 c11
 have ck_ : stV lo lp d x = true := by simpa using c11
 refine zsk <| zrg <| zpn 1 <| zar ((j : Int) + 1) <| zpn 1 <| zfe ?_
 intro aC fr
 exact ⟨l.length - (j + 1), by omega, j + 1, rfl, fr.kp [0, 1, 2, 3, 9], M10, by omega, hr.trans (by rw [stsV_at hx, ck_, Bool.true_and])⟩
 refine zex 0 <| zbh <| zsp <| zre <| zo1 (.bool true) ?_
 exact ⟨congrArg Value.bool (hr.trans (by rw [List.drop_eq_nil_of_le (by omega), stsV_nil])).symm, M4⟩
theorem rsts_step (l : List MSt) (ih : ∀ x, x ∈ l → RSxOk Try.prog x) : RStOk Try.prog l := fun A c lo d lp T w h0 h1 h2 h3 hT hs hI hll => rsts_c l ih A c lo d lp T w h0 h1 h2 h3 hT hs hI hll
theorem rstx_all (x : MSt) : RSxOk Try.prog x := MSt.ind (p := fun x => RSxOk Try.prog x) (fun x hb hl lo d lp T w h0 h1 h2 h3 hT hs hI => rstv_c x (rsts_step x.body hb) (rsts_step x.els hl) lo d lp T w h0 h1 h2 h3 hT hs hI) x
theorem rsts_all (l : List MSt) : RStOk Try.prog l := rsts_step l (fun x _ => rstx_all x)
end Go.Proofs.Ytdcgcjibgihbbaa
namespace Go.Proofs.Ytdcgcjibgihbbaa
open Go.Mor
theorem rfunc_d (f : TFn) (T : List Res) (w : World) (hT : RO noS w (.all T)) (hs : SubXs T f.A f.body) (hI : f.In) :
    Calls Try.prog 32 #[(.agg (FC f).toArray)] w (Ret fun v w' => v = .bool (decide (fnV f = true)) ∧ Mem noS w w' []) := by
 have hnl := hI.nm
 unfold LenOk at hnl
 refine zen 35 [(.agg (FC f).toArray)] Try.func32 ?_
 have hM := Mem.init w
 refine zsr <| zbx hM 45 (.agg (FC f).toArray) (FC f) fun b1 w2 hb1 M3 => ?_
 replace M3 := M3.nf
 clear hM
 refine zpn 1 <| zfe <| zsr <| zpn 1 <| zld ⟨b1, 0, none⟩ (.string f.nm) (blk_cell (M3.get 0 rfl) rfl) <| zcl (rname_c f.nm w2) ?_
 rintro _ w4 ⟨rfl, M5x⟩
 have M5 := M3.cl M5x
 refine zpn 1 ?_
 obtain ⟨B6, hB6⟩ : ∃ B : Bool, B = decide (nameQ f.nm) := ⟨_, rfl⟩
 refine zkp [(1, (pT b1 0)), (6, (.bool (decide (nameQ f.nm))))] ?_
 rw [← hB6]
 have iB6 : B6 = true ↔ (nameQ f.nm) := by rw [hB6]; simp only [decide_eq_true_eq]
 clear hB6
 intro aC fr
 refine zpk 1 5 [7] fr (news := [(7, (cond B6 (pT b1 2) undef))]) (by cases B6 <;> kernel_rfl) ?_
 intro aC fr
 refine From_either (B := B6) (d := (some 8)) (vI f.pa) fr (by cases B6 <;> kernel_rfl) (fun hB hh => ?_) ?_
 cases B6 <;> try exact absurd hB (by decide)
 have c6 : (nameQ f.nm) := iB6.1 rfl
 exact From_ld (some 8) ⟨b1, 2, none⟩ fr (by kernel_rfl) (vI f.pa) (blk_cell (M5.get 0 rfl) rfl) hh
 intro aC fr
 refine zpk 3 9 [10, 11] fr (news := [(10, (.bool (B6 && decide ((f.pa : Int) ≥ 0)))), (11, (.bool (B6 && decide ((f.pa : Int) ≥ 0))))]) (by cases B6 <;> kernel_rfl) ?_
 intro aC fr
 obtain ⟨B15, hB15⟩ : ∃ B : Bool, B = (B6 && decide ((f.pa : Int) ≥ 0)) := ⟨_, rfl⟩
 revert aC
 refine zkp [(1, (pT b1 0)), (11, (.bool (B6 && decide ((f.pa : Int) ≥ 0))))] ?_
 rw [← hB15]
 have iB15 : B15 = true ↔ ((nameQ f.nm) ∧ ((f.pa : Int) ≥ 0)) := by rw [hB15]; simp only [Bool.and_eq_true, decide_eq_true_eq, iB6]
 clear hB15
 intro aC fr
 refine zpk 1 10 [12] fr (news := [(12, (cond B15 (pT b1 2) undef))]) (by cases B15 <;> kernel_rfl) ?_
 intro aC fr
 refine From_either (B := B15) (d := (some 13)) (vI f.pa) fr (by cases B15 <;> kernel_rfl) (fun hB hh => ?_) ?_
 cases B15 <;> try exact absurd hB (by decide)
 have c15 : ((nameQ f.nm) ∧ ((f.pa : Int) ≥ 0)) := iB15.1 rfl
 exact From_ld (some 13) ⟨b1, 2, none⟩ fr (by kernel_rfl) (vI f.pa) (blk_cell (M5.get 0 rfl) rfl) hh
 intro aC fr
 refine zpk 3 14 [15, 16] fr (news := [(15, (.bool (B15 && decide ((f.pa : Int) ≤ 16)))), (16, (.bool (B15 && decide ((f.pa : Int) ≤ 16))))]) (by cases B15 <;> kernel_rfl) ?_
 intro aC fr
 obtain ⟨B24, hB24⟩ : ∃ B : Bool, B = (B15 && decide ((f.pa : Int) ≤ 16)) := ⟨_, rfl⟩
 revert aC
 refine zkp [(1, (pT b1 0)), (16, (.bool (B15 && decide ((f.pa : Int) ≤ 16))))] ?_
 rw [← hB24]
 have iB24 : B24 = true ↔ (((nameQ f.nm) ∧ ((f.pa : Int) ≥ 0)) ∧ ((f.pa : Int) ≤ 16)) := by rw [hB24]; simp only [Bool.and_eq_true, decide_eq_true_eq, iB15]
 clear hB24
 intro aC fr
 refine zpk 1 15 [17] fr (news := [(17, (cond B24 (pT b1 3) undef))]) (by cases B24 <;> kernel_rfl) ?_
 intro aC fr
 refine From_either (B := B24) (d := (some 18)) (vI f.lo) fr (by cases B24 <;> kernel_rfl) (fun hB hh => ?_) ?_
 cases B24 <;> try exact absurd hB (by decide)
 have c24 : (((nameQ f.nm) ∧ ((f.pa : Int) ≥ 0)) ∧ ((f.pa : Int) ≤ 16)) := iB24.1 rfl
 exact From_ld (some 18) ⟨b1, 3, none⟩ fr (by kernel_rfl) (vI f.lo) (blk_cell (M5.get 0 rfl) rfl) hh
 intro aC fr
 refine zpk 1 17 [19] fr (news := [(19, (cond B24 (pT b1 2) undef))]) (by cases B24 <;> kernel_rfl) ?_
 intro aC fr
 refine From_either (B := B24) (d := (some 20)) (vI f.pa) fr (by cases B24 <;> kernel_rfl) (fun hB hh => ?_) ?_
 cases B24 <;> try exact absurd hB (by decide)
 have c24 : (((nameQ f.nm) ∧ ((f.pa : Int) ≥ 0)) ∧ ((f.pa : Int) ≤ 16)) := iB24.1 rfl
 exact From_ld (some 20) ⟨b1, 2, none⟩ fr (by kernel_rfl) (vI f.pa) (blk_cell (M5.get 0 rfl) rfl) hh
 intro aC fr
 refine zpk 3 21 [22, 23] fr (news := [(22, (.bool (B24 && decide ((f.lo : Int) ≥ f.pa)))), (23, (.bool (B24 && decide ((f.lo : Int) ≥ f.pa))))]) (by cases B24 <;> kernel_rfl) ?_
 intro aC fr
 obtain ⟨B37, hB37⟩ : ∃ B : Bool, B = (B24 && decide ((f.lo : Int) ≥ f.pa)) := ⟨_, rfl⟩
 revert aC
 refine zkp [(1, (pT b1 0)), (23, (.bool (B24 && decide ((f.lo : Int) ≥ f.pa))))] ?_
 rw [← hB37]
 have iB37 : B37 = true ↔ ((((nameQ f.nm) ∧ ((f.pa : Int) ≥ 0)) ∧ ((f.pa : Int) ≤ 16)) ∧ ((f.lo : Int) ≥ f.pa)) := by rw [hB37]; simp only [Bool.and_eq_true, decide_eq_true_eq, iB24]
 clear hB37
 intro aC fr
 refine zpk 1 22 [24] fr (news := [(24, (cond B37 (pT b1 3) undef))]) (by cases B37 <;> kernel_rfl) ?_
 intro aC fr
 refine From_either (B := B37) (d := (some 25)) (vI f.lo) fr (by cases B37 <;> kernel_rfl) (fun hB hh => ?_) ?_
 cases B37 <;> try exact absurd hB (by decide)
 have c37 : ((((nameQ f.nm) ∧ ((f.pa : Int) ≥ 0)) ∧ ((f.pa : Int) ≤ 16)) ∧ ((f.lo : Int) ≥ f.pa)) := iB37.1 rfl
 exact From_ld (some 25) ⟨b1, 3, none⟩ fr (by kernel_rfl) (vI f.lo) (blk_cell (M5.get 0 rfl) rfl) hh
 intro aC fr
 refine zpk 3 26 [27, 28] fr (news := [(27, (.bool (B37 && decide ((f.lo : Int) ≤ 2000)))), (28, (.bool (B37 && decide ((f.lo : Int) ≤ 2000))))]) (by cases B37 <;> kernel_rfl) ?_
 intro aC fr
 obtain ⟨B46, hB46⟩ : ∃ B : Bool, B = (B37 && decide ((f.lo : Int) ≤ 2000)) := ⟨_, rfl⟩
 revert aC
 refine zkp [(1, (pT b1 0)), (28, (.bool (B37 && decide ((f.lo : Int) ≤ 2000))))] ?_
 rw [← hB46]
 have iB46 : B46 = true ↔ (((((nameQ f.nm) ∧ ((f.pa : Int) ≥ 0)) ∧ ((f.pa : Int) ≤ 16)) ∧ ((f.lo : Int) ≥ f.pa)) ∧ ((f.lo : Int) ≤ 2000)) := by rw [hB46]; simp only [Bool.and_eq_true, decide_eq_true_eq, iB37]
 clear hB46
 intro aC fr
 refine zpk 1 27 [29] fr (news := [(29, (cond B46 (pT b1 4) undef))]) (by cases B46 <;> kernel_rfl) ?_
 intro aC fr
 refine From_either (B := B46) (d := (some 30)) (vS f.A f.body.length f.c) fr (by cases B46 <;> kernel_rfl) (fun hB hh => ?_) ?_
 cases B46 <;> try exact absurd hB (by decide)
 have c46 : (((((nameQ f.nm) ∧ ((f.pa : Int) ≥ 0)) ∧ ((f.pa : Int) ≤ 16)) ∧ ((f.lo : Int) ≥ f.pa)) ∧ ((f.lo : Int) ≤ 2000)) := iB46.1 rfl
 exact From_ld (some 30) ⟨b1, 4, none⟩ fr (by kernel_rfl) (vS f.A f.body.length f.c) (blk_cell (M5.get 0 rfl) rfl) hh
 intro aC fr
 refine zpk 1 29 [31] fr (news := [(31, (cond B46 (pT b1 3) undef))]) (by cases B46 <;> kernel_rfl) ?_
 intro aC fr
 refine From_either (B := B46) (d := (some 32)) (vI f.lo) fr (by cases B46 <;> kernel_rfl) (fun hB hh => ?_) ?_
 cases B46 <;> try exact absurd hB (by decide)
 have c46 : (((((nameQ f.nm) ∧ ((f.pa : Int) ≥ 0)) ∧ ((f.pa : Int) ≤ 16)) ∧ ((f.lo : Int) ≥ f.pa)) ∧ ((f.lo : Int) ≤ 2000)) := iB46.1 rfl
 exact From_ld (some 32) ⟨b1, 3, none⟩ fr (by kernel_rfl) (vI f.lo) (blk_cell (M5.get 0 rfl) rfl) hh
 intro aC fr
 refine From_eitherC (B := B46) (d := (some 33)) (.bool (stsV f.lo 0 0 f.body)) fr (by cases B46 <;> kernel_rfl) (fun hB hh => ?_) ?_
 cases B46 <;> try exact absurd hB (by decide)
 have c46 : (((((nameQ f.nm) ∧ ((f.pa : Int) ≥ 0)) ∧ ((f.pa : Int) ≤ 16)) ∧ ((f.lo : Int) ≥ f.pa)) ∧ ((f.lo : Int) ≤ 2000)) := iB46.1 rfl
 refine From_cl (some 33) 51 [(vS f.A f.body.length f.c), (vI f.lo), (vI 0), (vI 0)] fr (by kernel_rfl) (rsts_all f.body f.A f.c f.lo 0 0 T w4 (by decide) (by decide) (by decide) (by decide) (hT.at_ M5) hs hI.body hI.len) ?_
 rintro _ w2 ⟨rfl, hm2⟩ a2 hF2; exact hh a2 w2 hm2 hF2
 intro aC w57 M58x fr
 have M58 := M5.cl M58x
 refine zpk 2 33 [2, 34] fr (news := [(2, (.bool (B46 && (stsV f.lo 0 0 f.body)))), (34, (.bool (B46 && (stsV f.lo 0 0 f.body))))]) (by cases B46 <;> kernel_rfl) ?_
 intro aC fr
 revert aC
 refine zfe <| zre <| zo1 (.bool (B46 && (stsV f.lo 0 0 f.body))) ?_
 have hR : (B46 && (stsV f.lo 0 0 f.body)) = true ↔ ((((((nameQ f.nm) ∧ ((f.pa : Int) ≥ 0)) ∧ ((f.pa : Int) ≤ 16)) ∧ ((f.lo : Int) ≥ f.pa)) ∧ ((f.lo : Int) ≤ 2000)) ∧ ((stsV f.lo 0 0 f.body) = true)) := by simp only [Bool.and_eq_true, iB46]
 have M63 := M58.od [] 0
 exact ⟨bool_dec hR (⟨fun h_ => (by unfold fnV; rw [Bool.and_eq_true, decide_eq_true_eq]; unfold fnQ; exact ⟨⟨h_.1.1.1.1.1, ⟨h_.1.1.1.1.2, h_.1.1.1.2⟩, h_.1.1.2, h_.1.2⟩, h_.2⟩), fun h_ => (by unfold fnV at h_; rw [Bool.and_eq_true, decide_eq_true_eq] at h_; unfold fnQ at h_; exact ⟨⟨⟨⟨⟨h_.1.1, h_.1.2.1.1⟩, h_.1.2.1.2⟩, h_.1.2.2.1⟩, h_.1.2.2.2⟩, h_.2⟩)⟩), M63⟩
theorem rfunc_c (f : TFn) (T : List Res) (w : World) (hT : RO noS w (.all T)) (hs : SubXs T f.A f.body) (hI : f.In) : Calls Try.prog 32 #[(.agg (FC f).toArray)] w (Ret fun v w' => v = .bool (fnV f) ∧ Mem noS w w' []) := by
  have h := rfunc_d f T w hT hs hI
  simp only [Bool.decide_eq_true] at h
  exact h
set_option maxHeartbeats 1000000 in
theorem rdata_c (d : FDat) (w : World) (hR : RO noS w (.rds d.rA 2 (d.refs.map refCells))) (hI : LenOk d.nm.size ∧ LenOk d.words.length ∧ LenOk d.refs.length ∧ ∀ r, r ∈ d.refs → In64 r.1 ∧ LenOk r.2.size) :
    Calls Try.prog 33 #[(.agg (DC d).toArray)] w (Ret fun v w' => v = .bool (decide (datQ d)) ∧ Mem noS w w' []) := by
 have h1_ := hI.1
 have h2_ := hI.2.1
 have h3_ := hI.2.2.1
 unfold LenOk at h1_ h2_ h3_
 refine zen 72 [(.agg (DC d).toArray)] Try.func33 ?_
 have hM := Mem.init w
 refine zsr <| zbx hM 59 (.agg (DC d).toArray) (DC d) fun b1 w2 hb1 M3 => ?_
 replace M3 := M3.nf
 clear hM
 refine zpn 1 <| zfe <| zsq <| zsr <| zpn 1 <| zld ⟨b1, 0, none⟩ (.string d.nm) (blk_cell (M3.get 0 rfl) rfl) <| zcl (rname_c d.nm w2) ?_
 rintro _ w4 ⟨rfl, M5x⟩
 have M5 := M3.cl M5x
 refine zpn 2 ?_
 obtain ⟨B6, hB6⟩ : ∃ B : Bool, B = (!(decide (nameQ d.nm))) := ⟨_, rfl⟩
 refine zkp [(1, (pT b1 0)), (9, (.bool (!(decide (nameQ d.nm)))))] ?_
 rw [← hB6]
 have iB6 : B6 = true ↔ (¬ (nameQ d.nm)) := by rw [hB6]; simp only [notT, decide_eq_true_eq]
 clear hB6
 intro aC fr
 refine zpk 1 6 [10] fr (news := [(10, (cond (!B6) (pT b1 3) undef))]) (by cases B6 <;> kernel_rfl) ?_
 intro aC fr
 refine From_either (B := (!B6)) (d := (some 11)) (vS d.rA d.refs.length d.rc) fr (by cases B6 <;> kernel_rfl) (fun hB hh => ?_) ?_
 cases B6 <;> try exact absurd hB (by decide)
 have c6 : ¬ (¬ (nameQ d.nm)) := (fun h => Bool.noConfusion (iB6.2 h) : ¬ (¬ (nameQ d.nm)))
 exact From_ld (some 11) ⟨b1, 3, none⟩ fr (by kernel_rfl) (vS d.rA d.refs.length d.rc) (blk_cell (M5.get 0 rfl) rfl) hh
 intro aC fr
 refine zpk 2 9 [12, 13] fr (news := [(12, (cond (!B6) (vI ((d.refs.length : Nat) : Int)) undef)), (13, (cond (!B6) (pT b1 2) undef))]) (by cases B6 <;> kernel_rfl) ?_
 intro aC fr
 refine From_either (B := (!B6)) (d := (some 14)) (vS d.wA d.words.length d.wc) fr (by cases B6 <;> kernel_rfl) (fun hB hh => ?_) ?_
 cases B6 <;> try exact absurd hB (by decide)
 have c6 : ¬ (¬ (nameQ d.nm)) := (fun h => Bool.noConfusion (iB6.2 h) : ¬ (¬ (nameQ d.nm)))
 exact From_ld (some 14) ⟨b1, 2, none⟩ fr (by kernel_rfl) (vS d.wA d.words.length d.wc) (blk_cell (M5.get 0 rfl) rfl) hh
 intro aC fr
 refine zpk 3 13 [17] fr (news := [(17, (.bool (B6 || decide ((((d.refs.length : Nat) : Int) : Int) > ((d.words.length : Nat) : Int)))))]) (by cases B6 <;> kernel_rfl) ?_
 intro aC fr
 revert aC
 refine zfe <| zcP (B6 || decide ((((d.refs.length : Nat) : Int) : Int) > ((d.words.length : Nat) : Int))) ((¬ (nameQ d.nm)) ∨ ((((d.refs.length : Nat) : Int) : Int) > ((d.words.length : Nat) : Int))) (by simp only [Bool.or_eq_true, decide_eq_true_eq, iB6]) (fun c19 => ?_) (fun c19 => ?_)
 refine zsp <| zre <| zo1 (.bool false) ?_
 have M20 := M5.od [] 0
 exact ⟨congrArg Value.bool (decide_eq_false (fun h_ => by have h2_ := datQ_len h_; have h3_ := h_.2; exact (c19).elim (fun q_ => q_ h3_) (fun q_ => by omega))).symm, M20⟩
 have hnq : nameQ d.nm := Classical.not_not.1 (fun h_ => c19 (.inl h_))
 refine zsk <| zsq <| zsp <| zbk 0 ?_
 intro aC fr
 refine zlp (fun n_ a_ w_ => ∃ (j : Nat), n_ = d.refs.length - j ∧ Fr a_ 72 [(1, (pT b1 0)), (3, (nV j))] ∧ Mem noS w w_ [.blk b1 59 (DC d)] ∧ (j ≤ d.refs.length) ∧ (refsTo d j)) (n := _) ⟨0, rfl, fr.kp [1, 3], M5, Nat.zero_le _, refsTo_zero d⟩ ?_
 clear fr aC M5; rintro n aC w23 ⟨j, rfl, fr, M24, hj, hr⟩
 revert aC
 refine zsq <| zsr <| zpn 2 <| zld ⟨b1, 3, none⟩ (vS d.rA d.refs.length d.rc) (blk_cell (M24.get 0 rfl) rfl) <| zpn 2 <| zfe <| zcD (((j : Int) : Int) < ((d.refs.length : Nat) : Int)) (fun c27 => ?_) (fun c27 => ?_)
 refine zsk <| zsq <| zbk 1 <| zsq <| zsq ?_
 obtain ⟨rj, hrj⟩ := get_of (l := d.refs) (i := j) (by omega)
 have hrI := hI.2.2.2 rj (List.mem_of_getElem? hrj)
 obtain ⟨ad28, had29⟩ := rds_some (M24.ro hR) (cs := refCells rj) (i := j) (gm hrj)
 obtain ⟨B30, hB30⟩ : ∃ B : Bool, B = decide (rj.1 < 0) := ⟨_, rfl⟩
 cases B30
 have c30 : ¬ (rj.1 < 0) := of_decide_eq_false hB30.symm
 obtain ⟨ad31, had32⟩ := rds_some (M24.ro hR) (cs := refCells rj) (i := j) (gm hrj)
 obtain ⟨ad33, had34⟩ := rds_some (M24.ro hR) (cs := refCells rj) (i := j) (gm hrj)
 obtain ⟨B35, hB35⟩ : ∃ B : Bool, B = decide (rj.1 ≥ ((d.words.length : Nat) : Int)) := ⟨_, rfl⟩
 cases B35
 have c35 : ¬ (rj.1 ≥ ((d.words.length : Nat) : Int)) := of_decide_eq_false hB35.symm
 obtain ⟨ad36, had37⟩ := rds_some (M24.ro hR) (cs := refCells rj) (i := j) (gm hrj)
 obtain ⟨ad38, had39⟩ := rds_some (M24.ro hR) (cs := refCells rj) (i := j) (gm hrj)
 refine zkp [(1, (pT b1 0)), (3, (nV j))] ?_
 intro aC fr
 refine zdt 23 (N := 72) (env0 := [(1, (pT b1 0)), (3, (nV j))]) (specAt [.det (pT b1 3), .det (vS d.rA d.refs.length d.rc), .det (nV j), .det (.pointer (some ((ad36 : Addr).add (((j : Int)).toNat * 2)))), .det (.pointer (some ((ad36 : Addr).add (((j : Int)).toNat * 2)))), .det (vI rj.1), .det (.bool false), .det (.bool false), .det (pT b1 3), .det (vS d.rA d.refs.length d.rc), .det (nV j), .det (.pointer (some ((ad38 : Addr).add (((j : Int)).toNat * 2)))), .det (.pointer (some ((ad38 : Addr).add (((j : Int)).toNat * 2)))), .det (vI rj.1), .det (pT b1 2), .det (vS d.wA d.words.length d.wc), .det (vI ((d.words.length : Nat) : Int)), .det (.bool false), .det (.bool false), .det (.bool false), .det (pT b1 3), .det (vS d.rA d.refs.length d.rc), .det (nV j)]) fr (la (la (la (la (la (la (la (la (la (la (la (la (la (la (la (la (la (la (la (la (la (la (la lz dP) (dL ⟨b1, 3, none⟩ (vS d.rA d.refs.length d.rc) fun w_ hK => (blk_cell ((M24.then_ hK).get 0 rfl) rfl))) dP) (dIA d.rA ad36 d.refs.length 2 (j : Int) had37)) dP) (dL ((ad36 : Addr).add (((j : Int)).toNat * 2)) (vI rj.1) fun w_ hK => (rds_get ((M24.then_ hK).ro hR) had37 (i := j) (cs := refCells rj) (gm hrj) 0 _ rfl))) (dC (decide (rj.1 < 0)) hB30)) dP) dP) (dL ⟨b1, 3, none⟩ (vS d.rA d.refs.length d.rc) fun w_ hK => (blk_cell ((M24.then_ hK).get 0 rfl) rfl))) dP) (dIA d.rA ad38 d.refs.length 2 (j : Int) had39)) dP) (dL ((ad38 : Addr).add (((j : Int)).toNat * 2)) (vI rj.1) fun w_ hK => (rds_get ((M24.then_ hK).ro hR) had39 (i := j) (cs := refCells rj) (gm hrj) 0 _ rfl))) dP) (dL ⟨b1, 2, none⟩ (vS d.wA d.words.length d.wc) fun w_ hK => (blk_cell ((M24.then_ hK).get 0 rfl) rfl))) dP) (dC (decide (rj.1 ≥ ((d.words.length : Nat) : Int))) hB35)) dP) dP) dP) (dL ⟨b1, 3, none⟩ (vS d.rA d.refs.length d.rc) fun w_ hK => (blk_cell ((M24.then_ hK).get 0 rfl) rfl))) dP) ?_
 intro aC w44 vs hK hv fr
 revert aC; refine zkp [(1, (pT b1 0)), (3, (nV j)), (44, (.bool false)), (46, (vS d.rA d.refs.length d.rc)), (47, (nV j))] ?_
 have M45 := M24.then_ hK
 clear hK hv fr aC M24; clear vs
 obtain ⟨ad46, had47⟩ := rds_some (M45.ro hR) (cs := refCells rj) (i := j) (gm hrj)
 intro aC fr
 refine From_ixA (some 48) d.rA ad46 d.refs.length 2 (j : Int) fr (by kernel_rfl) had47 (by omega) (by omega) ?_
 intro aC fr
 revert aC
 refine zpn 1 ?_
 refine zld (((ad46 : Addr).add (((j : Int)).toNat * 2)).add 1) (.string rj.2) (rds_get (M45.ro hR) had47 (i := j) (cs := refCells rj) (gm hrj) 1 _ rfl) ?_
 refine zcl (rname_c rj.2 w44) ?_
 rintro _ w52 ⟨rfl, M53x⟩
 have M53 := M45.cl M53x
 refine zpn 2 <| zfe <| zcP (!(decide (nameQ rj.2))) (¬ (nameQ rj.2)) (by simp only [notT, decide_eq_true_eq]) (fun c54 => ?_) (fun c54 => ?_)
 refine zsp <| zre <| zbr <| zbr <| zo1 (.bool false) ?_
 have M55 := M53.od [] 0
 exact ⟨congrArg Value.bool (decide_eq_false (fun h_ => by obtain ⟨h2_, h3_, _⟩ := h_.1 j rj hrj; first | omega | exact c54 h2_)).symm, M55⟩
 have hq_ : nameQ rj.2 ∧ (0 ≤ rj.1 ∧ rj.1 < (d.words.length : Int)) := ⟨Classical.not_not.1 c54, by omega⟩
 refine zsk <| zsp <| zbk 2 ?_
 intro aC fr
 refine zlp (fun n_ a_ w_ => ∃ (k : Nat), n_ = j - k ∧ Fr a_ 72 [(1, (pT b1 0)), (3, (nV j)), (4, (nV k))] ∧ Mem noS w w_ [.blk b1 59 (DC d)] ∧ (k ≤ j) ∧ (rj.1 ∉ (d.refs.take k).map (·.1))) (n := _) ⟨0, rfl, fr.kp [1, 3, 4], M53, Nat.zero_le _, nin_zero _⟩ ?_
 clear fr aC M53; rintro n aC w58 ⟨k, rfl, fr, M59, hk, hkn⟩
 revert aC
 refine zsq <| zsp <| zcD (((k : Int) : Int) < (j : Int)) (fun c62 => ?_) (fun c62 => ?_)
 refine zsk <| zsq <| zbk 3 <| zsq ?_
 obtain ⟨rk, hrk⟩ := get_of (l := d.refs) (i := k) (by omega)
 obtain ⟨ad63, had64⟩ := rds_some (M59.ro hR) (cs := refCells rk) (i := k) (gm hrk)
 obtain ⟨ad65, had66⟩ := rds_some (M59.ro hR) (cs := refCells rj) (i := j) (gm hrj)
 obtain ⟨B67, hB67⟩ : ∃ B : Bool, B = (rk.1 == rj.1) := ⟨_, rfl⟩
 refine zkp [(1, (pT b1 0)), (3, (nV j)), (4, (nV k))] ?_
 intro aC fr
 refine zdr (N := 72) (env0 := [(1, (pT b1 0)), (3, (nV j)), (4, (nV k))]) (specAt [.det (pT b1 3), .det (vS d.rA d.refs.length d.rc), .det (nV k), .det (.pointer (some ((ad63 : Addr).add (((k : Int)).toNat * 2)))), .det (.pointer (some ((ad63 : Addr).add (((k : Int)).toNat * 2)))), .det (vI rk.1), .det (pT b1 3), .det (vS d.rA d.refs.length d.rc), .det (nV j), .det (.pointer (some ((ad65 : Addr).add (((j : Int)).toNat * 2)))), .det (.pointer (some ((ad65 : Addr).add (((j : Int)).toNat * 2)))), .det (vI rj.1), .det (.bool B67)]) fr (la (la (la (la (la (la (la (la (la (la (la (la (la lz dP) (dL ⟨b1, 3, none⟩ (vS d.rA d.refs.length d.rc) fun w_ hK => (blk_cell ((M59.then_ hK).get 0 rfl) rfl))) dP) (dIA d.rA ad63 d.refs.length 2 (k : Int) had64)) dP) (dL ((ad63 : Addr).add (((k : Int)).toNat * 2)) (vI rk.1) fun w_ hK => (rds_get ((M59.then_ hK).ro hR) had64 (i := k) (cs := refCells rk) (gm hrk) 0 _ rfl))) dP) (dL ⟨b1, 3, none⟩ (vS d.rA d.refs.length d.rc) fun w_ hK => (blk_cell ((M59.then_ hK).get 0 rfl) rfl))) dP) (dIA d.rA ad65 d.refs.length 2 (j : Int) had66)) dP) (dL ((ad65 : Addr).add (((j : Int)).toNat * 2)) (vI rj.1) fun w_ hK => (rds_get ((M59.then_ hK).ro hR) had66 (i := j) (cs := refCells rj) (gm hrj) 0 _ rfl))) (dC (rk.1 == rj.1) hB67)) ?_
 intro aC w72 vs hK hv fr
 revert aC; refine zkp [(1, (pT b1 0)), (3, (nV j)), (4, (nV k)), (71, (.bool B67))] ?_
 have M73 := M59.then_ hK
 clear hK hv fr aC M59; clear vs
 have iB67 : B67 = true ↔ ((rk.1 : Int) = rj.1) := by rw [hB67]; simp only [beq_iff_eq]
 clear hB67
 refine zcP B67 ((rk.1 : Int) = rj.1) iB67 (fun c74 => ?_) (fun c74 => ?_)
 refine zsp <| zre <| zbr <| zbr <| zbr <| zbr <| zo1 (.bool false) ?_
 have M75 := M73.od [] 0
 exact ⟨congrArg Value.bool (decide_eq_false (fun h_ => (h_.1 j rj hrj).2.2 (nin_no (key := fun r : Int × ByteArray => r.1) (k := k) (by omega) hrk c74))).symm, M75⟩
 refine zsk <| zrg <| zpn 1 <| zar ((k : Int) + 1) <| zpn 1 <| zfe ?_
 intro aC fr
 exact ⟨j - (k + 1), by omega, k + 1, rfl, fr.kp [1, 3, 4], M73, by omega, nin_succ hkn hrk c74⟩
 refine zex 2 <| zbh <| zrg ?_
 obtain rfl : j = k := by omega
 refine zpn 1 <| zar ((j : Int) + 1) <| zpn 1 <| zfe ?_
 intro aC fr
 exact ⟨d.refs.length - (j + 1), by omega, j + 1, rfl, fr.kp [1, 3], M59, by omega, refsTo_succ hr hrj ⟨hq_.1, hq_.2, hkn⟩⟩
 have c35 : rj.1 ≥ ((d.words.length : Nat) : Int) := of_decide_eq_true hB35.symm
 obtain ⟨ad80, had81⟩ := rds_some (M24.ro hR) (cs := refCells rj) (i := j) (gm hrj)
 obtain ⟨ad82, had83⟩ := rds_some (M24.ro hR) (cs := refCells rj) (i := j) (gm hrj)
 refine zkp [(1, (pT b1 0)), (3, (nV j))] ?_
 intro aC fr
 refine zdt 23 (N := 72) (env0 := [(1, (pT b1 0)), (3, (nV j))]) (specAt [.det (pT b1 3), .det (vS d.rA d.refs.length d.rc), .det (nV j), .det (.pointer (some ((ad80 : Addr).add (((j : Int)).toNat * 2)))), .det (.pointer (some ((ad80 : Addr).add (((j : Int)).toNat * 2)))), .det (vI rj.1), .det (.bool false), .det (.bool false), .det (pT b1 3), .det (vS d.rA d.refs.length d.rc), .det (nV j), .det (.pointer (some ((ad82 : Addr).add (((j : Int)).toNat * 2)))), .det (.pointer (some ((ad82 : Addr).add (((j : Int)).toNat * 2)))), .det (vI rj.1), .det (pT b1 2), .det (vS d.wA d.words.length d.wc), .det (vI ((d.words.length : Nat) : Int)), .det (.bool true), .det (.bool true), .det (.bool true), dU, dU, dU]) fr (la (la (la (la (la (la (la (la (la (la (la (la (la (la (la (la (la (la (la (la (la (la (la lz dP) (dL ⟨b1, 3, none⟩ (vS d.rA d.refs.length d.rc) fun w_ hK => (blk_cell ((M24.then_ hK).get 0 rfl) rfl))) dP) (dIA d.rA ad80 d.refs.length 2 (j : Int) had81)) dP) (dL ((ad80 : Addr).add (((j : Int)).toNat * 2)) (vI rj.1) fun w_ hK => (rds_get ((M24.then_ hK).ro hR) had81 (i := j) (cs := refCells rj) (gm hrj) 0 _ rfl))) (dC (decide (rj.1 < 0)) hB30)) dP) dP) (dL ⟨b1, 3, none⟩ (vS d.rA d.refs.length d.rc) fun w_ hK => (blk_cell ((M24.then_ hK).get 0 rfl) rfl))) dP) (dIA d.rA ad82 d.refs.length 2 (j : Int) had83)) dP) (dL ((ad82 : Addr).add (((j : Int)).toNat * 2)) (vI rj.1) fun w_ hK => (rds_get ((M24.then_ hK).ro hR) had83 (i := j) (cs := refCells rj) (gm hrj) 0 _ rfl))) dP) (dL ⟨b1, 2, none⟩ (vS d.wA d.words.length d.wc) fun w_ hK => (blk_cell ((M24.then_ hK).get 0 rfl) rfl))) dP) (dC (decide (rj.1 ≥ ((d.words.length : Nat) : Int))) hB35)) dP) dP) dK) dK) dK) ?_
 intro aC w88 vs hK hv fr
 revert aC; refine zkp [(1, (pT b1 0)), (3, (nV j)), (44, (.bool true))] ?_
 have M89 := M24.then_ hK
 clear hK hv fr aC M24; clear vs
 refine zpn 6 <| zfe <| zcT <| zsp <| zre <| zbr <| zbr <| zo1 (.bool false) ?_
 have M90 := M89.od [] 0
 exact ⟨congrArg Value.bool (decide_eq_false (fun h_ => by obtain ⟨h2_, h3_, _⟩ := h_.1 j rj hrj; first | omega | exact c54 h2_)).symm, M90⟩
 have c30 : rj.1 < 0 := of_decide_eq_true hB30.symm
 obtain ⟨ad91, had92⟩ := rds_some (M24.ro hR) (cs := refCells rj) (i := j) (gm hrj)
 refine zkp [(1, (pT b1 0)), (3, (nV j))] ?_
 intro aC fr
 refine zdt 23 (N := 72) (env0 := [(1, (pT b1 0)), (3, (nV j))]) (specAt [.det (pT b1 3), .det (vS d.rA d.refs.length d.rc), .det (nV j), .det (.pointer (some ((ad91 : Addr).add (((j : Int)).toNat * 2)))), .det (.pointer (some ((ad91 : Addr).add (((j : Int)).toNat * 2)))), .det (vI rj.1), .det (.bool true), .det (.bool true), dU, dU, dU, dU, dU, dU, dU, dU, dU, dU, .det (.bool true), .det (.bool true), dU, dU, dU]) fr (la (la (la (la (la (la (la (la (la (la (la (la (la (la (la (la (la (la (la (la (la (la (la lz dP) (dL ⟨b1, 3, none⟩ (vS d.rA d.refs.length d.rc) fun w_ hK => (blk_cell ((M24.then_ hK).get 0 rfl) rfl))) dP) (dIA d.rA ad91 d.refs.length 2 (j : Int) had92)) dP) (dL ((ad91 : Addr).add (((j : Int)).toNat * 2)) (vI rj.1) fun w_ hK => (rds_get ((M24.then_ hK).ro hR) had92 (i := j) (cs := refCells rj) (gm hrj) 0 _ rfl))) (dC (decide (rj.1 < 0)) hB30)) dP) dK) dK) dK) dK) dK) dK) dK) dK) dK) dK) dP) dP) dK) dK) dK) ?_
 intro aC w97 vs hK hv fr
 revert aC; refine zkp [(1, (pT b1 0)), (3, (nV j)), (44, (.bool true))] ?_
 have M98 := M24.then_ hK
 clear hK hv fr aC M24; clear vs
 refine zpn 6 <| zfe <| zcT <| zsp <| zre <| zbr <| zbr <| zo1 (.bool false) ?_
 have M99 := M98.od [] 0
 exact ⟨congrArg Value.bool (decide_eq_false (fun h_ => by obtain ⟨h2_, h3_, _⟩ := h_.1 j rj hrj; first | omega | exact c54 h2_)).symm, M99⟩
 refine zex 0 <| zbh <| zsp <| zre <| zo1 (.bool true) ?_
 have M100 := M24.od [] 0
 obtain rfl : j = d.refs.length := by omega
 exact ⟨congrArg Value.bool (decide_eq_true (datQ_iff.2 ⟨hr, hnq⟩)).symm, M100⟩
end Go.Proofs.Ytdcgcjibgihbbaa
namespace Go.Proofs.Ytdcgcjibgihbbaa
open Go.Mor
theorem teck_c (l : List MEx) (ih : ∀ k, k ∈ l → ECk Try.prog k.kids) (A : Option Addr) (c : Nat) (most : Int) (T : List Res) (w : World) (hm0 : 0 ≤ most) (hm1 : most ≤ 1152921504606846976) (hT : RO noS w (.all T)) (hs : SubEs T A l) (hI : exsI l) (hll : LenOk l.length) :
    Calls Try.prog 47 #[(vS A l.length c), (vI most)] w (Ret fun v w' => ∃ r, v = .int .i64 r ∧ (Cnt most 0 (exsN l) r ∧ r ≤ most + 1) ∧ Mem noS w w' []) := by
 unfold LenOk at hll
 refine zen 35 [(vS A l.length c), (vI most)] Try.func47 ?_
 have hM := Mem.init w
 refine zsp <| zsp <| zsq <| zsp <| zbk 0 ?_
 intro aC fr
 refine zlp (fun n_ a_ w_ => ∃ (j : Nat) (nj : Int), n_ = l.length - j ∧ Fr a_ 35 [(0, (vS A l.length c)), (1, (vI most)), (5, (vI nj)), (6, (nV j))] ∧ Mem noS w w_ [] ∧ (j ≤ l.length) ∧ (Cnt most 0 (exsN (l.take j)) nj) ∧ (nj ≤ most + 1)) (n := _) ⟨0, 0, rfl, fr.kp [0, 1, 5, 6], hM, Nat.zero_le _, by rw [List.take_zero]; exact Cnt.zero, by omega⟩ ?_
 clear fr aC hM; rintro n aC w3 ⟨j, nj, rfl, fr, M4, hj, hc, hb⟩
 revert aC
 refine zsq <| zsr <| zpn 5 ?_
 obtain ⟨B7, hB7⟩ : ∃ B : Bool, B = decide (((j : Int) : Int) < ((l.length : Nat) : Int)) := ⟨_, rfl⟩
 refine zkp [(0, (vS A l.length c)), (1, (vI most)), (5, (vI nj)), (6, (nV j)), (11, (.bool (decide (((j : Int) : Int) < ((l.length : Nat) : Int)))))] ?_
 rw [← hB7]
 have iB7 : B7 = true ↔ (((j : Int) : Int) < ((l.length : Nat) : Int)) := by rw [hB7]; simp only [decide_eq_true_eq]
 clear hB7
 intro aC fr
 refine zpk 4 9 [15] fr (news := [(15, (.bool (B7 && decide ((nj : Int) ≤ most))))]) (by cases B7 <;> kernel_rfl) ?_
 intro aC fr
 revert aC
 refine zfe <| zcP (B7 && decide ((nj : Int) ≤ most)) ((((j : Int) : Int) < ((l.length : Nat) : Int)) ∧ ((nj : Int) ≤ most)) (by simp only [Bool.and_eq_true, decide_eq_true_eq, iB7]) (fun c12 => ?_) (fun c12 => ?_)
 refine zsk <| zsq <| zbk 1 <| zsr ?_
 have hcb := hc.le
 obtain ⟨k, hk⟩ := get_of (l := l) (i := j) (by omega)
 have hkm := List.mem_of_getElem? hk
 have hkI := exsI_mem hI hkm
 refine zpn 1 <| zar (nj + 1) <| zpn 1 <| zfe <| zsp <| zcD (((nj + 1) : Int) ≤ most) (fun c13 => ?_) (fun c13 => ?_)
 refine zrg <| zpn 3 ?_
 obtain ⟨ad14, rfl⟩ := rds_some (M4.ro (hT.sub hs.1)) (cs := k.cells) (i := j) (gm hk)
 refine zix ad14 l.length 4 (j : Int) <| zpn 1 ?_
 refine zld (((ad14 : Addr).add (((j : Int)).toNat * 4)).add 3) (vS k.A k.kids.length k.c) (rds_get (M4.ro (hT.sub hs.1)) rfl (i := j) (cs := k.cells) (gm hk) 3 _ rfl) ?_
 refine zpn 2 <| zar (most - (nj + 1)) <| zcl (vs := #[(vS k.A k.kids.length k.c), (vI (most - (nj + 1)))]) (ih k hkm k.A k.c _ T w3 (by omega) (by omega) (hT.at_ M4) (hs.2 k hkm).kids hkI.kids hkI.own.kids) ?_
 rintro _ w16 ⟨r15, rfl, ⟨hrk, hrb⟩, M17x⟩
 have M17 := M4.cl M17x
 have hrl := hrk.le
 refine zkp [(0, (vS (some ad14) l.length c)), (1, (vI most)), (6, (nV j)), (23, (vI (nj + 1))), (32, (vI r15))] <| zar ((nj + 1) + r15) <| zpn 1 <| zfe <| zrg <| zpn 1 <| zar ((j : Int) + 1) <| zpn 1 <| zfe ?_
 intro aC fr
 exact ⟨l.length - (j + 1), by omega, j + 1, ((nj + 1) + r15), rfl, fr.kp [0, 1, 5, 6], M17, by omega, ((hc.trans Cnt.one).trans hrk.sh).cast (by rw [exsN_take hk, exN_eq]; omega), by omega⟩
 refine zsk <| zrg <| zpn 1 <| zar ((j : Int) + 1) <| zpn 1 <| zfe ?_
 intro aC fr
 exact ⟨l.length - (j + 1), by omega, j + 1, (nj + 1), rfl, fr.kp [0, 1, 5, 6], M4, by omega, ((hc.trans Cnt.one).stop (k' := (exsN k.kids : Int)) (by omega) (by omega)).cast (by rw [exsN_take hk, exN_eq]; omega), by omega⟩
 refine zex 0 <| zbh <| zsp <| zre <| zo1 (vI nj) ?_
 exact ⟨nj, rfl, ⟨cnt_exs hc (by omega), hb⟩, M4⟩
theorem teck_step (l : List MEx) (ih : ∀ k, k ∈ l → ECk Try.prog k.kids) : ECk Try.prog l := fun A c most T w h0 h1 hT hs hI hll => teck_c l ih A c most T w h0 h1 hT hs hI hll
theorem teck_x (e : MEx) : ECk Try.prog e.kids := MEx.ind (p := fun e => ECk Try.prog e.kids) (fun e h => teck_step e.kids h) e
theorem teck_all (l : List MEx) : ECk Try.prog l := teck_step l (fun x _ => teck_x x)
set_option maxHeartbeats 1000000 in
theorem tsck_c (l : List MSt) (ih : ∀ x, x ∈ l → SCk Try.prog x.body ∧ SCk Try.prog x.els) (A : Option Addr) (c : Nat) (most : Int) (T : List Res) (w : World) (hm0 : 0 ≤ most) (hm1 : most ≤ 1152921504606846976) (hT : RO noS w (.all T)) (hs : SubXs T A l) (hI : stsI l) (hll : LenOk l.length) :
    Calls Try.prog 24 #[(vS A l.length c), (vI most)] w (Ret fun v w' => ∃ r, v = .int .i64 r ∧ (Cnt most 0 (stsN l) r ∧ r ≤ most + 2) ∧ Mem noS w w' []) := by
 unfold LenOk at hll
 refine zen 59 [(vS A l.length c), (vI most)] Try.func24 ?_
 have hM := Mem.init w
 refine zsp <| zsp <| zsq <| zsp <| zbk 0 ?_
 intro aC fr
 refine zlp (fun n_ a_ w_ => ∃ (j : Nat) (nj : Int), n_ = l.length - j ∧ Fr a_ 59 [(0, (vS A l.length c)), (1, (vI most)), (5, (vI nj)), (6, (nV j))] ∧ Mem noS w w_ [] ∧ (j ≤ l.length) ∧ (Cnt most 0 (stsN (l.take j)) nj) ∧ (nj ≤ most + 2)) (n := _) ⟨0, 0, rfl, fr.kp [0, 1, 5, 6], hM, Nat.zero_le _, by rw [List.take_zero]; exact Cnt.zero, by omega⟩ ?_
 clear fr aC hM; rintro n aC w3 ⟨j, nj, rfl, fr, M4, hj, hc, hb⟩
 revert aC
 refine zsq <| zsr <| zpn 5 ?_
 obtain ⟨B7, hB7⟩ : ∃ B : Bool, B = decide (((j : Int) : Int) < ((l.length : Nat) : Int)) := ⟨_, rfl⟩
 refine zkp [(0, (vS A l.length c)), (1, (vI most)), (5, (vI nj)), (6, (nV j)), (11, (.bool (decide (((j : Int) : Int) < ((l.length : Nat) : Int)))))] ?_
 rw [← hB7]
 have iB7 : B7 = true ↔ (((j : Int) : Int) < ((l.length : Nat) : Int)) := by rw [hB7]; simp only [decide_eq_true_eq]
 clear hB7
 intro aC fr
 refine zpk 4 9 [15] fr (news := [(15, (.bool (B7 && decide ((nj : Int) ≤ most))))]) (by cases B7 <;> kernel_rfl) ?_
 intro aC fr
 revert aC
 refine zfe <| zcP (B7 && decide ((nj : Int) ≤ most)) ((((j : Int) : Int) < ((l.length : Nat) : Int)) ∧ ((nj : Int) ≤ most)) (by simp only [Bool.and_eq_true, decide_eq_true_eq, iB7]) (fun c12 => ?_) (fun c12 => ?_)
 refine zsk <| zsq <| zbk 1 <| zsr ?_
 have hcb := hc.le
 obtain ⟨x, hx⟩ := get_of (l := l) (i := j) (by omega)
 have hxm := List.mem_of_getElem? hx
 have hxI := stsI_mem hI hxm
 have hsx := hs.2 x hxm
 refine zpn 1 <| zar (nj + 1) <| zpn 2 ?_
 obtain ⟨ad13, rfl⟩ := rds_some (M4.ro (hT.sub hs.1)) (cs := x.cells) (i := j) (gm hx)
 refine zix ad13 l.length 5 (j : Int) <| zpn 1 ?_
 refine zld (((ad13 : Addr).add (((j : Int)).toNat * 5)).add 2) (vS x.eA x.exprs.length x.ec) (rds_get (M4.ro (hT.sub hs.1)) rfl (i := j) (cs := x.cells) (gm hx) 2 _ rfl) ?_
 refine zpn 2 <| zar (most - nj) <| zcl (vs := #[(vS x.eA x.exprs.length x.ec), (vI (most - nj))]) (teck_all x.exprs x.eA x.ec _ T w3 (by omega) (by omega) (hT.at_ M4) hsx.exprs hxI.exprs hxI.own.exprs) ?_
 rintro _ w15 ⟨r14, rfl, ⟨hre, hqe⟩, M16x⟩
 have M16 := M4.cl M16x
 have hze := hre.le
 refine zar ((nj + 1) + r14) <| zpn 1 <| zfe <| zsq <| zsp <| zcD ((((nj + 1) + r14) : Int) ≤ most) (fun c17 => ?_) (fun c17 => ?_)
 refine zrg <| zpn 3 <| zix ad13 l.length 5 (j : Int) <| zkp [(0, (vS (some ad13) l.length c)), (1, (vI most)), (5, (vI ((nj + 1) + r14))), (6, (nV j)), (33, (vI ((nj + 1) + r14))), (36, (.pointer (some ((ad13 : Addr).add (((j : Int)).toNat * 5)))))] <| zpn 1 ?_
 refine zld (((ad13 : Addr).add (((j : Int)).toNat * 5)).add 3) (vS x.bA x.body.length x.bc) (rds_get (M16.ro (hT.sub hs.1)) rfl (i := j) (cs := x.cells) (gm hx) 3 _ rfl) ?_
 refine zpn 2 <| zar (most - ((nj + 1) + r14)) <| zcl (vs := #[(vS x.bA x.body.length x.bc), (vI (most - ((nj + 1) + r14)))]) ((ih x hxm).1 x.bA x.bc _ T w15 (by omega) (by omega) (hT.at_ M16) hsx.body hxI.body hxI.own.body) ?_
 rintro _ w19 ⟨r18, rfl, ⟨hrb, hqb⟩, M20x⟩
 have M20 := M16.cl M20x
 have hzb := hrb.le
 refine zar (((nj + 1) + r14) + r18) <| zpn 1 <| zfe <| zsp <| zcD (((((nj + 1) + r14) + r18) : Int) ≤ most) (fun c21 => ?_) (fun c21 => ?_)
 refine zrg <| zpn 3 <| zix ad13 l.length 5 (j : Int) <| zpn 1 ?_
 refine zld (((ad13 : Addr).add (((j : Int)).toNat * 5)).add 4) (vS x.lA x.els.length x.lc) (rds_get (M20.ro (hT.sub hs.1)) rfl (i := j) (cs := x.cells) (gm hx) 4 _ rfl) ?_
 refine zkp [(0, (vS (some ad13) l.length c)), (1, (vI most)), (5, (vI (((nj + 1) + r14) + r18))), (6, (nV j)), (47, (vI (((nj + 1) + r14) + r18))), (52, (vS x.lA x.els.length x.lc))] <| zpn 2 <| zar (most - (((nj + 1) + r14) + r18)) <| zcl (vs := #[(vS x.lA x.els.length x.lc), (vI (most - (((nj + 1) + r14) + r18)))]) ((ih x hxm).2 x.lA x.lc _ T w19 (by omega) (by omega) (hT.at_ M20) hsx.els hxI.els hxI.own.els) ?_
 rintro _ w23 ⟨r22, rfl, ⟨hrl, hql⟩, M24x⟩
 have M24 := M20.cl M24x
 have hzl := hrl.le
 refine zar ((((nj + 1) + r14) + r18) + r22) <| zpn 1 <| zfe <| zrg <| zpn 1 <| zar ((j : Int) + 1) <| zpn 1 <| zfe ?_
 intro aC fr
 exact ⟨l.length - (j + 1), by omega, j + 1, ((((nj + 1) + r14) + r18) + r22), rfl, fr.kp [0, 1, 5, 6], M24, by omega, ((((hc.trans Cnt.one).trans hre.sh1).trans hrb.sh).trans hrl.sh).cast (by rw [stsN_take hx, stN_eq]; omega), by omega⟩
 refine zsk <| zrg <| zpn 1 <| zar ((j : Int) + 1) <| zpn 1 <| zfe ?_
 intro aC fr
 exact ⟨l.length - (j + 1), by omega, j + 1, (((nj + 1) + r14) + r18), rfl, fr.kp [0, 1, 5, 6], M20, by omega, ((((hc.trans Cnt.one).trans hre.sh1).trans hrb.sh).stop (k' := (stsN x.els : Int)) (by omega) (by omega)).cast (by rw [stsN_take hx, stN_eq]; omega), by omega⟩
 refine zsk <| zsp <| zcD ((((nj + 1) + r14) : Int) ≤ most) (fun c29 => ?_) (fun c29 => ?_)
 refine zrg <| zpn 3 <| zix ad13 l.length 5 (j : Int) <| zkp [(0, (vS (some ad13) l.length c)), (1, (vI most)), (5, (vI ((nj + 1) + r14))), (6, (nV j)), (47, (vI ((nj + 1) + r14))), (50, (.pointer (some ((ad13 : Addr).add (((j : Int)).toNat * 5)))))] <| zpn 1 ?_
 refine zld (((ad13 : Addr).add (((j : Int)).toNat * 5)).add 4) (vS x.lA x.els.length x.lc) (rds_get (M16.ro (hT.sub hs.1)) rfl (i := j) (cs := x.cells) (gm hx) 4 _ rfl) ?_
 refine zpn 2 <| zar (most - ((nj + 1) + r14)) <| zcl (vs := #[(vS x.lA x.els.length x.lc), (vI (most - ((nj + 1) + r14)))]) ((ih x hxm).2 x.lA x.lc _ T w15 (by omega) (by omega) (hT.at_ M16) hsx.els hxI.els hxI.own.els) ?_
 rintro _ w31 ⟨r30, rfl, ⟨hrl, hql⟩, M32x⟩
 have M32 := M16.cl M32x
 have hzl := hrl.le
 refine zar (((nj + 1) + r14) + r30) <| zpn 1 <| zfe <| zrg <| zpn 1 <| zar ((j : Int) + 1) <| zpn 1 <| zfe ?_
 intro aC fr
 exact ⟨l.length - (j + 1), by omega, j + 1, (((nj + 1) + r14) + r30), rfl, fr.kp [0, 1, 5, 6], M32, by omega, ((((hc.trans Cnt.one).trans hre.sh1).stop (k' := (stsN x.body : Int)) (by omega) (by omega)).trans hrl.sh).cast (by rw [stsN_take hx, stN_eq]; omega), by omega⟩
 refine zsk <| zrg <| zpn 1 <| zar ((j : Int) + 1) <| zkp [(0, (vS (some ad13) l.length c)), (1, (vI most)), (5, (vI ((nj + 1) + r14))), (17, (vI ((j : Int) + 1)))] <| zpn 1 <| zfe ?_
 intro aC fr
 exact ⟨l.length - (j + 1), by omega, j + 1, ((nj + 1) + r14), rfl, fr.kp [0, 1, 5, 6], M16, by omega, ((((hc.trans Cnt.one).trans hre.sh1).stop (k' := (stsN x.body : Int)) (by omega) (by omega)).stop (k' := (stsN x.els : Int)) (by omega) (by omega)).cast (by rw [stsN_take hx, stN_eq]; omega), by omega⟩
 refine zex 0 <| zbh <| zsp <| zre <| zo1 (vI nj) ?_
 exact ⟨nj, rfl, ⟨cnt_sts hc (by omega), hb⟩, M4⟩
theorem tsck_step (l : List MSt) (ih : ∀ x, x ∈ l → SCk Try.prog x.body ∧ SCk Try.prog x.els) : SCk Try.prog l := fun A c most T w h0 h1 hT hs hI hll => tsck_c l ih A c most T w h0 h1 hT hs hI hll
theorem tsck_x (x : MSt) : SCk Try.prog x.body ∧ SCk Try.prog x.els := MSt.ind (p := fun x => SCk Try.prog x.body ∧ SCk Try.prog x.els) (fun e hb hl => ⟨tsck_step e.body hb, tsck_step e.els hl⟩) x
theorem tsck_all (l : List MSt) : SCk Try.prog l := tsck_step l (fun x _ => tsck_x x)
end Go.Proofs.Ytdcgcjibgihbbaa
namespace Go.Proofs.Ytdcgcjibgihbbaa
open Go.Mor
set_option maxHeartbeats 1000000 in
theorem tgreat_c (m : TMod) (w : World) (hR : RO noS w (.all m.parts)) (hI : m.In0) :
    Calls Try.prog 9 #[(.agg (MC m).toArray)] w (Ret fun v w' => ∃ B, v = .bool B ∧ (B = false → SmB m) ∧ Mem noS w w' []) := by
 have hnf := hI.nf
 have hnd := hI.nd
 unfold LenOk at hnf hnd
 refine zen 77 [(.agg (MC m).toArray)] Try.func9 ?_
 have hM := Mem.init w
 refine zsr <| zbx hM 25 (.agg (MC m).toArray) (MC m) fun b1 w2 hb1 M3 => ?_
 replace M3 := M3.nf
 clear hM
 refine zpn 1 <| zfe <| zsr <| zpn 1 <| zld ⟨b1, 1, none⟩ (vS m.fA m.fns.length m.fc) (blk_cell (M3.get 0 rfl) rfl) <| zpn 2 <| zld ⟨b1, 2, none⟩ (vS m.dA m.dats.length m.dc) (blk_cell (M3.get 0 rfl) rfl) <| zpn 1 <| zar (((m.fns.length : Nat) : Int) + ((m.dats.length : Nat) : Int)) <| zpn 1 ?_
 refine zfe <| zsq <| zsp <| zbk 0 ?_
 intro aC fr
 refine zlp (fun n_ a_ w_ => ∃ (j : Nat) (nj : Int), n_ = m.fns.length - j ∧ Fr a_ 77 [(1, (pT b1 0)), (3, (vI nj)), (4, (nV j))] ∧ Mem noS w w_ [.blk b1 25 (MC m)] ∧ (j ≤ m.fns.length) ∧ (nj ≤ 25000 → nj = ((m.fns.length + m.dats.length + fnsN (m.fns.take j) : Nat) : Int)) ∧ (0 ≤ nj) ∧ (nj ≤ 562949953500000)) (n := _) ⟨0, (((m.fns.length : Nat) : Int) + ((m.dats.length : Nat) : Int)), rfl, fr.kp [1, 3, 4], M3, Nat.zero_le _, fun _ => by rw [List.take_zero]; show _ = ((m.fns.length + m.dats.length + 0 : Nat) : Int); omega, by omega, by omega⟩ ?_
 clear fr aC M3; rintro n aC w6 ⟨j, nj, rfl, fr, M7, hj, hc, hn0, hn1⟩
 revert aC
 refine zsq <| zsr <| zpn 2 <| zld ⟨b1, 1, none⟩ (vS m.fA m.fns.length m.fc) (blk_cell (M7.get 0 rfl) rfl) <| zpn 3 ?_
 obtain ⟨B10, hB10⟩ : ∃ B : Bool, B = decide (((j : Int) : Int) < ((m.fns.length : Nat) : Int)) := ⟨_, rfl⟩
 refine zkp [(1, (pT b1 0)), (3, (vI nj)), (4, (nV j)), (18, (.bool (decide (((j : Int) : Int) < ((m.fns.length : Nat) : Int)))))] ?_
 rw [← hB10]
 have iB10 : B10 = true ↔ (((j : Int) : Int) < ((m.fns.length : Nat) : Int)) := by rw [hB10]; simp only [decide_eq_true_eq]
 clear hB10
 intro aC fr
 refine zpk 3 9 [21] fr (news := [(21, (.bool (B10 && decide ((nj : Int) ≤ 25000))))]) (by cases B10 <;> kernel_rfl) ?_
 intro aC fr
 revert aC
 refine zfe <| zcP (B10 && decide ((nj : Int) ≤ 25000)) ((((j : Int) : Int) < ((m.fns.length : Nat) : Int)) ∧ ((nj : Int) ≤ 25000)) (by simp only [Bool.and_eq_true, decide_eq_true_eq, iB10]) (fun c15 => ?_) (fun c15 => ?_)
 refine zsk <| zsq <| zbk 1 <| zrg ?_
 obtain ⟨f, hf⟩ := get_of (l := m.fns) (i := j) (by omega)
 have hfm := List.mem_of_getElem? hf
 have hfI := hI.fns f hfm
 refine zpn 2 <| zld ⟨b1, 1, none⟩ (vS m.fA m.fns.length m.fc) (blk_cell (M7.get 0 rfl) rfl) <| zpn 1 ?_
 obtain ⟨ad16, had17⟩ := rds_some (M7.ro hR.m_fns) (cs := f.cells) (i := j) (gm hf)
 intro aC fr
 refine From_ixA (some 28) m.fA ad16 m.fns.length 5 (j : Int) fr (by kernel_rfl) had17 (by omega) (by omega) ?_
 intro aC fr
 revert aC
 refine zpn 1 ?_
 refine zld (((ad16 : Addr).add (((j : Int)).toNat * 5)).add 4) (vS f.A f.body.length f.c) (rds_get (M7.ro hR.m_fns) had17 (i := j) (cs := f.cells) (gm hf) 4 _ rfl) ?_
 refine zpn 1 <| zar (25000 - nj) <| zcl (vs := #[(vS f.A f.body.length f.c), (vI (25000 - nj))]) (tsck_all f.body f.A f.c _ _ w6 (by omega) (by omega) (hR.m_tree.at_ M7) (sub_fn hfm) hfI.body hfI.len) ?_
 rintro _ w23 ⟨r22, rfl, ⟨hrk, hrb⟩, M24x⟩
 have M24 := M7.cl M24x
 unfold Cnt at hrk
 refine zar (nj + r22) <| zpn 1 <| zfe <| zrg <| zpn 1 <| zar ((j : Int) + 1) <| zkp [(1, (pT b1 0)), (3, (vI (nj + r22))), (23, (vI ((j : Int) + 1)))] <| zpn 1 <| zfe ?_
 intro aC fr
 exact ⟨m.fns.length - (j + 1), by omega, j + 1, (nj + r22), rfl, fr.kp [1, 3, 4], (M24.tk 1), by omega, fun h_ => by have e1 := hc (by omega); rw [fnsN_take hf]; omega, by omega, by omega⟩
 refine zex 0 <| zbh <| zsq <| zsp <| zbk 2 ?_
 intro aC fr
 refine zlp (fun n_ a_ w_ => ∃ (k : Nat) (nk : Int), n_ = m.dats.length - k ∧ Fr a_ 77 [(1, (pT b1 0)), (3, (vI nk)), (5, (nV k))] ∧ Mem noS w w_ [.blk b1 25 (MC m)] ∧ (k ≤ m.dats.length) ∧ (nk ≤ 25000 → nk = ((m.fns.length + m.dats.length + fnsN m.fns + datS (m.dats.take k) : Nat) : Int)) ∧ (0 ≤ nk) ∧ (nk ≤ 562949953600000)) (n := _) ⟨0, nj, rfl, fr.kp [1, 3, 5], M7, Nat.zero_le _, fun h_ => by have e1 := hc h_; rw [List.take_of_length_le (by omega)] at e1; rw [List.take_zero]; show _ = ((m.fns.length + m.dats.length + fnsN m.fns + 0 : Nat) : Int); omega, by omega, by omega⟩ ?_
 clear fr aC M7; rintro n aC w29 ⟨k, nk, rfl, fr, M30, hk, hd, hk0, hk1⟩
 revert aC
 refine zsq <| zsr <| zpn 2 <| zld ⟨b1, 2, none⟩ (vS m.dA m.dats.length m.dc) (blk_cell (M30.get 0 rfl) rfl) <| zpn 3 ?_
 obtain ⟨B33, hB33⟩ : ∃ B : Bool, B = decide (((k : Int) : Int) < ((m.dats.length : Nat) : Int)) := ⟨_, rfl⟩
 refine zkp [(1, (pT b1 0)), (3, (vI nk)), (5, (nV k)), (40, (.bool (decide (((k : Int) : Int) < ((m.dats.length : Nat) : Int)))))] ?_
 rw [← hB33]
 have iB33 : B33 = true ↔ (((k : Int) : Int) < ((m.dats.length : Nat) : Int)) := by rw [hB33]; simp only [decide_eq_true_eq]
 clear hB33
 intro aC fr
 refine zpk 3 9 [43] fr (news := [(43, (.bool (B33 && decide ((nk : Int) ≤ 25000))))]) (by cases B33 <;> kernel_rfl) ?_
 intro aC fr
 revert aC
 refine zfe <| zcP (B33 && decide ((nk : Int) ≤ 25000)) ((((k : Int) : Int) < ((m.dats.length : Nat) : Int)) ∧ ((nk : Int) ≤ 25000)) (by simp only [Bool.and_eq_true, decide_eq_true_eq, iB33]) (fun c38 => ?_) (fun c38 => ?_)
 refine zsk <| zsq <| zbk 3 ?_
 obtain ⟨d, hd1⟩ := get_of (l := m.dats) (i := k) (by omega)
 have hdI := hI.dats d (List.mem_of_getElem? hd1)
 have hdw := hdI.2.1
 have hdr := hdI.2.2.1
 unfold LenOk at hdw hdr
 obtain ⟨ad39, had40⟩ := rds_some (M30.ro hR.m_dats) (cs := d.cells) (i := k) (gm hd1)
 obtain ⟨ad41, had42⟩ := rds_some (M30.ro hR.m_dats) (cs := d.cells) (i := k) (gm hd1)
 refine zkp [(1, (pT b1 0)), (3, (vI nk)), (5, (nV k))] ?_
 intro aC fr
 refine zdt 18 (N := 77) (env0 := [(1, (pT b1 0)), (3, (vI nk)), (5, (nV k))]) (specAt [.det (vI nk), .det (pT b1 2), .det (vS m.dA m.dats.length m.dc), .det (nV k), .det (.pointer (some ((ad39 : Addr).add (((k : Int)).toNat * 4)))), .det (.pointer (some (((ad39 : Addr).add (((k : Int)).toNat * 4)).add 2))), .det (vS d.wA d.words.length d.wc), .det (vI ((d.words.length : Nat) : Int)), .det (vI (min ((d.words.length : Nat) : Int) 30000)), .det (vI (nk + (min ((d.words.length : Nat) : Int) 30000))), .det (pT b1 2), .det (vS m.dA m.dats.length m.dc), .det (nV k), .det (.pointer (some ((ad41 : Addr).add (((k : Int)).toNat * 4)))), .det (.pointer (some (((ad41 : Addr).add (((k : Int)).toNat * 4)).add 3))), .det (vS d.rA d.refs.length d.rc), .det (vI ((d.refs.length : Nat) : Int)), .det (vI (min ((d.refs.length : Nat) : Int) 30000))]) fr (la (la (la (la (la (la (la (la (la (la (la (la (la (la (la (la (la (la lz dP) dP) (dL ⟨b1, 2, none⟩ (vS m.dA m.dats.length m.dc) fun w_ hK => (blk_cell ((M30.then_ hK).get 0 rfl) rfl))) dP) (dIA m.dA ad39 m.dats.length 4 (k : Int) had40)) dP) (dL (((ad39 : Addr).add (((k : Int)).toNat * 4)).add 2) (vS d.wA d.words.length d.wc) fun w_ hK => (rds_get ((M30.then_ hK).ro hR.m_dats) had40 (i := k) (cs := d.cells) (gm hd1) 2 _ rfl))) dP) (dMN .i64 ((d.words.length : Nat) : Int) 30000 (min ((d.words.length : Nat) : Int) 30000) (.tmp 53) (.const (vI 30000)) #[3, 3] 3 none (by omega))) (dA (nk + (min ((d.words.length : Nat) : Int) 30000)))) dP) (dL ⟨b1, 2, none⟩ (vS m.dA m.dats.length m.dc) fun w_ hK => (blk_cell ((M30.then_ hK).get 0 rfl) rfl))) dP) (dIA m.dA ad41 m.dats.length 4 (k : Int) had42)) dP) (dL (((ad41 : Addr).add (((k : Int)).toNat * 4)).add 3) (vS d.rA d.refs.length d.rc) fun w_ hK => (rds_get ((M30.then_ hK).ro hR.m_dats) had42 (i := k) (cs := d.cells) (gm hd1) 3 _ rfl))) dP) (dMN .i64 ((d.refs.length : Nat) : Int) 30000 (min ((d.refs.length : Nat) : Int) 30000) (.tmp 62) (.const (vI 30000)) #[3, 3] 3 none (by omega))) ?_
 intro aC w47 vs hK hv fr
 revert aC; refine zkp [(1, (pT b1 0)), (5, (nV k)), (55, (vI (nk + (min ((d.words.length : Nat) : Int) 30000)))), (63, (vI (min ((d.refs.length : Nat) : Int) 30000)))] ?_
 have M48 := M30.then_ hK
 clear hK hv fr aC M30; clear vs
 refine zar ((nk + (min ((d.words.length : Nat) : Int) 30000)) + (min ((d.refs.length : Nat) : Int) 30000)) <| zpn 1 <| zfe <| zrg <| zpn 1 <| zar ((k : Int) + 1) <| zpn 1 <| zfe ?_
 intro aC fr
 exact ⟨m.dats.length - (k + 1), by omega, k + 1, ((nk + (min ((d.words.length : Nat) : Int) 30000)) + (min ((d.refs.length : Nat) : Int) 30000)), rfl, fr.kp [1, 3, 5], (M48.tk 1), by omega, fun h_ => by have e1 := hd (by omega); rw [datS_take hd1]; omega, by omega, by omega⟩
 refine zex 2 <| zbh <| zsr <| zpn 3 ?_
 obtain ⟨B51, hB51⟩ : ∃ B : Bool, B = decide ((nk : Int) > 25000) := ⟨_, rfl⟩
 refine zkp [(1, (pT b1 0)), (67, (.bool (decide ((nk : Int) > 25000))))] ?_
 rw [← hB51]
 have iB51 : B51 = true ↔ ((nk : Int) > 25000) := by rw [hB51]; simp only [decide_eq_true_eq]
 clear hB51
 intro aC fr
 refine zpk 1 4 [68] fr (news := [(68, (cond (!B51) (pT b1 1) undef))]) (by cases B51 <;> kernel_rfl) ?_
 intro aC fr
 refine From_either (B := (!B51)) (d := (some 69)) (vS m.fA m.fns.length m.fc) fr (by cases B51 <;> kernel_rfl) (fun hB hh => ?_) ?_
 cases B51 <;> try exact absurd hB (by decide)
 have c51 : ¬ ((nk : Int) > 25000) := (fun h => Bool.noConfusion (iB51.2 h) : ¬ ((nk : Int) > 25000))
 exact From_ld (some 69) ⟨b1, 1, none⟩ fr (by kernel_rfl) (vS m.fA m.fns.length m.fc) (blk_cell (M30.get 0 rfl) rfl) hh
 intro aC fr
 refine zpk 2 7 [70, 71] fr (news := [(70, (cond (!B51) (vI ((m.fns.length : Nat) : Int)) undef)), (71, (cond (!B51) (pT b1 2) undef))]) (by cases B51 <;> kernel_rfl) ?_
 intro aC fr
 refine From_either (B := (!B51)) (d := (some 72)) (vS m.dA m.dats.length m.dc) fr (by cases B51 <;> kernel_rfl) (fun hB hh => ?_) ?_
 cases B51 <;> try exact absurd hB (by decide)
 have c51 : ¬ ((nk : Int) > 25000) := (fun h => Bool.noConfusion (iB51.2 h) : ¬ ((nk : Int) > 25000))
 exact From_ld (some 72) ⟨b1, 2, none⟩ fr (by kernel_rfl) (vS m.dA m.dats.length m.dc) (blk_cell (M30.get 0 rfl) rfl) hh
 intro aC fr
 refine zpk 1 9 [73] fr (news := [(73, (cond (!B51) (vI ((m.dats.length : Nat) : Int)) undef))]) (by cases B51 <;> kernel_rfl) ?_
 intro aC fr
 refine From_either (B := (!B51)) (d := (some 74)) (vI (((m.fns.length : Nat) : Int) + ((m.dats.length : Nat) : Int))) fr (by cases B51 <;> kernel_rfl) (fun hB hh => ?_) ?_
 cases B51 <;> try exact absurd hB (by decide)
 have c51 : ¬ ((nk : Int) > 25000) := (fun h => Bool.noConfusion (iB51.2 h) : ¬ ((nk : Int) > 25000))
 exact From_ar (some 74) (((m.fns.length : Nat) : Int) + ((m.dats.length : Nat) : Int)) fr (z0 := ((m.fns.length : Nat) : Int) + ((m.dats.length : Nat) : Int)) (by kernel_rfl) rfl (by omega) (by omega) hh
 intro aC fr
 refine zpk 3 13 [2, 76] fr (news := [(2, (.bool (B51 || decide (((((m.fns.length : Nat) : Int) + ((m.dats.length : Nat) : Int)) : Int) > 200)))), (76, (.bool (B51 || decide (((((m.fns.length : Nat) : Int) + ((m.dats.length : Nat) : Int)) : Int) > 200))))]) (by cases B51 <;> kernel_rfl) ?_
 intro aC fr
 revert aC
 refine zfe <| zre <| zo1 (.bool (B51 || decide (((((m.fns.length : Nat) : Int) + ((m.dats.length : Nat) : Int)) : Int) > 200))) ?_
 have M68 := M30.od [] 0
 have hR : (B51 || decide (((((m.fns.length : Nat) : Int) + ((m.dats.length : Nat) : Int)) : Int) > 200)) = true ↔ (((nk : Int) > 25000) ∨ (((((m.fns.length : Nat) : Int) + ((m.dats.length : Nat) : Int)) : Int) > 200)) := by simp only [Bool.or_eq_true, decide_eq_true_eq, iB51]
 refine ⟨_, rfl, fun h_ => ?_, M68⟩
 have hn_ : ¬ (((nk : Int) > 25000) ∨ (((((m.fns.length : Nat) : Int) + ((m.dats.length : Nat) : Int)) : Int) > 200)) := fun h2 => Bool.noConfusion (h_.symm.trans (hR.2 h2))
 have hD : nk ≤ 25000 → nk = ((m.fns.length + m.dats.length + fnsN m.fns + datS m.dats : Nat) : Int) := fun h_ => by have e1 := hd h_; rw [List.take_of_length_le (by omega)] at e1; exact e1
 exact smB_of hD (by omega) (by omega)
set_option maxHeartbeats 1000000 in
theorem theavy_c (ms : List TMod) (mA : Option Addr) (mc : Nat) (bg : List ByteArray) (gA : Option Addr) (gc : Nat) (mem : Int) (inp : List Int) (iA : Option Addr) (ic : Nat) (fuel : Int) (w : World) (hI : RunIn0 w ms mA bg gA inp iA ic) :
    Calls Try.prog 14 #[(vS mA ms.length mc), (vS gA bg.length gc), (vI mem), (vS iA inp.length ic), (vI fuel)] w (Ret fun v w' => ∃ B, v = .bool B ∧ (B = false → HvB ms bg mem inp fuel) ∧ Mem noS w w' []) := by
 have hl1 := hI.len
 have hl2 := hI.glen
 have hl3 := hI.ill
 unfold LenOk at hl1 hl2 hl3
 refine zen 68 [(vS mA ms.length mc), (vS gA bg.length gc), (vI mem), (vS iA inp.length ic), (vI fuel)] Try.func14 ?_
 have hM := Mem.init w
 refine zsp <| zsp <| zsq <| zsp <| zbk 0 ?_
 intro aC fr
 refine zlp (fun n_ a_ w_ => ∃ (j : Nat) (nj : Int), n_ = ms.length - j ∧ Fr a_ 68 [(0, (vS mA ms.length mc)), (1, (vS gA bg.length gc)), (2, (vI mem)), (3, (vS iA inp.length ic)), (4, (vI fuel)), (11, (vI nj)), (12, (nV j))] ∧ Mem noS w w_ [] ∧ (j ≤ ms.length) ∧ (j ≤ 10) ∧ (∀ (i : Nat) (m : TMod), i < j → ms[i]? = some m → SmB m) ∧ (nj = (((flF (ms.take j)).length + (flD (ms.take j)).length : Nat) : Int)) ∧ (nj ≤ 200 * j)) (n := _) ⟨0, 0, rfl, fr.kp [0, 1, 2, 3, 4, 11, 12], hM, Nat.zero_le _, Nat.zero_le _, fun i _ h_ => absurd h_ (Nat.not_lt_zero _), by simp [flF, flD], by omega⟩ ?_
 clear fr aC hM; rintro n aC w3 ⟨j, nj, rfl, fr, M4, hj, hj2, hg, hc, hb⟩
 revert aC
 refine zsq <| zsr <| zpn 5 ?_
 obtain ⟨B7, hB7⟩ : ∃ B : Bool, B = decide (((j : Int) : Int) < ((ms.length : Nat) : Int)) := ⟨_, rfl⟩
 refine zkp [(0, (vS mA ms.length mc)), (1, (vS gA bg.length gc)), (2, (vI mem)), (3, (vS iA inp.length ic)), (4, (vI fuel)), (11, (vI nj)), (12, (nV j)), (17, (.bool (decide (((j : Int) : Int) < ((ms.length : Nat) : Int)))))] ?_
 rw [← hB7]
 have iB7 : B7 = true ↔ (((j : Int) : Int) < ((ms.length : Nat) : Int)) := by rw [hB7]; simp only [decide_eq_true_eq]
 clear hB7
 intro aC fr
 refine zpk 3 8 [20] fr (news := [(20, (.bool (B7 && decide (((j : Int) : Int) < 10))))]) (by cases B7 <;> kernel_rfl) ?_
 intro aC fr
 revert aC
 refine zfe <| zcP (B7 && decide (((j : Int) : Int) < 10)) ((((j : Int) : Int) < ((ms.length : Nat) : Int)) ∧ (((j : Int) : Int) < 10)) (by simp only [Bool.and_eq_true, decide_eq_true_eq, iB7]) (fun c12 => ?_) (fun c12 => ?_)
 refine zsk <| zsq <| zbk 1 <| zsq <| zsr ?_
 obtain ⟨m, hm⟩ := get_of (l := ms) (i := j) (by omega)
 have hmm := List.mem_of_getElem? hm
 refine zpn 2 ?_
 obtain ⟨ad13, rfl⟩ := rds_some (M4.ro hI.mods.mcells) (cs := m.cells) (i := j) (gm hm)
 refine zix ad13 ms.length 3 (j : Int) ?_
 refine zls ((ad13 : Addr).add (((j : Int)).toNat * 3)) (MC m) (rds_cells (i := j) (M4.ro hI.mods.mcells) rfl (gm hm)) ?_
 refine zcl (tgreat_c m w3 ((hI.mods.mod_of hmm).at_ M4) (hI.ins m hmm)) ?_
 rintro _ w15 ⟨B14, rfl, hBg, M16x⟩
 have M16 := M4.cl M16x
 refine zfe <| zcP B14 (B14 = true) Iff.rfl (fun c17 => ?_) (fun c17 => ?_)
 refine zsp <| zre <| zbr <| zbr <| zo1 (.bool true) ?_
 exact ⟨_, rfl, fun h_ => Bool.noConfusion h_, M16⟩
 replace c17 : B14 = false := Bool.eq_false_iff.2 c17
 have hSm := hBg c17
 have hSc := hSm.cnt
 have ht1 := flF_take hm
 have ht2 := flD_take hm
 refine zsk <| zkp [(0, (vS (some ad13) ms.length mc)), (1, (vS gA bg.length gc)), (2, (vI mem)), (3, (vS iA inp.length ic)), (4, (vI fuel)), (11, (vI nj)), (12, (nV j))] ?_
 intro aC fr
 refine zdt 14 (N := 68) (env0 := [(0, (vS (some ad13) ms.length mc)), (1, (vS gA bg.length gc)), (2, (vI mem)), (3, (vS iA inp.length ic)), (4, (vI fuel)), (11, (vI nj)), (12, (nV j))]) (specAt [.det (vI nj), .det (vS (some ad13) ms.length mc), .det (nV j), .det (.pointer (some ((ad13 : Addr).add (((j : Int)).toNat * 3)))), .det (.pointer (some (((ad13 : Addr).add (((j : Int)).toNat * 3)).add 1))), .det (vS m.fA m.fns.length m.fc), .det (vI ((m.fns.length : Nat) : Int)), .det (vI (nj + ((m.fns.length : Nat) : Int))), .det (vS (some ad13) ms.length mc), .det (nV j), .det (.pointer (some ((ad13 : Addr).add (((j : Int)).toNat * 3)))), .det (.pointer (some (((ad13 : Addr).add (((j : Int)).toNat * 3)).add 2))), .det (vS m.dA m.dats.length m.dc), .det (vI ((m.dats.length : Nat) : Int))]) fr (la (la (la (la (la (la (la (la (la (la (la (la (la (la lz dP) dP) dP) (dI ad13 ms.length 3 (j : Int))) dP) (dL (((ad13 : Addr).add (((j : Int)).toNat * 3)).add 1) (vS m.fA m.fns.length m.fc) fun w_ hK => (rds_get ((M16.then_ hK).ro hI.mods.mcells) rfl (i := j) (cs := m.cells) (gm hm) 1 _ rfl))) dP) (dA (nj + ((m.fns.length : Nat) : Int)))) dP) dP) (dI ad13 ms.length 3 (j : Int))) dP) (dL (((ad13 : Addr).add (((j : Int)).toNat * 3)).add 2) (vS m.dA m.dats.length m.dc) fun w_ hK => (rds_get ((M16.then_ hK).ro hI.mods.mcells) rfl (i := j) (cs := m.cells) (gm hm) 2 _ rfl))) dP) ?_
 intro aC w22 vs hK hv fr
 revert aC; refine zkp [(0, (vS (some ad13) ms.length mc)), (1, (vS gA bg.length gc)), (2, (vI mem)), (3, (vS iA inp.length ic)), (4, (vI fuel)), (12, (nV j)), (35, (vI (nj + ((m.fns.length : Nat) : Int)))), (41, (vI ((m.dats.length : Nat) : Int)))] ?_
 have M23 := M16.then_ hK
 clear hK hv fr aC M16; clear vs
 refine zar ((nj + ((m.fns.length : Nat) : Int)) + ((m.dats.length : Nat) : Int)) <| zpn 1 <| zfe <| zrg <| zpn 1 <| zar ((j : Int) + 1) <| zpn 1 <| zfe ?_
 intro aC fr
 exact ⟨ms.length - (j + 1), by omega, j + 1, ((nj + ((m.fns.length : Nat) : Int)) + ((m.dats.length : Nat) : Int)), rfl, fr.kp [0, 1, 2, 3, 4, 11, 12], M23, by omega, by omega, smTo_succ hg hm hSm, by omega, by omega⟩
 refine zex 0 <| zbh <| zsr <| zpn 4 ?_
 obtain ⟨B26, hB26⟩ : ∃ B : Bool, B = decide ((((ms.length : Nat) : Int) : Int) > 8) := ⟨_, rfl⟩
 refine zkp [(1, (vS gA bg.length gc)), (2, (vI mem)), (3, (vS iA inp.length ic)), (4, (vI fuel)), (11, (vI nj)), (46, (.bool (decide ((((ms.length : Nat) : Int) : Int) > 8))))] ?_
 rw [← hB26]
 have iB26 : B26 = true ↔ ((((ms.length : Nat) : Int) : Int) > 8) := by rw [hB26]; simp only [decide_eq_true_eq]
 clear hB26
 intro aC fr
 refine zpk 4 8 [49, 50] fr (news := [(49, (.bool (B26 || decide ((nj : Int) > 300)))), (50, (.bool (B26 || decide ((nj : Int) > 300))))]) (by cases B26 <;> kernel_rfl) ?_
 intro aC fr
 obtain ⟨B31, hB31⟩ : ∃ B : Bool, B = (B26 || decide ((nj : Int) > 300)) := ⟨_, rfl⟩
 revert aC
 refine zkp [(1, (vS gA bg.length gc)), (2, (vI mem)), (3, (vS iA inp.length ic)), (4, (vI fuel)), (50, (.bool (B26 || decide ((nj : Int) > 300))))] ?_
 rw [← hB31]
 have iB31 : B31 = true ↔ (((((ms.length : Nat) : Int) : Int) > 8) ∨ ((nj : Int) > 300)) := by rw [hB31]; simp only [Bool.or_eq_true, decide_eq_true_eq, iB26]
 clear hB31
 intro aC fr
 refine zpk 5 13 [54, 55] fr (news := [(54, (.bool (B31 || decide ((((bg.length : Nat) : Int) : Int) > 50)))), (55, (.bool (B31 || decide ((((bg.length : Nat) : Int) : Int) > 50))))]) (by cases B31 <;> kernel_rfl) ?_
 intro aC fr
 obtain ⟨B36, hB36⟩ : ∃ B : Bool, B = (B31 || decide ((((bg.length : Nat) : Int) : Int) > 50)) := ⟨_, rfl⟩
 revert aC
 refine zkp [(2, (vI mem)), (3, (vS iA inp.length ic)), (4, (vI fuel)), (55, (.bool (B31 || decide ((((bg.length : Nat) : Int) : Int) > 50))))] ?_
 rw [← hB36]
 have iB36 : B36 = true ↔ ((((((ms.length : Nat) : Int) : Int) > 8) ∨ ((nj : Int) > 300)) ∨ ((((bg.length : Nat) : Int) : Int) > 50)) := by rw [hB36]; simp only [Bool.or_eq_true, decide_eq_true_eq, iB31]
 clear hB36
 intro aC fr
 refine zpk 4 17 [58, 59] fr (news := [(58, (.bool (B36 || decide ((mem : Int) > 20000)))), (59, (.bool (B36 || decide ((mem : Int) > 20000))))]) (by cases B36 <;> kernel_rfl) ?_
 intro aC fr
 obtain ⟨B41, hB41⟩ : ∃ B : Bool, B = (B36 || decide ((mem : Int) > 20000)) := ⟨_, rfl⟩
 revert aC
 refine zkp [(3, (vS iA inp.length ic)), (4, (vI fuel)), (59, (.bool (B36 || decide ((mem : Int) > 20000))))] ?_
 rw [← hB41]
 have iB41 : B41 = true ↔ (((((((ms.length : Nat) : Int) : Int) > 8) ∨ ((nj : Int) > 300)) ∨ ((((bg.length : Nat) : Int) : Int) > 50)) ∨ ((mem : Int) > 20000)) := by rw [hB41]; simp only [Bool.or_eq_true, decide_eq_true_eq, iB36]
 clear hB41
 intro aC fr
 refine zpk 5 22 [63, 64] fr (news := [(63, (.bool (B41 || decide ((((inp.length : Nat) : Int) : Int) > 5000)))), (64, (.bool (B41 || decide ((((inp.length : Nat) : Int) : Int) > 5000))))]) (by cases B41 <;> kernel_rfl) ?_
 intro aC fr
 obtain ⟨B46, hB46⟩ : ∃ B : Bool, B = (B41 || decide ((((inp.length : Nat) : Int) : Int) > 5000)) := ⟨_, rfl⟩
 revert aC
 refine zkp [(4, (vI fuel)), (64, (.bool (B41 || decide ((((inp.length : Nat) : Int) : Int) > 5000))))] ?_
 rw [← hB46]
 have iB46 : B46 = true ↔ ((((((((ms.length : Nat) : Int) : Int) > 8) ∨ ((nj : Int) > 300)) ∨ ((((bg.length : Nat) : Int) : Int) > 50)) ∨ ((mem : Int) > 20000)) ∨ ((((inp.length : Nat) : Int) : Int) > 5000)) := by rw [hB46]; simp only [Bool.or_eq_true, decide_eq_true_eq, iB41]
 clear hB46
 intro aC fr
 refine zpk 4 26 [10, 67] fr (news := [(10, (.bool (B46 || decide ((fuel : Int) > 5000)))), (67, (.bool (B46 || decide ((fuel : Int) > 5000))))]) (by cases B46 <;> kernel_rfl) ?_
 intro aC fr
 revert aC
 refine zfe <| zre <| zo1 (.bool (B46 || decide ((fuel : Int) > 5000))) ?_
 have hR : (B46 || decide ((fuel : Int) > 5000)) = true ↔ (((((((((ms.length : Nat) : Int) : Int) > 8) ∨ ((nj : Int) > 300)) ∨ ((((bg.length : Nat) : Int) : Int) > 50)) ∨ ((mem : Int) > 20000)) ∨ ((((inp.length : Nat) : Int) : Int) > 5000)) ∨ ((fuel : Int) > 5000)) := by simp only [Bool.or_eq_true, decide_eq_true_eq, iB46]
 refine ⟨_, rfl, fun h_ => ?_, M4⟩
 have hn_ : ¬ (((((((((ms.length : Nat) : Int) : Int) > 8) ∨ ((nj : Int) > 300)) ∨ ((((bg.length : Nat) : Int) : Int) > 50)) ∨ ((mem : Int) > 20000)) ∨ ((((inp.length : Nat) : Int) : Int) > 5000)) ∨ ((fuel : Int) > 5000)) := fun h2 => Bool.noConfusion (h_.symm.trans (hR.2 h2))
 obtain rfl : j = ms.length := by omega
 rw [List.take_length] at hc
 exact ⟨by omega, smTo_all hg, by omega, by omega, by omega, by omega, by omega⟩
end Go.Proofs.Ytdcgcjibgihbbaa
