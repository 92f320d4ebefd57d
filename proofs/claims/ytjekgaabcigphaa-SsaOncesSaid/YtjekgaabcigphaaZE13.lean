/-
  Texts of the proof, part 13.
-/
import Derived.Test.YtjekgaabcigphaaZE12
set_option maxRecDepth 10000
namespace Go.Proofs.Ytjekgaabcigphaa
open Go.Mor
theorem index2_c (l : List Int) (k : Int) (A : Option Addr) (c : Nat) (w : World) (hm : l.length ≤ 1000000) (hA : RO noS w (.rd A (ints l))) (hin : k ∈ l) (q : Nat) (hq : q = indexN l k) :
    Calls Try.prog 97 #[.slice A l.length c, .int .i64 k] w (Ret fun v w' => v = .int .i64 (q : Int) ∧ Mem noS w w' []) := by
  subst hq
  refine (index_c l k A c w hm hA).mono ?_
  rintro e w' ⟨v, rfl, hv, h⟩
  exact ⟨v, rfl, by rw [hv, (fidx_in hin).1], h⟩
set_option maxHeartbeats 4000000 in
theorem block_c (C : RC) (s : PSt) (oA : Option Addr) (oc : Nat) (w : World) (hC : C.WF) (hG : RGood C s) (f : RFn) (n k from_ : Int) (vals : List Int) (vg : Nat) (x : FBlk) (hR : (Res.pk (runL C s oA oc ++ [.row 2 1 (sM vg) vals.length vals.length (ints vals)])).holds w) (hA : RO (bS C s oA oc vg vals) w C.ro) (hn1 : 1 ≤ n) (hn2 : n ≤ C.E.fns.length) (hn : C.E.fns[(n - 1).toNat]? = some f) (hk0 : 0 ≤ k) (hx : f.blks[k.toNat]? = some x) (hfrom : x.phis = [] ∨ from_ ∈ f.src k.toNat) (hvl : vals.length = f.va.toNat) (call : Int → List Int → PSt → Got Int) (b : Int) (hcall : CallOk Try.prog C 73 call b) (hmono : Mono call) (hb : C.E.fuel - s.steps ≤ b) :
    Calls Try.prog 87 #[(pT C.r 0), (.agg #[(.string f.nm), (.bool f.wk), (.int .i64 f.pa), (.int .i64 f.va), (.slice f.A ((bsOf f.blks).length) f.c)]), (.int .i64 n), (.int .i64 k), (.int .i64 from_), (.slice (sM vg) vals.length vals.length)] w (REnds (fun v w' => ∃ nx bk v' s' oA' oc', blockS C.E call f k from_ vals s = .ok (nx, bk, v') s' ∧ v = .tuple #[.int .i64 nx, .int .i64 bk] ∧ RGood C s' ∧ v'.length = vals.length ∧ Mem (bS C s oA oc vg vals) w w' (runL C s' oA' oc' ++ [.row 2 1 (sM vg) vals.length vals.length (ints v')])) (fun v w' => RP C (bS C s oA oc vg vals) w (blockS C.E call f k from_ vals s) v w')) := by
 have hW := hC.fns f (List.mem_of_getElem? hn)
 have hX := hW.blk _ _ hx
 have hFn := hA.rfn hn
 have hB := hFn.bs
 have hbl := bsOf_len f.blks
 have hkl := (List.getElem?_eq_some_iff.1 hx).1
 have hli := hX.li
 have hlp := hX.lp
 have hva := hW.va
 have hva0 : 0 ≤ f.va := Int.le_trans hW.pa0 hW.pav
 refine xen 171 [(pT C.r 0), (.agg #[(.string f.nm), (.bool f.wk), (.int .i64 f.pa), (.int .i64 f.va), (.slice f.A ((bsOf f.blks).length) f.c)]), (.int .i64 n), (.int .i64 k), (.int .i64 from_), (.slice (sM vg) vals.length vals.length)] Try.func87 ?_
 have hM := (Mem.unpk hR : Mem (bS C s oA oc vg vals) w w [.blk C.r 89 (rcells C s oA oc), .row 2 1 (sM C.mG) C.E.memN C.E.memN (ints s.mem), .row 5 1 oA s.out.length oc (u8s s.out), .row 2 1 (sM vg) vals.length vals.length (ints vals)])
 refine zsr <| zbx hM 24 (.agg #[(.string f.nm), (.bool f.wk), (.int .i64 f.pa), (.int .i64 f.va), (.slice f.A ((bsOf f.blks).length) f.c)]) [(.string f.nm), (.bool f.wk), (.int .i64 f.pa), (.int .i64 f.va), (.slice f.A ((bsOf f.blks).length) f.c)] fun b1 w2 hb1 M3 => ?_
 replace M3 := M3.nf
 clear hM
 refine zpn 2 <| zfe <| zsr <| zpn 1 <| zld ⟨b1, 4, none⟩ (.slice f.A ((bsOf f.blks).length) f.c) (blk_cell (M3.get 4 rfl) rfl) <| zpn 1 ?_
 obtain ⟨ad4, had5⟩ := blocks_some (M3.ro hB) (bsOf_get hx)
 intro aC fr
 refine From_ixA (some 31) f.A ad4 ((bsOf f.blks).length) 6 k fr (by kernel_rfl) had5 (by omega) (by omega) ?_
 intro aC fr
 revert aC
 refine zls ((ad4 : Addr).add ((k).toNat * 6)) (xV x) (fblk_get (M3.ro hB) had5 hx) <| zal M3 43 [(.slice none 0 0), (.slice none 0 0), (.int .i64 0), (.int .i64 0), (.int .i64 0), (.int .i64 0)] fun b10 w11 hb10 M12 => ?_
 replace M12 := M12.nf
 refine zss M12 5 (xV x) rfl fun w13 M14 => ?_
 replace M14 := M14.nf
 refine zfe <| zsq ?_
 intro aC fr
 refine W_cut (fun a_ w_ => ∃ (v1 : List Int), Fr a_ 171 [(0, (pT C.r 0)), (5, (.slice (sM vg) vals.length vals.length)), (14, (pT b10 0))] ∧ Mem (bS C s oA oc vg vals) w w_ [.blk C.r 89 (rcells C s oA oc), .row 2 1 (sM C.mG) C.E.memN C.E.memN (ints s.mem), .row 5 1 oA s.out.length oc (u8s s.out), .row 2 1 (sM vg) vals.length vals.length (ints v1), .blk b1 24 [(.string f.nm), (.bool f.wk), (.int .i64 f.pa), (.int .i64 f.va), (.slice f.A ((bsOf f.blks).length) f.c)], .blk b10 43 (xV x)] ∧ (v1 = phisS x.phis (indexN (f.src k.toNat) from_) vals)) ?_ ?_
 clear fr aC M14; rintro aC w17 ⟨v1, fr, M18, hv1⟩
 revert aC
 refine zsr <| zal M18 170 [(.int .i64 0), (.int .i64 0), (.int .i64 0), (.int .i64 0), (.int .i64 0), (.int .i64 0), (.int .i64 0), (.int .i64 0), (.int .i64 0), (.int .i64 0), (.int .i64 0), (.int .i64 0), (.int .i64 0), (.int .i64 0), (.int .i64 0), (.int .i64 0), (.int .i64 0)] fun b21 w22 hb21 M23 => ?_
 replace M23 := M23.nf
 refine zfe <| zsq <| zsr ?_
 have M24 : Mem (bS C s oA oc vg vals) w w22 [.blk C.r 89 (rcells C s oA oc), .row 2 1 (sM C.mG) C.E.memN C.E.memN (ints s.mem), .row 5 1 oA s.out.length oc (u8s s.out), .row 2 1 (sM vg) vals.length vals.length (ints v1), .blk b1 24 [(.string f.nm), (.bool f.wk), (.int .i64 f.pa), (.int .i64 f.va), (.slice f.A ((bsOf f.blks).length) f.c)], .blk b10 43 (xV x), .row 170 1 (sM b21) 17 17 (ints (List.replicate 17 0))] := M23.asrow 6 rfl (by decide)
 have hv1l : v1.length = vals.length := by rw [hv1, ← phiTo_all, phiTo_len]
 refine zpn 1 <| zld ⟨b10, 1, none⟩ (.slice x.iA x.insts.length x.ic) (blk_cell (M24.get 5 rfl) rfl) <| zpn 2 <| zfe <| zbk 4 ?_
 intro aC fr
 refine zlp (fun n_ a_ w_ => ∃ (j : Nat) (vj : List Int) (sj : PSt) (oAj : Option Addr) (ocj : Nat) (al : List Int), n_ = x.insts.length - j ∧ Fr a_ 171 [(0, (pT C.r 0)), (5, (.slice (sM vg) vals.length vals.length)), (14, (pT b10 0)), (21, (pT b21 0)), (91, (.slice x.iA x.insts.length x.ic)), (92, (.int .i64 ((x.insts.length : Nat) : Int))), (93, (nV j))] ∧ Mem (bS C s oA oc vg vals) w w_ [.blk C.r 89 (rcells C sj oAj ocj), .row 2 1 (sM C.mG) C.E.memN C.E.memN (ints sj.mem), .row 5 1 oAj sj.out.length ocj (u8s sj.out), .row 2 1 (sM vg) vals.length vals.length (ints vj), .blk b1 24 [(.string f.nm), (.bool f.wk), (.int .i64 f.pa), (.int .i64 f.va), (.slice f.A ((bsOf f.blks).length) f.c)], .blk b10 43 (xV x), .row 170 1 (sM b21) 17 17 (ints al)] ∧ (j ≤ x.insts.length) ∧ (vj.length = vals.length) ∧ (al.length = 17) ∧ (RGood C sj) ∧ (s.steps ≤ sj.steps) ∧ (blockS C.E call f k from_ vals s = (instsS C.E call (x.insts.drop j) vj sj).bind (tailS C.E x))) (n := _) ⟨0, v1, s, oA, oc, List.replicate 17 0, rfl, fr.kp [0, 5, 14, 21, 91, 92, 93], M24, Nat.zero_le _, hv1l, rfl, hG, Int.le_refl _, (block_at hx).trans (by rw [hv1]; rfl)⟩ ?_
 clear fr aC M24; rintro n aC w27 ⟨j, vj, sj, oAj, ocj, al, rfl, fr, M28, hj, hvj, hal, hGj, hst, hrest⟩
 revert aC
 refine zsp <| zsq <| zcD (((j : Int) : Int) < ((x.insts.length : Nat) : Int)) (fun c31 => ?_) (fun c31 => ?_)
 refine zsk <| zsq <| zbk 5 <| zsr ?_
 obtain ⟨i, hi⟩ := get_of (l := x.insts) (i := j) (by omega)
 have him := List.mem_of_getElem? hi
 have hia : i.args.length ≤ 17 := shape_args (hX.shape i him)
 obtain ⟨ad32, had33⟩ := rds_some (M28.ro (hFn.insts hx)) (cs := i.cells) (i := j) (by simp [hi])
 intro aC fr
 refine From_ixA (some 95) x.iA ad32 x.insts.length 5 (j : Int) fr (by kernel_rfl) had33 (by omega) (by omega) ?_
 intro aC fr
 revert aC
 refine zls ((ad32 : Addr).add (((j : Int)).toNat * 5)) (iV i) (ins_get (M28.ro (hFn.insts hx)) had33 hi) <| zal M28 46 [(.int .i64 0), (.int .i64 0), (.int .i64 0), (.string ⟨#[]⟩), (.slice none 0 0)] fun b38 w39 hb38 M40 => ?_
 replace M40 := M40.nf
 refine zss M40 7 (iV i) rfl fun w41 M42 => ?_
 replace M42 := M42.nf
 refine zfe <| zsr <| zpn 1 <| zce (step_c C sj oAj ocj w41 hC hGj (Mem.pk_holds (l := runL C sj oAj ocj) M42)) (fun _ w2_ ⟨k_, c_, s_, oA_, oc_, hg_, hv_, hG_, hx_⟩ a_ hf_ => by subst hv_; exact inB_pan <| inB_pan <| xpp hf_ ⟨k_, c_, s_, oA_, oc_, hrest.trans (by rw [insts_at hi, bind_stop hg_]; rfl), rfl, hG_, Mem.tk (Mem.mdk (l := runL C sj oAj ocj) M42 hx_) 3⟩) ?_
 rintro _ w48 ⟨u47, s43, oA44, oc45, hgs46, rfl, hGs43, M49x⟩
 have M49 : Mem (bS C s oA oc vg vals) w w48 [.blk C.r 89 (rcells C s43 oA44 oc45), .row 2 1 (sM C.mG) C.E.memN C.E.memN (ints s43.mem), .row 5 1 oA44 s43.out.length oc45 (u8s s43.out), .row 2 1 (sM vg) vals.length vals.length (ints vj), .blk b1 24 [(.string f.nm), (.bool f.wk), (.int .i64 f.pa), (.int .i64 f.va), (.slice f.A ((bsOf f.blks).length) f.c)], .blk b10 43 (xV x), .row 170 1 (sM b21) 17 17 (ints al), .blk b38 46 (iV i)] := M42.mdk M49x
 have hsts43 := step_steps hgs46
 refine zfe <| zsr <| zpn 1 <| zld ⟨b38, 4, none⟩ (.slice i.A i.args.length i.c) (blk_cell (M49.get 7 rfl) rfl) <| zpn 1 <| zsh (b := b21) (n := 17) (hk := by kernel_rfl) i.args.length hia <| zpn 1 <| zfe <| zsq <| zsr ?_
 refine zpn 1 <| zld ⟨b38, 4, none⟩ (.slice i.A i.args.length i.c) (blk_cell (M49.get 7 rfl) rfl) <| zkp [(0, (pT C.r 0)), (5, (.slice (sM vg) vals.length vals.length)), (14, (pT b10 0)), (21, (pT b21 0)), (23, (pT b38 0)), (24, (.slice (sM b21) i.args.length 17)), (91, (.slice x.iA x.insts.length x.ic)), (92, (.int .i64 ((x.insts.length : Nat) : Int))), (93, (nV j)), (104, (.slice i.A i.args.length i.c))] <| zpn 2 <| zfe <| zbk 6 ?_
 have M50 : Mem (bS C s oA oc vg vals) w w48 [.blk C.r 89 (rcells C s43 oA44 oc45), .row 2 1 (sM C.mG) C.E.memN C.E.memN (ints s43.mem), .row 5 1 oA44 s43.out.length oc45 (u8s s43.out), .row 2 1 (sM vg) vals.length vals.length (ints vj), .blk b1 24 [(.string f.nm), (.bool f.wk), (.int .i64 f.pa), (.int .i64 f.va), (.slice f.A ((bsOf f.blks).length) f.c)], .blk b10 43 (xV x), .row 170 1 (sM b21) 17 17 (ints (fillTo i.args al vj 0)), .blk b38 46 (iV i)] := M49.cast (by rw [fillTo_zero])
 intro aC fr
 refine zlp (fun n_ a_ w_ => ∃ (q : Nat), n_ = i.args.length - q ∧ Fr a_ 171 [(0, (pT C.r 0)), (5, (.slice (sM vg) vals.length vals.length)), (14, (pT b10 0)), (21, (pT b21 0)), (23, (pT b38 0)), (24, (.slice (sM b21) i.args.length 17)), (91, (.slice x.iA x.insts.length x.ic)), (92, (.int .i64 ((x.insts.length : Nat) : Int))), (93, (nV j)), (104, (.slice i.A i.args.length i.c)), (105, (.int .i64 ((i.args.length : Nat) : Int))), (106, (nV q))] ∧ Mem (bS C s oA oc vg vals) w w_ [.blk C.r 89 (rcells C s43 oA44 oc45), .row 2 1 (sM C.mG) C.E.memN C.E.memN (ints s43.mem), .row 5 1 oA44 s43.out.length oc45 (u8s s43.out), .row 2 1 (sM vg) vals.length vals.length (ints vj), .blk b1 24 [(.string f.nm), (.bool f.wk), (.int .i64 f.pa), (.int .i64 f.va), (.slice f.A ((bsOf f.blks).length) f.c)], .blk b10 43 (xV x), .row 170 1 (sM b21) 17 17 (ints (fillTo i.args al vj q)), .blk b38 46 (iV i)] ∧ (q ≤ i.args.length)) (n := _) ⟨0, rfl, fr.kp [0, 5, 14, 21, 23, 24, 91, 92, 93, 104, 105, 106], M50, Nat.zero_le _⟩ ?_
 clear fr aC M50; rintro n aC w53 ⟨q, rfl, fr, M54, hql⟩
 revert aC
 refine zsp <| zsq <| zcD (((q : Int) : Int) < ((i.args.length : Nat) : Int)) (fun c57 => ?_) (fun c57 => ?_)
 refine zsk <| zsq <| zbk 7 <| zsr ?_
 obtain ⟨av, hav⟩ := get_of (l := i.args) (i := q) (by omega)
 obtain ⟨ha0, ha1⟩ := hX.args i him av (List.mem_of_getElem? hav)
 refine zpn 1 ?_
 obtain ⟨ad58, had59⟩ := rd_some (M54.ro (hFn.inst hx hi)) (by rw [ints_len]; omega)
 intro aC fr
 refine From_ixA (some 109) i.A ad58 i.args.length 1 (q : Int) fr (by kernel_rfl) had59 (by omega) (by omega) ?_
 intro aC fr
 revert aC
 refine zld ((ad58 : Addr).add (((q : Int)).toNat * 1)) (.int .i64 av) (rd_at (M54.ro (hFn.inst hx hi)) had59 hav) <| zpn 2 <| zfe <| zrg <| zpn 4 <| zix ⟨vg, 0, none⟩ vals.length 1 av <| zld ((⟨vg, 0, none⟩ : Addr).add ((av).toNat * 1)) (.int .i64 (vj.getD av.toNat 0)) (rd_int (row_rd (M54.get 3 rfl)) rfl ha0 (by omega)) <| zix ⟨b21, 0, none⟩ i.args.length 1 (q : Int) <| zsw M54 6 ((⟨b21, 0, none⟩ : Addr).add (((q : Int)).toNat * 1)) (((q : Int)).toNat * 1) (.int .i64 (vj.getD av.toNat 0)) rfl rfl (by omega) fun w64 M65 => ?_
 replace M65 := M65.nf
 refine zfe <| zrg <| zar ((q : Int) + 1) <| zpn 1 <| zfe ?_
 have e_ : (ints (fillTo i.args al vj q)).set ((q : Int).toNat * 1) (.int .i64 (vj.getD av.toNat 0)) = ints (fillTo i.args al vj (q + 1)) := by rw [Nat.mul_one]; show (ints _).set q _ = _; rw [← ints_set, fillTo_set hav (by omega)]
 intro aC fr
 exact ⟨i.args.length - (q + 1), by omega, q + 1, rfl, fr.kp [0, 5, 14, 21, 23, 24, 91, 92, 93, 104, 105, 106], (M65.cast (by rw [e_])), by omega⟩
 refine zex 6 <| zbh <| zsr ?_
 obtain rfl : q = i.args.length := by omega
 have M68 : Mem (bS C s oA oc vg vals) w w53 [.blk C.r 89 (rcells C s43 oA44 oc45), .row 2 1 (sM C.mG) C.E.memN C.E.memN (ints s43.mem), .row 5 1 oA44 s43.out.length oc45 (u8s s43.out), .row 2 1 (sM vg) vals.length vals.length (ints vj), .blk b1 24 [(.string f.nm), (.bool f.wk), (.int .i64 f.pa), (.int .i64 f.va), (.slice f.A ((bsOf f.blks).length) f.c)], .blk b10 43 (xV x), .row 170 1 (sM b21) 17 17 (ints (valsOf vj i.args) ++ ints (al.drop i.args.length)), .blk b38 46 (iV i)] := M54.cast (by rw [fillTo_all, ints_append])
 refine zpn 1 <| zls ⟨b38, 0, none⟩ (iV i) (blk_cells (M68.get 7 rfl)) <| zpn 1 <| zce (vs := [(pT C.r 0), (iG i), (.slice (sM b21) i.args.length 17)]) (does_c C s43 oA44 oc45 w53 hC hGs43 (Mem.pk_holds (l := runL C s43 oA44 oc45) M68) (hA.pk_at (l := runL C s43 oA44 oc45) M68) call i (valsOf vj i.args) i.args.length (valsOf_len _ _).symm (sM b21) 17 (RO.rd_pre (RO.row_rd (RO.pk_own (l := runL C s43 oA44 oc45) M68 3 rfl))) (hX.shape i him) (valsOf_len _ _) (by rw [valsOf_len]; exact hia) b hcall (by omega)) (fun _ w2_ ⟨k_, c_, s_, oA_, oc_, hg_, hv_, hG_, hx_⟩ a_ hf_ => by subst hv_; exact inB_pan <| inB_pan <| xpp hf_ ⟨k_, c_, s_, oA_, oc_, hrest.trans (by rw [insts_at hi, bind_ok hgs46, bind_stop hg_]; rfl), rfl, hG_, Mem.tk (Mem.mdk (l := runL C s43 oA44 oc45) M68 hx_) 3⟩) ?_
 rintro _ w74 ⟨x69, s70, oA71, oc72, hgd73, rfl, hGs70, M75x⟩
 have M75 : Mem (bS C s oA oc vg vals) w w74 [.blk C.r 89 (rcells C s70 oA71 oc72), .row 2 1 (sM C.mG) C.E.memN C.E.memN (ints s70.mem), .row 5 1 oA71 s70.out.length oc72 (u8s s70.out), .row 2 1 (sM vg) vals.length vals.length (ints vj), .blk b1 24 [(.string f.nm), (.bool f.wk), (.int .i64 f.pa), (.int .i64 f.va), (.slice f.A ((bsOf f.blks).length) f.c)], .blk b10 43 (xV x), .row 170 1 (sM b21) 17 17 (ints (valsOf vj i.args) ++ ints (al.drop i.args.length)), .blk b38 46 (iV i)] := M68.mdk M75x
 refine zpn 1 <| zfe <| zsr <| zpn 1 <| zld ⟨b38, 1, none⟩ (.int .i64 i.dst) (blk_cell (M75.get 7 rfl) rfl) <| zpn 2 ?_
 obtain ⟨B76, hB76⟩ : ∃ B : Bool, B = decide ((i.dst : Int) ≥ 0) := ⟨_, rfl⟩
 refine zkp [(0, (pT C.r 0)), (5, (.slice (sM vg) vals.length vals.length)), (14, (pT b10 0)), (21, (pT b21 0)), (23, (pT b38 0)), (27, (.int .i64 x69)), (91, (.slice x.iA x.insts.length x.ic)), (92, (.int .i64 ((x.insts.length : Nat) : Int))), (93, (nV j)), (126, (.bool (decide ((i.dst : Int) ≥ 0))))] ?_
 rw [← hB76]
 have iB76 : B76 = true ↔ ((i.dst : Int) ≥ 0) := by rw [hB76]; simp only [decide_eq_true_eq]
 clear hB76
 intro aC fr
 refine zpk 1 5 [127] fr (news := [(127, (cond B76 (pT b38 0) undef))]) (by cases B76 <;> kernel_rfl) ?_
 intro aC fr
 refine From_either (B := B76) (d := (some 128)) (.int .i64 i.op) fr (by cases B76 <;> kernel_rfl) (fun hB hh => ?_) ?_
 cases B76 <;> first | (exact absurd hB (by decide)) | skip
 have c76 : ((i.dst : Int) ≥ 0) := iB76.1 rfl
 exact From_ld (some 128) ⟨b38, 0, none⟩ fr (by kernel_rfl) (.int .i64 i.op) (blk_cell (M75.get 7 rfl) rfl) hh
 intro aC fr
 refine From_eitherC (B := B76) (d := (some 129)) (.bool (decide (makesQ i.op))) fr (by cases B76 <;> kernel_rfl) (fun hB hh => ?_) ?_
 cases B76 <;> first | (exact absurd hB (by decide)) | skip
 have c76 : ((i.dst : Int) ≥ 0) := iB76.1 rfl
 refine From_cl (some 129) 60 [(.int .i64 i.op)] fr (by kernel_rfl) (makes_c i.op w74) ?_
 rintro _ w2 ⟨rfl, hm2⟩ a2 hF2; exact hh a2 w2 hm2 hF2
 intro aC w83 M84x fr
 have M84 := M75.cl M84x
 refine zpk 1 8 [130] fr (news := [(130, (.bool (B76 && decide (makesQ i.op))))]) (by cases B76 <;> kernel_rfl) ?_
 intro aC fr
 revert aC
 refine zfe <| zcP (B76 && decide (makesQ i.op)) (((i.dst : Int) ≥ 0) ∧ (makesQ i.op)) (by simp only [Bool.and_eq_true, decide_eq_true_eq, iB76]) (fun c89 => ?_) (fun c89 => ?_)
 refine zrg ?_
 obtain ⟨hd0, hd1⟩ := hX.dst i him c89.2
 refine zpn 2 <| zld ⟨b38, 1, none⟩ (.int .i64 i.dst) (blk_cell (M84.get 7 rfl) rfl) <| zpn 1 <| zix ⟨vg, 0, none⟩ vals.length 1 i.dst <| zsw M84 3 ((⟨vg, 0, none⟩ : Addr).add ((i.dst).toNat * 1)) ((i.dst).toNat * 1) (.int .i64 x69) rfl rfl (by omega) fun w90 M91 => ?_
 replace M91 := M91.nf
 refine zfe <| zrg <| zar ((j : Int) + 1) <| zpn 1 <| zfe ?_
 intro aC fr
 exact ⟨x.insts.length - (j + 1), by omega, j + 1, putV i vj x69, s70, oA71, oc72, valsOf vj i.args ++ al.drop i.args.length, rfl, fr.kp [0, 5, 14, 21, 91, 92, 93], ((M91.tk 7).cast (by rw [putV_yes ⟨by omega, c89.2⟩]; simp only [ints_set, ints_append, Nat.mul_one]; rfl)), by omega, by rw [putV_len]; exact hvj, by simp [valsOf]; omega, hGs70, by have := inst_steps hmono hgd73; omega, hrest.trans (by rw [insts_at hi, bind_ok hgs46, bind_ok hgd73])⟩
 refine zsk <| zrg <| zar ((j : Int) + 1) <| zpn 1 <| zfe ?_
 intro aC fr
 exact ⟨x.insts.length - (j + 1), by omega, j + 1, putV i vj x69, s70, oA71, oc72, valsOf vj i.args ++ al.drop i.args.length, rfl, fr.kp [0, 5, 14, 21, 91, 92, 93], ((M84.tk 7).cast (by rw [putV_no c89, ints_append]; rfl)), by omega, by rw [putV_len]; exact hvj, by simp [valsOf]; omega, hGs70, by have := inst_steps hmono hgd73; omega, hrest.trans (by rw [insts_at hi, bind_ok hgs46, bind_ok hgd73])⟩
 refine zex 4 <| zbh <| zsr ?_
 have hend : blockS C.E call f k from_ vals s = tailS C.E x vj sj := hrest.trans (by rw [insts_end (by omega)]; rfl)
 refine zpn 1 <| zce (step_c C sj oAj ocj w27 hC hGj (Mem.pk_holds (l := runL C sj oAj ocj) M28)) (fun _ w2_ ⟨k_, c_, s_, oA_, oc_, hg_, hv_, hG_, hx_⟩ a_ hf_ => by subst hv_; exact xpp hf_ ⟨k_, c_, s_, oA_, oc_, hend.trans (bind_stop hg_), rfl, hG_, Mem.tk (Mem.mdk (l := runL C sj oAj ocj) M28 hx_) 3⟩) ?_
 rintro _ w101 ⟨u100, s96, oA97, oc98, hgs99, rfl, hGs96, M102x⟩
 have M102 : Mem (bS C s oA oc vg vals) w w101 [.blk C.r 89 (rcells C s96 oA97 oc98), .row 2 1 (sM C.mG) C.E.memN C.E.memN (ints s96.mem), .row 5 1 oA97 s96.out.length oc98 (u8s s96.out), .row 2 1 (sM vg) vals.length vals.length (ints vj), .blk b1 24 [(.string f.nm), (.bool f.wk), (.int .i64 f.pa), (.int .i64 f.va), (.slice f.A ((bsOf f.blks).length) f.c)], .blk b10 43 (xV x), .row 170 1 (sM b21) 17 17 (ints al)] := M28.mdk M102x
 have hsts96 := step_steps hgs99
 refine zfe <| zsq <| zsr ?_
 have hfin := hend.trans (tail_end hgs99)
 refine zpn 1 <| zld ⟨b10, 2, none⟩ (.int .i64 x.e) (blk_cell (M102.get 5 rfl) rfl) <| zfe <| zbk 8 <| zsp <| zcP ((x.e : Int) == 0) ((x.e : Int) = 0) (by simp only [beq_iff_eq]) (fun c103 => ?_) (fun c103 => ?_)
 refine zsr <| zpn 1 <| zld ⟨b10, 4, none⟩ (.int .i64 x.a) (blk_cell (M102.get 5 rfl) rfl) <| zpn 2 <| zfe <| zre <| zbr <| xo2 (.int .i64 x.a) (.int .i64 0) ?_
 exact ⟨x.a, 0, vj, s96, oA97, oc98, hfin.trans (by first | rw [if_pos (by omega)] | rw [if_neg (by omega), if_pos (by omega), if_pos (by omega)]), rfl, hGs96, hvj, M102.tk 4⟩
 refine zsp <| zcP ((x.e : Int) == 1) ((x.e : Int) = 1) (by simp only [beq_iff_eq]) (fun c104 => ?_) (fun c104 => ?_)
 refine zsq <| zsr ?_
 have hvi := hX.vIf (by omega)
 refine zpn 2 <| zld ⟨b10, 3, none⟩ (.int .i64 x.v) (blk_cell (M102.get 5 rfl) rfl) <| zix ⟨vg, 0, none⟩ vals.length 1 x.v <| zld ((⟨vg, 0, none⟩ : Addr).add ((x.v).toNat * 1)) (.int .i64 (vj.getD x.v.toNat 0)) (rd_int (row_rd (M102.get 3 rfl)) rfl hvi.1 (by omega)) <| zpn 1 <| zfe <| zcP ((vj.getD x.v.toNat 0 : Int) != 0) ((vj.getD x.v.toNat 0 : Int) ≠ 0) (by simp only [bne_iff_ne]) (fun c105 => ?_) (fun c105 => ?_)
 refine zsr <| zpn 1 <| zld ⟨b10, 4, none⟩ (.int .i64 x.a) (blk_cell (M102.get 5 rfl) rfl) <| zkp [(154, (.int .i64 x.a))] <| zpn 2 <| zfe <| zre <| zbr <| xo2 (.int .i64 x.a) (.int .i64 0) ?_
 exact ⟨x.a, 0, vj, s96, oA97, oc98, hfin.trans (by first | rw [if_pos (by omega)] | rw [if_neg (by omega), if_pos (by omega), if_pos (by omega)]), rfl, hGs96, hvj, M102.tk 4⟩
 refine zsk <| zsr <| zpn 1 <| zld ⟨b10, 5, none⟩ (.int .i64 x.b) (blk_cell (M102.get 5 rfl) rfl) <| zkp [(156, (.int .i64 x.b))] <| zpn 2 <| zfe <| zre <| zbr <| xo2 (.int .i64 x.b) (.int .i64 0) ?_
 exact ⟨x.b, 0, vj, s96, oA97, oc98, hfin.trans (by rw [if_neg (by omega), if_pos (by omega), if_neg (by omega)]), rfl, hGs96, hvj, M102.tk 4⟩
 refine zsp <| zcP ((x.e : Int) == 3) ((x.e : Int) = 3) (by simp only [beq_iff_eq]) (fun c106 => ?_) (fun c106 => ?_)
 refine zrg <| zpn 2 <| zld ⟨b10, 4, none⟩ (.int .i64 x.a) (blk_cell (M102.get 5 rfl) rfl) <| zce (stop_c C.r 2 x.a w101) (fun _ w2_ ⟨hv_, hx_⟩ a_ hf_ => by subst hv_; exact inB_pan <| xpp hf_ (⟨_, _, s96, oA97, oc98, hfin.trans (by rw [if_neg (by omega), if_neg (by omega), if_pos (by omega)]), rfl, hGs96, (M102.cl hx_).tk 3⟩)) ?_
 rintro _ w107 h_; exact h_.elim
 refine zsk <| zsq <| zsr <| zpn 1 <| zld ⟨b10, 3, none⟩ (.int .i64 x.v) (blk_cell (M102.get 5 rfl) rfl) <| zpn 1 <| zfe <| zcD ((x.v : Int) ≥ 0) (fun c109 => ?_) (fun c109 => ?_)
 refine zsq ?_
 have he2 : x.e = 2 := by have := ends_four hX.ends; omega
 have hvi := hX.vRet he2
 refine zkp [(5, (.slice (sM vg) vals.length vals.length)), (14, (pT b10 0))] ?_
 intro aC fr
 refine zdt 6 (N := 171) (env0 := [(5, (.slice (sM vg) vals.length vals.length)), (14, (pT b10 0))]) (specAt [.det (.slice (sM vg) vals.length vals.length), .det (pT b10 3), .det (.int .i64 x.v), .det (.pointer (some ((⟨vg, 0, none⟩ : Addr).add ((x.v).toNat * 1)))), .det (.int .i64 (vj.getD x.v.toNat 0)), .det (.int .i64 (-1))]) fr (la (la (la (la (la (la lz dP) dP) (dL ⟨b10, 3, none⟩ (.int .i64 x.v) fun w_ hK => (blk_cell ((M102.then_ hK).get 5 rfl) rfl))) (dI ⟨vg, 0, none⟩ vals.length 1 x.v)) (dL ((⟨vg, 0, none⟩ : Addr).add ((x.v).toNat * 1)) (.int .i64 (vj.getD x.v.toNat 0)) fun w_ hK => (rd_int (row_rd ((M102.then_ hK).get 3 rfl)) rfl (by omega) (by omega)))) dP) ?_
 intro aC w114 vs hK hv fr
 revert aC; refine zkp [(12, (.int .i64 (-1))), (170, (.int .i64 (vj.getD x.v.toNat 0)))] ?_
 have M115 := M102.then_ hK
 clear hK hv fr aC M102; clear vs
 refine zpn 1 <| zfe <| zre <| xo2 (.int .i64 (-1)) (.int .i64 (vj.getD x.v.toNat 0)) ?_
 exact ⟨(-1), vj.getD x.v.toNat 0, vj, s96, oA97, oc98, hfin.trans (by rw [if_neg (by omega), if_neg (by omega), if_neg (by omega), if_pos (by omega)]), rfl, hGs96, hvj, M115.tk 4⟩
 refine zsk <| zsp <| zre <| xo2 (.int .i64 (-1)) (.int .i64 0) ?_
 exact ⟨(-1), 0, vj, s96, oA97, oc98, hfin.trans (by rw [if_neg (by omega), if_neg (by omega), if_neg (by omega), if_neg (by omega)]), rfl, hGs96, hvj, M102.tk 4⟩
 revert aC
 refine zsr <| zpn 1 <| zld ⟨b10, 0, none⟩ (.slice x.pA x.phis.length x.pc) (blk_cell (M14.get 5 rfl) rfl) <| zpn 2 <| zfe <| zcD ((((x.phis.length : Nat) : Int) : Int) > 0) (fun c116 => ?_) (fun c116 => ?_)
 refine zsr ?_
 obtain ⟨q, hq⟩ := get_of (l := f.srcs) (i := k.toNat) (by have := hW.slen; omega)
 have hsrc := RFn.src_of hq
 have hql := hW.qlen k.toNat
 have hin : from_ ∈ f.src k.toNat := hfrom.resolve_left (fun e => by rw [e] at c116; simp at c116)
 obtain ⟨at_, hat⟩ : ∃ z, z = indexN (f.src k.toNat) from_ := ⟨_, rfl⟩
 have hatl : at_ < (f.src k.toNat).length := by rw [hat]; exact (fidx_in hin).2
 refine zpn 3 <| zld ⟨C.r, 1, none⟩ (.slice C.sA (C.E.fns.length + 1) C.sc) (blk_cell (M14.get 0 rfl) rfl) <| zkp [(0, (pT C.r 0)), (2, (.int .i64 n)), (3, (.int .i64 k)), (4, (.int .i64 from_)), (5, (.slice (sM vg) vals.length vals.length)), (14, (pT b10 0)), (40, (.slice C.sA (C.E.fns.length + 1) C.sc))] <| zpn 1 ?_
 obtain ⟨ad117, had118⟩ := rd_some (M14.ro hA.rsrcs) (by simp)
 intro aC fr
 refine From_ixA (some 42) C.sA ad117 (C.E.fns.length + 1) 1 n fr (by kernel_rfl) had118 (by omega) (by omega) ?_
 intro aC fr
 revert aC
 refine zld ((ad117 : Addr).add ((n).toNat * 1)) (.slice f.qA f.srcs.length f.qc) (rd_get1 (M14.ro hA.rsrcs) had118 (src_at hn1 hn)) <| zpn 1 ?_
 obtain ⟨ad123, had124⟩ := rd_some (M14.ro (hA.rsrcv hn)) (by simp [srcV]; have := hW.slen; omega)
 intro aC fr
 refine From_ixA (some 45) f.qA ad123 f.srcs.length 1 k fr (by kernel_rfl) had124 (by omega) (by have := hW.slen; omega) ?_
 intro aC fr
 revert aC
 refine zld ((ad123 : Addr).add ((k).toNat * 1)) (.slice q.1 q.2.2.length q.2.1) (rd_get1 (M14.ro (hA.rsrcv hn)) had124 (by simp [srcV, hq])) <| zpn 1 <| zcl (index2_c q.2.2 from_ q.1 q.2.1 w13 (by rw [← hsrc]; omega) ((hA.rsrc hn hq).at_ M14) (by rw [← hsrc]; exact hin) at_ (by rw [← hsrc]; exact hat)) ?_
 rintro _ w129 ⟨rfl, M130x⟩
 have M130 := M14.cl M130x
 refine zpn 1 <| zfe <| zsr <| zpn 1 <| zld ⟨b10, 0, none⟩ (.slice x.pA x.phis.length x.pc) (blk_cell (M130.get 5 rfl) rfl) <| zpn 1 ?_
 intro aC fr
 refine zMk 52 75 (.tmp 51) (.tmp 51) 75 fr (e := 2) (bytes := 8) (z := (.int .i64 0)) (n := x.phis.length) (i := ((x.phis.length : Nat) : Int)) (by have := hX.lp; omega) (by have := hX.lp; simp only [maxLen]; omega) M130 ?_
 intro b131 w132 hb131 _ M133 _ aC ea fr; clear ea
 replace M133 := M133.nf
 revert aC
 refine zkp [(0, (pT C.r 0)), (5, (.slice (sM vg) vals.length vals.length)), (14, (pT b10 0)), (15, (nV at_)), (52, (.slice (sM b131) x.phis.length x.phis.length))] <| zpn 1 <| zfe <| zsq <| zsr <| zpn 1 <| zld ⟨b10, 0, none⟩ (.slice x.pA x.phis.length x.pc) (blk_cell (M133.get 5 rfl) rfl) <| zpn 2 <| zfe <| zbk 0 ?_
 have M138 : Mem (bS C s oA oc vg vals) w w132 [.blk C.r 89 (rcells C s oA oc), .row 2 1 (sM C.mG) C.E.memN C.E.memN (ints s.mem), .row 5 1 oA s.out.length oc (u8s s.out), .row 2 1 (sM vg) vals.length vals.length (ints vals), .blk b1 24 [(.string f.nm), (.bool f.wk), (.int .i64 f.pa), (.int .i64 f.va), (.slice f.A ((bsOf f.blks).length) f.c)], .blk b10 43 (xV x), .row 2 1 (sM b131) x.phis.length x.phis.length (ints (nowTo x.phis at_ vals 0))] := M133.cast (by rw [nowTo_zero x.phis at_ vals])
 intro aC fr
 refine zlp (fun n_ a_ w_ => ∃ (j : Nat), n_ = x.phis.length - j ∧ Fr a_ 171 [(0, (pT C.r 0)), (5, (.slice (sM vg) vals.length vals.length)), (14, (pT b10 0)), (15, (nV at_)), (16, (.slice (sM b131) x.phis.length x.phis.length)), (54, (.slice x.pA x.phis.length x.pc)), (55, (.int .i64 ((x.phis.length : Nat) : Int))), (56, (nV j))] ∧ Mem (bS C s oA oc vg vals) w w_ [.blk C.r 89 (rcells C s oA oc), .row 2 1 (sM C.mG) C.E.memN C.E.memN (ints s.mem), .row 5 1 oA s.out.length oc (u8s s.out), .row 2 1 (sM vg) vals.length vals.length (ints vals), .blk b1 24 [(.string f.nm), (.bool f.wk), (.int .i64 f.pa), (.int .i64 f.va), (.slice f.A ((bsOf f.blks).length) f.c)], .blk b10 43 (xV x), .row 2 1 (sM b131) x.phis.length x.phis.length (ints (nowTo x.phis at_ vals j))] ∧ (j ≤ x.phis.length)) (n := _) ⟨0, rfl, fr.kp [0, 5, 14, 15, 16, 54, 55, 56], M138, Nat.zero_le _⟩ ?_
 clear fr aC M138; rintro n aC w141 ⟨j, rfl, fr, M142, hj⟩
 revert aC
 refine zsp <| zsq <| zcD (((j : Int) : Int) < ((x.phis.length : Nat) : Int)) (fun c145 => ?_) (fun c145 => ?_)
 refine zsk <| zsq <| zbk 1 <| zsr ?_
 obtain ⟨p, hp⟩ := get_of (l := x.phis) (i := j) (by omega)
 have hpm := List.mem_of_getElem? hp
 refine zpn 1 ?_
 obtain ⟨ad146, had147⟩ := rds_some (M142.ro (hFn.phis hx)) (cs := p.cells) (i := j) (by simp [hp])
 intro aC fr
 refine From_ixA (some 59) x.pA ad146 x.phis.length 2 (j : Int) fr (by kernel_rfl) had147 (by omega) (by omega) ?_
 intro aC fr
 revert aC
 refine zls ((ad146 : Addr).add (((j : Int)).toNat * 2)) (pV p) (phi_get (M142.ro (hFn.phis hx)) had147 hp) <| zal M142 48 [(.int .i64 0), (.slice none 0 0)] fun b152 w153 hb152 M154 => ?_
 replace M154 := M154.nf
 refine zpn 1 <| zss M154 7 (pV p) rfl fun w155 M156 => ?_
 replace M156 := M156.nf
 refine zfe <| zrg ?_
 have hpl := hX.plen p hpm
 obtain ⟨hp0, hp1⟩ := hX.pargs p hpm _ (getD_in (by omega : at_ < p.args.length))
 refine zpn 4 <| zld ⟨b152, 1, none⟩ (.slice p.A p.args.length p.c) (blk_cell (M156.get 7 rfl) rfl) <| zpn 1 ?_
 obtain ⟨ad157, had158⟩ := rd_some (M156.ro (hFn.phi hx hp)) (by rw [ints_len]; omega)
 intro aC fr
 refine From_ixA (some 67) p.A ad157 p.args.length 1 (at_ : Int) fr (by kernel_rfl) had158 (by omega) (by omega) ?_
 intro aC fr
 revert aC
 refine zld ((ad157 : Addr).add (((at_ : Int)).toNat * 1)) (.int .i64 (p.args.getD at_ 0)) (rd_int (M156.ro (hFn.phi hx hp)) had158 (by omega) (by omega)) <| zkp [(0, (pT C.r 0)), (5, (.slice (sM vg) vals.length vals.length)), (14, (pT b10 0)), (15, (nV at_)), (16, (.slice (sM b131) x.phis.length x.phis.length)), (54, (.slice x.pA x.phis.length x.pc)), (55, (.int .i64 ((x.phis.length : Nat) : Int))), (56, (nV j)), (61, (.slice (sM b131) x.phis.length x.phis.length)), (62, (nV j)), (63, (.slice (sM vg) vals.length vals.length)), (68, (.int .i64 (p.args.getD at_ 0)))] <| zix ⟨vg, 0, none⟩ vals.length 1 (p.args.getD at_ 0) <| zld ((⟨vg, 0, none⟩ : Addr).add ((p.args.getD at_ 0).toNat * 1)) (.int .i64 (phiV at_ vals p)) (rd_int (row_rd (M156.get 3 rfl)) rfl hp0 (by omega)) <| zix ⟨b131, 0, none⟩ x.phis.length 1 (j : Int) <| zsw M156 6 ((⟨b131, 0, none⟩ : Addr).add (((j : Int)).toNat * 1)) (((j : Int)).toNat * 1) (.int .i64 (phiV at_ vals p)) rfl rfl (by omega) fun w163 M164 => ?_
 replace M164 := M164.nf
 refine zfe <| zrg <| zar ((j : Int) + 1) <| zpn 1 <| zfe ?_
 have e_ : (ints (nowTo x.phis at_ vals j)).set ((j : Int).toNat * 1) (.int .i64 (phiV at_ vals p)) = ints (nowTo x.phis at_ vals (j + 1)) := by rw [Nat.mul_one]; show (ints _).set j _ = _; rw [← ints_set, nowTo_set hp]
 intro aC fr
 exact ⟨x.phis.length - (j + 1), by omega, j + 1, rfl, fr.kp [0, 5, 14, 15, 16, 54, 55, 56], ((M164.tk 7).cast (by rw [← e_]; rfl)), by omega⟩
 refine zex 0 <| zbh <| zsr <| zpn 1 <| zld ⟨b10, 0, none⟩ (.slice x.pA x.phis.length x.pc) (blk_cell (M142.get 5 rfl) rfl) <| zpn 2 <| zfe <| zbk 2 ?_
 obtain rfl : j = x.phis.length := by omega
 have M167 : Mem (bS C s oA oc vg vals) w w141 [.blk C.r 89 (rcells C s oA oc), .row 2 1 (sM C.mG) C.E.memN C.E.memN (ints s.mem), .row 5 1 oA s.out.length oc (u8s s.out), .row 2 1 (sM vg) vals.length vals.length (ints (phiTo x.phis at_ vals 0)), .blk b1 24 [(.string f.nm), (.bool f.wk), (.int .i64 f.pa), (.int .i64 f.va), (.slice f.A ((bsOf f.blks).length) f.c)], .blk b10 43 (xV x), .row 2 1 (sM b131) x.phis.length x.phis.length (ints (nowTo x.phis at_ vals x.phis.length))] := M142.cast (by rw [phiTo_zero])
 intro aC fr
 refine zlp (fun n_ a_ w_ => ∃ (j : Nat), n_ = x.phis.length - j ∧ Fr a_ 171 [(0, (pT C.r 0)), (5, (.slice (sM vg) vals.length vals.length)), (14, (pT b10 0)), (16, (.slice (sM b131) x.phis.length x.phis.length)), (74, (.slice x.pA x.phis.length x.pc)), (75, (.int .i64 ((x.phis.length : Nat) : Int))), (76, (nV j))] ∧ Mem (bS C s oA oc vg vals) w w_ [.blk C.r 89 (rcells C s oA oc), .row 2 1 (sM C.mG) C.E.memN C.E.memN (ints s.mem), .row 5 1 oA s.out.length oc (u8s s.out), .row 2 1 (sM vg) vals.length vals.length (ints (phiTo x.phis at_ vals j)), .blk b1 24 [(.string f.nm), (.bool f.wk), (.int .i64 f.pa), (.int .i64 f.va), (.slice f.A ((bsOf f.blks).length) f.c)], .blk b10 43 (xV x), .row 2 1 (sM b131) x.phis.length x.phis.length (ints (nowTo x.phis at_ vals x.phis.length))] ∧ (j ≤ x.phis.length)) (n := _) ⟨0, rfl, fr.kp [0, 5, 14, 16, 74, 75, 76], M167, Nat.zero_le _⟩ ?_
 clear fr aC M167; rintro n aC w170 ⟨j, rfl, fr, M171, hj⟩
 revert aC
 refine zsp <| zsq <| zcD (((j : Int) : Int) < ((x.phis.length : Nat) : Int)) (fun c174 => ?_) (fun c174 => ?_)
 refine zsk <| zsq <| zbk 3 <| zsr ?_
 obtain ⟨p, hp⟩ := get_of (l := x.phis) (i := j) (by omega)
 have hpm := List.mem_of_getElem? hp
 refine zpn 1 ?_
 obtain ⟨ad175, had176⟩ := rds_some (M171.ro (hFn.phis hx)) (cs := p.cells) (i := j) (by simp [hp])
 intro aC fr
 refine From_ixA (some 79) x.pA ad175 x.phis.length 2 (j : Int) fr (by kernel_rfl) had176 (by omega) (by omega) ?_
 intro aC fr
 revert aC
 refine zls ((ad175 : Addr).add (((j : Int)).toNat * 2)) (pV p) (phi_get (M171.ro (hFn.phis hx)) had176 hp) <| zal M171 48 [(.int .i64 0), (.slice none 0 0)] fun b181 w182 hb181 M183 => ?_
 replace M183 := M183.nf
 refine zpn 1 <| zss M183 7 (pV p) rfl fun w184 M185 => ?_
 replace M185 := M185.nf
 refine zfe ?_
 obtain ⟨hd0, hd1⟩ := hX.pdst p hpm
 refine zkp [(0, (pT C.r 0)), (5, (.slice (sM vg) vals.length vals.length)), (14, (pT b10 0)), (16, (.slice (sM b131) x.phis.length x.phis.length)), (19, (nV j)), (20, (pT b181 0)), (74, (.slice x.pA x.phis.length x.pc)), (75, (.int .i64 ((x.phis.length : Nat) : Int))), (76, (nV j))] ?_
 intro aC fr
 refine zdt 7 (N := 171) (env0 := [(0, (pT C.r 0)), (5, (.slice (sM vg) vals.length vals.length)), (14, (pT b10 0)), (16, (.slice (sM b131) x.phis.length x.phis.length)), (19, (nV j)), (20, (pT b181 0)), (74, (.slice x.pA x.phis.length x.pc)), (75, (.int .i64 ((x.phis.length : Nat) : Int))), (76, (nV j))]) (specAt [.det (.slice (sM vg) vals.length vals.length), .det (pT b181 0), .det (.int .i64 p.dst), .det (.slice (sM b131) x.phis.length x.phis.length), .det (nV j), .det (.pointer (some ((⟨b131, 0, none⟩ : Addr).add (((j : Int)).toNat * 1)))), .det (.int .i64 (phiV at_ vals p))]) fr (la (la (la (la (la (la (la lz dP) dP) (dL ⟨b181, 0, none⟩ (.int .i64 p.dst) fun w_ hK => (blk_cell ((M185.then_ hK).get 7 rfl) rfl))) dP) dP) (dI ⟨b131, 0, none⟩ x.phis.length 1 (j : Int))) (dL ((⟨b131, 0, none⟩ : Addr).add (((j : Int)).toNat * 1)) (.int .i64 (phiV at_ vals p)) fun w_ hK => (now_cell (row_rd ((M185.then_ hK).get 6 rfl)) rfl hp))) ?_
 intro aC w190 vs hK hv fr
 revert aC; refine zkp [(0, (pT C.r 0)), (5, (.slice (sM vg) vals.length vals.length)), (14, (pT b10 0)), (16, (.slice (sM b131) x.phis.length x.phis.length)), (74, (.slice x.pA x.phis.length x.pc)), (75, (.int .i64 ((x.phis.length : Nat) : Int))), (76, (nV j)), (81, (.slice (sM vg) vals.length vals.length)), (83, (.int .i64 p.dst)), (87, (.int .i64 (phiV at_ vals p)))] ?_
 have M191 := M185.then_ hK
 clear hK hv fr aC M185; clear vs
 refine zix ⟨vg, 0, none⟩ vals.length 1 p.dst <| zsw M191 3 ((⟨vg, 0, none⟩ : Addr).add ((p.dst).toNat * 1)) ((p.dst).toNat * 1) (.int .i64 (phiV at_ vals p)) rfl rfl (by omega) fun w192 M193 => ?_
 replace M193 := M193.nf
 refine zfe <| zrg <| zar ((j : Int) + 1) <| zpn 1 <| zfe ?_
 have e_ : (ints (phiTo x.phis at_ vals j)).set ((p.dst).toNat * 1) (.int .i64 (phiV at_ vals p)) = ints (phiTo x.phis at_ vals (j + 1)) := by rw [Nat.mul_one, ← ints_set, phiTo_succ hp]
 intro aC fr
 exact ⟨x.phis.length - (j + 1), by omega, j + 1, rfl, fr.kp [0, 5, 14, 16, 74, 75, 76], ((M193.tk 7).cast (by rw [← e_]; rfl)), by omega⟩
 refine zex 2 <| zbh ?_
 obtain rfl : j = x.phis.length := by omega
 intro aC fr
 exact ⟨phiTo x.phis at_ vals x.phis.length, fr.kp [0, 5, 14], (M171.tk 6), by rw [phiTo_all, hat]⟩
 refine zsk ?_
 intro aC fr
 exact ⟨vals, fr.kp [0, 5, 14], M14, by rw [List.eq_nil_of_length_eq_zero (by omega : x.phis.length = 0)]; rfl⟩
end Go.Proofs.Ytjekgaabcigphaa
namespace Go.Mor
open Go.RowKit
def slhE (P : Program) (c : Code) (N : FN) (env : Env) (k : Nat) : Option (Option Nat × Option Addr × Nat × Int) := match coreAt c k with
  | some (d, .slice t x none (some y) none, _, g) => match guardE c g env, okd d N, ev env x, ev env y, P.underlying t with
    | some true, true, some (.slice A _ cap), some (.int _ i), some (.slice e) => match (P.info? e).map (·.size) with
      | some _ => some (d, A, cap, i)
      | none => none
    | _, _, _, _, _ => none
  | _ => none
section
variable {P : Program} {c : Code} {K : Act → World → Prop} {Q : Exit → Act → World → Prop} {w w0 : World} {S : Nat → Prop} {L : List Res} {k : Nat} {N : FN} {env : Env}
theorem zhi {A : Option Addr} {cap : Nat} {i : Int} (m : Nat) (hi : i = (m : Int)) (hm : m ≤ cap) (h : ∀ a, Fr a N (putE env (dstAt c k) (.slice A m cap)) → From P c K Q (k + 1) a w) (hk : slhE P c N env k = some (dstAt c k, A, cap, i)) : ∀ a, Fr a N env → From P c K Q k a w := fun a hF => by
  unfold slhE at hk
  split at hk
  · rename_i h0
    split at hk
    · rename_i h1 h2 h3 h4 h5
      split at hk
      · rename_i sz h6
        simp only [Option.some.injEq, Prod.mk.injEq] at hk
        obtain ⟨rfl, rfl, rfl, rfl⟩ := hk
        exact From_sliceHi h0 hF h1 h2 rfl m h3 h4 hi h5 h6 hm (fun a' _ => h a')
      · cases hk
    · cases hk
  · cases hk
def cpE (P : Program) (c : Code) (N : FN) (env : Env) (k : Nat) : Option (Option Nat × Nat × Nat × Option Addr × Nat) := match coreAt c k with
  | some (d, .call { callee := .builtin .copy, args := args, argTypes := ts }, _, g) => match args.toList, ts.toList, guardE c g env, okd d N with
    | [x, y], [t, _], some true, true => match ev env x, ev env y, P.underlying t with
      | some (.slice (some ⟨b, 0, none⟩) dn _), some (.slice A m _), some (.slice e) => match (P.info? e).map (·.size) with
        | some 1 => some (d, b, dn, A, m)
        | _ => none
      | _, _, _ => none
    | _, _, _, _ => none
  | _ => none
theorem zcp (hM : Mem S w0 w L) (i : Nat) {e b n dn m rc : Nat} {A : Option Addr} {xs cs : List Value} (hL : L[i]? = some (.row e 1 (some ⟨b, 0, none⟩) n rc cs)) (hsrc : (Res.rd A xs).holds w) (hn : m = xs.length) (hnd : m ≤ dn) (hl : xs.length ≤ cs.length) (h1 : ∀ v ∈ xs, v.oneCell' = true)
    (h : ∀ w', Mem S w0 w' (L.set i (.row e 1 (some ⟨b, 0, none⟩) n rc (xs ++ cs.drop xs.length))) → ∀ a, Fr a N (putE env (dstAt c k) (goInt xs.length)) → From P c K Q (k + 1) a w') (hk : cpE P c N env k = some (dstAt c k, b, dn, A, m)) : ∀ a, Fr a N env → From P c K Q k a w := fun a hF => by
  unfold cpE at hk
  split at hk
  · rename_i d0 args ts ty g h0
    split at hk
    · rename_i x y t u hx hy h1' h2'
      have hx' : args = #[x, y] := by apply Array.ext'; simpa using hx
      have hy' : ts = #[t, u] := by apply Array.ext'; simpa using hy
      subst hx' hy'
      split at hk
      · rename_i b0 dn0 dc0 A0 m0 c0 e0 h3 h4 h5
        split at hk
        · rename_i h6
          simp only [Option.some.injEq, Prod.mk.injEq] at hk
          obtain ⟨rfl, rfl, rfl, rfl, rfl⟩ := hk
          exact From_copyR h0 hF h1' h2' rfl h5 h6 h3 h4 hM i hL hsrc hn hnd hl h1 (fun w' hM' a' _ => h w' hM' a')
        · cases hk
      · cases hk
    · cases hk
  · cases hk
end
end Go.Mor
namespace Go.Mor
open Go.RowKit
theorem fns_at {α β : Type} {z : β} {g : α → β} {l : List α} {n : Int} {f : α} (h1 : 1 ≤ n) (h : l[(n - 1).toNat]? = some f) : (z :: l.map g)[n.toNat]? = some (g f) := by
  rw [show n.toNat = (n - 1).toNat + 1 by omega, List.getElem?_cons_succ, List.getElem?_map, h]
  rfl
section
variable {E : Env0} {body : RFn → Int → Int → List Int → PSt → Got Int} {n : Int} {l : List Int} {s s' : PSt} {f : RFn} {x : Int}
theorem enter_rng (h : n < 1 ∨ n ≥ (E.fns.length : Int) + 1) : enterS E body n l s = .stop 5 0 s := by unfold enterS; rw [if_pos h]
theorem enter_at (h : ¬ (n < 1 ∨ n ≥ (E.fns.length : Int) + 1)) (hf : E.fns[(n - 1).toNat]? = some f) : enterS E body n l s = if (l.length : Int) ≠ f.pa then .stop 5 0 s else if s.opened = 1200 then .stop 4 0 s
    else body f 0 (-1) (l ++ List.replicate (f.va.toNat - l.length) 0) { s with opened := s.opened + 1 } := by unfold enterS; rw [if_neg h, hf]
end
def Keeps (call : Int → List Int → PSt → Got Int) : Prop := ∀ n l s x s', call n l s = .ok x s' → s'.opened = s.opened
section
variable {E : Env0} {call : Int → List Int → PSt → Got Int}
theorem step_keeps {s s' : PSt} {x : Unit} (h : stepS E s = .ok x s') : s'.opened = s.opened := by
  unfold stepS at h
  split at h
  · cases h
  · injection h with h1 h2; subst h2; rfl
theorem inst_keeps (hm : Keeps call) {i : FIns} {l : List Int} {s s' : PSt} {x : Int} (h : instS E call i l s = .ok x s') : s'.opened = s.opened := by
  have fin : ∀ (y : Int) (s2 : PSt), s2.opened = s.opened → Got.ok y s2 = Got.ok x s' → s'.opened = s.opened := by
    intro y s2 h1 h2
    injection h2 with _ h2
    rw [← h2]
    exact h1
  by_cases h1 : i.op = 1
  · rw [inst_1 h1] at h; exact fin _ _ rfl h
  by_cases h2 : i.op = 2
  · rw [inst_2 h2] at h
    cases hq : atS (IntKind.i64.wrap (a0 l + i.n)) s with
    | ok k s2 => rw [bind_ok hq] at h; exact fin _ _ (by rw [at_state hq]) h
    | stop k c s2 => rw [bind_stop hq] at h; cases h
  by_cases h3 : i.op = 3
  · rw [inst_3 h3] at h
    cases hq : atS (IntKind.i64.wrap (a0 l + i.n)) s with
    | ok k s2 => rw [bind_ok hq] at h; exact fin _ _ (by rw [at_state hq]) h
    | stop k c s2 => rw [bind_stop hq] at h; cases h
  by_cases h4 : i.op = 4
  · rw [inst_4 h4] at h
    split at h
    · exact hm _ _ _ _ _ h
    · cases h
  by_cases h5 : i.op = 5
  · rw [inst_5 h5] at h; exact hm _ _ _ _ _ h
  by_cases h6 : i.op = 6
  · rw [inst_6 h6] at h
    split at h
    · exact fin _ _ rfl h
    · cases h
  by_cases h7 : i.op = 7
  · rw [inst_7 h7] at h
    split at h
    · exact fin _ _ rfl h
    · cases h
  by_cases h8 : i.op = 8
  · rw [inst_8 h8] at h
    split at h
    · cases h
    · split at h
      · cases h
      · exact fin _ { s with next := s.next + a0 l } rfl h
  by_cases h9 : i.op = 9
  · rw [inst_9 h9] at h
    split at h
    · exact fin _ { s with pos := s.pos + 1 } rfl h
    · exact fin _ _ rfl h
  by_cases h10 : i.op = 10
  · rw [inst_10 h10] at h
    exact fin _ _ (by split <;> rfl) h
  by_cases h11 : i.op = 11
  · rw [inst_11 h11] at h
    split at h
    · cases h
    · exact fin _ _ rfl h
  by_cases h12 : i.op = 12
  · rw [inst_12 h12] at h; exact fin _ _ rfl h
  by_cases h40 : i.op ≥ 40
  · rw [inst_un h40] at h; exact fin _ _ rfl h
  rw [inst_bin (by omega) (by omega)] at h
  split at h
  · exact fin _ _ rfl h
  · cases h
theorem insts_keep (hm : Mono call) (hk : Keeps call) : ∀ (is : List FIns) (v : List Int) (s : PSt) {v' : List Int} {s' : PSt}, instsS E call is v s = .ok v' s' → s.steps ≤ s'.steps ∧ s'.opened = s.opened
  | [], v, s, v', s', h => by injection h with h1 h2; subst h2; exact ⟨Int.le_refl _, rfl⟩
  | i :: r, v, s, v', s', h => by
    have e : instsS E call (i :: r) v s = (stepS E s).bind fun _ s => (instS E call i (valsOf v i.args) s).bind fun x s => instsS E call r (putV i v x) s := rfl
    rw [e] at h
    cases h1 : stepS E s with
    | stop k c s1 => rw [bind_stop h1] at h; cases h
    | ok u s1 =>
      rw [bind_ok h1] at h
      cases h2 : instS E call i (valsOf v i.args) s1 with
      | stop k c s2 => rw [bind_stop h2] at h; cases h
      | ok x s2 =>
        rw [bind_ok h2] at h
        obtain ⟨h3, h4⟩ := insts_keep hm hk r _ _ h
        have h5 := step_steps h1
        have h6 := step_keeps h1
        have h7 := inst_steps hm h2
        have h8 := inst_keeps hk h2
        exact ⟨by omega, by omega⟩
theorem block_keep (hm : Mono call) (hk : Keeps call) {f : RFn} {k from_ : Int} {vals : List Int} {s s' : PSt} {nx bk : Int} {v' : List Int} (h : blockS E call f k from_ vals s = .ok (nx, bk, v') s') :
    s.steps + 1 ≤ s'.steps ∧ s'.opened = s.opened := by
  cases hx : f.blks[k.toNat]? with
  | none => unfold blockS at h; rw [hx] at h; cases h
  | some x =>
    rw [block_at hx] at h
    cases h1 : instsS E call x.insts (phisS x.phis (indexN (f.src k.toNat) from_) vals) s with
    | stop a b s1 => rw [bind_stop h1] at h; cases h
    | ok v s1 =>
      rw [bind_ok h1] at h
      obtain ⟨h3, h4⟩ := insts_keep hm hk _ _ _ h1
      cases h2 : stepS E s1 with
      | stop a b s2 => unfold tailS at h; rw [bind_stop h2] at h; cases h
      | ok u s2 =>
        rw [tail_end h2] at h
        have h5 := step_steps h2
        have h6 := step_keeps h2
        have : s' = s2 := by
          split at h
          · injection h with _ h; exact h.symm
          · split at h
            · injection h with _ h; exact h.symm
            · split at h
              · cases h
              · injection h with _ h; exact h.symm
        subst this
        exact ⟨by omega, by omega⟩
theorem block_next {f : RFn} {k from_ : Int} {vals : List Int} {s s' : PSt} {nx bk : Int} {v' : List Int} {x : FBlk} (hx : f.blks[k.toNat]? = some x) (h : blockS E call f k from_ vals s = .ok (nx, bk, v') s') :
    nx < 0 ∨ (x.e = 0 ∧ nx = x.a ∨ x.e = 1 ∧ (nx = x.a ∨ nx = x.b)) := by
  rw [block_at hx] at h
  cases h1 : instsS E call x.insts (phisS x.phis (indexN (f.src k.toNat) from_) vals) s with
  | stop a b s1 => rw [bind_stop h1] at h; cases h
  | ok v s1 =>
    rw [bind_ok h1] at h
    cases h2 : stepS E s1 with
    | stop a b s2 => unfold tailS at h; rw [bind_stop h2] at h; cases h
    | ok u s2 =>
      rw [tail_end h2] at h
      split at h
      · rename_i he
        injection h with h _
        injection h with h _
        exact .inr (.inl ⟨he, h.symm⟩)
      · split at h
        · rename_i he
          injection h with h _
          injection h with h _
          refine .inr (.inr ⟨he, ?_⟩)
          split at h
          · exact .inl h.symm
          · exact .inr h.symm
        · split at h
          · cases h
          · injection h with h _
            injection h with h _
            exact .inl (by omega)
theorem body_at (g : Nat) (f : RFn) (k from_ : Int) (vals : List Int) (s : PSt) : bodyS E (g + 1) f k from_ vals s = (blockS E (callS E g) f k from_ vals s).bind fun r s =>
    if r.1 < 0 then .ok r.2.1 { s with opened := s.opened - 1 } else bodyS E g f r.1 k r.2.2 s := rfl
theorem enter_keep {body : RFn → Int → Int → List Int → PSt → Got Int} (hb : ∀ f k from_ v s x s', body f k from_ v s = .ok x s' → s.steps ≤ s'.steps ∧ s'.opened = s.opened - 1) : Mono (enterS E body) ∧ Keeps (enterS E body) := by
  have key : ∀ n l s x s', enterS E body n l s = .ok x s' → s.steps ≤ s'.steps ∧ s'.opened = s.opened := by
    intro n l s x s' h
    unfold enterS at h
    split at h
    · cases h
    · split at h
      · cases h
      · split at h
        · cases h
        · split at h
          · cases h
          · obtain ⟨h1, h2⟩ := hb _ _ _ _ _ _ _ h
            exact ⟨h1, by rw [h2]; show s.opened + 1 - 1 = _; omega⟩
  exact ⟨fun n l s x s' h => (key n l s x s' h).1, fun n l s x s' h => (key n l s x s' h).2⟩
theorem body_keep : ∀ (g : Nat) f k from_ v s x s', bodyS E g f k from_ v s = .ok x s' → s.steps ≤ s'.steps ∧ s'.opened = s.opened - 1
  | 0, _, _, _, _, _, _, _, h => by cases h
  | g + 1, f, k, from_, v, s, x, s', h => by
    obtain ⟨hm, hk⟩ := enter_keep (E := E) (body_keep g)
    rw [body_at] at h
    cases h1 : blockS E (callS E g) f k from_ v s with
    | stop a b s1 => rw [bind_stop h1] at h; cases h
    | ok r s1 =>
      rw [bind_ok h1] at h
      obtain ⟨nx, bk, v'⟩ := r
      obtain ⟨h3, h4⟩ := block_keep hm hk h1
      split at h
      · injection h with _ h
        subst h
        exact ⟨by show s.steps ≤ s1.steps; omega, by show s1.opened - 1 = _; omega⟩
      · obtain ⟨h5, h6⟩ := body_keep g _ _ _ _ _ _ _ h
        exact ⟨by omega, by omega⟩
theorem call_mono (g : Nat) : Mono (callS E g) := (enter_keep (body_keep g)).1
theorem call_keeps (g : Nat) : Keeps (callS E g) := (enter_keep (body_keep g)).2
end
theorem pad_ints (l : List Int) (n : Nat) : ints l ++ (List.replicate n (Value.int .i64 0)).drop (ints l).length = ints (l ++ List.replicate (n - l.length) 0) := by
  simp [ints]
end Go.Mor
namespace Go.Mor
open Go.RowKit
theorem RGood.leave {C : RC} {s : PSt} (h : RGood C s) (h1 : 1 ≤ s.opened) : RGood C { s with opened := s.opened - 1 } :=
  ⟨h.mem, h.n1, h.n2, h.pos, h.out, h.s1, h.s2, by show 0 ≤ s.opened - 1; omega, by have := h.o2; show s.opened - 1 ≤ 1200; omega⟩
theorem next_ok {E : Env0} {call : Int → List Int → PSt → Got Int} {f : RFn} (hW : f.WF) {k from_ : Int} (hk : 0 ≤ k) {vals : List Int} {s s' : PSt} {nx bk : Int} {v' : List Int} {x : FBlk} (hx : f.blks[k.toNat]? = some x)
    (h : blockS E call f k from_ vals s = .ok (nx, bk, v') s') (hn : ¬ nx < 0) :
    0 ≤ nx ∧ nx < f.blks.length ∧ ∀ x', f.blks[nx.toNat]? = some x' → x'.phis = [] ∨ k ∈ f.src nx.toNat := by
  have hr := (block_next hx h).resolve_left hn
  have he := hW.edge k.toNat x nx hx hr
  rw [Int.toNat_of_nonneg hk] at he
  have hq := (hW.blk _ _ hx).ends
  refine ⟨by omega, ?_, fun _ _ => .inr he⟩
  rcases hq with ⟨h0, ha, _⟩ | ⟨h0, ha, hb, _⟩ | ⟨h0, _⟩ | ⟨h0, _⟩ <;> rcases hr with ⟨h1, h2⟩ | ⟨h1, h2⟩ <;> first | omega | (rcases h2 with h2 | h2 <;> omega)
end Go.Mor
namespace Go.Proofs.Ytjekgaabcigphaa
open Go.Mor
theorem block_d (C : RC) (s : PSt) (oA : Option Addr) (oc : Nat) (w : World) (hC : C.WF) (hG : RGood C s) (f : RFn) (n k from_ : Int) (vals : List Int) (vg : Nat) (x : FBlk) (m : Nat) (hm : m = vals.length) (hR : (Res.pk (runL C s oA oc ++ [.row 2 1 (sM vg) m m (ints vals)])).holds w) (hA : RO ((Res.pk (runL C s oA oc ++ [.row 2 1 (sM vg) m m (ints vals)])).fp) w C.ro) (hn1 : 1 ≤ n) (hn2 : n ≤ C.E.fns.length) (hn : C.E.fns[(n - 1).toNat]? = some f) (hk0 : 0 ≤ k) (hx : f.blks[k.toNat]? = some x) (hfrom : x.phis = [] ∨ from_ ∈ f.src k.toNat) (hvl : vals.length = f.va.toNat) (call : Int → List Int → PSt → Got Int) (b : Int) (hcall : CallOk Try.prog C 73 call b) (hmono : Mono call) (hb : C.E.fuel - s.steps ≤ b) :
    Calls Try.prog 87 #[(pT C.r 0), (.agg #[(.string f.nm), (.bool f.wk), (.int .i64 f.pa), (.int .i64 f.va), (.slice f.A ((bsOf f.blks).length) f.c)]), (.int .i64 n), (.int .i64 k), (.int .i64 from_), (.slice (sM vg) m m)] w (REnds (fun v w' => ∃ nx bk v' s' oA' oc', blockS C.E call f k from_ vals s = .ok (nx, bk, v') s' ∧ v = .tuple #[.int .i64 nx, .int .i64 bk] ∧ RGood C s' ∧ v'.length = vals.length ∧ Mem ((Res.pk (runL C s oA oc ++ [.row 2 1 (sM vg) m m (ints vals)])).fp) w w' (runL C s' oA' oc' ++ [.row 2 1 (sM vg) m m (ints v')])) (fun v w' => RP C ((Res.pk (runL C s oA oc ++ [.row 2 1 (sM vg) m m (ints vals)])).fp) w (blockS C.E call f k from_ vals s) v w')) := by
  subst hm
  exact block_c C s oA oc w hC hG f n k from_ vals vg x hR hA hn1 hn2 hn hk0 hx hfrom hvl call b hcall hmono hb
set_option maxHeartbeats 2000000 in
theorem calls_g (C : RC) (s : PSt) (oA : Option Addr) (oc : Nat) (w : World) (hC : C.WF) (hG : RGood C s) (hR : (Res.pk (runL C s oA oc)).holds w) (hA : RO (rS C s oA oc) w C.ro) (g : Nat) (ih : ∀ j, j < g → CallOk Try.prog C 73 (callS C.E j) (j : Int)) (n : Int) (l : List Int) (bA : Option Addr) (bc : Nat) (hb : C.E.fuel - s.steps < (g : Int)) (hl : RO (rS C s oA oc) w (.rd bA (ints l))) (hlen : l.length ≤ 17) :
    RCalls Try.prog C s oA oc w 73 [(pT C.r 0), (.int .i64 n), (.slice bA l.length bc)] intV (callS C.E g n l s) := by
 have hnf := hC.nfns
 refine xen 87 [(pT C.r 0), (.int .i64 n), (.slice bA l.length bc)] Try.func73 ?_
 have hM := Mem.unpk hR
 refine zsp <| zsr <| zpn 4 ?_
 obtain ⟨B1, hB1⟩ : ∃ B : Bool, B = decide ((n : Int) < 1) := ⟨_, rfl⟩
 refine zkp [(0, (pT C.r 0)), (1, (.int .i64 n)), (2, (.slice bA l.length bc)), (13, (pT C.r 0)), (16, (.bool (decide ((n : Int) < 1))))] ?_
 rw [← hB1]
 have iB1 : B1 = true ↔ ((n : Int) < 1) := by rw [hB1]; simp only [decide_eq_true_eq]
 clear hB1
 intro aC fr
 refine zpk 4 8 [17, 20] fr (news := [(17, (cond (!B1) (.int .i64 n) undef)), (20, (cond (!B1) (pT C.r 0) undef))]) (by cases B1 <;> kernel_rfl) ?_
 intro aC fr
 refine From_either (B := (!B1)) (d := (some 21)) (.slice C.fA (C.E.fns.length + 1) C.fc) fr (by cases B1 <;> kernel_rfl) (fun hB hh => ?_) ?_
 cases B1 <;> first | (exact absurd hB (by decide)) | skip
 have c1 : ¬ ((n : Int) < 1) := (fun h => Bool.noConfusion (iB1.2 h) : ¬ ((n : Int) < 1))
 exact From_ld (some 21) ⟨C.r, 0, none⟩ fr (by kernel_rfl) (.slice C.fA (C.E.fns.length + 1) C.fc) (blk_cell (hM.get 0 rfl) rfl) hh
 intro aC fr
 refine zpk 3 12 [24] fr (news := [(24, (.bool (B1 || decide ((n : Int) ≥ (((C.E.fns.length + 1) : Nat) : Int)))))]) (by cases B1 <;> kernel_rfl) ?_
 intro aC fr
 obtain ⟨B10, hB10⟩ : ∃ B : Bool, B = (B1 || decide ((n : Int) ≥ (((C.E.fns.length + 1) : Nat) : Int))) := ⟨_, rfl⟩
 revert aC
 refine zkp [(0, (pT C.r 0)), (1, (.int .i64 n)), (2, (.slice bA l.length bc)), (13, (pT C.r 0)), (24, (.bool (B1 || decide ((n : Int) ≥ (((C.E.fns.length + 1) : Nat) : Int)))))] ?_
 rw [← hB10]
 have iB10 : B10 = true ↔ (((n : Int) < 1) ∨ ((n : Int) ≥ (((C.E.fns.length + 1) : Nat) : Int))) := by rw [hB10]; simp only [Bool.or_eq_true, decide_eq_true_eq, iB1]
 clear hB10
 refine zkp [(0, (pT C.r 0)), (1, (.int .i64 n)), (2, (.slice bA l.length bc)), (13, (pT C.r 0)), (24, (.bool B10))] <| zce (fault_c C.r B10 w) (fun _ w2_ ⟨hb_, hv_, hx_⟩ a_ hf_ => by subst hv_; have cf11 : (((n : Int) < 1) ∨ ((n : Int) ≥ (((C.E.fns.length + 1) : Nat) : Int))) := iB10.1 hb_; exact xpp hf_ (⟨_, _, s, oA, oc, enter_rng (by omega), rfl, hG, (hM.cl hx_)⟩)) ?_
 rintro _ w12 ⟨hb_, rfl, M13x⟩
 have M13 := hM.cl M13x
 clear M13x hM
 have cf11 : ¬ (((n : Int) < 1) ∨ ((n : Int) ≥ (((C.E.fns.length + 1) : Nat) : Int))) := fun h_ => Bool.noConfusion ((iB10.2 h_).symm.trans hb_)
 clear hb_
 refine zfe <| zsr ?_
 obtain ⟨f, hf⟩ := get_of (l := C.E.fns) (i := (n - 1).toNat) (by omega)
 have hn1 : 1 ≤ n := by omega
 have hn2 : n ≤ C.E.fns.length := by omega
 have hW := hC.fns f (List.mem_of_getElem? hf)
 have hva := hW.va
 have hva0 : 0 ≤ f.va := Int.le_trans hW.pa0 hW.pav
 have hpav := hW.pav
 have hent := enter_at (body := bodyS C.E g) (l := l) (s := s) (by omega) hf
 refine zpn 3 <| zld ⟨C.r, 0, none⟩ (.slice C.fA (C.E.fns.length + 1) C.fc) (blk_cell (M13.get 0 rfl) rfl) <| zpn 1 ?_
 obtain ⟨ad14, had15⟩ := rds_some (M13.ro hA.rfns) (fns_at hn1 hf)
 intro aC fr
 refine From_ixA (some 31) C.fA ad14 (C.E.fns.length + 1) 5 n fr (by kernel_rfl) had15 (by omega) (by omega) ?_
 intro aC fr
 revert aC
 refine zls ((ad14 : Addr).add ((n).toNat * 5)) [(.string f.nm), (.bool f.wk), (.int .i64 f.pa), (.int .i64 f.va), (.slice f.A ((bsOf f.blks).length) f.c)] (rds_cells (M13.ro hA.rfns) had15 (fns_at hn1 hf)) <| zal M13 24 [(.string ⟨#[]⟩), (.bool false), (.int .i64 0), (.int .i64 0), (.slice none 0 0)] fun b20 w21 hb20 M22 => ?_
 replace M22 := M22.nf
 refine zss M22 3 [(.string f.nm), (.bool f.wk), (.int .i64 f.pa), (.int .i64 f.va), (.slice f.A ((bsOf f.blks).length) f.c)] rfl fun w23 M24 => ?_
 replace M24 := M24.nf
 refine zfe <| zsr <| zpn 4 <| zld ⟨b20, 2, none⟩ (.int .i64 f.pa) (blk_cell (M24.get 3 rfl) rfl) <| zpn 1 ?_
 obtain ⟨B25, hB25⟩ : ∃ B : Bool, B = ((((l.length : Nat) : Int) : Int) != f.pa) := ⟨_, rfl⟩
 refine zkp [(0, (pT C.r 0)), (1, (.int .i64 n)), (2, (.slice bA l.length bc)), (7, (pT b20 0)), (33, (pT C.r 0)), (38, (.bool ((((l.length : Nat) : Int) : Int) != f.pa)))] ?_
 rw [← hB25]
 have iB25 : B25 = true ↔ ((((l.length : Nat) : Int) : Int) ≠ f.pa) := by rw [hB25]; simp only [bne_iff_ne]
 clear hB25
 refine zkp [(0, (pT C.r 0)), (1, (.int .i64 n)), (2, (.slice bA l.length bc)), (7, (pT b20 0)), (33, (pT C.r 0)), (38, (.bool B25))] <| zce (fault_c C.r B25 w23) (fun _ w2_ ⟨hb_, hv_, hx_⟩ a_ hf_ => by subst hv_; have cf26 : ((((l.length : Nat) : Int) : Int) ≠ f.pa) := iB25.1 hb_; exact xpp hf_ (⟨_, _, s, oA, oc, hent.trans (if_pos (by omega)), rfl, hG, (M24.cl hx_).tk 3⟩)) ?_
 rintro _ w27 ⟨hb_, rfl, M28x⟩
 have M28 := M24.cl M28x
 have cf26 : ¬ ((((l.length : Nat) : Int) : Int) ≠ f.pa) := fun h_ => Bool.noConfusion ((iB25.2 h_).symm.trans hb_)
 clear hb_
 refine zfe <| zsq <| zsr <| zpn 3 <| zld ⟨C.r, 10, none⟩ (.int .i64 s.opened) (blk_cell (M28.get 0 rfl) rfl) <| zpn 1 <| zfe <| zcP ((s.opened : Int) == 1200) ((s.opened : Int) = 1200) (by simp only [beq_iff_eq]) (fun c29 => ?_) (fun c29 => ?_)
 refine zrg <| zpn 1 <| zce (stop_c C.r 4 0 w27) (fun _ w2_ ⟨hv_, hx_⟩ a_ hf_ => by subst hv_; exact xpp hf_ (⟨_, _, s, oA, oc, hent.trans (by rw [if_neg (by omega), if_pos (by omega)]), rfl, hG, (M28.cl hx_).tk 3⟩)) ?_
 rintro _ w30 h_; exact h_.elim
 refine zsk <| zsr ?_
 have hgo : callS C.E g n l s = bodyS C.E g f 0 (-1) (l ++ List.replicate (f.va.toNat - l.length) 0) { s with opened := s.opened + 1 } := hent.trans (by rw [if_neg (by omega), if_neg (by omega)])
 have ho1 := hG.o1
 have ho2 := hG.o2
 refine zpn 3 <| zld ⟨C.r, 10, none⟩ (.int .i64 s.opened) (blk_cell (M28.get 0 rfl) rfl) <| zar (s.opened + 1) <| zpn 2 <| zsb (ho := (by simp)) M28 0 10 (.int .i64 (s.opened + 1)) rfl fun w32 M33 => ?_
 replace M33 := M33.nf
 refine zfe <| zsr <| zpn 1 <| zld ⟨b20, 3, none⟩ (.int .i64 f.va) (blk_cell (M33.get 3 rfl) rfl) ?_
 intro aC fr
 refine From_make1 (by kernel_rfl : coreAt _ 2 = some (some 56, (.makeSlice 75 (.tmp 55) (.tmp 55)), 75, none)) fr (by kernel_rfl) (by kernel_rfl) (k' := 3) rfl (e := 2) (bytes := 8) (z := (.int .i64 0)) (n := f.va.toNat) (i := f.va) (by kernel_rfl) (by kernel_rfl) (by omega) (by kernel_rfl) (by kernel_rfl) rfl (by omega) (by simp only [maxLen]; omega) M33 ?_
 intro b34 w35 hb34 _ M36 _ aC ea fr; clear ea
 replace M36 := M36.nf
 revert aC
 refine zkp [(0, (pT C.r 0)), (1, (.int .i64 n)), (2, (.slice bA l.length bc)), (7, (pT b20 0)), (56, (.slice (sM b34) f.va.toNat f.va.toNat))] <| zpn 1 <| zfe <| zsr <| zpn 2 <| zld ⟨b20, 2, none⟩ (.int .i64 f.pa) (blk_cell (M36.get 3 rfl) rfl) <| zhi (A := some ⟨b34, 0, none⟩) (cap := f.va.toNat) (i := f.pa) (hk := by kernel_rfl) f.pa.toNat (by have := hW.pa0; omega) (by omega) <| zpn 1 <| zcp M36 4 (e := 2) (b := b34) (n := f.va.toNat) (dn := f.pa.toNat) (m := l.length) (rc := f.va.toNat) (A := bA) (xs := ints l) (cs := List.replicate f.va.toNat (.int .i64 0)) rfl (M36.ro hl) (ints_len l).symm (by omega) (by simp [ints_len]; omega) (ints_one l) (fun w41 M42 => ?_) (by kernel_rfl)
 replace M42 := M42.nf
 have M43 : Mem (rS C s oA oc) w w41 [.blk C.r 89 [(.slice C.fA (C.E.fns.length + 1) C.fc), (.slice C.sA (C.E.fns.length + 1) C.sc), (.map (some C.mB)), (.map (some C.dB)), (.slice (sM C.mG) C.E.memN C.E.memN), (.int .i64 s.next), (.slice ((inAt C.iA C.ic s.pos).1) (C.E.inp.length - s.pos) ((inAt C.iA C.ic s.pos).2)), (.slice oA s.out.length oc), (.int .i64 C.E.fuel), (.int .i64 s.steps), (.int .i64 (s.opened + 1)), (.slice (some C.oP) 13 13)], .row 2 1 (sM C.mG) C.E.memN C.E.memN (ints s.mem), .row 5 1 oA s.out.length oc (u8s s.out), .blk b20 24 [(.string f.nm), (.bool f.wk), (.int .i64 f.pa), (.int .i64 f.va), (.slice f.A ((bsOf f.blks).length) f.c)], .row 2 1 (sM b34) f.va.toNat f.va.toNat (ints (l ++ List.replicate (f.va.toNat - l.length) 0))] := M42.cast (by rw [pad_ints])
 have M44 := M43.od [3, 4, 4, 4, 4] 5
 refine zfe <| zsp <| zsq <| zbk 0 ?_
 intro aC fr
 refine zlp (fun n_ a_ w_ => ∃ (j : Nat) (kj : Int) (fj : Int) (vj : List Int) (sj : PSt) (oAj : Option Addr) (ocj : Nat), n_ = 2 * j ∧ Fr a_ 87 [(0, (pT C.r 0)), (1, (.int .i64 n)), (7, (pT b20 0)), (8, (.slice (sM b34) f.va.toNat f.va.toNat)), (9, (.int .i64 kj)), (10, (.int .i64 fj))] ∧ Mem (rS C s oA oc) w w_ [.blk C.r 89 (rcells C sj oAj ocj), .row 2 1 (sM C.mG) C.E.memN C.E.memN (ints sj.mem), .row 5 1 oAj sj.out.length ocj (u8s sj.out), .row 2 1 (sM b34) f.va.toNat f.va.toNat (ints vj), .blk b20 24 [(.string f.nm), (.bool f.wk), (.int .i64 f.pa), (.int .i64 f.va), (.slice f.A ((bsOf f.blks).length) f.c)]] ∧ (0 ≤ kj) ∧ (kj < f.blks.length) ∧ (∀ x, f.blks[kj.toNat]? = some x → x.phis = [] ∨ fj ∈ f.src kj.toNat) ∧ (vj.length = f.va.toNat) ∧ (RGood C sj) ∧ (C.E.fuel - sj.steps < (j : Int)) ∧ (j ≤ g) ∧ (sj.opened = s.opened + 1) ∧ (callS C.E g n l s = bodyS C.E j f kj fj vj sj)) (n := _) ⟨g, 0, -1, l ++ List.replicate (f.va.toNat - l.length) 0, { s with opened := s.opened + 1 }, oA, oc, rfl, fr.kp [0, 1, 7, 8, 9, 10], M44, Int.le_refl _, by have := hW.pos; omega, fun x hx => .inl (hW.first x hx), by simp; omega, hG.enter (by omega), hb, Nat.le_refl _, rfl, hgo⟩ ?_
 clear fr aC M44; rintro n aC w47 ⟨j, kj, fj, vj, sj, oAj, ocj, rfl, fr, M48, hk0, hkb, hfj, hvj, hGj, hbj, hjg, hop, hrest⟩
 revert aC
 refine zsq <| zsr <| zpn 1 <| zcm (decide (kj ≥ 0)) fun B51 hB51 => ?_
 obtain rfl : B51 = true := by
   have hkn : ((kj : Int) ≥ 0) := by omega
   first | exact hB51.trans (decide_eq_true hkn) | exact hB51.trans (decide_eq_false hkn) | exact hB51.trans (beq_iff_eq.2 hkn) | exact hB51.trans (bne_iff_ne.2 hkn) | exact hB51.trans (Bool.eq_false_iff.2 (fun e => hkn (beq_iff_eq.1 e))) | exact hB51.trans (Bool.eq_false_iff.2 (fun e => hkn (bne_iff_ne.1 e)))
 clear hB51
 refine zfe <| zcT <| zsk <| zbk 1 <| zsr ?_
 obtain ⟨x, hx⟩ := get_of (l := f.blks) (i := kj.toNat) (by omega)
 obtain ⟨j1, rfl⟩ : ∃ j1, j = j1 + 1 := ⟨j - 1, by have := hGj.s2; omega⟩
 have hr2 := hrest.trans (body_at _ _ _ _ _ _)
 refine zpn 1 <| zls ⟨b20, 0, none⟩ [(.string f.nm), (.bool f.wk), (.int .i64 f.pa), (.int .i64 f.va), (.slice f.A ((bsOf f.blks).length) f.c)] (blk_cells (M48.get 4 rfl)) <| zpn 4 <| zce (block_d C sj oAj ocj w47 hC hGj f n kj fj vj b34 x f.va.toNat hvj.symm (Mem.pk_holds (l := runL C sj oAj ocj ++ [.row 2 1 (sM b34) f.va.toNat f.va.toNat (ints vj)]) M48) (hA.pk_at (l := runL C sj oAj ocj ++ [.row 2 1 (sM b34) f.va.toNat f.va.toNat (ints vj)]) M48) hn1 hn2 hf hk0 hx (hfj x hx) hvj (callS C.E j1) (j1 : Int) (ih j1 (by omega)) (call_mono j1) (by omega)) (fun _ w2_ ⟨k_, c_, s_, oA_, oc_, hg_, hv_, hG_, hx_⟩ a_ hf_ => by subst hv_; exact inB_pan <| inB_pan <| xpp hf_ ⟨k_, c_, s_, oA_, oc_, hr2.trans (bind_stop hg_), rfl, hG_, Mem.tk (Mem.mdk (l := runL C sj oAj ocj ++ [.row 2 1 (sM b34) f.va.toNat f.va.toNat (ints vj)]) M48 hx_) 3⟩) ?_
 rintro _ w59 ⟨nx52, bk53, vv54, s55, oA56, oc57, hgb58, rfl, hGs55, hvl2, M60x⟩
 have M60 : Mem (rS C s oA oc) w w59 [.blk C.r 89 (rcells C s55 oA56 oc57), .row 2 1 (sM C.mG) C.E.memN C.E.memN (ints s55.mem), .row 5 1 oA56 s55.out.length oc57 (u8s s55.out), .row 2 1 (sM b34) f.va.toNat f.va.toNat (ints vv54), .blk b20 24 [(.string f.nm), (.bool f.wk), (.int .i64 f.pa), (.int .i64 f.va), (.slice f.A ((bsOf f.blks).length) f.c)]] := M48.mdk M60x
 have hkp := block_keep (call_mono j1) (call_keeps j1) hgb58
 refine zpn 5 <| zfe <| zsq <| zsp <| zcD ((nx52 : Int) < 0) (fun c61 => ?_) (fun c61 => ?_)
 refine zsr ?_
 have ho3 := hGs55.o1
 have ho4 := hGs55.o2
 refine zpn 3 <| zld ⟨C.r, 10, none⟩ (.int .i64 s55.opened) (blk_cell (M60.get 0 rfl) rfl) <| zar (s55.opened - 1) <| zpn 2 <| zsb (ho := (by simp)) M60 0 10 (.int .i64 (s55.opened - 1)) rfl fun w62 M63 => ?_
 replace M63 := M63.nf
 refine zkp [(12, (.int .i64 bk53))] <| zfe <| zsp <| zre <| zbr <| zbr <| xo1 (.int .i64 bk53) ?_
 exact ⟨bk53, { s55 with opened := s55.opened - 1 }, oA56, oc57, hr2.trans ((bind_ok hgb58).trans (if_pos (show nx52 < 0 by omega))), rfl, hGs55.leave (by omega), M63.tk 3⟩
 refine zsk <| zrp ?_
 have hnk := next_ok hW hk0 hx hgb58 (by omega)
 intro aC fr
 exact ⟨2 * j1, by omega, j1, nx52, kj, vv54, s55, oA56, oc57, rfl, fr.kp [0, 1, 7, 8, 9, 10], M60, hnk.1, hnk.2.1, hnk.2.2, hvl2.trans hvj, hGs55, by omega, by omega, by omega, hr2.trans ((bind_ok hgb58).trans (if_neg (show ¬ nx52 < 0 by omega)))⟩
theorem calls_all (C : RC) (hC : C.WF) : ∀ g : Nat, CallOk Try.prog C 73 (callS C.E g) (g : Int) := by
  intro g
  induction g using Nat.strongRecOn with
  | _ g ih => exact fun n l bA bc s oA oc w hG hb hR hA hl hlen => calls_g C s oA oc w hC hG hR hA g ih n l bA bc hb hl hlen
end Go.Proofs.Ytjekgaabcigphaa
namespace Go.Mor
open Go.RowKit
structure FFn where
  nm : ByteArray
  wk : Bool
  pa : Int
  va : Int
  A : Option Addr
  c : Nat
  blks : List FBlk
def FFn.cells (f : FFn) : List Value := fV f.nm f.wk f.pa f.va f.A f.c f.blks
structure FDat where
  nm : ByteArray
  wk : Bool
  wA : Option Addr
  wc : Nat
  words : List Int
  rA : Option Addr
  rc : Nat
  refs : List (Int × ByteArray)
def FDat.cells (d : FDat) : List Value := [.string d.nm, .bool d.wk, .slice d.wA d.words.length d.wc, .slice d.rA d.refs.length d.rc]
def refCells (r : Int × ByteArray) : List Value := [.int .i64 r.1, .string r.2]
instance : LawfulBEq ByteArray where
  eq_of_beq {a b} h := by simpa [MapKept.bytes_beq] using h
  rfl {a} := by simp [MapKept.bytes_beq]
section
variable {α β : Type} [BEq α] [LawfulBEq α]
theorem lkp_upk (s : α) (v : β) (t : α) : ∀ l : List (α × β), lkp (upk l s v) t = if t == s then some v else lkp l t
  | [] => by
    show (match t == s with | true => some v | false => none) = _
    cases t == s <;> rfl
  | (k, u) :: r => by
    have ih := lkp_upk s v t r
    unfold upk
    cases h : s == k with
    | true =>
      have e := eq_of_beq h
      subst e
      show (match t == s with | true => some v | false => lkp r t) = if t == s then some v else (match t == s with | true => some u | false => lkp r t)
      cases t == s <;> rfl
    | false =>
      show (match t == k with | true => some u | false => lkp (upk r s v) t) = if t == s then some v else (match t == k with | true => some u | false => lkp r t)
      cases hk : t == k with
      | true =>
        have e := eq_of_beq hk
        subst e
        have : (t == s) = false := by
          cases hq : t == s
          · rfl
          · have e2 := eq_of_beq hq; subst e2; rw [BEq.rfl] at h; cases h
        rw [this]; rfl
      | false => rw [ih]
theorem lkp_none {l : List (α × β)} {s : α} (h : s ∉ l.map (·.1)) : lkp l s = none := by
  induction l with
  | nil => rfl
  | cons p r ih =>
    obtain ⟨k, u⟩ := p
    simp only [List.map_cons, List.mem_cons, not_or] at h
    unfold lkp
    rw [beq_eq_false_iff_ne.2 h.1]
    exact ih h.2
theorem upk_new {s : α} (v : β) : ∀ {l : List (α × β)}, s ∉ l.map (·.1) → upk l s v = l ++ [(s, v)]
  | [], _ => rfl
  | (k, u) :: r, h => by
    simp only [List.map_cons, List.mem_cons, not_or] at h
    unfold upk
    rw [beq_eq_false_iff_ne.2 h.1]
    show (k, u) :: upk r s v = _
    rw [upk_new v h.2]
    rfl
theorem lkp_snoc {l : List (α × β)} {s : α} {v : β} (h : s ∉ l.map (·.1)) (t : α) : lkp (l ++ [(s, v)]) t = if t == s then some v else lkp l t := by
  rw [← upk_new v h, lkp_upk]
end
abbrev NW := List (ByteArray × Bool)
def beatsB (nw : NW) (k i : Nat) : Bool := match nw[k]?, nw[i]? with
  | some x, some y => x.1 == y.1 && ((!x.2 && y.2) || (x.2 == y.2 && decide (k < i)))
  | _, _ => false
def bestB (nw : NW) (i : Nat) : Bool := (List.range nw.length).all fun k => !beatsB nw k i
def bestM (nw : NW) : Nat → List (ByteArray × Int)
  | 0 => []
  | k + 1 => match nw[k]? with
    | none => bestM nw k
    | some x => match lkp (bestM nw k) x.1 with
      | none => upk (bestM nw k) x.1 (k : Int)
      | some a => match nw[a.toNat]? with
        | none => bestM nw k
        | some y => if (!y.2 || x.2) = true then bestM nw k else upk (bestM nw k) x.1 (k : Int)
section
variable {nw : NW} {k i j : Nat} {x y : ByteArray × Bool}
theorem beats_at (hk : nw[k]? = some x) (hi : nw[i]? = some y) : beatsB nw k i = (x.1 == y.1 && ((!x.2 && y.2) || (x.2 == y.2 && decide (k < i)))) := by unfold beatsB; rw [hk, hi]
theorem beats_not (h : beatsB nw k i = true) : beatsB nw i k = false := by
  unfold beatsB at h
  split at h
  · rename_i x y hx hy
    rw [beats_at hy hx]
    simp only [Bool.and_eq_true, Bool.or_eq_true, beq_iff_eq, Bool.not_eq_true', decide_eq_true_eq] at h
    obtain ⟨h1, h2⟩ := h
    rcases h2 with ⟨h2, h3⟩ | ⟨h2, h3⟩
    · simp [h2, h3]
    · simp [h2]; omega
  · cases h
theorem bestB_iff : bestB nw i = true ↔ ∀ k, k < nw.length → beatsB nw k i = false := by
  unfold bestB
  simp [List.all_eq_true]
theorem bestM_spec (nw : NW) : ∀ (k : Nat), k ≤ nw.length → ∀ s : ByteArray, match lkp (bestM nw k) s with
    | none => ∀ (i : Nat) y, i < k → nw[i]? = some y → y.1 ≠ s
    | some a => ∃ (j : Nat) (x : ByteArray × Bool), a = (j : Int) ∧ j < k ∧ nw[j]? = some x ∧ x.1 = s ∧ ∀ (i : Nat) y, i < k → nw[i]? = some y → y.1 = s → i ≠ j → beatsB nw j i = true
  | 0, _, s => by
    show ∀ (i : Nat) y, i < 0 → nw[i]? = some y → y.1 ≠ s
    intro i y h; omega
  | k + 1, hk, s => by
    have ih := bestM_spec nw k (by omega)
    obtain ⟨x, hx⟩ := get_of (l := nw) (i := k) (by omega)
    -- what there is when nothing turned
    have keep : (∃ (j : Nat) (z : ByteArray × Bool), j < k ∧ nw[j]? = some z ∧ z.1 = x.1 ∧ (!z.2 || x.2) = true ∧ lkp (bestM nw k) x.1 = some (j : Int)) → bestM nw (k + 1) = bestM nw k → match lkp (bestM nw (k + 1)) s with
        | none => ∀ (i : Nat) y, i < k + 1 → nw[i]? = some y → y.1 ≠ s
        | some a => ∃ (j : Nat) (x : ByteArray × Bool), a = (j : Int) ∧ j < k + 1 ∧ nw[j]? = some x ∧ x.1 = s ∧ ∀ (i : Nat) y, i < k + 1 → nw[i]? = some y → y.1 = s → i ≠ j → beatsB nw j i = true := by
      rintro ⟨j, z, hj, hz, hzx, hw, hl⟩ he
      rw [he]
      have hs := ih s
      cases hq : lkp (bestM nw k) s with
      | none =>
        rw [hq] at hs
        intro i y hi hy
        by_cases e : i = k
        · subst e
          rw [hx] at hy
          injection hy with hy
          subst hy
          rintro rfl
          rw [hl] at hq
          cases hq
        · exact hs i y (by omega) hy
      | some a =>
        rw [hq] at hs
        obtain ⟨j2, x2, ha, hj2, hx2, hs2, hb⟩ := hs
        refine ⟨j2, x2, ha, by omega, hx2, hs2, fun i y hi hy hys hne => ?_⟩
        by_cases e : i = k
        · subst e
          rw [hx] at hy
          injection hy with hy
          subst hy
          subst hys
          rw [hl] at hq
          injection hq with hq
          have e2 : j = j2 := by omega
          subst e2
          rw [hz] at hx2
          injection hx2 with hx2
          subst hx2
          rw [beats_at hz hx, hzx]
          simp only [BEq.rfl, Bool.true_and]
          cases h1 : z.2 <;> cases h2 : x.2 <;> simp [h1, h2] at hw ⊢ <;> omega
        · exact hb i y (by omega) hy hys hne
    -- what there is when it turned
    have turn : (∀ (i : Nat) y, i < k → nw[i]? = some y → y.1 = x.1 → beatsB nw k i = true) → bestM nw (k + 1) = upk (bestM nw k) x.1 (k : Int) → match lkp (bestM nw (k + 1)) s with
        | none => ∀ (i : Nat) y, i < k + 1 → nw[i]? = some y → y.1 ≠ s
        | some a => ∃ (j : Nat) (x : ByteArray × Bool), a = (j : Int) ∧ j < k + 1 ∧ nw[j]? = some x ∧ x.1 = s ∧ ∀ (i : Nat) y, i < k + 1 → nw[i]? = some y → y.1 = s → i ≠ j → beatsB nw j i = true := by
      intro hall he
      rw [he, lkp_upk]
      by_cases e : s = x.1
      · subst e
        rw [BEq.rfl]
        exact ⟨k, x, rfl, by omega, hx, rfl, fun i y hi hy hys hne => hall i y (by omega) hy hys⟩
      · rw [beq_eq_false_iff_ne.2 e]
        simp only [Bool.false_eq_true, if_false]
        have hs := ih s
        cases hq : lkp (bestM nw k) s with
        | none =>
          rw [hq] at hs
          intro i y hi hy
          by_cases e2 : i = k
          · subst e2
            rw [hx] at hy
            injection hy with hy
            subst hy
            exact fun h => e h.symm
          · exact hs i y (by omega) hy
        | some a =>
          rw [hq] at hs
          obtain ⟨j2, x2, ha, hj2, hx2, hs2, hb⟩ := hs
          refine ⟨j2, x2, ha, by omega, hx2, hs2, fun i y hi hy hys hne => ?_⟩
          by_cases e2 : i = k
          · subst e2
            rw [hx] at hy
            injection hy with hy
            subst hy
            exact absurd hys.symm e
          · exact hb i y (by omega) hy hys hne
    have hd : bestM nw (k + 1) = match lkp (bestM nw k) x.1 with
      | none => upk (bestM nw k) x.1 (k : Int)
      | some a => match nw[a.toNat]? with
        | none => bestM nw k
        | some y => if (!y.2 || x.2) = true then bestM nw k else upk (bestM nw k) x.1 (k : Int) := by
      show (match nw[k]? with
        | none => bestM nw k
        | some x => match lkp (bestM nw k) x.1 with
          | none => upk (bestM nw k) x.1 (k : Int)
          | some a => match nw[a.toNat]? with
            | none => bestM nw k
            | some y => if (!y.2 || x.2) = true then bestM nw k else upk (bestM nw k) x.1 (k : Int)) = _
      rw [hx]
    have hs := ih x.1
    cases hq : lkp (bestM nw k) x.1 with
    | none =>
      rw [hq] at hs hd
      exact turn (fun i y hi hy hys => absurd hys (hs i y hi hy)) hd
    | some a =>
      rw [hq] at hs hd
      obtain ⟨j2, x2, ha, hj2, hx2, hs2, hb⟩ := hs
      subst ha
      have hd2 : bestM nw (k + 1) = if (!x2.2 || x.2) = true then bestM nw k else upk (bestM nw k) x.1 (k : Int) := by
        rw [hd]
        show (match nw[((j2 : Int)).toNat]? with
          | none => bestM nw k
          | some y => if (!y.2 || x.2) = true then bestM nw k else upk (bestM nw k) x.1 (k : Int)) = _
        rw [Int.toNat_natCast, hx2]
      by_cases hw : (!x2.2 || x.2) = true
      · rw [if_pos hw] at hd2
        exact keep ⟨j2, x2, hj2, hx2, hs2, hw, hq⟩ hd2
      · rw [if_neg hw] at hd2
        refine turn (fun i y hi hy hys => ?_) hd2
        rw [beats_at hx hy, hys]
        simp only [BEq.rfl, Bool.true_and]
        by_cases e : i = j2
        · subst e
          rw [hx2] at hy
          injection hy with hy
          subst hy
          cases h1 : x2.2 <;> cases h2 : x.2 <;> simp [h1, h2] at hw ⊢
        · have := hb i y hi hy hys e
          rw [beats_at hx2 hy] at this
          cases h1 : x2.2 <;> cases h2 : x.2 <;> cases h3 : y.2 <;> simp [h1, h2, h3] at hw this ⊢
theorem bestM_self (hx : nw[i]? = some x) : lkp (bestM nw nw.length) x.1 = some (i : Int) ↔ bestB nw i = true := by
  have hi := (List.getElem?_eq_some_iff.1 hx).1
  have hs := bestM_spec nw nw.length (Nat.le_refl _) x.1
  rw [bestB_iff]
  constructor
  · intro h k hk
    rw [h] at hs
    obtain ⟨j, z, hj, hjl, hz, hzx, hb⟩ := hs
    have e : j = i := by omega
    subst e
    obtain ⟨y, hy⟩ := get_of hk
    by_cases hys : y.1 = x.1
    · by_cases e : k = j
      · subst e
        rw [hx] at hy
        injection hy with hy
        subst hy
        rw [beats_at hx hx]
        cases x.2 <;> simp
      · exact beats_not (hb k y hk hy hys e)
    · rw [beats_at hy hx, beq_eq_false_iff_ne.2 hys]
      rfl
  · intro h
    cases hq : lkp (bestM nw nw.length) x.1 with
    | none => rw [hq] at hs; exact absurd rfl (hs i x hi hx)
    | some a =>
      rw [hq] at hs
      obtain ⟨j, z, hj, hjl, hz, hzx, hb⟩ := hs
      by_cases e : i = j
      · subst e; rw [hj]
      · have h1 := hb i x hi hx rfl e
        rw [h j hjl] at h1
        cases h1
theorem bestM_has (hx : nw[i]? = some x) : ∃ a : Int, lkp (bestM nw nw.length) x.1 = some a := by
  have hi := (List.getElem?_eq_some_iff.1 hx).1
  have hs := bestM_spec nw nw.length (Nat.le_refl _) x.1
  cases hq : lkp (bestM nw nw.length) x.1 with
  | none => rw [hq] at hs; exact absurd rfl (hs i x hi hx)
  | some a => exact ⟨a, rfl⟩
theorem bestM_rng {s : ByteArray} {a : Int} (hk : k ≤ nw.length) (h : lkp (bestM nw k) s = some a) : ∃ (j : Nat) (y : ByteArray × Bool), a = (j : Int) ∧ j < k ∧ nw[j]? = some y := by
  have hs := bestM_spec nw k hk s
  rw [h] at hs
  obtain ⟨j, x, ha, hj, hx, _⟩ := hs
  exact ⟨j, x, ha, hj, hx⟩
theorem bestM_no (hx : nw[k]? = some x) (h : lkp (bestM nw k) x.1 = none) : bestM nw (k + 1) = upk (bestM nw k) x.1 (k : Int) := by
  show (match nw[k]? with
    | none => bestM nw k
    | some x => match lkp (bestM nw k) x.1 with
      | none => upk (bestM nw k) x.1 (k : Int)
      | some a => match nw[a.toNat]? with
        | none => bestM nw k
        | some y => if (!y.2 || x.2) = true then bestM nw k else upk (bestM nw k) x.1 (k : Int)) = _
  rw [hx]
  show (match lkp (bestM nw k) x.1 with
      | none => upk (bestM nw k) x.1 (k : Int)
      | some a => match nw[a.toNat]? with
        | none => bestM nw k
        | some y => if (!y.2 || x.2) = true then bestM nw k else upk (bestM nw k) x.1 (k : Int)) = _
  rw [h]
theorem bestM_had (hx : nw[k]? = some x) (h : lkp (bestM nw k) x.1 = some (j : Int)) (hy : nw[j]? = some y) : bestM nw (k + 1) = if (!y.2 || x.2) = true then bestM nw k else upk (bestM nw k) x.1 (k : Int) := by
  show (match nw[k]? with
    | none => bestM nw k
    | some x => match lkp (bestM nw k) x.1 with
      | none => upk (bestM nw k) x.1 (k : Int)
      | some a => match nw[a.toNat]? with
        | none => bestM nw k
        | some y => if (!y.2 || x.2) = true then bestM nw k else upk (bestM nw k) x.1 (k : Int)) = _
  rw [hx]
  show (match lkp (bestM nw k) x.1 with
      | none => upk (bestM nw k) x.1 (k : Int)
      | some a => match nw[a.toNat]? with
        | none => bestM nw k
        | some y => if (!y.2 || x.2) = true then bestM nw k else upk (bestM nw k) x.1 (k : Int)) = _
  rw [h]
  show (match nw[((j : Int)).toNat]? with
    | none => bestM nw k
    | some y => if (!y.2 || x.2) = true then bestM nw k else upk (bestM nw k) x.1 (k : Int)) = _
  rw [Int.toNat_natCast, hy]
end
def chosenTo {α : Type} (nw : NW) (l : List α) (i : Nat) : List α := ((List.range i).filter (bestB nw)).filterMap (fun k => l[k]?)
section
variable {α : Type} {nw : NW} {l : List α} {i : Nat} {x : α}
theorem chosenTo_zero : chosenTo nw l 0 = [] := rfl
theorem chosenTo_yes (hx : l[i]? = some x) (h : bestB nw i = true) : chosenTo nw l (i + 1) = chosenTo nw l i ++ [x] := by
  unfold chosenTo
  rw [List.range_succ, List.filter_append, List.filterMap_append]
  simp [h, hx]
theorem chosenTo_no (h : bestB nw i = false) : chosenTo nw l (i + 1) = chosenTo nw l i := by
  unfold chosenTo
  rw [List.range_succ, List.filter_append, List.filterMap_append]
  simp [h]
theorem chosenTo_len : (chosenTo nw l i).length ≤ i := by
  unfold chosenTo
  refine Nat.le_trans (List.length_filterMap_le _ _) (Nat.le_trans (List.length_filter_le _ _) ?_)
  simp
theorem chosenTo_mem (h : x ∈ chosenTo nw l i) : x ∈ l := by
  unfold chosenTo at h
  obtain ⟨k, _, hk⟩ := List.mem_filterMap.1 h
  exact List.mem_of_getElem? hk
end
def chosenF (fs : List FFn) : List FFn := chosenTo (fs.map fun f => (f.nm, f.wk)) fs fs.length
def chosenD (ds : List FDat) : List FDat := chosenTo (ds.map fun d => (d.nm, d.wk)) ds ds.length
theorem chosen_nodup {α : Type} {key : α → ByteArray × Bool} {l : List α} : ∀ i, i ≤ l.length → ((chosenTo (l.map key) l i).map (fun x => (key x).1)).Nodup
  | 0, _ => by simp [chosenTo_zero]
  | i + 1, hi => by
    have ih := chosen_nodup (key := key) (l := l) i (by omega)
    obtain ⟨x, hx⟩ := get_of (l := l) (i := i) (by omega)
    cases hb : bestB (l.map key) i with
    | false => rw [chosenTo_no hb]; exact ih
    | true =>
      rw [chosenTo_yes hx hb, List.map_append, List.nodup_append]
      refine ⟨ih, by simp, ?_⟩
      intro a ha b hb2
      simp only [List.map_cons, List.map_nil, List.mem_singleton] at hb2
      subst hb2
      obtain ⟨y, hy, rfl⟩ := List.mem_map.1 ha
      unfold chosenTo at hy
      obtain ⟨k, hk, hky⟩ := List.mem_filterMap.1 hy
      obtain ⟨hk1, hk2⟩ := List.mem_filter.1 hk
      have hki : k < i := by simpa using hk1
      intro he
      have hx' : (l.map key)[i]? = some (key x) := by rw [List.getElem?_map, hx]; rfl
      have hy' : (l.map key)[k]? = some (key y) := by rw [List.getElem?_map, hky]; rfl
      have h1 := bestB_iff.1 hb k (by simp; omega)
      have h2 := bestB_iff.1 hk2 i (by simp; omega)
      rw [beats_at hy' hx', he] at h1
      rw [beats_at hx' hy', he] at h2
      cases h3 : (key x).2 <;> cases h4 : (key y).2 <;> simp [h3, h4] at h1 h2 <;> omega
theorem chosenD_nodup (ds : List FDat) : ((chosenD ds).map (·.nm)).Nodup := chosen_nodup (key := fun d : FDat => (d.nm, d.wk)) ds.length (Nat.le_refl _)
theorem chosenF_nodup (fs : List FFn) : ((chosenF fs).map (·.nm)).Nodup := chosen_nodup (key := fun d : FFn => (d.nm, d.wk)) fs.length (Nat.le_refl _)
def nextTo (ds : List FDat) (j : Nat) : Nat := 1 + ((ds.take j).map (fun d => d.words.length)).sum
def dataTo (ds : List FDat) (j : Nat) : List (ByteArray × Int) := (ds.take j).zipIdx.map (fun p => (p.1.nm, (nextTo ds p.2 : Int)))
theorem nextTo_zero (ds : List FDat) : nextTo ds 0 = 1 := rfl
section
variable {ds : List FDat} {j : Nat} {d : FDat}
theorem nextTo_succ (h : ds[j]? = some d) : nextTo ds (j + 1) = nextTo ds j + d.words.length := by
  have h1 := (List.getElem?_eq_some_iff.1 h)
  unfold nextTo
  rw [List.take_add_one, h]
  simp
  omega
theorem nextTo_mono : ∀ {i : Nat}, j ≤ i → nextTo ds j ≤ nextTo ds i := by
  intro i h
  induction h with
  | refl => exact Nat.le_refl _
  | step h ih =>
    rename_i m
    refine Nat.le_trans ih ?_
    cases hm : ds[m]? with
    | none =>
      unfold nextTo
      rw [List.take_add_one, hm]
      simp
    | some d => rw [nextTo_succ hm]; omega
theorem nextTo_pos : 1 ≤ nextTo ds j := by unfold nextTo; omega
theorem nextTo_le (hw : ∀ d, d ∈ ds → d.words.length ≤ 16384) : ∀ (j : Nat), j ≤ ds.length → nextTo ds j ≤ 1 + j * 16384
  | 0, _ => by rw [nextTo_zero]; omega
  | j + 1, hj => by
    obtain ⟨d, hd⟩ := get_of (l := ds) (i := j) (by omega)
    have := nextTo_le hw j (by omega)
    have := hw d (List.mem_of_getElem? hd)
    rw [nextTo_succ hd]
    omega
theorem dataTo_zero : dataTo ds 0 = [] := by simp [dataTo]
theorem dataTo_succ (h : ds[j]? = some d) : dataTo ds (j + 1) = dataTo ds j ++ [(d.nm, (nextTo ds j : Int))] := by
  unfold dataTo
  rw [zipIdx_take h, List.map_append]
  rfl
theorem dataTo_keys : ∀ (j : Nat), j ≤ ds.length → (dataTo ds j).map (·.1) = (ds.take j).map (·.nm)
  | 0, _ => by simp [dataTo_zero]
  | j + 1, hj => by
    obtain ⟨d, hd⟩ := get_of (l := ds) (i := j) (by omega)
    rw [dataTo_succ hd, List.map_append, dataTo_keys j (by omega), List.take_add_one, hd]
    simp
theorem dataTo_new (hn : (ds.map (·.nm)).Nodup) (h : ds[j]? = some d) : d.nm ∉ (dataTo ds j).map (·.1) := by
  have hj := (List.getElem?_eq_some_iff.1 h).1
  rw [dataTo_keys j (by omega)]
  intro hm
  have e : ds.map (·.nm) = (ds.take j).map (·.nm) ++ (ds.drop j).map (·.nm) := by rw [← List.map_append, List.take_append_drop]
  rw [e, List.nodup_append] at hn
  refine hn.2.2 d.nm hm d.nm ?_ rfl
  rw [List.mem_map]
  exact ⟨d, by
    have : (ds.drop j)[0]? = some d := by rw [List.getElem?_drop]; simpa using h
    exact List.mem_of_getElem? this, rfl⟩
theorem dataTo_up (hn : (ds.map (·.nm)).Nodup) (h : ds[j]? = some d) : upk (vK (dataTo ds j)) d.nm (.int .i64 (nextTo ds j : Int)) = vK (dataTo ds (j + 1)) := by
  rw [upk_new _ (by
    have := dataTo_new hn h
    simpa [vK, List.map_map, Function.comp_def] using this), dataTo_succ h]
  simp [vK]
theorem lkp_dataTo (hn : (ds.map (·.nm)).Nodup) (h : ds[j]? = some d) : ∀ (i : Nat), j < i → i ≤ ds.length → lkp (dataTo ds i) d.nm = some (nextTo ds j : Int)
  | 0, hi, _ => by omega
  | i + 1, hi, hl => by
    obtain ⟨e, he⟩ := get_of (l := ds) (i := i) (by omega)
    rw [dataTo_succ he, lkp_snoc (dataTo_new hn he)]
    by_cases hji : j = i
    · subst hji
      rw [h] at he
      injection he with he
      subst he
      rw [BEq.rfl]
      rfl
    · have ih := lkp_dataTo hn h i (by omega) (by omega)
      have hne : d.nm ≠ e.nm := by
        intro heq
        have := dataTo_new hn he
        rw [← heq] at this
        rw [lkp_none this] at ih
        cases ih
      rw [beq_eq_false_iff_ne.2 hne]
      exact ih
end
def writeAt (m : List Int) (p : Nat) (ws : List Int) : List Int := m.take p ++ ws ++ m.drop (p + ws.length)
def refV (names data : List (ByteArray × Int)) (s : ByteArray) : Int := match lkp data s with
  | some n => n
  | none => (lkp names s).getD 0
def putRefs (names data : List (ByteArray × Int)) (p : Nat) (m : List Int) (rs : List (Int × ByteArray)) : List Int := rs.foldl (fun m r => m.set (p + r.1.toNat) (refV names data r.2)) m
def layTo (names data : List (ByteArray × Int)) (ds : List FDat) (memN : Nat) : Nat → List Int
  | 0 => List.replicate memN 0
  | j + 1 => match ds[j]? with
    | none => layTo names data ds memN j
    | some d => putRefs names data (nextTo ds j) (writeAt (layTo names data ds memN j) (nextTo ds j) d.words) d.refs
section
variable {names data : List (ByteArray × Int)} {ds : List FDat} {memN j : Nat} {d : FDat} {m : List Int} {p : Nat}
theorem writeAt_len {ws : List Int} (h : p + ws.length ≤ m.length) : (writeAt m p ws).length = m.length := by
  unfold writeAt
  simp
  omega
theorem putRefs_len : ∀ (rs : List (Int × ByteArray)) (m : List Int), (putRefs names data p m rs).length = m.length
  | [], _ => rfl
  | r :: rs, m => (putRefs_len rs (m.set (p + r.1.toNat) (refV names data r.2))).trans (by simp)
theorem putRefs_snoc {rs : List (Int × ByteArray)} {r : Int × ByteArray} {q : Nat} (h : rs[q]? = some r) : putRefs names data p m (rs.take (q + 1)) = (putRefs names data p m (rs.take q)).set (p + r.1.toNat) (refV names data r.2) := by
  rw [List.take_add_one, h]
  unfold putRefs
  simp
theorem layTo_succ (h : ds[j]? = some d) : layTo names data ds memN (j + 1) = putRefs names data (nextTo ds j) (writeAt (layTo names data ds memN j) (nextTo ds j) d.words) d.refs := by
  show (match ds[j]? with
    | none => layTo names data ds memN j
    | some d => putRefs names data (nextTo ds j) (writeAt (layTo names data ds memN j) (nextTo ds j) d.words) d.refs) = _
  rw [h]
theorem layTo_len : ∀ (j : Nat), j ≤ ds.length → nextTo ds ds.length ≤ memN → (layTo names data ds memN j).length = memN
  | 0, _, _ => by simp [layTo]
  | j + 1, hj, hm => by
    obtain ⟨d, hd⟩ := get_of (l := ds) (i := j) (by omega)
    have ih := layTo_len j (by omega) hm
    rw [layTo_succ hd, putRefs_len, writeAt_len, ih]
    have := nextTo_mono (ds := ds) (j := j + 1) (i := ds.length) (by omega)
    rw [nextTo_succ hd] at this
    omega
theorem refV_had {n : Int} {s : ByteArray} (h : lkp data s = some n) : refV names data s = n := by unfold refV; rw [h]
theorem refV_not {s : ByteArray} (h : lkp data s = none) : refV names data s = (lkp names s).getD 0 := by unfold refV; rw [h]
end
end Go.Mor
namespace Go.Mor
open Go.RowKit
def coE (P : Program) (c : Code) (N : FN) (env : Env) (k : Nat) : Option (Option Nat × Option Addr × Nat × Option Addr × Nat) := match coreAt c k with
  | some (d, .call { callee := .builtin .copy, args := args, argTypes := ts }, _, g) => match args.toList, ts.toList, guardE c g env, okd d N with
    | [x, y], [t, _], some true, true => match ev env x, ev env y, P.underlying t with
      | some (.slice D dn _), some (.slice A m _), some (.slice e) => match (P.info? e).map (·.size) with
        | some 1 => some (d, D, dn, A, m)
        | _ => none
      | _, _, _ => none
    | _, _, _, _ => none
  | _ => none
section
variable {P : Program} {c : Code} {K : Act → World → Prop} {Q : Exit → Act → World → Prop} {w w0 : World} {S : Nat → Prop} {L : List Res} {k k' : Nat} {N : FN} {env : Env}
theorem From_copyO {a : Act} {d : Option Nat} {ty : Nat} {g : Option (Nat × Bool)} {t u : TypeId} {x y : Operand} (hk : coreAt c k = some (d, .call { callee := .builtin .copy, args := #[x, y], argTypes := #[t, u] }, ty, g)) (hF : Fr a N env) (hg : guardE c g env = some true) (hd : okd d N = true)
    {e e' b n dn dc m cap rc : Nat} (o : Nat) {D A : Option Addr} {xs cs : List Value} (ht : P.underlying t = some (.slice e)) (hs : (P.info? e).map (·.size) = some 1) (hx : ev env x = some (.slice D dn dc)) (hy : ev env y = some (.slice A m cap))
    (hD : xs = [] ∨ D = some ⟨b, o, none⟩)
    (hM : Mem S w0 w L) (i : Nat) (hL : L[i]? = some (.row e' 1 (some ⟨b, 0, none⟩) n rc cs)) (hsrc : (Res.rd A xs).holds w) (hn : m = xs.length) (hnd : m ≤ dn) (hl : o + xs.length ≤ cs.length) (h1 : ∀ v ∈ xs, v.oneCell' = true)
    (h : ∀ w', Mem S w0 w' (L.set i (.row e' 1 (some ⟨b, 0, none⟩) n rc (cs.take o ++ xs ++ cs.drop (o + xs.length)))) → ∀ a', a' = a.put d (goInt xs.length) → Fr a' N (putE env d (goInt xs.length)) → From P c K Q (k + 1) a' w') : From P c K Q k a w := by
  have hb := hM.get i hL
  have hmin : Nat.min m dn = m := Nat.min_eq_left hnd
  have hrun : (Builtin.copy_ #[t, u] ty #[.slice D dn dc, .slice A m cap]).run P w = .ok (goInt xs.length) (w.setCells b o xs) := by
    cases xs with
    | nil =>
      have : m = 0 := hn
      subst this
      exact run_copy_none w t u ty e D A dn dc 0 cap ht hs (by simp)
    | cons v vs =>
      obtain rfl := hD.resolve_left (by simp)
      obtain ⟨ad, hA, _⟩ := hsrc 0 v rfl
      subst hA
      refine run_copy_cells w t u ty e b o dn dc ad m cap (v :: vs) ht hs (by rw [hmin, hn]) (fun j u hj => ?_) (fun j hj => ?_) (fun j hj => ?_) h1
      · obtain ⟨a', ha', hc⟩ := hsrc j u hj
        injection ha' with ha'
        subst ha'
        exact hc
      · obtain ⟨a', ha', hc⟩ := row_rd hb (o + j) (cs[o + j]'(by omega)) (by rw [List.getElem?_eq_getElem])
        injection ha' with ha'
        subst ha'
        rw [add_blk] at hc
        rw [hc]; rfl
      · have h2 := row_frozen hb (o + j)
        rw [add_blk] at h2
        exact h2
  have hm := setCells_row xs o cs w hb hl
  have hm2 := hM.mod i hL hm
  refine From_val hk hF hg (v := goInt xs.length) (w' := w.setCells b o xs) (fun o ho hty => ?_) (h _ (by simpa using hm2) _ rfl (hF.put hd _))
  unfold execOp
  rw [ho, hty]
  simp only [resolve, invoke, builtin, Sem.run_bind, Sem.run_pure, Result.andThen_ok, List.map_toArray, List.map_cons, List.map_nil, hF.ev hx, hF.ev hy, hrun]
theorem zco (hM : Mem S w0 w L) (i o : Nat) {e b n dn m rc : Nat} {D A : Option Addr} {xs cs : List Value} (hL : L[i]? = some (.row e 1 (some ⟨b, 0, none⟩) n rc cs)) (hD : xs = [] ∨ D = some ⟨b, o, none⟩) (hsrc : (Res.rd A xs).holds w) (hn : m = xs.length) (hnd : m ≤ dn) (hl : o + xs.length ≤ cs.length) (h1 : ∀ v ∈ xs, v.oneCell' = true)
    (h : ∀ w', Mem S w0 w' (L.set i (.row e 1 (some ⟨b, 0, none⟩) n rc (cs.take o ++ xs ++ cs.drop (o + xs.length)))) → ∀ a, Fr a N (putE env (dstAt c k) (goInt xs.length)) → From P c K Q (k + 1) a w') (hk : coE P c N env k = some (dstAt c k, D, dn, A, m)) : ∀ a, Fr a N env → From P c K Q k a w := fun a hF => by
  unfold coE at hk
  split at hk
  · rename_i d0 args ts ty g h0
    split at hk
    · rename_i x y t u hx hy h1' h2'
      have hx' : args = #[x, y] := by apply Array.ext'; simpa using hx
      have hy' : ts = #[t, u] := by apply Array.ext'; simpa using hy
      subst hx' hy'
      split at hk
      · rename_i D0 dn0 dc0 A0 m0 c0 e0 h3 h4 h5
        split at hk
        · rename_i h6
          simp only [Option.some.injEq, Prod.mk.injEq] at hk
          obtain ⟨rfl, rfl, rfl, rfl, rfl⟩ := hk
          exact From_copyO h0 hF h1' h2' o h5 h6 h3 h4 hD hM i hL hsrc hn hnd hl h1 (fun w' hM' a' _ => h w' hM' a')
        · cases hk
      · cases hk
    · cases hk
  · cases hk
theorem zlv {kt e t : TypeId} {kd : TypeDesc} {α : Type} [BEq α] {inj : α → Value} (KL : KLaw P kt kd inj) (s : α) (z : Value) {b : Nat} {l : List (α × Value)} (hm : MapIs w b (inK inj l)) (ok : Bool) {v : Value} (e' : lkV ok (lkp l s) z = v) (h : ∀ a, Fr a N (putE env (dstAt c k) v) → From P c K Q (k + 1) a w)
    (ht : P.underlying t = some (.map kt e)) (hz : (P.info? e).map (·.zero) = some (some z) := by kernel_rfl) (hk : lkE c N env k = some (dstAt c k, t, b, inj s, ok) := by kernel_rfl) : ∀ a, Fr a N env → From P c K Q k a w := by
  subst e'
  exact zlk KL s z hm ok h ht hz hk
theorem zsv {A : Option Addr} {n cap size : Nat} (m : Nat) (hm : m ≤ n) {v : Value} (e : cutV A n cap m size = v) (h : ∀ a, Fr a N (putE env (dstAt c k) v) → From P c K Q (k + 1) a w) (hk : slE P c N env k = some (dstAt c k, A, n, cap, (m : Int), size)) : ∀ a, Fr a N env → From P c K Q k a w := by
  subst e
  exact zsl m hm h hk
end
theorem add_off (g p k : Nat) : (⟨g, p, none⟩ : Addr).add (k * 1) = (⟨g, 0, none⟩ : Addr).add (p + k) := by
  rw [add_blk, Nat.mul_one]
  unfold Addr.add
  split <;> simp_all
theorem flatMap_at {α : Type} {f : α → List Value} {size : Nat} (hf : ∀ x, (f x).length = size) : ∀ (l : List α) (i : Nat) (x : α), l[i]? = some x → ∀ (j : Nat) (v : Value), (f x)[j]? = some v → (l.flatMap f)[i * size + j]? = some v
  | [], i, x, h, _, _, _ => by simp at h
  | y :: l, 0, x, h, j, v, hv => by
    simp at h
    subst h
    rw [List.flatMap_cons, Nat.zero_mul, Nat.zero_add, List.getElem?_append_left (List.getElem?_eq_some_iff.1 hv).1]
    exact hv
  | y :: l, i + 1, x, h, j, v, hv => by
    have h' : l[i]? = some x := by simpa using h
    have ih := flatMap_at hf l i x h' j v hv
    have e : (i + 1) * size + j - (f y).length = i * size + j := by rw [hf, Nat.add_mul]; omega
    rw [List.flatMap_cons, List.getElem?_append_right (by rw [hf, Nat.add_mul]; omega), e]
    exact ih
end Go.Mor
namespace Go.Proofs.Ytjekgaabcigphaa
open Go.Mor
theorem whatF_c (f : FFn) (w : World) :
    Calls Try.prog 48 #[(.agg #[(.string f.nm), (.bool f.wk), (.int .i64 f.pa), (.int .i64 f.va), (.slice f.A ((bsOf f.blks).length) f.c)])] w (Ret fun v w' => v = .tuple #[.string f.nm, .bool f.wk] ∧ Mem noS w w' []) := by
 refine zen 8 [(.agg #[(.string f.nm), (.bool f.wk), (.int .i64 f.pa), (.int .i64 f.va), (.slice f.A ((bsOf f.blks).length) f.c)])] Try.func48 ?_
 have hM := Mem.init w
 refine zsr <| zbx hM 24 (.agg #[(.string f.nm), (.bool f.wk), (.int .i64 f.pa), (.int .i64 f.va), (.slice f.A ((bsOf f.blks).length) f.c)]) [(.string f.nm), (.bool f.wk), (.int .i64 f.pa), (.int .i64 f.va), (.slice f.A ((bsOf f.blks).length) f.c)] fun b1 w2 hb1 M3 => ?_
 replace M3 := M3.nf
 clear hM
 refine zpn 2 <| zfe <| zsq <| zkp [(1, (pT b1 0))] ?_
 intro aC fr
 refine zdt 5 (N := 8) (env0 := [(1, (pT b1 0))]) (specAt [.det (pT b1 0), .det (.string f.nm), .det (pT b1 1), .det (.bool f.wk), .det (.string f.nm)]) fr (la (la (la (la (la lz dP) (dL ⟨b1, 0, none⟩ (.string f.nm) fun w_ hK => (blk_cell ((M3.then_ hK).get 0 rfl) rfl))) dP) (dL ⟨b1, 1, none⟩ (.bool f.wk) fun w_ hK => (blk_cell ((M3.then_ hK).get 0 rfl) rfl))) dP) ?_
 intro aC w8 vs hK hv fr
 revert aC; refine zkp [(2, (.string f.nm)), (7, (.bool f.wk))] ?_
 have M9 := M3.then_ hK
 clear hK hv fr aC M3; clear vs
 refine zpn 1 <| zfe <| zre <| zo2 (.string f.nm) (.bool f.wk) ?_
 have M10 := M9.od [] 0
 exact ⟨rfl, M10⟩
theorem whatD_c (f : FDat) (w : World) :
    Calls Try.prog 89 #[(.agg #[(.string f.nm), (.bool f.wk), (.slice f.wA f.words.length f.wc), (.slice f.rA f.refs.length f.rc)])] w (Ret fun v w' => v = .tuple #[.string f.nm, .bool f.wk] ∧ Mem noS w w' []) := by
 refine zen 8 [(.agg #[(.string f.nm), (.bool f.wk), (.slice f.wA f.words.length f.wc), (.slice f.rA f.refs.length f.rc)])] Try.func89 ?_
 have hM := Mem.init w
 refine zsr <| zbx hM 78 (.agg #[(.string f.nm), (.bool f.wk), (.slice f.wA f.words.length f.wc), (.slice f.rA f.refs.length f.rc)]) [(.string f.nm), (.bool f.wk), (.slice f.wA f.words.length f.wc), (.slice f.rA f.refs.length f.rc)] fun b1 w2 hb1 M3 => ?_
 replace M3 := M3.nf
 clear hM
 refine zpn 2 <| zfe <| zsq <| zkp [(1, (pT b1 0))] ?_
 intro aC fr
 refine zdt 5 (N := 8) (env0 := [(1, (pT b1 0))]) (specAt [.det (pT b1 0), .det (.string f.nm), .det (pT b1 1), .det (.bool f.wk), .det (.string f.nm)]) fr (la (la (la (la (la lz dP) (dL ⟨b1, 0, none⟩ (.string f.nm) fun w_ hK => (blk_cell ((M3.then_ hK).get 0 rfl) rfl))) dP) (dL ⟨b1, 1, none⟩ (.bool f.wk) fun w_ hK => (blk_cell ((M3.then_ hK).get 0 rfl) rfl))) dP) ?_
 intro aC w8 vs hK hv fr
 revert aC; refine zkp [(2, (.string f.nm)), (7, (.bool f.wk))] ?_
 have M9 := M3.then_ hK
 clear hK hv fr aC M3; clear vs
 refine zpn 1 <| zfe <| zre <| zo2 (.string f.nm) (.bool f.wk) ?_
 have M10 := M9.od [] 0
 exact ⟨rfl, M10⟩
theorem vK_upk (l : List (ByteArray × Int)) (s : ByteArray) (n : Int) : upk (vK l) s (.int .i64 n) = vK (upk l s n) := by
  induction l with
  | nil => rfl
  | cons p r ih =>
    obtain ⟨k, u⟩ := p
    show (match s == k with | true => (s, Value.int .i64 n) :: vK r | false => (k, .int .i64 u) :: upk (vK r) s (.int .i64 n)) = vK (match s == k with | true => (s, n) :: r | false => (k, u) :: upk r s n)
    cases s == k
    · rw [ih]; rfl
    · rfl
theorem countF_c (l : List FFn) (A : Option Addr) (c : Nat) (w : World) (hm : l.length ≤ 1000) (hl : RO noS w (.rds A 5 (l.map FFn.cells))) :
    Calls Try.prog 47 #[(.slice A l.length c), (.func (.func 48) #[] #[])] w (Ret fun v w' => ∃ A' c', v = .slice A' (chosenTo (l.map (fun x => (x.nm, x.wk))) l l.length).length c' ∧ Mem noS w w' [.row 24 5 A' (chosenTo (l.map (fun x => (x.nm, x.wk))) l l.length).length c' ((chosenTo (l.map (fun x => (x.nm, x.wk))) l l.length).flatMap FFn.cells)]) := by
 refine zen 82 [(.slice A l.length c), (.func (.func 48) #[] #[])] Try.func47 ?_
 have hM := Mem.init w
 refine zsp <| zsr <| zmm hM fun b1 w2 hb1 M3 => ?_
 replace M3 := M3.nf
 clear hM
 have M4 : Mem noS w w2 [.map b1 (inK .string (vK []))] := M3.cast rfl
 refine zpn 1 <| zfe <| zsq <| zsp <| zbk 0 ?_
 have M5 : Mem noS w w2 [.map b1 (inK .string (vK (bestM (l.map (fun x => (x.nm, x.wk))) 0)))] := M4.cast rfl
 intro aC fr
 refine zlp (fun n_ a_ w_ => ∃ (j : Nat), n_ = l.length - j ∧ Fr a_ 82 [(0, (.slice A l.length c)), (1, (.func (.func 48) #[] #[])), (5, (.map (some b1))), (20, (.slice A l.length c)), (21, (.int .i64 ((l.length : Nat) : Int))), (22, (nV j))] ∧ Mem noS w w_ [.map b1 (inK .string (vK (bestM (l.map (fun x => (x.nm, x.wk))) j)))] ∧ (j ≤ l.length)) (n := _) ⟨0, rfl, fr.kp [0, 1, 5, 20, 21, 22], M5, Nat.zero_le _⟩ ?_
 clear fr aC M5; rintro n aC w8 ⟨j, rfl, fr, M9, hj⟩
 revert aC
 refine zsp <| zsq <| zcD (((j : Int) : Int) < ((l.length : Nat) : Int)) (fun c12 => ?_) (fun c12 => ?_)
 refine zsk <| zsq <| zbk 1 <| zsr ?_
 obtain ⟨x, hx⟩ := get_of (l := l) (i := j) (by omega)
 have hnx : (l.map (fun x => (x.nm, x.wk)))[j]? = some (x.nm, x.wk) := by rw [List.getElem?_map, hx]; rfl
 refine zpn 1 ?_
 obtain ⟨ad13, rfl⟩ := rds_some (M9.ro hl) (i := j) (by rw [List.getElem?_map, hx]; rfl)
 refine zix ad13 l.length 5 (j : Int) ?_
 refine zls ((ad13 : Addr).add (((j : Int)).toNat * 5)) [(.string x.nm), (.bool x.wk), (.int .i64 x.pa), (.int .i64 x.va), (.slice x.A ((bsOf x.blks).length) x.c)] (rds_cells (i := j) (M9.ro hl) rfl (by rw [List.getElem?_map, hx]; rfl)) ?_
 refine zal M9 24 [(.string ⟨#[]⟩), (.bool false), (.int .i64 0), (.int .i64 0), (.slice none 0 0)] fun b14 w15 hb14 M16 => ?_
 replace M16 := M16.nf
 refine zpn 1 <| zss M16 1 [(.string x.nm), (.bool x.wk), (.int .i64 x.pa), (.int .i64 x.va), (.slice x.A ((bsOf x.blks).length) x.c)] rfl fun w17 M18 => ?_
 replace M18 := M18.nf
 refine zfe <| zsr <| zpn 1 <| zls ⟨b14, 0, none⟩ [(.string x.nm), (.bool x.wk), (.int .i64 x.pa), (.int .i64 x.va), (.slice x.A ((bsOf x.blks).length) x.c)] (blk_cells (M18.get 1 rfl)) <| zcl (whatF_c x w17) ?_
 rintro _ w19 ⟨rfl, M20x⟩
 have M20 := M18.cl M20x
 refine zpn 5 <| zfe <| zsr ?_
 cases hq : lkp (bestM (l.map (fun x => (x.nm, x.wk))) j) x.nm
 refine zpn 2 <| zlv (ht := Try.underlying84) (strLaw Try.underlying9) x.nm (.int .i64 0) (M20.get 0 rfl) true (v := (.tuple #[(.int .i64 0), (.bool false)])) (by rw [lkp_vK, hq]; rfl) <| zkp [(0, (.slice (some ad13) l.length c)), (1, (.func (.func 48) #[] #[])), (5, (.map (some b1))), (6, (nV j)), (8, (.string x.nm)), (9, (.bool x.wk)), (20, (.slice (some ad13) l.length c)), (21, (.int .i64 ((l.length : Nat) : Int))), (22, (nV j)), (36, (.tuple #[(.int .i64 0), (.bool false)]))] <| zpn 5 <| zfe <| zsq <| zsp <| zcF <| zsk <| zrg ?_
 refine zpn 3 <| zmu (strLaw Try.underlying9) M20 0 x.nm (nV j) (l := (vK (bestM (l.map (fun x => (x.nm, x.wk))) j))) rfl Try.underlying84 fun w21 M22 => ?_
 replace M22 := M22.nf
 refine zfe <| zrg <| zar ((j : Int) + 1) <| zpn 1 <| zfe ?_
 intro aC fr
 exact ⟨l.length - (j + 1), by omega, j + 1, rfl, fr.kp [0, 1, 5, 20, 21, 22], ((M22.tk 1).cast (by rw [bestM_no hnx hq, vK_upk] <;> rfl)), by omega⟩
 rename_i aj
 obtain ⟨i, yn, rfl, hij, hyn⟩ := bestM_rng (nw := (l.map (fun x => (x.nm, x.wk)))) (by simp; omega) hq
 obtain ⟨y, hy⟩ := get_of (l := l) (i := i) (by omega)
 obtain rfl : yn = (y.nm, y.wk) := by rw [List.getElem?_map, hy] at hyn; exact (Option.some.inj hyn).symm
 refine zpn 2 <| zlv (ht := Try.underlying84) (strLaw Try.underlying9) x.nm (.int .i64 0) (M20.get 0 rfl) true (v := (.tuple #[(nV i), (.bool true)])) (by rw [lkp_vK, hq]; rfl) <| zkp [(0, (.slice (some ad13) l.length c)), (1, (.func (.func 48) #[] #[])), (5, (.map (some b1))), (6, (nV j)), (8, (.string x.nm)), (9, (.bool x.wk)), (20, (.slice (some ad13) l.length c)), (21, (.int .i64 ((l.length : Nat) : Int))), (22, (nV j)), (36, (.tuple #[(nV i), (.bool true)]))] <| zpn 5 <| zfe <| zsq <| zsp <| zcT <| zsr <| zpn 3 ?_
 refine zix ad13 l.length 5 (i : Int) ?_
 refine zls ((ad13 : Addr).add (((i : Int)).toNat * 5)) [(.string y.nm), (.bool y.wk), (.int .i64 y.pa), (.int .i64 y.va), (.slice y.A ((bsOf y.blks).length) y.c)] (rds_cells (i := i) (M20.ro hl) rfl (by rw [List.getElem?_map, hy]; rfl)) ?_
 refine zcl (whatF_c y w19) ?_
 rintro _ w25 ⟨rfl, M26x⟩
 have M26 := M20.cl M26x
 refine zpn 5 <| zfe <| zsr <| zpn 3 ?_
 obtain ⟨B27, hB27⟩ : ∃ B : Bool, B = (!y.wk) := ⟨_, rfl⟩
 refine zkp [(0, (.slice (some ad13) l.length c)), (1, (.func (.func 48) #[] #[])), (5, (.map (some b1))), (6, (nV j)), (8, (.string x.nm)), (9, (.bool x.wk)), (20, (.slice (some ad13) l.length c)), (21, (.int .i64 ((l.length : Nat) : Int))), (22, (nV j)), (51, (.bool (!y.wk)))] ?_
 rw [← hB27]
 have iB27 : B27 = true ↔ (¬ (y.wk = true)) := by rw [hB27]; simp only [notT]
 clear hB27
 intro aC fr
 refine zpk 2 5 [53] fr (news := [(53, (.bool (B27 || x.wk)))]) (by cases B27 <;> kernel_rfl) ?_
 intro aC fr
 revert aC
 refine zfe <| zcP (B27 || x.wk) ((¬ (y.wk = true)) ∨ (x.wk = true)) (by simp only [Bool.or_eq_true, iB27]) (fun c32 => ?_) (fun c32 => ?_)
 refine zex 1 <| zbh <| zrg <| zar ((j : Int) + 1) <| zpn 1 <| zfe ?_
 intro aC fr
 exact ⟨l.length - (j + 1), by omega, j + 1, rfl, fr.kp [0, 1, 5, 20, 21, 22], ((M26.tk 1).cast (by rw [bestM_had hnx hq hyn, if_pos (by rw [Bool.or_eq_true, Bool.not_eq_true']; exact (c32).imp (fun h => (Bool.not_eq_true _).mp h) id)] <;> rfl)), by omega⟩
 refine zsk <| zrg <| zpn 3 <| zmu (strLaw Try.underlying9) M26 0 x.nm (nV j) (l := (vK (bestM (l.map (fun x => (x.nm, x.wk))) j))) rfl Try.underlying84 fun w35 M36 => ?_
 replace M36 := M36.nf
 refine zfe <| zrg <| zar ((j : Int) + 1) <| zpn 1 <| zfe ?_
 intro aC fr
 exact ⟨l.length - (j + 1), by omega, j + 1, rfl, fr.kp [0, 1, 5, 20, 21, 22], ((M36.tk 1).cast (by rw [bestM_had hnx hq hyn, if_neg (by rw [Bool.or_eq_true, Bool.not_eq_true']; exact fun h => c32 (h.imp (fun h => (Bool.not_eq_true _).mpr h) id)), vK_upk] <;> rfl)), by omega⟩
 refine zex 0 <| zbh <| zsp <| zsq <| zsp <| zbk 2 ?_
 obtain rfl : j = l.length := by omega
 have M39 := M9.cl (Mem.nilrow _ 24 5)
 have M40 : Mem noS w w8 [.map b1 (inK .string (vK (bestM (l.map (fun x => (x.nm, x.wk))) (l.map (fun x => (x.nm, x.wk))).length))), .row 24 5 none 0 0 ((chosenTo (l.map (fun x => (x.nm, x.wk))) l 0).flatMap FFn.cells)] := M39.cast (by rw [List.length_map]; rfl)
 intro aC fr
 refine zlp (fun n_ a_ w_ => ∃ (j : Nat) (rA : Option Addr) (rc : Nat), n_ = l.length - j ∧ Fr a_ 82 [(1, (.func (.func 48) #[] #[])), (5, (.map (some b1))), (14, (.slice rA ((chosenTo (l.map (fun x => (x.nm, x.wk))) l j).length) rc)), (58, (.slice A l.length c)), (59, (.int .i64 ((l.length : Nat) : Int))), (60, (nV j))] ∧ Mem noS w w_ [.map b1 (inK .string (vK (bestM (l.map (fun x => (x.nm, x.wk))) (l.map (fun x => (x.nm, x.wk))).length))), .row 24 5 rA ((chosenTo (l.map (fun x => (x.nm, x.wk))) l j).length) rc ((chosenTo (l.map (fun x => (x.nm, x.wk))) l j).flatMap FFn.cells)] ∧ (j ≤ l.length)) (n := _) ⟨0, none, 0, rfl, fr.kp [1, 5, 14, 58, 59, 60], M40, Nat.zero_le _⟩ ?_
 clear fr aC M40; rintro n aC w43 ⟨j, rA, rc, rfl, fr, M44, hj⟩
 revert aC
 refine zsp <| zsq <| zcD (((j : Int) : Int) < ((l.length : Nat) : Int)) (fun c47 => ?_) (fun c47 => ?_)
 refine zsk <| zsq <| zbk 3 <| zsr ?_
 obtain ⟨x, hx⟩ := get_of (l := l) (i := j) (by omega)
 have hnx : (l.map (fun x => (x.nm, x.wk)))[j]? = some (x.nm, x.wk) := by rw [List.getElem?_map, hx]; rfl
 refine zpn 1 ?_
 obtain ⟨ad48, rfl⟩ := rds_some (M44.ro hl) (i := j) (by rw [List.getElem?_map, hx]; rfl)
 refine zix ad48 l.length 5 (j : Int) ?_
 refine zls ((ad48 : Addr).add (((j : Int)).toNat * 5)) [(.string x.nm), (.bool x.wk), (.int .i64 x.pa), (.int .i64 x.va), (.slice x.A ((bsOf x.blks).length) x.c)] (rds_cells (i := j) (M44.ro hl) rfl (by rw [List.getElem?_map, hx]; rfl)) ?_
 refine zal M44 24 [(.string ⟨#[]⟩), (.bool false), (.int .i64 0), (.int .i64 0), (.slice none 0 0)] fun b49 w50 hb49 M51 => ?_
 replace M51 := M51.nf
 refine zpn 1 <| zss M51 2 [(.string x.nm), (.bool x.wk), (.int .i64 x.pa), (.int .i64 x.va), (.slice x.A ((bsOf x.blks).length) x.c)] rfl fun w52 M53 => ?_
 replace M53 := M53.nf
 refine zfe <| zsr <| zpn 1 <| zls ⟨b49, 0, none⟩ [(.string x.nm), (.bool x.wk), (.int .i64 x.pa), (.int .i64 x.va), (.slice x.A ((bsOf x.blks).length) x.c)] (blk_cells (M53.get 2 rfl)) <| zcl (whatF_c x w52) ?_
 rintro _ w54 ⟨rfl, M55x⟩
 have M55 := M53.cl M55x
 refine zpn 5 <| zfe <| zsr ?_
 obtain ⟨aj, haj⟩ := bestM_has hnx
 have hbs := bestM_self hnx
 have hcl : (chosenTo (l.map (fun x => (x.nm, x.wk))) l j).length ≤ j := chosenTo_len
 refine zpn 2 <| zlv (ht := Try.underlying84) (strLaw Try.underlying9) x.nm (.int .i64 0) (M55.get 0 rfl) false (v := (.int .i64 aj)) (by rw [lkp_vK, haj]; rfl) <| zkp [(1, (.func (.func 48) #[] #[])), (5, (.map (some b1))), (14, (.slice rA ((chosenTo (l.map (fun x => (x.nm, x.wk))) l j).length) rc)), (15, (nV j)), (16, (pT b49 0)), (58, (.slice (some ad48) l.length c)), (59, (.int .i64 ((l.length : Nat) : Int))), (60, (nV j)), (73, (.int .i64 aj))] ?_
 refine zpn 2 <| zfe <| zcP ((aj : Int) == (j : Int)) ((aj : Int) = (j : Int)) (by simp only [beq_iff_eq]) (fun c56 => ?_) (fun c56 => ?_)
 have hb := hbs.1 (by rw [haj, c56])
 refine zrg <| zpn 1 <| zls ⟨b49, 0, none⟩ [(.string x.nm), (.bool x.wk), (.int .i64 x.pa), (.int .i64 x.va), (.slice x.A ((bsOf x.blks).length) x.c)] (blk_cells (M55.get 2 rfl)) ?_
 intro aC fr
 refine zBs 78 31 1 #[(0, (.tmp 77))] 31 fr (e := 24) (size := 5) (zs := [(.string ⟨#[]⟩), (.bool false), (.int .i64 0), (.int .i64 0), (.slice none 0 0)]) (vs := [(0, (.agg #[(.string x.nm), (.bool x.wk), (.int .i64 x.pa), (.int .i64 x.va), (.slice x.A ((bsOf x.blks).length) x.c)]))]) (cs := [(.string x.nm), (.bool x.wk), (.int .i64 x.pa), (.int .i64 x.va), (.slice x.A ((bsOf x.blks).length) x.c)]) M55 ?_
 intro b57 w58 hb57 _ M59 _ aC ea fr; clear ea
 replace M59 := M59.nf
 refine zAp 79 (.tmp 76) (.tmp 78) 31 31 fr (e := 24) (size := 5) (bytes := 64) (z := (.agg #[(.string ⟨#[]⟩), (.bool false), (.int .i64 0), (.int .i64 0), (.slice none 0 0)])) (A := rA) (B := (sM b57)) (n := ((chosenTo (l.map (fun x => (x.nm, x.wk))) l j).length)) (cap := rc) (m := 1) (cap' := 1) (xs := ((chosenTo (l.map (fun x => (x.nm, x.wk))) l j).flatMap FFn.cells)) (news := [(.string x.nm), (.bool x.wk), (.int .i64 x.pa), (.int .i64 x.va), (.slice x.A ((bsOf x.blks).length) x.c)]) M59 1 rfl (row_rd (M59.get 3 rfl)) rfl (by simp [Value.oneCell']) (by omega) (by simp only [maxLen]; omega) ?_
 intro A64 c65 w66 M67 _ aC ea fr; clear ea
 replace M67 := M67.nf
 revert aC
 refine zpn 1 ?_
 have hc1 : (chosenTo (l.map (fun x => (x.nm, x.wk))) l (j + 1)).length = (chosenTo (l.map (fun x => (x.nm, x.wk))) l j).length + 1 := by rw [chosenTo_yes hx hb]; simp
 have hc2 : (chosenTo (l.map (fun x => (x.nm, x.wk))) l (j + 1)).flatMap FFn.cells = (chosenTo (l.map (fun x => (x.nm, x.wk))) l j).flatMap FFn.cells ++ [(.string x.nm), (.bool x.wk), (.int .i64 x.pa), (.int .i64 x.va), (.slice x.A ((bsOf x.blks).length) x.c)] := by rw [chosenTo_yes hx hb, List.flatMap_append]; simp [FFn.cells]
 have M70 : Mem noS w w66 [.map b1 (inK .string (vK (bestM (l.map (fun x => (x.nm, x.wk))) (l.map (fun x => (x.nm, x.wk))).length))), .row 24 5 A64 ((chosenTo (l.map (fun x => (x.nm, x.wk))) l (j + 1)).length) c65 ((chosenTo (l.map (fun x => (x.nm, x.wk))) l (j + 1)).flatMap FFn.cells)] := (M67.tk 2).cast (by rw [hc1, hc2] <;> rfl)
 refine zkp [(1, (.func (.func 48) #[] #[])), (5, (.map (some b1))), (14, (.slice A64 (((chosenTo (l.map (fun x => (x.nm, x.wk))) l j).length) + 1) c65)), (58, (.slice (some ad48) l.length c)), (59, (.int .i64 ((l.length : Nat) : Int))), (60, (nV j))] ?_
 rw [← hc1]
 refine zfe <| zrg <| zar ((j : Int) + 1) <| zpn 1 <| zfe ?_
 intro aC fr
 exact ⟨l.length - (j + 1), by omega, j + 1, A64, c65, rfl, fr.kp [1, 5, 14, 58, 59, 60], ((M70.tk 2).cast (by rfl)), by omega⟩
 have hb : bestB (l.map (fun x => (x.nm, x.wk))) j = false := Bool.eq_false_iff.2 (fun h => c56 (Option.some.inj (haj.symm.trans (hbs.2 h))))
 have hc1 : chosenTo (l.map (fun x => (x.nm, x.wk))) l (j + 1) = chosenTo (l.map (fun x => (x.nm, x.wk))) l j := chosenTo_no hb
 refine zkp [(1, (.func (.func 48) #[] #[])), (5, (.map (some b1))), (14, (.slice rA ((chosenTo (l.map (fun x => (x.nm, x.wk))) l j).length) rc)), (16, (pT b49 0)), (58, (.slice (some ad48) l.length c)), (59, (.int .i64 ((l.length : Nat) : Int))), (60, (nV j))] ?_
 rw [← hc1]
 refine zsk <| zrg <| zar ((j : Int) + 1) <| zpn 1 <| zfe ?_
 intro aC fr
 exact ⟨l.length - (j + 1), by omega, j + 1, rA, rc, rfl, fr.kp [1, 5, 14, 58, 59, 60], ((M55.tk 2).cast (by rw [hc1] <;> rfl)), by omega⟩
 refine zex 2 <| zbh <| zsp <| zre <| zo1 (.slice rA ((chosenTo (l.map (fun x => (x.nm, x.wk))) l j).length) rc) ?_
 obtain rfl : j = l.length := by omega
 have M75 := M44.od [1] 1
 exact ⟨_, _, rfl, M75⟩
theorem countD_c (l : List FDat) (A : Option Addr) (c : Nat) (w : World) (hm : l.length ≤ 1000) (hl : RO noS w (.rds A 4 (l.map FDat.cells))) :
    Calls Try.prog 88 #[(.slice A l.length c), (.func (.func 89) #[] #[])] w (Ret fun v w' => ∃ A' c', v = .slice A' (chosenTo (l.map (fun x => (x.nm, x.wk))) l l.length).length c' ∧ Mem noS w w' [.row 78 4 A' (chosenTo (l.map (fun x => (x.nm, x.wk))) l l.length).length c' ((chosenTo (l.map (fun x => (x.nm, x.wk))) l l.length).flatMap FDat.cells)]) := by
 refine zen 82 [(.slice A l.length c), (.func (.func 89) #[] #[])] Try.func88 ?_
 have hM := Mem.init w
 refine zsp <| zsr <| zmm hM fun b1 w2 hb1 M3 => ?_
 replace M3 := M3.nf
 clear hM
 have M4 : Mem noS w w2 [.map b1 (inK .string (vK []))] := M3.cast rfl
 refine zpn 1 <| zfe <| zsq <| zsp <| zbk 0 ?_
 have M5 : Mem noS w w2 [.map b1 (inK .string (vK (bestM (l.map (fun x => (x.nm, x.wk))) 0)))] := M4.cast rfl
 intro aC fr
 refine zlp (fun n_ a_ w_ => ∃ (j : Nat), n_ = l.length - j ∧ Fr a_ 82 [(0, (.slice A l.length c)), (1, (.func (.func 89) #[] #[])), (5, (.map (some b1))), (20, (.slice A l.length c)), (21, (.int .i64 ((l.length : Nat) : Int))), (22, (nV j))] ∧ Mem noS w w_ [.map b1 (inK .string (vK (bestM (l.map (fun x => (x.nm, x.wk))) j)))] ∧ (j ≤ l.length)) (n := _) ⟨0, rfl, fr.kp [0, 1, 5, 20, 21, 22], M5, Nat.zero_le _⟩ ?_
 clear fr aC M5; rintro n aC w8 ⟨j, rfl, fr, M9, hj⟩
 revert aC
 refine zsp <| zsq <| zcD (((j : Int) : Int) < ((l.length : Nat) : Int)) (fun c12 => ?_) (fun c12 => ?_)
 refine zsk <| zsq <| zbk 1 <| zsr ?_
 obtain ⟨x, hx⟩ := get_of (l := l) (i := j) (by omega)
 have hnx : (l.map (fun x => (x.nm, x.wk)))[j]? = some (x.nm, x.wk) := by rw [List.getElem?_map, hx]; rfl
 refine zpn 1 ?_
 obtain ⟨ad13, rfl⟩ := rds_some (M9.ro hl) (i := j) (by rw [List.getElem?_map, hx]; rfl)
 refine zix ad13 l.length 4 (j : Int) ?_
 refine zls ((ad13 : Addr).add (((j : Int)).toNat * 4)) [(.string x.nm), (.bool x.wk), (.slice x.wA x.words.length x.wc), (.slice x.rA x.refs.length x.rc)] (rds_cells (i := j) (M9.ro hl) rfl (by rw [List.getElem?_map, hx]; rfl)) ?_
 refine zal M9 78 [(.string ⟨#[]⟩), (.bool false), (.slice none 0 0), (.slice none 0 0)] fun b14 w15 hb14 M16 => ?_
 replace M16 := M16.nf
 refine zpn 1 <| zss M16 1 [(.string x.nm), (.bool x.wk), (.slice x.wA x.words.length x.wc), (.slice x.rA x.refs.length x.rc)] rfl fun w17 M18 => ?_
 replace M18 := M18.nf
 refine zfe <| zsr <| zpn 1 <| zls ⟨b14, 0, none⟩ [(.string x.nm), (.bool x.wk), (.slice x.wA x.words.length x.wc), (.slice x.rA x.refs.length x.rc)] (blk_cells (M18.get 1 rfl)) <| zcl (whatD_c x w17) ?_
 rintro _ w19 ⟨rfl, M20x⟩
 have M20 := M18.cl M20x
 refine zpn 5 <| zfe <| zsr ?_
 cases hq : lkp (bestM (l.map (fun x => (x.nm, x.wk))) j) x.nm
 refine zpn 2 <| zlv (ht := Try.underlying84) (strLaw Try.underlying9) x.nm (.int .i64 0) (M20.get 0 rfl) true (v := (.tuple #[(.int .i64 0), (.bool false)])) (by rw [lkp_vK, hq]; rfl) <| zkp [(0, (.slice (some ad13) l.length c)), (1, (.func (.func 89) #[] #[])), (5, (.map (some b1))), (6, (nV j)), (8, (.string x.nm)), (9, (.bool x.wk)), (20, (.slice (some ad13) l.length c)), (21, (.int .i64 ((l.length : Nat) : Int))), (22, (nV j)), (36, (.tuple #[(.int .i64 0), (.bool false)]))] <| zpn 5 <| zfe <| zsq <| zsp <| zcF <| zsk <| zrg ?_
 refine zpn 3 <| zmu (strLaw Try.underlying9) M20 0 x.nm (nV j) (l := (vK (bestM (l.map (fun x => (x.nm, x.wk))) j))) rfl Try.underlying84 fun w21 M22 => ?_
 replace M22 := M22.nf
 refine zfe <| zrg <| zar ((j : Int) + 1) <| zpn 1 <| zfe ?_
 intro aC fr
 exact ⟨l.length - (j + 1), by omega, j + 1, rfl, fr.kp [0, 1, 5, 20, 21, 22], ((M22.tk 1).cast (by rw [bestM_no hnx hq, vK_upk] <;> rfl)), by omega⟩
 rename_i aj
 obtain ⟨i, yn, rfl, hij, hyn⟩ := bestM_rng (nw := (l.map (fun x => (x.nm, x.wk)))) (by simp; omega) hq
 obtain ⟨y, hy⟩ := get_of (l := l) (i := i) (by omega)
 obtain rfl : yn = (y.nm, y.wk) := by rw [List.getElem?_map, hy] at hyn; exact (Option.some.inj hyn).symm
 refine zpn 2 <| zlv (ht := Try.underlying84) (strLaw Try.underlying9) x.nm (.int .i64 0) (M20.get 0 rfl) true (v := (.tuple #[(nV i), (.bool true)])) (by rw [lkp_vK, hq]; rfl) <| zkp [(0, (.slice (some ad13) l.length c)), (1, (.func (.func 89) #[] #[])), (5, (.map (some b1))), (6, (nV j)), (8, (.string x.nm)), (9, (.bool x.wk)), (20, (.slice (some ad13) l.length c)), (21, (.int .i64 ((l.length : Nat) : Int))), (22, (nV j)), (36, (.tuple #[(nV i), (.bool true)]))] <| zpn 5 <| zfe <| zsq <| zsp <| zcT <| zsr <| zpn 3 ?_
 refine zix ad13 l.length 4 (i : Int) ?_
 refine zls ((ad13 : Addr).add (((i : Int)).toNat * 4)) [(.string y.nm), (.bool y.wk), (.slice y.wA y.words.length y.wc), (.slice y.rA y.refs.length y.rc)] (rds_cells (i := i) (M20.ro hl) rfl (by rw [List.getElem?_map, hy]; rfl)) ?_
 refine zcl (whatD_c y w19) ?_
 rintro _ w25 ⟨rfl, M26x⟩
 have M26 := M20.cl M26x
 refine zpn 5 <| zfe <| zsr <| zpn 3 ?_
 obtain ⟨B27, hB27⟩ : ∃ B : Bool, B = (!y.wk) := ⟨_, rfl⟩
 refine zkp [(0, (.slice (some ad13) l.length c)), (1, (.func (.func 89) #[] #[])), (5, (.map (some b1))), (6, (nV j)), (8, (.string x.nm)), (9, (.bool x.wk)), (20, (.slice (some ad13) l.length c)), (21, (.int .i64 ((l.length : Nat) : Int))), (22, (nV j)), (51, (.bool (!y.wk)))] ?_
 rw [← hB27]
 have iB27 : B27 = true ↔ (¬ (y.wk = true)) := by rw [hB27]; simp only [notT]
 clear hB27
 intro aC fr
 refine zpk 2 5 [53] fr (news := [(53, (.bool (B27 || x.wk)))]) (by cases B27 <;> kernel_rfl) ?_
 intro aC fr
 revert aC
 refine zfe <| zcP (B27 || x.wk) ((¬ (y.wk = true)) ∨ (x.wk = true)) (by simp only [Bool.or_eq_true, iB27]) (fun c32 => ?_) (fun c32 => ?_)
 refine zex 1 <| zbh <| zrg <| zar ((j : Int) + 1) <| zpn 1 <| zfe ?_
 intro aC fr
 exact ⟨l.length - (j + 1), by omega, j + 1, rfl, fr.kp [0, 1, 5, 20, 21, 22], ((M26.tk 1).cast (by rw [bestM_had hnx hq hyn, if_pos (by rw [Bool.or_eq_true, Bool.not_eq_true']; exact (c32).imp (fun h => (Bool.not_eq_true _).mp h) id)] <;> rfl)), by omega⟩
 refine zsk <| zrg <| zpn 3 <| zmu (strLaw Try.underlying9) M26 0 x.nm (nV j) (l := (vK (bestM (l.map (fun x => (x.nm, x.wk))) j))) rfl Try.underlying84 fun w35 M36 => ?_
 replace M36 := M36.nf
 refine zfe <| zrg <| zar ((j : Int) + 1) <| zpn 1 <| zfe ?_
 intro aC fr
 exact ⟨l.length - (j + 1), by omega, j + 1, rfl, fr.kp [0, 1, 5, 20, 21, 22], ((M36.tk 1).cast (by rw [bestM_had hnx hq hyn, if_neg (by rw [Bool.or_eq_true, Bool.not_eq_true']; exact fun h => c32 (h.imp (fun h => (Bool.not_eq_true _).mpr h) id)), vK_upk] <;> rfl)), by omega⟩
 refine zex 0 <| zbh <| zsp <| zsq <| zsp <| zbk 2 ?_
 obtain rfl : j = l.length := by omega
 have M39 := M9.cl (Mem.nilrow _ 78 4)
 have M40 : Mem noS w w8 [.map b1 (inK .string (vK (bestM (l.map (fun x => (x.nm, x.wk))) (l.map (fun x => (x.nm, x.wk))).length))), .row 78 4 none 0 0 ((chosenTo (l.map (fun x => (x.nm, x.wk))) l 0).flatMap FDat.cells)] := M39.cast (by rw [List.length_map]; rfl)
 intro aC fr
 refine zlp (fun n_ a_ w_ => ∃ (j : Nat) (rA : Option Addr) (rc : Nat), n_ = l.length - j ∧ Fr a_ 82 [(1, (.func (.func 89) #[] #[])), (5, (.map (some b1))), (14, (.slice rA ((chosenTo (l.map (fun x => (x.nm, x.wk))) l j).length) rc)), (58, (.slice A l.length c)), (59, (.int .i64 ((l.length : Nat) : Int))), (60, (nV j))] ∧ Mem noS w w_ [.map b1 (inK .string (vK (bestM (l.map (fun x => (x.nm, x.wk))) (l.map (fun x => (x.nm, x.wk))).length))), .row 78 4 rA ((chosenTo (l.map (fun x => (x.nm, x.wk))) l j).length) rc ((chosenTo (l.map (fun x => (x.nm, x.wk))) l j).flatMap FDat.cells)] ∧ (j ≤ l.length)) (n := _) ⟨0, none, 0, rfl, fr.kp [1, 5, 14, 58, 59, 60], M40, Nat.zero_le _⟩ ?_
 clear fr aC M40; rintro n aC w43 ⟨j, rA, rc, rfl, fr, M44, hj⟩
 revert aC
 refine zsp <| zsq <| zcD (((j : Int) : Int) < ((l.length : Nat) : Int)) (fun c47 => ?_) (fun c47 => ?_)
 refine zsk <| zsq <| zbk 3 <| zsr ?_
 obtain ⟨x, hx⟩ := get_of (l := l) (i := j) (by omega)
 have hnx : (l.map (fun x => (x.nm, x.wk)))[j]? = some (x.nm, x.wk) := by rw [List.getElem?_map, hx]; rfl
 refine zpn 1 ?_
 obtain ⟨ad48, rfl⟩ := rds_some (M44.ro hl) (i := j) (by rw [List.getElem?_map, hx]; rfl)
 refine zix ad48 l.length 4 (j : Int) ?_
 refine zls ((ad48 : Addr).add (((j : Int)).toNat * 4)) [(.string x.nm), (.bool x.wk), (.slice x.wA x.words.length x.wc), (.slice x.rA x.refs.length x.rc)] (rds_cells (i := j) (M44.ro hl) rfl (by rw [List.getElem?_map, hx]; rfl)) ?_
 refine zal M44 78 [(.string ⟨#[]⟩), (.bool false), (.slice none 0 0), (.slice none 0 0)] fun b49 w50 hb49 M51 => ?_
 replace M51 := M51.nf
 refine zpn 1 <| zss M51 2 [(.string x.nm), (.bool x.wk), (.slice x.wA x.words.length x.wc), (.slice x.rA x.refs.length x.rc)] rfl fun w52 M53 => ?_
 replace M53 := M53.nf
 refine zfe <| zsr <| zpn 1 <| zls ⟨b49, 0, none⟩ [(.string x.nm), (.bool x.wk), (.slice x.wA x.words.length x.wc), (.slice x.rA x.refs.length x.rc)] (blk_cells (M53.get 2 rfl)) <| zcl (whatD_c x w52) ?_
 rintro _ w54 ⟨rfl, M55x⟩
 have M55 := M53.cl M55x
 refine zpn 5 <| zfe <| zsr ?_
 obtain ⟨aj, haj⟩ := bestM_has hnx
 have hbs := bestM_self hnx
 have hcl : (chosenTo (l.map (fun x => (x.nm, x.wk))) l j).length ≤ j := chosenTo_len
 refine zpn 2 <| zlv (ht := Try.underlying84) (strLaw Try.underlying9) x.nm (.int .i64 0) (M55.get 0 rfl) false (v := (.int .i64 aj)) (by rw [lkp_vK, haj]; rfl) <| zkp [(1, (.func (.func 89) #[] #[])), (5, (.map (some b1))), (14, (.slice rA ((chosenTo (l.map (fun x => (x.nm, x.wk))) l j).length) rc)), (15, (nV j)), (16, (pT b49 0)), (58, (.slice (some ad48) l.length c)), (59, (.int .i64 ((l.length : Nat) : Int))), (60, (nV j)), (73, (.int .i64 aj))] ?_
 refine zpn 2 <| zfe <| zcP ((aj : Int) == (j : Int)) ((aj : Int) = (j : Int)) (by simp only [beq_iff_eq]) (fun c56 => ?_) (fun c56 => ?_)
 have hb := hbs.1 (by rw [haj, c56])
 refine zrg <| zpn 1 <| zls ⟨b49, 0, none⟩ [(.string x.nm), (.bool x.wk), (.slice x.wA x.words.length x.wc), (.slice x.rA x.refs.length x.rc)] (blk_cells (M55.get 2 rfl)) ?_
 intro aC fr
 refine zBs 78 74 1 #[(0, (.tmp 77))] 74 fr (e := 78) (size := 4) (zs := [(.string ⟨#[]⟩), (.bool false), (.slice none 0 0), (.slice none 0 0)]) (vs := [(0, (.agg #[(.string x.nm), (.bool x.wk), (.slice x.wA x.words.length x.wc), (.slice x.rA x.refs.length x.rc)]))]) (cs := [(.string x.nm), (.bool x.wk), (.slice x.wA x.words.length x.wc), (.slice x.rA x.refs.length x.rc)]) M55 ?_
 intro b57 w58 hb57 _ M59 _ aC ea fr; clear ea
 replace M59 := M59.nf
 refine zAp 79 (.tmp 76) (.tmp 78) 74 74 fr (e := 78) (size := 4) (bytes := 72) (z := (.agg #[(.string ⟨#[]⟩), (.bool false), (.slice none 0 0), (.slice none 0 0)])) (A := rA) (B := (sM b57)) (n := ((chosenTo (l.map (fun x => (x.nm, x.wk))) l j).length)) (cap := rc) (m := 1) (cap' := 1) (xs := ((chosenTo (l.map (fun x => (x.nm, x.wk))) l j).flatMap FDat.cells)) (news := [(.string x.nm), (.bool x.wk), (.slice x.wA x.words.length x.wc), (.slice x.rA x.refs.length x.rc)]) M59 1 rfl (row_rd (M59.get 3 rfl)) rfl (by simp [Value.oneCell']) (by omega) (by simp only [maxLen]; omega) ?_
 intro A64 c65 w66 M67 _ aC ea fr; clear ea
 replace M67 := M67.nf
 revert aC
 refine zpn 1 ?_
 have hc1 : (chosenTo (l.map (fun x => (x.nm, x.wk))) l (j + 1)).length = (chosenTo (l.map (fun x => (x.nm, x.wk))) l j).length + 1 := by rw [chosenTo_yes hx hb]; simp
 have hc2 : (chosenTo (l.map (fun x => (x.nm, x.wk))) l (j + 1)).flatMap FDat.cells = (chosenTo (l.map (fun x => (x.nm, x.wk))) l j).flatMap FDat.cells ++ [(.string x.nm), (.bool x.wk), (.slice x.wA x.words.length x.wc), (.slice x.rA x.refs.length x.rc)] := by rw [chosenTo_yes hx hb, List.flatMap_append]; simp [FDat.cells]
 have M70 : Mem noS w w66 [.map b1 (inK .string (vK (bestM (l.map (fun x => (x.nm, x.wk))) (l.map (fun x => (x.nm, x.wk))).length))), .row 78 4 A64 ((chosenTo (l.map (fun x => (x.nm, x.wk))) l (j + 1)).length) c65 ((chosenTo (l.map (fun x => (x.nm, x.wk))) l (j + 1)).flatMap FDat.cells)] := (M67.tk 2).cast (by rw [hc1, hc2] <;> rfl)
 refine zkp [(1, (.func (.func 89) #[] #[])), (5, (.map (some b1))), (14, (.slice A64 (((chosenTo (l.map (fun x => (x.nm, x.wk))) l j).length) + 1) c65)), (58, (.slice (some ad48) l.length c)), (59, (.int .i64 ((l.length : Nat) : Int))), (60, (nV j))] ?_
 rw [← hc1]
 refine zfe <| zrg <| zar ((j : Int) + 1) <| zpn 1 <| zfe ?_
 intro aC fr
 exact ⟨l.length - (j + 1), by omega, j + 1, A64, c65, rfl, fr.kp [1, 5, 14, 58, 59, 60], ((M70.tk 2).cast (by rfl)), by omega⟩
 have hb : bestB (l.map (fun x => (x.nm, x.wk))) j = false := Bool.eq_false_iff.2 (fun h => c56 (Option.some.inj (haj.symm.trans (hbs.2 h))))
 have hc1 : chosenTo (l.map (fun x => (x.nm, x.wk))) l (j + 1) = chosenTo (l.map (fun x => (x.nm, x.wk))) l j := chosenTo_no hb
 refine zkp [(1, (.func (.func 89) #[] #[])), (5, (.map (some b1))), (14, (.slice rA ((chosenTo (l.map (fun x => (x.nm, x.wk))) l j).length) rc)), (16, (pT b49 0)), (58, (.slice (some ad48) l.length c)), (59, (.int .i64 ((l.length : Nat) : Int))), (60, (nV j))] ?_
 rw [← hc1]
 refine zsk <| zrg <| zar ((j : Int) + 1) <| zpn 1 <| zfe ?_
 intro aC fr
 exact ⟨l.length - (j + 1), by omega, j + 1, rA, rc, rfl, fr.kp [1, 5, 14, 58, 59, 60], ((M55.tk 2).cast (by rw [hc1] <;> rfl)), by omega⟩
 refine zex 2 <| zbh <| zsp <| zre <| zo1 (.slice rA ((chosenTo (l.map (fun x => (x.nm, x.wk))) l j).length) rc) ?_
 obtain rfl : j = l.length := by omega
 have M75 := M44.od [1] 1
 exact ⟨_, _, rfl, M75⟩
end Go.Proofs.Ytjekgaabcigphaa
namespace Go.Mor
open Go.RowKit
def FDat.parts (d : FDat) : List Res := [.rd d.wA (ints d.words), .rds d.rA 2 (d.refs.map refCells)]
def Res.dats (A : Option Addr) (ds : List FDat) : Res := .all (.rds A 4 (ds.map FDat.cells) :: ds.flatMap FDat.parts)
section
variable {S : Nat → Prop} {w : World} {A : Option Addr} {ds : List FDat} {d : FDat}
theorem RO.dcells (h : RO S w (.dats A ds)) : RO S w (.rds A 4 (ds.map FDat.cells)) := h.sub (List.mem_cons_self ..)
theorem RO.dwords (h : RO S w (.dats A ds)) (hd : d ∈ ds) : RO S w (.rd d.wA (ints d.words)) :=
  h.sub (List.mem_cons_of_mem _ (List.mem_flatMap.2 ⟨d, hd, by simp [FDat.parts]⟩))
theorem RO.drefs (h : RO S w (.dats A ds)) (hd : d ∈ ds) : RO S w (.rds d.rA 2 (d.refs.map refCells)) :=
  h.sub (List.mem_cons_of_mem _ (List.mem_flatMap.2 ⟨d, hd, by simp [FDat.parts]⟩))
end
structure FDat.WF (d : FDat) : Prop where
  name : nameQ d.nm
  len : d.words.length ≤ 16384
  rlen : d.refs.length ≤ 16384
  refs : ∀ r, r ∈ d.refs → 0 ≤ r.1 ∧ r.1 < d.words.length
abbrev lyS (mem : List Int) (n : Int) : PSt := ⟨mem, n, 0, [], 0, 0⟩
abbrev lyP (C : RC) : Nat → Prop := (Res.pk (runL C (lyS (List.replicate C.E.memN 0) 0) none 0 ++ [.map C.dB (inK .string (vK []))])).fp
theorem lkV_get (l : List (ByteArray × Int)) (s : ByteArray) : lkV false (lkp (vK l) s) (.int .i64 0) = .int .i64 ((lkp l s).getD 0) := by
  rw [lkp_vK]
  cases lkp l s <;> rfl
theorem rows_rds {α : Type} {f : α → List Value} {w : World} {e size n c : Nat} {A : Option Addr} {l : List α} (hf : ∀ x, (f x).length = size) (h0 : 0 < size) (h : (Res.row e size A n c (l.flatMap f)).holds w) : (Res.rds A size (l.map f)).holds w := by
  have hr := row_rd h
  intro i cs hi
  rw [List.getElem?_map] at hi
  cases hx : l[i]? with
  | none => rw [hx] at hi; cases hi
  | some x =>
    rw [hx] at hi
    injection hi with hi
    subst hi
    have hne : 0 < (f x).length := by rw [hf]; exact h0
    obtain ⟨a, hA, _⟩ := hr (i * size + 0) (f x)[0] (flatMap_at hf l i x hx 0 _ (by rw [List.getElem?_eq_getElem hne]))
    refine ⟨a, hA, fun j v hv => ?_⟩
    obtain ⟨a', hA', hc⟩ := hr (i * size + j) v (flatMap_at hf l i x hx j v hv)
    rw [hA] at hA'
    injection hA' with hA'
    subst hA'
    rw [add_add]
    exact hc
theorem ints_write (m : List Int) (p : Nat) (ws : List Int) : (ints m).take p ++ ints ws ++ (ints m).drop (p + (ints ws).length) = ints (writeAt m p ws) := by
  unfold writeAt
  rw [ints_len]
  simp [ints, List.map_take, List.map_drop]
theorem cut_words {m n g : Nat} {ws : List Int} (h : m + ws.length ≤ n) : ws = [] ∨ (if n = m then (some ⟨g, 0, none⟩ : Option Addr) else (some ⟨g, 0, none⟩ : Option Addr).map (·.add (m * 1))) = some ⟨g, m, none⟩ := by
  by_cases e : n = m
  · exact .inl (List.eq_nil_of_length_eq_zero (by omega))
  · right
    rw [if_neg e, Nat.mul_one]
    show some ((⟨g, 0, none⟩ : Addr).add m) = _
    rw [add_blk]
end Go.Mor
namespace Go.Proofs.Ytjekgaabcigphaa
open Go.Mor
theorem countD_e (cs : List FDat) (l : List FDat) (A : Option Addr) (c : Nat) (w : World) (hm : l.length ≤ 1000) (hl : RO noS w (.rds A 4 (l.map FDat.cells))) (hcs : cs = chosenD l) :
    Calls Try.prog 88 #[.slice A l.length c, .func (.func 89) #[] #[]] w (Ret fun v w' => ∃ A' c', v = .slice A' cs.length c' ∧ Mem noS w w' [.row 78 4 A' cs.length c' (cs.flatMap FDat.cells)]) := by
  subst hcs
  exact countD_c l A c w hm hl
theorem lay_c (C : RC) (ds : List FDat) (dA : Option Addr) (dc : Nat) (w : World) (hdl : ds.length ≤ 1000) (hW : ∀ d, d ∈ ds → d.WF) (hm1 : 1 ≤ C.E.memN) (hm2 : C.E.memN ≤ 262144) (hfn : C.E.fns.length ≤ 1000) (hR : (Res.pk (runL C (lyS (List.replicate C.E.memN 0) 0) none 0 ++ [.map C.dB (inK .string (vK []))])).holds w) (hD : RO (lyP C) w (.dats dA ds)) (hN : RO (lyP C) w (.map C.mB (inK .string (vK C.E.names)))) :
    Calls Try.prog 76 #[(pT C.r 0), (.slice dA ds.length dc)] w (Ret fun v w' => ((nextTo (chosenD ds) (chosenD ds).length ≤ C.E.memN ∧ v = .bool true ∧ Mem (lyP C) w w' (runL C (lyS (layTo C.E.names (dataTo (chosenD ds) (chosenD ds).length) (chosenD ds) C.E.memN (chosenD ds).length) (nextTo (chosenD ds) (chosenD ds).length : Int)) none 0 ++ [.map C.dB (inK .string (vK (dataTo (chosenD ds) (chosenD ds).length)))])) ∨ (C.E.memN < nextTo (chosenD ds) (chosenD ds).length ∧ v = .bool false ∧ Mem (lyP C) w w' (runL C (lyS (List.replicate C.E.memN 0) (nextTo (chosenD ds) (chosenD ds).length : Int)) none 0 ++ [.map C.dB (inK .string (vK (dataTo (chosenD ds) (chosenD ds).length)))])))) := by
 obtain ⟨cs, hcs⟩ : ∃ z, z = chosenD ds := ⟨_, rfl⟩
 have hnd : (cs.map (·.nm)).Nodup := hcs ▸ chosenD_nodup ds
 have hmem : ∀ d, d ∈ cs → d ∈ ds := fun d h => chosenTo_mem (hcs ▸ h)
 have hcl : cs.length ≤ ds.length := hcs ▸ chosenTo_len
 have hlen : ∀ d, d ∈ cs → d.words.length ≤ 16384 := fun d hd => (hW d (chosenTo_mem (hcs ▸ hd))).len
 rw [← hcs]
 refine zen 115 [(pT C.r 0), (.slice dA ds.length dc)] Try.func76 ?_
 have hM := (Mem.unpk hR : Mem (lyP C) w w [.blk C.r 89 [(.slice C.fA (C.E.fns.length + 1) C.fc), (.slice C.sA (C.E.fns.length + 1) C.sc), (.map (some C.mB)), (.map (some C.dB)), (.slice (sM C.mG) C.E.memN C.E.memN), (.int .i64 0), (.slice ((inAt C.iA C.ic 0).1) (C.E.inp.length - 0) ((inAt C.iA C.ic 0).2)), (.slice none 0 0), (.int .i64 C.E.fuel), (.int .i64 0), (.int .i64 0), (.slice (some C.oP) 13 13)], .row 2 1 (sM C.mG) C.E.memN C.E.memN (ints (List.replicate C.E.memN 0)), .row 5 1 none 0 0 [], .map C.dB (inK .string (vK []))])
 refine zsp <| zsr <| zpn 3 <| zsb (ho := (by simp)) hM 0 5 (.int .i64 1) rfl fun w1 M2 => ?_
 replace M2 := M2.nf
 clear hM
 refine zfe <| zsr <| zpn 1 <| zcl (countD_e cs ds dA dc w1 hdl (hD.dcells.at_ M2) hcs) ?_
 rintro _ w5 ⟨A3, c4, rfl, M6x⟩
 have M6 := M2.cl M6x
 refine zpn 1 <| zfe <| zsq <| zsp <| zbk 0 ?_
 have M7 : Mem (lyP C) w w5 [.blk C.r 89 [(.slice C.fA (C.E.fns.length + 1) C.fc), (.slice C.sA (C.E.fns.length + 1) C.sc), (.map (some C.mB)), (.map (some C.dB)), (.slice (sM C.mG) C.E.memN C.E.memN), (.int .i64 1), (.slice ((inAt C.iA C.ic 0).1) (C.E.inp.length - 0) ((inAt C.iA C.ic 0).2)), (.slice none 0 0), (.int .i64 C.E.fuel), (.int .i64 0), (.int .i64 0), (.slice (some C.oP) 13 13)], .row 2 1 (sM C.mG) C.E.memN C.E.memN (ints (List.replicate C.E.memN 0)), .row 5 1 none 0 0 [], .map C.dB (inK .string (vK [])), .row 78 4 A3 cs.length c4 (cs.flatMap FDat.cells)] := M6.cast rfl
 have M8 : Mem (lyP C) w w5 [.blk C.r 89 [(.slice C.fA (C.E.fns.length + 1) C.fc), (.slice C.sA (C.E.fns.length + 1) C.sc), (.map (some C.mB)), (.map (some C.dB)), (.slice (sM C.mG) C.E.memN C.E.memN), (.int .i64 (nextTo cs 0 : Int)), (.slice ((inAt C.iA C.ic 0).1) (C.E.inp.length - 0) ((inAt C.iA C.ic 0).2)), (.slice none 0 0), (.int .i64 C.E.fuel), (.int .i64 0), (.int .i64 0), (.slice (some C.oP) 13 13)], .row 2 1 (sM C.mG) C.E.memN C.E.memN (ints (List.replicate C.E.memN 0)), .row 5 1 none 0 0 [], .map C.dB (inK .string (vK (dataTo cs 0))), .row 78 4 A3 cs.length c4 (cs.flatMap FDat.cells)] := M7.cast (by rw [dataTo_zero]; rfl)
 intro aC fr
 refine zlp (fun n_ a_ w_ => ∃ (j : Nat), n_ = cs.length - j ∧ Fr a_ 115 [(0, (pT C.r 0)), (5, (.slice A3 cs.length c4)), (20, (.slice A3 cs.length c4)), (21, (.int .i64 ((cs.length : Nat) : Int))), (22, (nV j))] ∧ Mem (lyP C) w w_ [.blk C.r 89 [(.slice C.fA (C.E.fns.length + 1) C.fc), (.slice C.sA (C.E.fns.length + 1) C.sc), (.map (some C.mB)), (.map (some C.dB)), (.slice (sM C.mG) C.E.memN C.E.memN), (.int .i64 (nextTo cs j : Int)), (.slice ((inAt C.iA C.ic 0).1) (C.E.inp.length - 0) ((inAt C.iA C.ic 0).2)), (.slice none 0 0), (.int .i64 C.E.fuel), (.int .i64 0), (.int .i64 0), (.slice (some C.oP) 13 13)], .row 2 1 (sM C.mG) C.E.memN C.E.memN (ints (List.replicate C.E.memN 0)), .row 5 1 none 0 0 [], .map C.dB (inK .string (vK (dataTo cs j))), .row 78 4 A3 cs.length c4 (cs.flatMap FDat.cells)] ∧ (j ≤ cs.length)) (n := _) ⟨0, rfl, fr.kp [0, 5, 20, 21, 22], M8, Nat.zero_le _⟩ ?_
 clear fr aC M8; rintro n aC w11 ⟨j, rfl, fr, M12, hj⟩
 revert aC
 refine zsp <| zsq <| zcD (((j : Int) : Int) < ((cs.length : Nat) : Int)) (fun c15 => ?_) (fun c15 => ?_)
 refine zsk <| zsq <| zbk 1 <| zsr ?_
 obtain ⟨d, hd⟩ := get_of (l := cs) (i := j) (by omega)
 have hdm := List.mem_of_getElem? hd
 have hdw := (hW d (hmem d hdm)).len
 have hnx := nextTo_succ hd
 have hnle := nextTo_le hlen j hj
 have hmn := nextTo_mono (ds := cs) (j := j + 1) (i := cs.length) (by omega)
 obtain ⟨g17, rfl⟩ := row_some (M12.get 4 rfl) (by omega)
 refine zix ⟨g17, 0, none⟩ cs.length 4 (j : Int) <| zls ((⟨g17, 0, none⟩ : Addr).add (((j : Int)).toNat * 4)) [(.string d.nm), (.bool d.wk), (.slice d.wA d.words.length d.wc), (.slice d.rA d.refs.length d.rc)] (rds_cells (i := j) (rows_rds (f := FDat.cells) (size := 4) (l := cs) (fun _ => rfl) (by decide) (M12.get 4 rfl)) rfl (by rw [List.getElem?_map, hd]; rfl)) ?_
 refine zal M12 78 [(.string ⟨#[]⟩), (.bool false), (.slice none 0 0), (.slice none 0 0)] fun b18 w19 hb18 M20 => ?_
 replace M20 := M20.nf
 refine zss M20 5 [(.string d.nm), (.bool d.wk), (.slice d.wA d.words.length d.wc), (.slice d.rA d.refs.length d.rc)] rfl fun w21 M22 => ?_
 replace M22 := M22.nf
 refine zfe <| zsq <| zkp [(0, (pT C.r 0)), (5, (.slice (sM g17) cs.length c4)), (7, (pT b18 0)), (20, (.slice (sM g17) cs.length c4)), (21, (.int .i64 ((cs.length : Nat) : Int))), (22, (nV j))] ?_
 intro aC fr
 refine zdt 10 (N := 115) (env0 := [(0, (pT C.r 0)), (5, (.slice (sM g17) cs.length c4)), (7, (pT b18 0)), (20, (.slice (sM g17) cs.length c4)), (21, (.int .i64 ((cs.length : Nat) : Int))), (22, (nV j))]) (specAt [.det (pT C.r 0), .det (pT C.r 0), .det (pT C.r 3), .det (.map (some C.dB)), .det (pT b18 0), .det (.string d.nm), .det (pT C.r 0), .det (pT C.r 0), .det (pT C.r 5), .det (.int .i64 (nextTo cs j : Int))]) fr (la (la (la (la (la (la (la (la (la (la lz dP) dP) dP) (dL ⟨C.r, 3, none⟩ (.map (some C.dB)) fun w_ hK => (blk_cell ((M22.then_ hK).get 0 rfl) rfl))) dP) (dL ⟨b18, 0, none⟩ (.string d.nm) fun w_ hK => (blk_cell ((M22.then_ hK).get 5 rfl) rfl))) dP) dP) dP) (dL ⟨C.r, 5, none⟩ (.int .i64 (nextTo cs j : Int)) fun w_ hK => (blk_cell ((M22.then_ hK).get 0 rfl) rfl))) ?_
 intro aC w27 vs hK hv fr
 revert aC; refine zkp [(0, (pT C.r 0)), (5, (.slice (sM g17) cs.length c4)), (7, (pT b18 0)), (20, (.slice (sM g17) cs.length c4)), (21, (.int .i64 ((cs.length : Nat) : Int))), (22, (nV j)), (29, (.map (some C.dB))), (31, (.string d.nm)), (35, (.int .i64 (nextTo cs j : Int)))] ?_
 have M28 := M22.then_ hK
 clear hK hv fr aC M22; clear vs
 refine zmu (strLaw Try.underlying9) M28 3 d.nm (.int .i64 (nextTo cs j : Int)) (l := (vK (dataTo cs j))) rfl Try.underlying85 fun w29 M30 => ?_
 replace M30 := M30.nf
 have M31 : Mem (lyP C) w w29 [.blk C.r 89 [(.slice C.fA (C.E.fns.length + 1) C.fc), (.slice C.sA (C.E.fns.length + 1) C.sc), (.map (some C.mB)), (.map (some C.dB)), (.slice (sM C.mG) C.E.memN C.E.memN), (.int .i64 (nextTo cs j : Int)), (.slice ((inAt C.iA C.ic 0).1) (C.E.inp.length - 0) ((inAt C.iA C.ic 0).2)), (.slice none 0 0), (.int .i64 C.E.fuel), (.int .i64 0), (.int .i64 0), (.slice (some C.oP) 13 13)], .row 2 1 (sM C.mG) C.E.memN C.E.memN (ints (List.replicate C.E.memN 0)), .row 5 1 none 0 0 [], .map C.dB (inK .string (vK (dataTo cs (j + 1)))), .row 78 4 (sM g17) cs.length c4 (cs.flatMap FDat.cells), .blk b18 78 [(.string d.nm), (.bool d.wk), (.slice d.wA d.words.length d.wc), (.slice d.rA d.refs.length d.rc)]] := M30.cast (by rw [dataTo_up hnd hd])
 refine zfe <| zkp [(0, (pT C.r 0)), (5, (.slice (sM g17) cs.length c4)), (7, (pT b18 0)), (20, (.slice (sM g17) cs.length c4)), (21, (.int .i64 ((cs.length : Nat) : Int))), (22, (nV j))] ?_
 intro aC fr
 refine zdt 7 (N := 115) (env0 := [(0, (pT C.r 0)), (5, (.slice (sM g17) cs.length c4)), (7, (pT b18 0)), (20, (.slice (sM g17) cs.length c4)), (21, (.int .i64 ((cs.length : Nat) : Int))), (22, (nV j))]) (specAt [.det (pT C.r 0), .det (pT C.r 0), .det (pT C.r 5), .det (.int .i64 (nextTo cs j : Int)), .det (pT b18 2), .det (.slice d.wA d.words.length d.wc), .det (.int .i64 ((d.words.length : Nat) : Int))]) fr (la (la (la (la (la (la (la lz dP) dP) dP) (dL ⟨C.r, 5, none⟩ (.int .i64 (nextTo cs j : Int)) fun w_ hK => (blk_cell ((M31.then_ hK).get 0 rfl) rfl))) dP) (dL ⟨b18, 2, none⟩ (.slice d.wA d.words.length d.wc) fun w_ hK => (blk_cell ((M31.then_ hK).get 5 rfl) rfl))) dP) ?_
 intro aC w36 vs hK hv fr
 revert aC; refine zkp [(0, (pT C.r 0)), (5, (.slice (sM g17) cs.length c4)), (20, (.slice (sM g17) cs.length c4)), (21, (.int .i64 ((cs.length : Nat) : Int))), (22, (nV j)), (36, (pT C.r 0)), (39, (.int .i64 (nextTo cs j : Int))), (42, (.int .i64 ((d.words.length : Nat) : Int)))] ?_
 have M37 := M31.then_ hK
 clear hK hv fr aC M31; clear vs
 refine zar ((nextTo cs j : Int) + ((d.words.length : Nat) : Int)) <| zpn 2 <| zsb (ho := (by simp)) M37 0 5 (.int .i64 ((nextTo cs j : Int) + ((d.words.length : Nat) : Int))) rfl fun w38 M39 => ?_
 replace M39 := M39.nf
 refine zfe <| zrg <| zar ((j : Int) + 1) <| zpn 1 <| zfe ?_
 intro aC fr
 exact ⟨cs.length - (j + 1), by omega, j + 1, rfl, fr.kp [0, 5, 20, 21, 22], ((M39.tk 5).cast (by rw [show ((nextTo cs (j + 1) : Nat) : Int) = (nextTo cs j : Int) + ((d.words.length : Nat) : Int) by omega] <;> rfl)), by omega⟩
 refine zex 0 <| zbh <| zsq <| zsq ?_
 obtain rfl : j = cs.length := by omega
 have M42 : Mem (lyP C) w w11 [.blk C.r 89 [(.slice C.fA (C.E.fns.length + 1) C.fc), (.slice C.sA (C.E.fns.length + 1) C.sc), (.map (some C.mB)), (.map (some C.dB)), (.slice (sM C.mG) C.E.memN C.E.memN), (.int .i64 (nextTo cs cs.length : Int)), (.slice ((inAt C.iA C.ic 0).1) (C.E.inp.length - 0) ((inAt C.iA C.ic 0).2)), (.slice none 0 0), (.int .i64 C.E.fuel), (.int .i64 0), (.int .i64 0), (.slice (some C.oP) 13 13)], .row 2 1 (sM C.mG) C.E.memN C.E.memN (ints (List.replicate C.E.memN 0)), .row 5 1 none 0 0 [], .map C.dB (inK .string (vK (dataTo cs cs.length))), .row 78 4 A3 cs.length c4 (cs.flatMap FDat.cells)] := M12.cast rfl
 obtain ⟨B43, hB43⟩ : ∃ B : Bool, B = decide ((nextTo cs cs.length : Int) > ((C.E.memN : Nat) : Int)) := ⟨_, rfl⟩
 refine zkp [(0, (pT C.r 0)), (5, (.slice A3 cs.length c4)), (20, (.slice A3 cs.length c4)), (21, (.int .i64 ((cs.length : Nat) : Int)))] ?_
 intro aC fr
 refine zdr (N := 115) (env0 := [(0, (pT C.r 0)), (5, (.slice A3 cs.length c4)), (20, (.slice A3 cs.length c4)), (21, (.int .i64 ((cs.length : Nat) : Int)))]) (specAt [.det (pT C.r 0), .det (pT C.r 0), .det (pT C.r 5), .det (.int .i64 (nextTo cs cs.length : Int)), .det (pT C.r 0), .det (pT C.r 0), .det (pT C.r 4), .det (.slice (sM C.mG) C.E.memN C.E.memN), .det (.int .i64 ((C.E.memN : Nat) : Int)), .det (.bool B43)]) fr (la (la (la (la (la (la (la (la (la (la lz dP) dP) dP) (dL ⟨C.r, 5, none⟩ (.int .i64 (nextTo cs cs.length : Int)) fun w_ hK => (blk_cell ((M42.then_ hK).get 0 rfl) rfl))) dP) dP) dP) (dL ⟨C.r, 4, none⟩ (.slice (sM C.mG) C.E.memN C.E.memN) fun w_ hK => (blk_cell ((M42.then_ hK).get 0 rfl) rfl))) dP) (dC (decide ((nextTo cs cs.length : Int) > ((C.E.memN : Nat) : Int))) hB43)) ?_
 intro aC w48 vs hK hv fr
 revert aC; refine zkp [(0, (pT C.r 0)), (5, (.slice A3 cs.length c4)), (56, (.bool B43))] ?_
 have M49 := M42.then_ hK
 clear hK hv fr aC M42; clear vs
 have iB43 : B43 = true ↔ (((nextTo cs cs.length : Int) : Int) > ((C.E.memN : Nat) : Int)) := by rw [hB43]; simp only [decide_eq_true_eq]
 clear hB43
 refine zcP B43 (((nextTo cs cs.length : Int) : Int) > ((C.E.memN : Nat) : Int)) iB43 (fun c50 => ?_) (fun c50 => ?_)
 refine zsp <| zre <| zo1 (.bool false) ?_
 exact .inr ⟨by omega, rfl, M49.tk 4⟩
 refine zsk <| zsq <| zsp <| zbk 2 ?_
 have M51 : Mem (lyP C) w w48 [.blk C.r 89 [(.slice C.fA (C.E.fns.length + 1) C.fc), (.slice C.sA (C.E.fns.length + 1) C.sc), (.map (some C.mB)), (.map (some C.dB)), (.slice (sM C.mG) C.E.memN C.E.memN), (.int .i64 (nextTo cs cs.length : Int)), (.slice ((inAt C.iA C.ic 0).1) (C.E.inp.length - 0) ((inAt C.iA C.ic 0).2)), (.slice none 0 0), (.int .i64 C.E.fuel), (.int .i64 0), (.int .i64 0), (.slice (some C.oP) 13 13)], .row 2 1 (sM C.mG) C.E.memN C.E.memN (ints (layTo C.E.names (dataTo cs cs.length) cs C.E.memN 0)), .row 5 1 none 0 0 [], .map C.dB (inK .string (vK (dataTo cs cs.length))), .row 78 4 A3 cs.length c4 (cs.flatMap FDat.cells)] := M49.cast rfl
 have hfit : nextTo cs cs.length ≤ C.E.memN := by omega
 intro aC fr
 refine zlp (fun n_ a_ w_ => ∃ (j : Nat), n_ = cs.length - j ∧ Fr a_ 115 [(0, (pT C.r 0)), (57, (.slice A3 cs.length c4)), (58, (.int .i64 ((cs.length : Nat) : Int))), (59, (nV j))] ∧ Mem (lyP C) w w_ [.blk C.r 89 [(.slice C.fA (C.E.fns.length + 1) C.fc), (.slice C.sA (C.E.fns.length + 1) C.sc), (.map (some C.mB)), (.map (some C.dB)), (.slice (sM C.mG) C.E.memN C.E.memN), (.int .i64 (nextTo cs cs.length : Int)), (.slice ((inAt C.iA C.ic 0).1) (C.E.inp.length - 0) ((inAt C.iA C.ic 0).2)), (.slice none 0 0), (.int .i64 C.E.fuel), (.int .i64 0), (.int .i64 0), (.slice (some C.oP) 13 13)], .row 2 1 (sM C.mG) C.E.memN C.E.memN (ints (layTo C.E.names (dataTo cs cs.length) cs C.E.memN j)), .row 5 1 none 0 0 [], .map C.dB (inK .string (vK (dataTo cs cs.length))), .row 78 4 A3 cs.length c4 (cs.flatMap FDat.cells)] ∧ (j ≤ cs.length)) (n := _) ⟨0, rfl, fr.kp [0, 57, 58, 59], M51, Nat.zero_le _⟩ ?_
 clear fr aC M51; rintro n aC w54 ⟨j, rfl, fr, M55, hj⟩
 revert aC
 refine zsp <| zsq <| zcD (((j : Int) : Int) < ((cs.length : Nat) : Int)) (fun c58 => ?_) (fun c58 => ?_)
 refine zsk <| zsq <| zbk 3 <| zsr ?_
 obtain ⟨d, hd⟩ := get_of (l := cs) (i := j) (by omega)
 have hdm := List.mem_of_getElem? hd
 have hdw := (hW d (hmem d hdm)).len
 have hnx := nextTo_succ hd
 have hnle := nextTo_le hlen j hj
 have hmn := nextTo_mono (ds := cs) (j := j + 1) (i := cs.length) (by omega)
 have hll := layTo_len (names := C.E.names) (data := (dataTo cs cs.length)) (ds := cs) (memN := C.E.memN) j hj hfit
 obtain ⟨g60, rfl⟩ := row_some (M55.get 4 rfl) (by omega)
 refine zix ⟨g60, 0, none⟩ cs.length 4 (j : Int) <| zls ((⟨g60, 0, none⟩ : Addr).add (((j : Int)).toNat * 4)) [(.string d.nm), (.bool d.wk), (.slice d.wA d.words.length d.wc), (.slice d.rA d.refs.length d.rc)] (rds_cells (i := j) (rows_rds (f := FDat.cells) (size := 4) (l := cs) (fun _ => rfl) (by decide) (M55.get 4 rfl)) rfl (by rw [List.getElem?_map, hd]; rfl)) ?_
 refine zal M55 78 [(.string ⟨#[]⟩), (.bool false), (.slice none 0 0), (.slice none 0 0)] fun b61 w62 hb61 M63 => ?_
 replace M63 := M63.nf
 refine zss M63 5 [(.string d.nm), (.bool d.wk), (.slice d.wA d.words.length d.wc), (.slice d.rA d.refs.length d.rc)] rfl fun w64 M65 => ?_
 replace M65 := M65.nf
 refine zfe <| zsq <| zkp [(0, (pT C.r 0)), (9, (pT b61 0)), (57, (.slice (sM g60) cs.length c4)), (58, (.int .i64 ((cs.length : Nat) : Int))), (59, (nV j))] ?_
 intro aC fr
 refine zdt 11 (N := 115) (env0 := [(0, (pT C.r 0)), (9, (pT b61 0)), (57, (.slice (sM g60) cs.length c4)), (58, (.int .i64 ((cs.length : Nat) : Int))), (59, (nV j))]) (specAt [.det (pT C.r 0), .det (pT C.r 0), .det (pT C.r 4), .det (.slice (sM C.mG) C.E.memN C.E.memN), .det (pT C.r 0), .det (pT C.r 0), .det (pT C.r 3), .det (.map (some C.dB)), .det (pT b61 0), .det (.string d.nm), .det (.int .i64 (nextTo cs j : Int))]) fr (la (la (la (la (la (la (la (la (la (la (la lz dP) dP) dP) (dL ⟨C.r, 4, none⟩ (.slice (sM C.mG) C.E.memN C.E.memN) fun w_ hK => (blk_cell ((M65.then_ hK).get 0 rfl) rfl))) dP) dP) dP) (dL ⟨C.r, 3, none⟩ (.map (some C.dB)) fun w_ hK => (blk_cell ((M65.then_ hK).get 0 rfl) rfl))) dP) (dL ⟨b61, 0, none⟩ (.string d.nm) fun w_ hK => (blk_cell ((M65.then_ hK).get 5 rfl) rfl))) (dM (strLaw Try.underlying9) Try.underlying85 d.nm (.int .i64 0) (fun w_ hK => (M65.then_ hK).get 3 rfl) false (hv := by rw [lkp_vK, lkp_dataTo hnd hd _ (by omega) (Nat.le_refl _)]; rfl))) ?_
 intro aC w70 vs hK hv fr
 revert aC; refine zkp [(0, (pT C.r 0)), (9, (pT b61 0)), (57, (.slice (sM g60) cs.length c4)), (58, (.int .i64 ((cs.length : Nat) : Int))), (59, (nV j)), (66, (.slice (sM C.mG) C.E.memN C.E.memN)), (73, (.int .i64 (nextTo cs j : Int)))] ?_
 have M71 := M65.then_ hK
 clear hK hv fr aC M65; clear vs
 obtain ⟨D, hDe⟩ : ∃ D : Option Addr, D = (if C.E.memN = nextTo cs j then (some ⟨C.mG, 0, none⟩ : Option Addr) else (some ⟨C.mG, 0, none⟩ : Option Addr).map (·.add (nextTo cs j * 1))) := ⟨_, rfl⟩
 have hDw : d.words = [] ∨ D = some ⟨C.mG, nextTo cs j, none⟩ := by rw [hDe]; exact cut_words (by omega)
 refine zsv (A := some ⟨C.mG, 0, none⟩) (n := C.E.memN) (cap := C.E.memN) (size := 1) (v := .slice D (C.E.memN - nextTo cs j) (C.E.memN - nextTo cs j)) (hk := by kernel_rfl) (nextTo cs j) (by omega) (by rw [hDe]) <| zpn 1 <| zfe <| zsr <| zpn 2 <| zld ⟨b61, 2, none⟩ (.slice d.wA d.words.length d.wc) (blk_cell (M71.get 5 rfl) rfl) ?_
 clear hDe
 refine zco M71 1 (nextTo cs j) (e := 2) (b := C.mG) (n := C.E.memN) (dn := C.E.memN - nextTo cs j) (m := d.words.length) (rc := C.E.memN) (D := D) (A := d.wA) (xs := ints d.words) (cs := ints (layTo C.E.names (dataTo cs cs.length) cs C.E.memN j)) rfl (hDw.imp (fun h => by rw [h]; rfl) id) (M71.ro (hD.dwords (hmem d hdm))) (ints_len _).symm (by omega) (by rw [ints_len, ints_len]; omega) (ints_one _) (fun w72 M73 => ?_) (by kernel_rfl)
 replace M73 := M73.nf
 have M74 : Mem (lyP C) w w72 [.blk C.r 89 [(.slice C.fA (C.E.fns.length + 1) C.fc), (.slice C.sA (C.E.fns.length + 1) C.sc), (.map (some C.mB)), (.map (some C.dB)), (.slice (sM C.mG) C.E.memN C.E.memN), (.int .i64 (nextTo cs cs.length : Int)), (.slice ((inAt C.iA C.ic 0).1) (C.E.inp.length - 0) ((inAt C.iA C.ic 0).2)), (.slice none 0 0), (.int .i64 C.E.fuel), (.int .i64 0), (.int .i64 0), (.slice (some C.oP) 13 13)], .row 2 1 (sM C.mG) C.E.memN C.E.memN (ints (writeAt (layTo C.E.names (dataTo cs cs.length) cs C.E.memN j) (nextTo cs j) d.words)), .row 5 1 none 0 0 [], .map C.dB (inK .string (vK (dataTo cs cs.length))), .row 78 4 (sM g60) cs.length c4 (cs.flatMap FDat.cells), .blk b61 78 [(.string d.nm), (.bool d.wk), (.slice d.wA d.words.length d.wc), (.slice d.rA d.refs.length d.rc)]] := M73.cast (by rw [ints_write])
 refine zfe <| zsr <| zpn 1 <| zld ⟨b61, 3, none⟩ (.slice d.rA d.refs.length d.rc) (blk_cell (M74.get 5 rfl) rfl) <| zpn 2 <| zfe <| zbk 4 ?_
 have M75 : Mem (lyP C) w w72 [.blk C.r 89 [(.slice C.fA (C.E.fns.length + 1) C.fc), (.slice C.sA (C.E.fns.length + 1) C.sc), (.map (some C.mB)), (.map (some C.dB)), (.slice (sM C.mG) C.E.memN C.E.memN), (.int .i64 (nextTo cs cs.length : Int)), (.slice ((inAt C.iA C.ic 0).1) (C.E.inp.length - 0) ((inAt C.iA C.ic 0).2)), (.slice none 0 0), (.int .i64 C.E.fuel), (.int .i64 0), (.int .i64 0), (.slice (some C.oP) 13 13)], .row 2 1 (sM C.mG) C.E.memN C.E.memN (ints (putRefs C.E.names (dataTo cs cs.length) (nextTo cs j) (writeAt (layTo C.E.names (dataTo cs cs.length) cs C.E.memN j) (nextTo cs j) d.words) (d.refs.take 0))), .row 5 1 none 0 0 [], .map C.dB (inK .string (vK (dataTo cs cs.length))), .row 78 4 (sM g60) cs.length c4 (cs.flatMap FDat.cells), .blk b61 78 [(.string d.nm), (.bool d.wk), (.slice d.wA d.words.length d.wc), (.slice d.rA d.refs.length d.rc)]] := M74.cast rfl
 intro aC fr
 refine zlp (fun n_ a_ w_ => ∃ (q : Nat), n_ = d.refs.length - q ∧ Fr a_ 115 [(0, (pT C.r 0)), (10, (.slice D (C.E.memN - nextTo cs j) (C.E.memN - nextTo cs j))), (57, (.slice (sM g60) cs.length c4)), (58, (.int .i64 ((cs.length : Nat) : Int))), (59, (nV j)), (80, (.slice d.rA d.refs.length d.rc)), (81, (.int .i64 ((d.refs.length : Nat) : Int))), (82, (nV q))] ∧ Mem (lyP C) w w_ [.blk C.r 89 [(.slice C.fA (C.E.fns.length + 1) C.fc), (.slice C.sA (C.E.fns.length + 1) C.sc), (.map (some C.mB)), (.map (some C.dB)), (.slice (sM C.mG) C.E.memN C.E.memN), (.int .i64 (nextTo cs cs.length : Int)), (.slice ((inAt C.iA C.ic 0).1) (C.E.inp.length - 0) ((inAt C.iA C.ic 0).2)), (.slice none 0 0), (.int .i64 C.E.fuel), (.int .i64 0), (.int .i64 0), (.slice (some C.oP) 13 13)], .row 2 1 (sM C.mG) C.E.memN C.E.memN (ints (putRefs C.E.names (dataTo cs cs.length) (nextTo cs j) (writeAt (layTo C.E.names (dataTo cs cs.length) cs C.E.memN j) (nextTo cs j) d.words) (d.refs.take q))), .row 5 1 none 0 0 [], .map C.dB (inK .string (vK (dataTo cs cs.length))), .row 78 4 (sM g60) cs.length c4 (cs.flatMap FDat.cells), .blk b61 78 [(.string d.nm), (.bool d.wk), (.slice d.wA d.words.length d.wc), (.slice d.rA d.refs.length d.rc)]] ∧ (q ≤ d.refs.length)) (n := _) ⟨0, rfl, fr.kp [0, 10, 57, 58, 59, 80, 81, 82], M75, Nat.zero_le _⟩ ?_
 clear fr aC M75; rintro n aC w78 ⟨q, rfl, fr, M79, hqj⟩
 revert aC
 refine zsp <| zsq <| zcD (((q : Int) : Int) < ((d.refs.length : Nat) : Int)) (fun c82 => ?_) (fun c82 => ?_)
 refine zsk <| zsq <| zbk 5 <| zsr ?_
 obtain ⟨r, hr⟩ := get_of (l := d.refs) (i := q) (by omega)
 have hrr := (hW d (hmem d hdm)).refs r (List.mem_of_getElem? hr)
 have hrl := (hW d (hmem d hdm)).rlen
 have hlm : (putRefs C.E.names (dataTo cs cs.length) (nextTo cs j) (writeAt (layTo C.E.names (dataTo cs cs.length) cs C.E.memN j) (nextTo cs j) d.words) (d.refs.take q)).length = C.E.memN := by rw [putRefs_len, writeAt_len (by rw [hll]; omega), hll]
 obtain ⟨ad83, had84⟩ := rds_some (M79.ro (hD.drefs (hmem d hdm))) (i := q) (by rw [List.getElem?_map, hr]; rfl)
 intro aC fr
 refine From_ixA (some 84) d.rA ad83 d.refs.length 2 (q : Int) fr (by kernel_rfl) had84 (by omega) (by omega) ?_
 intro aC fr
 revert aC
 refine zls ((ad83 : Addr).add (((q : Int)).toNat * 2)) [(.int .i64 r.1), (.string r.2)] (rds_cells (i := q) (M79.ro (hD.drefs (hmem d hdm))) had84 (by rw [List.getElem?_map, hr]; rfl)) ?_
 refine zal M79 153 [(.int .i64 0), (.string ⟨#[]⟩)] fun b89 w90 hb89 M91 => ?_
 replace M91 := M91.nf
 refine zss M91 6 [(.int .i64 r.1), (.string r.2)] rfl fun w92 M93 => ?_
 replace M93 := M93.nf
 refine zfe <| zsq ?_
 obtain rfl := hDw.resolve_left (fun h => by rw [h] at hrr; simp at hrr; omega)
 refine zkp [(0, (pT C.r 0)), (10, (.slice (some ⟨C.mG, nextTo cs j, none⟩) (C.E.memN - nextTo cs j) (C.E.memN - nextTo cs j))), (12, (pT b89 0)), (57, (.slice (sM g60) cs.length c4)), (58, (.int .i64 ((cs.length : Nat) : Int))), (59, (nV j)), (80, (.slice d.rA d.refs.length d.rc)), (81, (.int .i64 ((d.refs.length : Nat) : Int))), (82, (nV q))] ?_
 intro aC fr
 refine zdt 10 (N := 115) (env0 := [(0, (pT C.r 0)), (10, (.slice (some ⟨C.mG, nextTo cs j, none⟩) (C.E.memN - nextTo cs j) (C.E.memN - nextTo cs j))), (12, (pT b89 0)), (57, (.slice (sM g60) cs.length c4)), (58, (.int .i64 ((cs.length : Nat) : Int))), (59, (nV j)), (80, (.slice d.rA d.refs.length d.rc)), (81, (.int .i64 ((d.refs.length : Nat) : Int))), (82, (nV q))]) (specAt [.det (.slice (some ⟨C.mG, nextTo cs j, none⟩) (C.E.memN - nextTo cs j) (C.E.memN - nextTo cs j)), .det (pT b89 0), .det (.int .i64 r.1), .det (pT C.r 0), .det (pT C.r 0), .det (pT C.r 2), .det (.map (some C.mB)), .det (pT b89 1), .det (.string r.2), .det (.int .i64 ((lkp C.E.names r.2).getD 0))]) fr (la (la (la (la (la (la (la (la (la (la lz dP) dP) (dL ⟨b89, 0, none⟩ (.int .i64 r.1) fun w_ hK => (blk_cell ((M93.then_ hK).get 6 rfl) rfl))) dP) dP) dP) (dL ⟨C.r, 2, none⟩ (.map (some C.mB)) fun w_ hK => (blk_cell ((M93.then_ hK).get 0 rfl) rfl))) dP) (dL ⟨b89, 1, none⟩ (.string r.2) fun w_ hK => (blk_cell ((M93.then_ hK).get 6 rfl) rfl))) (dM (strLaw Try.underlying9) Try.underlying84 r.2 (.int .i64 0) (fun w_ hK => (M93.then_ hK).ro hN) false (hv := by rw [lkV_get]; rfl))) ?_
 intro aC w98 vs hK hv fr
 revert aC; refine zkp [(0, (pT C.r 0)), (10, (.slice (some ⟨C.mG, nextTo cs j, none⟩) (C.E.memN - nextTo cs j) (C.E.memN - nextTo cs j))), (12, (pT b89 0)), (57, (.slice (sM g60) cs.length c4)), (58, (.int .i64 ((cs.length : Nat) : Int))), (59, (nV j)), (80, (.slice d.rA d.refs.length d.rc)), (81, (.int .i64 ((d.refs.length : Nat) : Int))), (82, (nV q)), (86, (.slice (some ⟨C.mG, nextTo cs j, none⟩) (C.E.memN - nextTo cs j) (C.E.memN - nextTo cs j))), (88, (.int .i64 r.1)), (95, (.int .i64 ((lkp C.E.names r.2).getD 0)))] ?_
 have M99 := M93.then_ hK
 clear hK hv fr aC M93; clear vs
 refine zix ⟨C.mG, nextTo cs j, none⟩ (C.E.memN - nextTo cs j) 1 r.1 <| zsw M99 1 ((⟨C.mG, nextTo cs j, none⟩ : Addr).add ((r.1).toNat * 1)) (nextTo cs j + (r.1).toNat) (.int .i64 ((lkp C.E.names r.2).getD 0)) rfl (add_off _ _ _) (by omega) fun w100 M101 => ?_
 replace M101 := M101.nf
 refine zfe <| zsq ?_
 cases hq2 : lkp (dataTo cs cs.length) r.2
 refine zkp [(0, (pT C.r 0)), (10, (.slice (some ⟨C.mG, nextTo cs j, none⟩) (C.E.memN - nextTo cs j) (C.E.memN - nextTo cs j))), (12, (pT b89 0)), (57, (.slice (sM g60) cs.length c4)), (58, (.int .i64 ((cs.length : Nat) : Int))), (59, (nV j)), (80, (.slice d.rA d.refs.length d.rc)), (81, (.int .i64 ((d.refs.length : Nat) : Int))), (82, (nV q))] ?_
 intro aC fr
 refine zdt 11 (N := 115) (env0 := [(0, (pT C.r 0)), (10, (.slice (some ⟨C.mG, nextTo cs j, none⟩) (C.E.memN - nextTo cs j) (C.E.memN - nextTo cs j))), (12, (pT b89 0)), (57, (.slice (sM g60) cs.length c4)), (58, (.int .i64 ((cs.length : Nat) : Int))), (59, (nV j)), (80, (.slice d.rA d.refs.length d.rc)), (81, (.int .i64 ((d.refs.length : Nat) : Int))), (82, (nV q))]) (specAt [.det (pT C.r 0), .det (pT C.r 0), .det (pT C.r 3), .det (.map (some C.dB)), .det (pT b89 1), .det (.string r.2), .det (.tuple #[(.int .i64 0), (.bool false)]), .det (.tuple #[(.int .i64 0), (.bool false)]), .det (.int .i64 0), .det (.bool false), .det (.int .i64 0)]) fr (la (la (la (la (la (la (la (la (la (la (la lz dP) dP) dP) (dL ⟨C.r, 3, none⟩ (.map (some C.dB)) fun w_ hK => (blk_cell ((M101.then_ hK).get 0 rfl) rfl))) dP) (dL ⟨b89, 1, none⟩ (.string r.2) fun w_ hK => (blk_cell ((M101.then_ hK).get 6 rfl) rfl))) (dM (strLaw Try.underlying9) Try.underlying85 r.2 (.int .i64 0) (fun w_ hK => (M101.then_ hK).get 3 rfl) true (hv := by rw [lkp_vK, hq2]; rfl))) dP) dP) dP) dP) ?_
 intro aC w106 vs hK hv fr
 revert aC; refine zkp [(0, (pT C.r 0)), (10, (.slice (some ⟨C.mG, nextTo cs j, none⟩) (C.E.memN - nextTo cs j) (C.E.memN - nextTo cs j))), (12, (pT b89 0)), (13, (.int .i64 0)), (57, (.slice (sM g60) cs.length c4)), (58, (.int .i64 ((cs.length : Nat) : Int))), (59, (nV j)), (80, (.slice d.rA d.refs.length d.rc)), (81, (.int .i64 ((d.refs.length : Nat) : Int))), (82, (nV q)), (106, (.bool false))] ?_
 have M107 := M101.then_ hK
 clear hK hv fr aC M101; clear vs
 refine zpn 1 <| zfe <| zsp <| zcF <| zsk <| zrg <| zar ((q : Int) + 1) <| zpn 1 <| zfe ?_
 intro aC fr
 exact ⟨d.refs.length - (q + 1), by omega, q + 1, rfl, fr.kp [0, 10, 57, 58, 59, 80, 81, 82], ((M107.tk 6).cast (by rw [putRefs_snoc hr, refV_not hq2, ← ints_set] <;> rfl)), by omega⟩
 rename_i nn
 refine zkp [(0, (pT C.r 0)), (10, (.slice (some ⟨C.mG, nextTo cs j, none⟩) (C.E.memN - nextTo cs j) (C.E.memN - nextTo cs j))), (12, (pT b89 0)), (57, (.slice (sM g60) cs.length c4)), (58, (.int .i64 ((cs.length : Nat) : Int))), (59, (nV j)), (80, (.slice d.rA d.refs.length d.rc)), (81, (.int .i64 ((d.refs.length : Nat) : Int))), (82, (nV q))] ?_
 intro aC fr
 refine zdt 11 (N := 115) (env0 := [(0, (pT C.r 0)), (10, (.slice (some ⟨C.mG, nextTo cs j, none⟩) (C.E.memN - nextTo cs j) (C.E.memN - nextTo cs j))), (12, (pT b89 0)), (57, (.slice (sM g60) cs.length c4)), (58, (.int .i64 ((cs.length : Nat) : Int))), (59, (nV j)), (80, (.slice d.rA d.refs.length d.rc)), (81, (.int .i64 ((d.refs.length : Nat) : Int))), (82, (nV q))]) (specAt [.det (pT C.r 0), .det (pT C.r 0), .det (pT C.r 3), .det (.map (some C.dB)), .det (pT b89 1), .det (.string r.2), .det (.tuple #[(.int .i64 nn), (.bool true)]), .det (.tuple #[(.int .i64 nn), (.bool true)]), .det (.int .i64 nn), .det (.bool true), .det (.int .i64 nn)]) fr (la (la (la (la (la (la (la (la (la (la (la lz dP) dP) dP) (dL ⟨C.r, 3, none⟩ (.map (some C.dB)) fun w_ hK => (blk_cell ((M101.then_ hK).get 0 rfl) rfl))) dP) (dL ⟨b89, 1, none⟩ (.string r.2) fun w_ hK => (blk_cell ((M101.then_ hK).get 6 rfl) rfl))) (dM (strLaw Try.underlying9) Try.underlying85 r.2 (.int .i64 0) (fun w_ hK => (M101.then_ hK).get 3 rfl) true (hv := by rw [lkp_vK, hq2]; rfl))) dP) dP) dP) dP) ?_
 intro aC w114 vs hK hv fr
 revert aC; refine zkp [(0, (pT C.r 0)), (10, (.slice (some ⟨C.mG, nextTo cs j, none⟩) (C.E.memN - nextTo cs j) (C.E.memN - nextTo cs j))), (12, (pT b89 0)), (13, (.int .i64 nn)), (57, (.slice (sM g60) cs.length c4)), (58, (.int .i64 ((cs.length : Nat) : Int))), (59, (nV j)), (80, (.slice d.rA d.refs.length d.rc)), (81, (.int .i64 ((d.refs.length : Nat) : Int))), (82, (nV q)), (106, (.bool true))] ?_
 have M115 := M101.then_ hK
 clear hK hv fr aC M101; clear vs
 refine zpn 1 <| zfe <| zsp <| zcT <| zrg <| zpn 2 <| zld ⟨b89, 0, none⟩ (.int .i64 r.1) (blk_cell (M115.get 6 rfl) rfl) <| zpn 1 <| zix ⟨C.mG, nextTo cs j, none⟩ (C.E.memN - nextTo cs j) 1 r.1 <| zsw M115 1 ((⟨C.mG, nextTo cs j, none⟩ : Addr).add ((r.1).toNat * 1)) (nextTo cs j + (r.1).toNat) (.int .i64 nn) rfl (add_off _ _ _) (by omega) fun w116 M117 => ?_
 replace M117 := M117.nf
 refine zfe <| zrg <| zar ((q : Int) + 1) <| zpn 1 <| zfe ?_
 intro aC fr
 exact ⟨d.refs.length - (q + 1), by omega, q + 1, rfl, fr.kp [0, 10, 57, 58, 59, 80, 81, 82], ((M117.tk 6).cast (by rw [putRefs_snoc hr, refV_had hq2, ← ints_set, ← ints_set, List.set_set] <;> rfl)), by omega⟩
 refine zex 4 <| zbh <| zrg <| zar ((j : Int) + 1) <| zpn 1 <| zfe ?_
 obtain rfl : q = d.refs.length := by omega
 intro aC fr
 exact ⟨cs.length - (j + 1), by omega, j + 1, rfl, fr.kp [0, 57, 58, 59], ((M79.tk 5).cast (by rw [layTo_succ hd, List.take_length] <;> rfl)), by omega⟩
 refine zex 2 <| zbh <| zsp <| zre <| zo1 (.bool true) ?_
 obtain rfl : j = cs.length := by omega
 exact .inl ⟨hfit, rfl, M55.tk 4⟩
end Go.Proofs.Ytjekgaabcigphaa
namespace Go.Mor
open Go.RowKit
theorem frame0 {fn : Func} {N : FN} (vs : List Value) (hn : Nat.beq fn.ntmps N.n = true := by kernel_rfl) (hl : Nat.ble vs.length N.n = true := by kernel_rfl) (hD : N.D = [] := by rfl) :
    Fr { tmps := vs.toArray ++ Array.replicate (fn.ntmps - vs.toArray.size) undef, defers := [] } N (argE 0 vs) := by
  have hN : fn.ntmps = N.n := Nat.eq_of_beq_eq_true hn
  have hl' : vs.length ≤ N.n := Nat.le_of_ble_eq_true hl
  refine ⟨hD.symm, by simp [hN]; omega, ?_⟩
  intro t v hv
  obtain ⟨_, h2⟩ := look_argE vs 0 t hv
  simp only [Nat.sub_zero] at h2
  have ht : t < vs.length := (List.getElem?_eq_some_iff.1 h2).1
  rw [Array.getElem?_append_left (by simpa using ht)]
  simpa using h2
section
variable {P : Program} {c : Code} {w w0 : World} {S : Nat → Prop} {L : List Res} {k : Nat} {N : FN} {env : Env}
theorem WS_gen {Q : Exit → Act → List Frame → World → Prop} {a : Act} {cs : List Frame} (hF : Fr a N env) (h : ∀ a, Fr a N env → c.wpS P Q a cs w) : c.wpS P Q a cs w := h a hF
theorem WS_seq {Q : Exit → Act → List Frame → World → Prop} {a : Act} {cs : List Frame} (hk : kind c = .seq) (h : (Code.l c).wpS P (Exit.thenS (fun a cs w => (Code.r c).wpS P Q a cs w) Q) a cs w) : c.wpS P Q a cs w := by
  cases c <;> simp [kind] at hk
  exact wpS_seq h
theorem WS_of2 {Q : Exit → Act → List Frame → World → Prop} {a : Act} {cs : List Frame} (h : W P c (fun a w => Q .normal a cs w) (fun e a w => Q e a cs w) a w) : c.wpS P Q a cs w := by
  refine wpS_of_wp ?_
  refine wp_mono h ?_
  intro e a w he
  cases e <;> exact he
theorem FromS_of' {K : Act → List Frame → World → Prop} {Q : Exit → Act → List Frame → World → Prop} {a : Act} {cs : List Frame} (n : Nat) (hn : ∀ a w, ¬ Q .outgrown a cs w) (h : From P c (fun a w => K a cs w) (fun e a w => Q e a cs w) k a w) (hs : Nat.ble (opsOf c).size (k + n) = true := by kernel_rfl) : FromS P c K Q k a cs w :=
  FromS_of hn n k a w (Nat.le_of_ble_eq_true hs) h
theorem recoverD_pan {c0 : Frame} {cs : List Frame} {v : Value} (h : c0.mode = .panicking [{ v, recovered := false }]) : recoverD (c0 :: cs) = some (v, { c0 with mode := .panicking [{ v, recovered := true }] } :: cs) := by
  simp [recoverD, h]
theorem recoverD_ret {c0 : Frame} {cs : List Frame} (h : c0.mode = .returning) : recoverD (c0 :: cs) = none := by
  simp [recoverD, h]
theorem FromS_caught {K : Act → List Frame → World → Prop} {Q : Exit → Act → List Frame → World → Prop} {a : Act} {cs cs' : List Frame} {v : Value} (d : Option Nat) (ts : Array TypeId) (ty : Nat) (hr : recoverD cs = some (v, cs')) (h : FromS P c K Q (k + 1) (a.put d v) cs' w)
    (hk : coreAt c k = some (d, .call { callee := .builtin .recover, args := #[], argTypes := ts }, ty, none) := by kernel_rfl) : FromS P c K Q k a cs w := by
  refine FromS_recover hk ?_
  rw [hr]
  exact h
theorem FromS_nothing {K : Act → List Frame → World → Prop} {Q : Exit → Act → List Frame → World → Prop} {a : Act} {cs : List Frame} (d : Option Nat) (ts : Array TypeId) (ty : Nat) (hr : recoverD cs = none) (h : FromS P c K Q (k + 1) (a.put d .nilIface) cs w)
    (hk : coreAt c k = some (d, .call { callee := .builtin .recover, args := #[], argTypes := ts }, ty, none) := by kernel_rfl) : FromS P c K Q k a cs w := by
  refine FromS_recover hk ?_
  rw [hr]
  exact h
theorem WS_caught {K : Act → List Frame → World → Prop} {Q : Exit → Act → List Frame → World → Prop} {a : Act} {cs cs' : List Frame} {v : Value} (n d : Nat) (ts : Array TypeId) (ty : Nat) (hF : Fr a N env) (hr : recoverD cs = some (v, cs')) (hn : ∀ a w, ¬ Q .outgrown a cs' w)
    (h : ∀ a, Fr a N (putE env (some d) v) → From P c (fun a w => K a cs' w) (fun e a w => Q e a cs' w) 1 a w) (hk : coreAt c 0 = some (some d, .call { callee := .builtin .recover, args := #[], argTypes := ts }, ty, none) := by kernel_rfl)
    (hd : okd (some d) N = true := by kernel_rfl) (hs : Nat.ble (opsOf c).size (0 + 1 + n) = true := by kernel_rfl) (hc : kind c = .region false := by kernel_rfl) : c.wpS P (Exit.thenS K Q) a cs w :=
  WS_region hc (FromS_caught (some d) ts ty hr (FromS_of' n hn (h _ (hF.put hd v)) hs) hk)
theorem WS_nothing {K : Act → List Frame → World → Prop} {Q : Exit → Act → List Frame → World → Prop} {a : Act} {cs : List Frame} (n d : Nat) (ts : Array TypeId) (ty : Nat) (hF : Fr a N env) (hr : recoverD cs = none) (hn : ∀ a w, ¬ Q .outgrown a cs w)
    (h : ∀ a, Fr a N (putE env (some d) .nilIface) → From P c (fun a w => K a cs w) (fun e a w => Q e a cs w) 1 a w) (hk : coreAt c 0 = some (some d, .call { callee := .builtin .recover, args := #[], argTypes := ts }, ty, none) := by kernel_rfl)
    (hd : okd (some d) N = true := by kernel_rfl) (hs : Nat.ble (opsOf c).size (0 + 1 + n) = true := by kernel_rfl) (hc : kind c = .region false := by kernel_rfl) : c.wpS P (Exit.thenS K Q) a cs w :=
  WS_region hc (FromS_nothing (some d) ts ty hr (FromS_of' n hn (h _ (hF.put hd .nilIface)) hs) hk)
def taE (c : Code) (N : FN) (env : Env) (k : Nat) : Option (Option Nat × Value × TypeId × TypeId) := match coreAt c k with
  | some (d, .typeAssert x xt t true, _, g) => match guardE c g env, okd d N, ev env x with
    | some true, true, some v => some (d, v, xt, t)
    | _, _, _ => none
  | _ => none
theorem zta {K : Act → World → Prop} {Q : Exit → Act → World → Prop} (x : Value) (xt t : TypeId) (v : Value) (hr : ∀ w, (Instr.typeAssert x xt t true).run P w = .ok v w) (h : ∀ a, Fr a N (putE env (dstAt c k) v) → From P c K Q (k + 1) a w)
    (hk : taE c N env k = some (dstAt c k, x, xt, t) := by kernel_rfl) : ∀ a, Fr a N env → From P c K Q k a w := fun a hF => by
  unfold taE at hk
  split at hk
  · rename_i d0 x0 xt0 t0 ty g h0
    split at hk
    · rename_i v0 h1 h2 h3
      simp only [Option.some.injEq, Prod.mk.injEq] at hk
      obtain ⟨hd, rfl, rfl, rfl⟩ := hk
      rw [← hd] at h
      refine From_same h0 hF h1 h2 rfl (v := v) (fun o ho => ?_) (fun a' _ hF' => h a' hF')
      unfold execOp
      rw [ho]
      simp [hF.ev h3, hr w]
    · cases hk
  · cases hk
theorem ta_yes {t xt : TypeId} {fs : Array Field} (hu : P.underlying t = some (.struct fs)) (v : Value) (w : World) : (Instr.typeAssert (.iface t v) xt t true).run P w = .ok (.tuple #[v, .bool true]) w := by
  simp [Instr.typeAssert, run_underlying hu, Result.andThen]
theorem ta_nil {t xt : TypeId} {fs : Array Field} {z : Value} (hu : P.underlying t = some (.struct fs)) (hz : (P.info? t).map (·.zero) = some (some z)) (w : World) : (Instr.typeAssert .nilIface xt t true).run P w = .ok (.tuple #[z, .bool false]) w := by
  cases hi : P.info? t with
  | none => simp [hi] at hz
  | some i =>
    simp [hi] at hz
    simp [Instr.typeAssert, run_underlying hu, Result.andThen, zeroValue, typeInfo, hi, hz]
end
section
variable {P : Program} {c : Code} {K : Act → World → Prop} {Q : Exit → Act → World → Prop} {w : World} {k : Nat} {N : FN} {env : Env}
theorem From_minmax {m : Bool} {a : Act} {d : Option Nat} {ty : Nat} {g : Option (Nat × Bool)} {ts : Array TypeId} {x y : Operand} (hk : coreAt c k = some (d, .call { callee := .builtin (if m then .max else .min), args := #[x, y], argTypes := ts }, ty, g)) (hF : Fr a N env) (hg : guardE c g env = some true) (hd : okd d N = true)
    {kd : IntKind} {i j : Int} (hx : ev env x = some (.int kd i)) (hy : ev env y = some (.int kd j)) (z : Int) (hz : z = if m then max i j else min i j) (h : ∀ a, Fr a N (putE env d (.int kd z)) → From P c K Q (k + 1) a w) : From P c K Q k a w := by
  cases m
  · refine From_min hk hF hg hd rfl hx hy z ?_ (fun a _ hF => h a hF)
    rw [hz]
    simp only [Bool.false_eq_true, if_false]
    split <;> omega
  · refine From_max hk hF hg hd rfl hx hy z ?_ (fun a _ hF => h a hF)
    rw [hz]
    simp only [if_true]
    split <;> omega
theorem zmx (d : Option Nat) (x y : Operand) (ts : Array TypeId) (ty : Nat) (kd : IntKind) (i j : Int) (h : ∀ a, Fr a N (putE env d (.int kd (max i j))) → From P c K Q (k + 1) a w) (hk : coreAt c k = some (d, .call { callee := .builtin .max, args := #[x, y], argTypes := ts }, ty, none) := by kernel_rfl)
    (hd : okd d N = true := by kernel_rfl) (hx : ev env x = some (.int kd i) := by kernel_rfl) (hy : ev env y = some (.int kd j) := by kernel_rfl) : ∀ a, Fr a N env → From P c K Q k a w := fun _ hF => From_minmax (m := true) hk hF rfl hd hx hy _ rfl h
theorem zmn (d : Option Nat) (x y : Operand) (ts : Array TypeId) (ty : Nat) (kd : IntKind) (i j : Int) (h : ∀ a, Fr a N (putE env d (.int kd (min i j))) → From P c K Q (k + 1) a w) (hk : coreAt c k = some (d, .call { callee := .builtin .min, args := #[x, y], argTypes := ts }, ty, none) := by kernel_rfl)
    (hd : okd d N = true := by kernel_rfl) (hx : ev env x = some (.int kd i) := by kernel_rfl) (hy : ev env y = some (.int kd j) := by kernel_rfl) : ∀ a, Fr a N env → From P c K Q k a w := fun _ hF => From_minmax (m := false) hk hF rfl hd hx hy _ rfl h
end
theorem RO.nil_ {S : Nat → Prop} {w : World} : RO S w (.rd none []) := ⟨fun j v h => by simp at h, fun g hg => absurd rfl hg.1⟩
end Go.Mor
namespace Go.Mor
open Go.RowKit
theorem RO.all {S : Nat → Prop} {w : World} {l : List Res} (h : ∀ r, r ∈ l → RO S w r) : RO S w (.all l) :=
  ⟨fun r hr => (h r hr).1, fun g ⟨r, hr, hg⟩ => (h r hr).2 g hg⟩
theorem Mem.drop2 {S : Nat → Prop} {w0 w : World} {r r' : Res} {L : List Res} (h : Mem S w0 w (r :: r' :: L)) : Mem S w0 w L :=
  ⟨h.os, h.tape, h.output, h.size, h.kept, fun s hs => h.own s (List.mem_cons_of_mem _ (List.mem_cons_of_mem _ hs)), h.apart.tail.tail⟩
def RC.ro0 (C : RC) : Res := .all (
  .rds C.fA 5 (zeroFn :: C.E.fns.map RFn.cells) :: .rd C.sA (.slice none 0 0 :: C.E.fns.map (fun f => .slice f.qA f.srcs.length f.qc)) :: .map C.mB (inK .string (vK C.E.names)) ::
  .rd (some C.oP) (opsV C.r) :: .rd C.iA (u8s C.E.inp) :: (C.E.fns.map (fun f => Res.fn f.A f.blks) ++ (C.E.fns.map (fun f => Res.rd f.qA (srcV f)) ++ C.E.fns.flatMap (fun f => f.srcs.map (fun q => Res.rd q.1 (ints q.2.2))))))
theorem RC.ro_of {C : RC} {S : Nat → Prop} {w : World} (h0 : RO S w C.ro0) (hd : RO S w (.map C.dB (inK .string (vK C.E.data)))) : RO S w C.ro := by
  refine RO.all fun r hr => ?_
  simp only [List.mem_cons] at hr
  rcases hr with rfl | rfl | rfl | rfl | hr
  · exact h0.sub (List.mem_cons_self ..)
  · exact h0.sub (List.mem_cons_of_mem _ (List.mem_cons_self ..))
  · exact h0.sub (List.mem_cons_of_mem _ (List.mem_cons_of_mem _ (List.mem_cons_self ..)))
  · exact hd
  · exact h0.sub (List.mem_cons_of_mem _ (List.mem_cons_of_mem _ (List.mem_cons_of_mem _ (by simpa using hr))))
theorem RO.mB0 {C : RC} {S : Nat → Prop} {w : World} (h0 : RO S w C.ro0) : RO S w (.map C.mB (inK .string (vK C.E.names))) :=
  h0.sub (List.mem_cons_of_mem _ (List.mem_cons_of_mem _ (List.mem_cons_self ..)))
def lyM (E : Env0) (cs : List FDat) : List Int := if nextTo cs cs.length ≤ E.memN then layTo E.names (dataTo cs cs.length) cs E.memN cs.length else List.replicate E.memN 0
def outS : Got Unit → Int × Int × PSt
  | .ok _ s => (1, 0, s)
  | .stop k c s => (k, c, s)
def runS (E : Env0) (cs : List FDat) (begin : List ByteArray) : Got Unit :=
  if nextTo cs cs.length ≤ E.memN then playS E (E.fuel.toNat + 1) begin (lyS (layTo E.names E.data cs E.memN cs.length) (nextTo cs cs.length)) else .stop 3 0 (lyS (List.replicate E.memN 0) (nextTo cs cs.length))
theorem play_at {E : Env0} {g : Nat} {l : List ByteArray} {j : Nat} {b : ByteArray} {s : PSt} (h : l[j]? = some b) : playS E g (l.drop j) s = match lkp E.names b with
    | none => .stop 5 0 s
    | some n => (callS E g n [] s).bind fun _ s => playS E g (l.drop (j + 1)) s := by
  have : l.drop j = b :: l.drop (j + 1) := by
    obtain ⟨hlt, he⟩ := List.getElem?_eq_some_iff.1 h
    rw [List.drop_eq_getElem_cons hlt, he]
  rw [this]
  rfl
theorem play_end {E : Env0} {g : Nat} {l : List ByteArray} {j : Nat} {s : PSt} (h : l.length ≤ j) : playS E g (l.drop j) s = .ok () s := by
  rw [List.drop_eq_nil_of_le h]
  rfl
theorem run_yes {E : Env0} {cs : List FDat} {l : List ByteArray} (hd : E.data = dataTo cs cs.length) (h : nextTo cs cs.length ≤ E.memN) : runS E cs l = playS E (E.fuel.toNat + 1) l (lyS (lyM E cs) (nextTo cs cs.length)) := by
  unfold runS lyM
  rw [if_pos h, if_pos h, hd]
theorem run_no {E : Env0} {cs : List FDat} {l : List ByteArray} (h : ¬ nextTo cs cs.length ≤ E.memN) : runS E cs l = .stop 3 0 (lyS (lyM E cs) (nextTo cs cs.length)) := by
  unfold runS lyM
  rw [if_neg h, if_neg h]
theorem outS_bind {α : Type} {g : Got α} {f : α → PSt → Got Unit} {k c : Int} {s : PSt} (h : g = .stop k c s) : outS (g.bind f) = (k, c, s) := by rw [h]; rfl
theorem outS_next {α : Type} {g : Got α} {f : α → PSt → Got Unit} {x : α} {s : PSt} (h : g = .ok x s) : outS (g.bind f) = outS (f x s) := by rw [h]; rfl
theorem lyM_good {C : RC} {cs : List FDat} (hC : C.WF) (hf : nextTo cs cs.length ≤ C.E.memN) : RGood C (lyS (lyM C.E cs) (nextTo cs cs.length)) where
  mem := by show (lyM C.E cs).length = _; unfold lyM; rw [if_pos hf]; exact layTo_len _ (Nat.le_refl _) hf
  n1 := by have : 1 ≤ nextTo cs cs.length := nextTo_pos; show (1 : Int) ≤ (nextTo cs cs.length : Int); omega
  n2 := by show (nextTo cs cs.length : Int) ≤ C.E.memN; omega
  pos := Nat.zero_le _
  out := Nat.zero_le _
  s1 := Int.le_refl _
  s2 := hC.fuel.1
  o1 := Int.le_refl _
  o2 := by show (0 : Int) ≤ 1200; omega
end Go.Mor
namespace Go.Mor
open Go.RowKit
section
variable {α β : Type} {F : Int}
end
section
variable {E : Env0} {m : Int} {call call' : Int → List Int → PSt → Got Int}
end
end Go.Mor
namespace Go.Mor
open Go.RowKit
def RFn.can (f : RFn) : RFn := { f with qA := none, qc := 0, srcs := f.srcs.map (fun q => (none, 0, q.2.2)) }
def canF (x : FFn) : RFn := ⟨x.nm, x.wk, x.pa, x.va, x.A, x.c, x.blks, none, 0, (allL (bsOf x.blks)).map (fun l => (none, 0, l))⟩
def mkF (x : FFn) (A : Option Addr) (c : Nat) (rows : List RowV) : RFn := ⟨x.nm, x.wk, x.pa, x.va, x.A, x.c, x.blks, A, c, (rows.zip (allL (bsOf x.blks))).map (fun p => (p.1.A, p.1.c, p.2))⟩
theorem zip_snd {α β : Type} : ∀ {l : List α} {m : List β}, l.length = m.length → (l.zip m).map (·.2) = m
  | [], [], _ => rfl
  | a :: l, b :: m, h => by simp [zip_snd (l := l) (m := m) (by simpa using h)]
theorem mkF_can {x : FFn} {A : Option Addr} {c : Nat} {rows : List RowV} (h : FamOf (Value.int .i64) rows (allL (bsOf x.blks))) : (mkF x A c rows).can = canF x := by
  unfold RFn.can mkF canF
  simp only [List.map_map, RFn.mk.injEq, true_and]
  have e := zip_snd (l := rows) (m := allL (bsOf x.blks)) h.len
  rw [show ((fun q : Option Addr × Nat × List Int => ((none : Option Addr), 0, q.2.2)) ∘ fun p : RowV × List Int => (p.1.A, p.1.c, p.2)) = (fun l => ((none : Option Addr), 0, l)) ∘ (·.2) from rfl, ← List.map_map, e]
theorem mkF_len {x : FFn} {A : Option Addr} {c : Nat} {rows : List RowV} (h : FamOf (Value.int .i64) rows (allL (bsOf x.blks))) : (mkF x A c rows).srcs.length = (bsOf x.blks).length := by
  have := h.len
  rw [allL_len] at this
  simp [mkF, allL_len, this]
theorem can_src (f : RFn) (k : Nat) : f.can.src k = f.src k := by
  unfold RFn.src RFn.can
  simp only [List.getD_eq_getElem?_getD, List.getElem?_map]
  cases f.srcs[k]? <;> rfl
section
variable {E : Env0} {call : Int → List Int → PSt → Got Int}
def Env0.can (E : Env0) : Env0 := { E with fns := E.fns.map RFn.can }
theorem insts_can : ∀ (is : List FIns) (v : List Int) (s : PSt), instsS E.can call is v s = instsS E call is v s
  | [], _, _ => rfl
  | i :: r, v, s => by
    show ((stepS E s).bind fun _ s => (instS E call i (valsOf v i.args) s).bind fun u s => instsS E.can call r (if 0 ≤ i.dst ∧ makesQ i.op then v.set i.dst.toNat u else v) s) = ((stepS E s).bind fun _ s => (instS E call i (valsOf v i.args) s).bind fun u s => instsS E call r (if 0 ≤ i.dst ∧ makesQ i.op then v.set i.dst.toNat u else v) s)
    congr 1
    funext _ s
    congr 1
    funext u s
    exact insts_can r _ s
theorem block_can (f : RFn) (k from_ : Int) (v : List Int) (s : PSt) : blockS E.can call f.can k from_ v s = blockS E call f k from_ v s := by
  unfold blockS
  rw [show f.can.blks = f.blks from rfl]
  cases f.blks[k.toNat]? with
  | none => rfl
  | some x =>
    show (instsS E.can call x.insts (phisS x.phis (indexN (f.can.src k.toNat) from_) v) s).bind _ = (instsS E call x.insts (phisS x.phis (indexN (f.src k.toNat) from_) v) s).bind _
    rw [insts_can, can_src]
    rfl
theorem enter_can {b b' : RFn → Int → Int → List Int → PSt → Got Int} (h : ∀ f k fr v s, b' f.can k fr v s = b f k fr v s) (n : Int) (l : List Int) (s : PSt) : enterS E.can b' n l s = enterS E b n l s := by
  have hlen : E.can.fns.length = E.fns.length := by show (E.fns.map RFn.can).length = _; simp
  by_cases hr : n < 1 ∨ n ≥ (E.fns.length : Int) + 1
  · rw [enter_rng hr, enter_rng (by rw [hlen]; exact hr)]
  obtain ⟨f, hf⟩ := get_of (l := E.fns) (i := (n - 1).toNat) (by omega)
  have hf' : E.can.fns[(n - 1).toNat]? = some f.can := by show (E.fns.map RFn.can)[(n - 1).toNat]? = _; rw [List.getElem?_map, hf]; rfl
  rw [enter_at hr hf, enter_at (by rw [hlen]; exact hr) hf', h]
  rfl
theorem body_can : ∀ (g : Nat) (f : RFn) (k fr : Int) (v : List Int) (s : PSt), bodyS E.can g f.can k fr v s = bodyS E g f k fr v s
  | 0, _, _, _, _, _ => rfl
  | g + 1, f, k, fr, v, s => by
    have hc : callS E.can g = callS E g := by
      funext n l s
      exact enter_can (body_can g) n l s
    rw [body_at, body_at, hc, block_can]
    congr 1
    funext r s
    rw [body_can g]
theorem call_can (g : Nat) (n : Int) (l : List Int) (s : PSt) : callS E.can g n l s = callS E g n l s := enter_can (body_can g) n l s
theorem play_can (g : Nat) : ∀ (l : List ByteArray) (s : PSt), playS E.can g l s = playS E g l s
  | [], _ => rfl
  | b :: r, s => by
    show (match lkp E.names b with | none => Got.stop 5 0 s | some n => (callS E.can g n [] s).bind fun _ s => playS E.can g r s) = (match lkp E.names b with | none => .stop 5 0 s | some n => (callS E g n [] s).bind fun _ s => playS E g r s)
    cases lkp E.names b with
    | none => rfl
    | some n =>
      show (callS E.can g n [] s).bind _ = (callS E g n [] s).bind _
      rw [call_can]
      congr 1
      funext _ s
      exact play_can g r s
theorem run_can (cs : List FDat) (l : List ByteArray) : runS E.can cs l = runS E cs l := by
  unfold runS
  rw [play_can]
  rfl
end
def namesTo (cs : List FFn) (j : Nat) : List (ByteArray × Int) := (cs.take j).zipIdx.map (fun p => (p.1.nm, ((p.2 + 1 : Nat) : Int)))
section
variable {cs : List FFn} {j : Nat} {f : FFn}
theorem namesTo_zero : namesTo cs 0 = [] := by simp [namesTo]
theorem namesTo_succ (h : cs[j]? = some f) : namesTo cs (j + 1) = namesTo cs j ++ [(f.nm, ((j + 1 : Nat) : Int))] := by
  unfold namesTo
  rw [zipIdx_take h, List.map_append]
  rfl
theorem namesTo_keys : ∀ (j : Nat), j ≤ cs.length → (namesTo cs j).map (·.1) = (cs.take j).map (·.nm)
  | 0, _ => by simp [namesTo_zero]
  | j + 1, hj => by
    obtain ⟨d, hd⟩ := get_of (l := cs) (i := j) (by omega)
    rw [namesTo_succ hd, List.map_append, namesTo_keys j (by omega), List.take_add_one, hd]
    simp
theorem namesTo_new (hn : (cs.map (·.nm)).Nodup) (h : cs[j]? = some f) : f.nm ∉ (namesTo cs j).map (·.1) := by
  have hj := (List.getElem?_eq_some_iff.1 h).1
  rw [namesTo_keys j (by omega)]
  intro hm
  have e : cs.map (·.nm) = (cs.take j).map (·.nm) ++ (cs.drop j).map (·.nm) := by rw [← List.map_append, List.take_append_drop]
  rw [e, List.nodup_append] at hn
  refine hn.2.2 f.nm hm f.nm ?_ rfl
  rw [List.mem_map]
  exact ⟨f, by
    have : (cs.drop j)[0]? = some f := by rw [List.getElem?_drop]; simpa using h
    exact List.mem_of_getElem? this, rfl⟩
theorem namesTo_up (hn : (cs.map (·.nm)).Nodup) (h : cs[j]? = some f) : upk (vK (namesTo cs j)) f.nm (.int .i64 ((j + 1 : Nat) : Int)) = vK (namesTo cs (j + 1)) := by
  rw [upk_new _ (by
    have := namesTo_new hn h
    simpa [vK, List.map_map, Function.comp_def] using this), namesTo_succ h]
  simp [vK]
end
def envOf (fs : List FFn) (ds : List FDat) (mem : Int) (inp : List Int) (fuel : Int) : Env0 :=
  ⟨(chosenF fs).map canF, namesTo (chosenF fs) (chosenF fs).length, dataTo (chosenD ds) (chosenD ds).length, inp, mem.toNat, min (max fuel 0) 4194304⟩
def badQ (fs : List FFn) (mem : Int) (inp : List Int) (j : Nat) : Prop := (mem < 1 ∨ mem > 262144 ∨ (inp.length : Int) > 4096) ∨ ∃ i f, i < j ∧ fs[i]? = some f ∧ validN f.nm f.pa f.va f.blks ≠ 0
noncomputable instance (fs : List FFn) (mem : Int) (inp : List Int) (j : Nat) : Decidable (badQ fs mem inp j) := Classical.propDecidable _
theorem bad_step {fs : List FFn} {mem : Int} {inp : List Int} {j : Nat} {f : FFn} {B B2 : Bool} (h : B = true ↔ badQ fs mem inp j) (hf : fs[j]? = some f) (h2 : B2 = true ↔ (B = true ∨ ¬ validN f.nm f.pa f.va f.blks = 0)) : B2 = true ↔ badQ fs mem inp (j + 1) := by
  rw [h2, h]
  constructor
  · rintro ((h1 | ⟨i, g, hi, hg, hv⟩) | h1)
    · exact .inl h1
    · exact .inr ⟨i, g, by omega, hg, hv⟩
    · exact .inr ⟨j, f, by omega, hf, h1⟩
  · rintro (h1 | ⟨i, g, hi, hg, hv⟩)
    · exact .inl (.inl h1)
    · by_cases e : i = j
      · subst e
        rw [hf] at hg
        injection hg with hg
        subst hg
        exact .inr hv
      · exact .inl (.inr ⟨i, g, by omega, hg, hv⟩)
theorem bad_keep {fs : List FFn} {mem : Int} {inp : List Int} {j : Nat} (h : true = true ↔ badQ fs mem inp j) : true = true ↔ badQ fs mem inp (j + 1) :=
  ⟨fun _ => (h.1 rfl).imp id (fun ⟨i, g, hi, hg⟩ => ⟨i, g, by omega, hg⟩), fun _ => rfl⟩
theorem bad_new {fs : List FFn} {mem : Int} {inp : List Int} {j : Nat} {f : FFn} (h : false = true ↔ badQ fs mem inp j) (hf : fs[j]? = some f) : (validN f.nm f.pa f.va f.blks != 0) = true ↔ badQ fs mem inp (j + 1) :=
  bad_step (B := false) h hf (by simp)
theorem bad_start {fs : List FFn} {mem : Int} {inp : List Int} {B : Bool} (h : B = true ↔ (mem < 1 ∨ mem > 262144 ∨ (inp.length : Int) > 4096)) : B = true ↔ badQ fs mem inp 0 := by
  rw [h]
  exact ⟨.inl, fun h => h.elim id (fun ⟨i, _, hi, _⟩ => absurd hi (Nat.not_lt_zero _))⟩
abbrev Out := Int × Int × List Int × Int
def outOf (g : Got Unit) : Out := ((outS g).1, (outS g).2.1, (outS g).2.2.out, (outS g).2.2.steps)
noncomputable def runO (fs : List FFn) (ds : List FDat) (bg : List ByteArray) (mem : Int) (inp : List Int) (fuel : Int) : Out :=
  if badQ fs mem inp fs.length then (5, 0, [], 0) else outOf (runS (envOf fs ds mem inp fuel) (chosenD ds) bg)
def InX (X : List Res) (f : RFn) : Prop := ∃ x A c rows, f = mkF x A c rows ∧ FamOf (Value.int .i64) rows (allL (bsOf x.blks)) ∧ Res.fam 3 rows ∈ X ∧ Res.row 44 1 A (bsOf x.blks).length c (slv rows) ∈ X
theorem InX.mono {X Y : List Res} {f : RFn} (h : InX X f) : InX (X ++ Y) f := by
  obtain ⟨x, A, c, rows, h1, h2, h3, h4⟩ := h
  exact ⟨x, A, c, rows, h1, h2, List.mem_append_left _ h3, List.mem_append_left _ h4⟩
theorem ro0_of {C : RC} {S : Nat → Prop} {w : World} (h1 : RO S w (.rds C.fA 5 (zeroFn :: C.E.fns.map RFn.cells))) (h2 : RO S w (.rd C.sA (.slice none 0 0 :: C.E.fns.map (fun f => .slice f.qA f.srcs.length f.qc)))) (h3 : RO S w (.map C.mB (inK .string (vK C.E.names))))
    (h4 : RO S w (.rd (some C.oP) (opsV C.r))) (h5 : RO S w (.rd C.iA (u8s C.E.inp))) (h6 : ∀ f, f ∈ C.E.fns → RO S w (Res.fn f.A f.blks)) (h7 : ∀ f, f ∈ C.E.fns → RO S w (.rd f.qA (srcV f))) (h8 : ∀ f, f ∈ C.E.fns → ∀ q, q ∈ f.srcs → RO S w (.rd q.1 (ints q.2.2))) : RO S w C.ro0 := by
  refine RO.all fun r hr => ?_
  simp only [List.mem_cons, List.mem_append, List.mem_map, List.mem_flatMap] at hr
  rcases hr with rfl | rfl | rfl | rfl | rfl | ⟨f, hf, rfl⟩ | ⟨f, hf, rfl⟩ | ⟨f, hf, q, hq, rfl⟩
  · exact h1
  · exact h2
  · exact h3
  · exact h4
  · exact h5
  · exact h6 f hf
  · exact h7 f hf
  · exact h8 f hf q hq
theorem RO.mono {S : Nat → Prop} {w : World} {r r' : Res} (h : RO S w r) (hh : r.holds w → r'.holds w) (hf : ∀ g, r'.fp g → r.fp g) : RO S w r' := ⟨hh h.1, fun g hg => h.2 g (hf g hg)⟩
theorem RO.pk_sub {S : Nat → Prop} {w : World} {X : List Res} {r : Res} (h : RO S w (.pk X)) (hr : r ∈ X) : RO S w r := ⟨h.1.1 r hr, fun g hg => h.2 g ⟨r, hr, hg⟩⟩
theorem inX_src {S : Nat → Prop} {w : World} {X : List Res} {f : RFn} (h : RO S w (.pk X)) (hf : InX X f) : RO S w (.rd f.qA (srcV f)) := by
  obtain ⟨x, A, c, rows, rfl, h2, h3, h4⟩ := hf
  have h5 := RO.row_rd (h.pk_sub h4)
  have e : srcV (mkF x A c rows) = slv rows := by
    unfold srcV mkF slv
    rw [List.map_map]
    apply List.ext_getElem?
    intro i
    rw [List.getElem?_map, List.getElem?_map]
    by_cases hi : i < rows.length
    · obtain ⟨l, hl⟩ := get_of (l := allL (bsOf x.blks)) (i := i) (by rw [← h2.len]; exact hi)
      obtain ⟨A', c', hr⟩ := h2.get hl
      have hz : (rows.zip (allL (bsOf x.blks)))[i]? = some (⟨A', l.length, c', l.map (Value.int .i64)⟩, l) := by
        rw [List.getElem?_zip_eq_some]
        exact ⟨hr, hl⟩
      rw [hz, hr]
      rfl
    · rw [List.getElem?_eq_none (by simp; omega), List.getElem?_eq_none (by omega)]
      rfl
  rw [e]
  exact h5
theorem inX_each {S : Nat → Prop} {w : World} {X : List Res} {f : RFn} (h : RO S w (.pk X)) (hf : InX X f) : ∀ q, q ∈ f.srcs → RO S w (.rd q.1 (ints q.2.2)) := by
  obtain ⟨x, A, c, rows, rfl, h2, h3, h4⟩ := hf
  intro q hq
  unfold mkF at hq
  obtain ⟨p, hp, rfl⟩ := List.mem_map.1 hq
  obtain ⟨i, hi⟩ := List.mem_iff_getElem?.1 hp
  rw [List.getElem?_zip_eq_some] at hi
  obtain ⟨A', c', hr⟩ := h2.get hi.2
  rw [hi.1] at hr
  have hr' : p.1 = ⟨A', p.2.length, c', p.2.map (Value.int .i64)⟩ := Option.some.inj hr
  have h5 := h.pk_sub h3
  have hm := List.mem_of_getElem? hi.1
  have h6 : RO S w (p.1.res 3) := ⟨h5.1.1 p.1 hm, fun g hg => h5.2 g ⟨p.1, hm, hg⟩⟩
  have h7 := RO.row_rd (show RO S w (.row 3 1 p.1.A p.1.n p.1.c p.1.xs) from h6)
  rw [hr'] at h7 ⊢
  exact h7
def optC : Option RFn → List Value
  | none => zeroFn
  | some f => f.cells
theorem fns_rds {w : World} {e n c : Nat} {A : Option Addr} {qs : List RFn} (h : (Res.row e 5 A n c (zeroFn ++ qs.flatMap RFn.cells)).holds w) : (Res.rds A 5 (zeroFn :: qs.map RFn.cells)).holds w := by
  have h1 := rows_rds (f := optC) (size := 5) (l := none :: qs.map some) (e := e) (n := n) (c := c) (A := A) (w := w) (fun x => by cases x <;> rfl) (by decide) (by
    rw [show (none :: qs.map some).flatMap optC = zeroFn ++ qs.flatMap RFn.cells by
      rw [List.flatMap_cons, List.flatMap_map]; rfl]
    exact h)
  rw [List.map_cons, List.map_map] at h1
  exact h1
theorem wf_can {f : RFn} {x : FFn} (h : f.can = canF x) (hok : FOk x.blks) (hn : x.blks.length ≤ 1000) (hv : validN x.nm x.pa x.va x.blks = 0) : f.WF := by
  have e : ∀ k, f.src k = (canF x).src k := fun k => by rw [← can_src f, h]
  have hb : f.blks = x.blks := congrArg RFn.blks h
  have h1 : f.nm = x.nm := congrArg RFn.nm h
  have h2 : f.pa = x.pa := congrArg RFn.pa h
  have h3 : f.va = x.va := congrArg RFn.va h
  have h4 : f.srcs.length = x.blks.length := by
    have := congrArg (fun g : RFn => g.srcs.length) h
    simp only [RFn.can, canF, List.length_map, allL_len, bsOf_len] at this
    exact this
  refine wf_of (by rw [hb]; exact hok) (by rw [hb]; exact hn) (by rw [h1, h2, h3, hb]; exact hv) ⟨by rw [h4, hb], fun k hk => ?_⟩
  rw [hb] at hk ⊢
  rw [e]
  unfold RFn.src canF
  simp only [List.getD_eq_getElem?_getD, List.getElem?_map]
  rw [allL_get (by rw [bsOf_len]; exact hk)]
  rfl
theorem can_mem {qs : List RFn} {cs : List FFn} (h : qs.map RFn.can = cs.map canF) {f : RFn} (hf : f ∈ qs) : ∃ x, x ∈ cs ∧ f.can = canF x := by
  have this : f.can ∈ qs.map RFn.can := List.mem_map.2 ⟨f, hf, rfl⟩
  rw [h] at this
  obtain ⟨x, hx, he⟩ := List.mem_map.1 this
  exact ⟨x, hx, he.symm⟩
abbrev mkC (qs : List RFn) (names data : List (ByteArray × Int)) (inp : List Int) (mem fuel : Int) (r : Nat) (rA : Option Addr) (rc : Nat) (sA : Option Addr) (sc mB dB mG : Nat) (iA : Option Addr) (ic : Nat) (oP : Addr) : RC :=
  ⟨⟨qs, names, data, inp, mem.toNat, min (max fuel 0) 4194304⟩, r, rA, rc, sA, sc, mB, dB, mG, iA, ic, oP⟩
theorem Mem.pk2 {S : Nat → Prop} {w0 w : World} {X l L : List Res} (h : Mem S w0 w (.pk X :: (l ++ L))) : Mem S w0 w (.pk (X ++ l) :: L) := by
  have h1 := h.unpack
  rw [← List.append_assoc] at h1
  exact h1.pack
theorem Mem.pk0 {S : Nat → Prop} {w0 w : World} {L : List Res} (h : Mem S w0 w L) : Mem S w0 w (.pk [] :: L) := Mem.pack (l := []) h
def fnCells (qs : List RFn) : List Value := zeroFn ++ qs.flatMap RFn.cells
def srcCells (qs : List RFn) : List Value := .slice none 0 0 :: qs.map (fun f => .slice f.qA f.srcs.length f.qc)
theorem fns_snoc {qs : List RFn} {x : FFn} {A : Option Addr} {c : Nat} {rows : List RowV} : fnCells qs ++ [.string x.nm, .bool x.wk, .int .i64 x.pa, .int .i64 x.va, .slice x.A (bsOf x.blks).length x.c] = fnCells (qs ++ [mkF x A c rows]) := by
  simp [fnCells, List.flatMap_append, RFn.cells, mkF]
theorem srcs_snoc {qs : List RFn} {x : FFn} {A : Option Addr} {c : Nat} {rows : List RowV} (h : FamOf (Value.int .i64) rows (allL (bsOf x.blks))) : srcCells qs ++ [.slice A (bsOf x.blks).length c] = srcCells (qs ++ [mkF x A c rows]) := by
  unfold srcCells
  rw [List.map_append, List.map_cons, List.map_nil, mkF_len h]
  rfl
theorem qs_snoc {qs : List RFn} {cs : List FFn} {j : Nat} {x : FFn} {A : Option Addr} {c : Nat} {rows : List RowV} (h : qs.map RFn.can = (cs.take j).map canF) (hx : cs[j]? = some x) (hf : FamOf (Value.int .i64) rows (allL (bsOf x.blks))) : (qs ++ [mkF x A c rows]).map RFn.can = (cs.take (j + 1)).map canF := by
  rw [List.map_append, h, List.take_add_one, hx, List.map_append]
  simp [mkF_can hf]
theorem inX_snoc {qs : List RFn} {X : List Res} {x : FFn} {A : Option Addr} {c : Nat} {rows : List RowV} (h : ∀ f, f ∈ qs → InX X f) (hf : FamOf (Value.int .i64) rows (allL (bsOf x.blks))) :
    ∀ f, f ∈ qs ++ [mkF x A c rows] → InX (X ++ [Res.fam 3 rows, Res.row 44 1 A (bsOf x.blks).length c (slv rows)]) f := by
  intro f hm
  rcases List.mem_append.1 hm with hm | hm
  · exact (h f hm).mono
  · rw [List.mem_singleton] at hm
    subst hm
    exact ⟨x, A, c, rows, rfl, hf, by simp, by simp⟩
theorem mem_ints (n : Nat) : List.replicate n (Value.int .i64 0) = ints (List.replicate n 0) := by simp [ints]
theorem dats_nil {S : Nat → Prop} {w : World} : RO S w (.dats none []) := RO.all (fun r hr => by
  simp only [List.flatMap_nil, List.map_nil, List.mem_cons, List.not_mem_nil, or_false] at hr
  subst hr
  exact ⟨fun i cs hi => by simp at hi, fun g hg => by
    obtain ⟨⟨i, cs, hi, _⟩, _⟩ := hg
    simp at hi⟩)
abbrev outV (o : Out) (oA : Option Addr) (oc : Nat) : Value := .agg #[.int .i64 o.1, .int .i64 o.2.1, .slice oA o.2.2.1.length oc, .int .i64 o.2.2.2]
structure RunIn (w : World) (fs : List FFn) (fA : Option Addr) (bg : List ByteArray) (gA : Option Addr) (inp : List Int) (iA : Option Addr) (ic : Nat) : Prop where
  len : fs.length ≤ 1000
  cells : RO noS w (.rds fA 5 (fs.map FFn.cells))
  ok : ∀ x, x ∈ fs → FOk x.blks ∧ x.blks.length ≤ 1000
  fn : ∀ x, x ∈ fs → RO noS w (.fn x.A x.blks)
  glen : bg.length ≤ 1000000
  bg : RO noS w (.rd gA (bg.map Value.string))
  ilen : inp.length ≤ ic
  inr : RO noS w (.rd iA (u8s inp))
  bytes : ∀ b, b ∈ inp → 0 ≤ b ∧ b ≤ 255
theorem run_wf {qs : List RFn} {fs cs : List FFn} {names data : List (ByteArray × Int)} {inp : List Int} {mem fuel : Int} {r : Nat} {rA : Option Addr} {rc : Nat} {sA : Option Addr} {sc mB dB mG : Nat} {iA fA gA : Option Addr} {ic : Nat} {oP : Addr} {bg : List ByteArray} {w : World}
    (hI : RunIn w fs fA bg gA inp iA ic) (hcs : cs = chosenF fs) (hq : qs.map RFn.can = cs.map canF) (hb : ¬ badQ fs mem inp fs.length) : (mkC qs names data inp mem fuel r rA rc sA sc mB dB mG iA ic oP).WF where
  fns f hf := by
    obtain ⟨x, hx, he⟩ := can_mem hq hf
    have hxf : x ∈ fs := chosenTo_mem (hcs ▸ hx)
    refine wf_can he (hI.ok x hxf).1 (hI.ok x hxf).2 (Classical.byContradiction fun hv => hb (.inr ?_))
    obtain ⟨i, hi⟩ := List.mem_iff_getElem?.1 hxf
    exact ⟨i, x, (List.getElem?_eq_some_iff.1 hi).1, hi, hv⟩
  nfns := by
    have h1 := congrArg List.length hq
    simp only [List.length_map] at h1
    have h2 : cs.length ≤ fs.length := hcs ▸ chosenTo_len
    have h3 := hI.len
    show qs.length ≤ 1000
    omega
  mem := by
    show mem.toNat ≤ 262144
    unfold badQ at hb
    omega
  fuel := ⟨by show 0 ≤ min (max fuel 0) 4194304; omega, by show min (max fuel 0) 4194304 ≤ 4194304; omega⟩
  inp := by
    show inp.length ≤ 4096
    unfold badQ at hb
    omega
  ic := hI.ilen
  bytes := hI.bytes
theorem run_out {qs : List RFn} {fs cs : List FFn} {ds : List FDat} {inp : List Int} {mem fuel : Int} {r : Nat} {rA : Option Addr} {rc : Nat} {sA : Option Addr} {sc mB dB mG : Nat} {iA : Option Addr} {ic : Nat} {oP : Addr} {bg : List ByteArray} {k c : Int} {s : PSt}
    (hcs : cs = chosenF fs) (hq : qs.map RFn.can = cs.map canF) (hb : ¬ badQ fs mem inp fs.length) (h : outS (runS (mkC qs (namesTo cs cs.length) (dataTo (chosenD ds) (chosenD ds).length) inp mem fuel r rA rc sA sc mB dB mG iA ic oP).E (chosenD ds) bg) = (k, c, s)) :
    runO fs ds bg mem inp fuel = (k, c, s.out, s.steps) := by
  have e : runS (envOf fs ds mem inp fuel) (chosenD ds) bg = runS (mkC qs (namesTo cs cs.length) (dataTo (chosenD ds) (chosenD ds).length) inp mem fuel r rA rc sA sc mB dB mG iA ic oP).E (chosenD ds) bg := by
    rw [← run_can (E := (mkC qs (namesTo cs cs.length) (dataTo (chosenD ds) (chosenD ds).length) inp mem fuel r rA rc sA sc mB dB mG iA ic oP).E)]
    unfold envOf Env0.can
    rw [hq, hcs]
  unfold runO
  rw [if_neg hb]
  unfold outOf
  rw [e, h]
theorem run_bad {fs : List FFn} {ds : List FDat} {bg : List ByteArray} {mem : Int} {inp : List Int} {fuel : Int} (hb : badQ fs mem inp fs.length) : runO fs ds bg mem inp fuel = (5, 0, [], 0) := by
  unfold runO
  rw [if_pos hb]
theorem run_ro {qs : List RFn} {fs cs : List FFn} {X : List Res} {names data : List (ByteArray × Int)} {inp : List Int} {mem fuel : Int} {r : Nat} {rA : Option Addr} {rc : Nat} {sA : Option Addr} {sc mB dB mG e1 e2 e3 n1 n2 n3 c1 c2 c3 : Nat} {iA fA gA : Option Addr} {ic : Nat} {oP : Addr} {bg : List ByteArray} {w w' : World} {l L : List Res}
    (hI : RunIn w fs fA bg gA inp iA ic) (hcs : cs = chosenF fs) (hq : qs.map RFn.can = cs.map canF) (hX : ∀ f, f ∈ qs → InX X f) (hM : Mem noS w w' (l ++ (.pk X :: .map mB (inK .string (vK names)) :: .row e1 5 rA n1 c1 (fnCells qs) :: .row e2 1 sA n2 c2 (srcCells qs) :: .row e3 1 (some oP) n3 c3 (opsV r) :: L))) :
    RO (Res.pk l).fp w' (mkC qs names data inp mem fuel r rA rc sA sc mB dB mG iA ic oP).ro0 := by
  refine ro0_of ((RO.pk_own hM 2 rfl).mono fns_rds (fun g hg => hg.2)) (RO.row_rd (RO.pk_own hM 3 rfl)) (RO.pk_own hM 1 rfl) (RO.row_rd (RO.pk_own hM 4 rfl)) (hI.inr.pk_at hM) (fun f hf => ?_) (fun f hf => inX_src (RO.pk_own hM 0 rfl) (hX f hf)) (fun f hf => inX_each (RO.pk_own hM 0 rfl) (hX f hf))
  obtain ⟨x, hx, he⟩ := can_mem hq hf
  rw [show f.A = x.A from congrArg RFn.A he, show f.blks = x.blks from congrArg RFn.blks he]
  exact (hI.fn x (chosenTo_mem (hcs ▸ hx))).pk_at hM
abbrev opsL (r : Nat) : List (Int × Value) := [(1, .func (.func 35) #[pT r 0] #[]), (2, .func (.func 36) #[pT r 0] #[]), (3, .func (.func 37) #[pT r 0] #[]),
  (4, .func (.func 38) #[pT r 0] #[]), (5, .func (.func 39) #[pT r 0] #[]), (6, .func (.func 40) #[pT r 0] #[]), (7, .func (.func 41) #[pT r 0] #[]),
  (8, .func (.func 42) #[pT r 0] #[]), (9, .func (.func 43) #[pT r 0] #[]), (10, .func (.func 44) #[pT r 0] #[]), (11, .func (.func 45) #[pT r 0] #[]),
  (12, .func (.func 46) #[pT r 0] #[])]
structure OpsTo (r : Nat) (left : List (Value × Value)) (ov : List Value) : Prop where
  len : ov.length = 13
  zero : ov[0]? = some .nilFunc
  at_ : ∀ p, p ∈ opsL r → (Value.int .i64 p.1, p.2) ∈ left ∨ ov[p.1.toNat]? = some p.2
  left : ∀ q, q ∈ left → ∃ p, p ∈ opsL r ∧ q = (.int .i64 p.1, p.2)
theorem opsL_rng {r : Nat} {p : Int × Value} (h : p ∈ opsL r) : 1 ≤ p.1 ∧ p.1 ≤ 12 := by
  simp only [opsL, List.mem_cons, List.not_mem_nil, or_false] at h
  rcases h with rfl | rfl | rfl | rfl | rfl | rfl | rfl | rfl | rfl | rfl | rfl | rfl <;> simp
theorem opsL_fn {r : Nat} {p q : Int × Value} (h : p ∈ opsL r) (h2 : q ∈ opsL r) (e : p.1 = q.1) : p.2 = q.2 := by
  have hn : ((opsL r).map (·.1)).Nodup := by show ([1, 2, 3, 4, 5, 6, 7, 8, 9, 10, 11, 12] : List Int).Nodup; decide
  obtain ⟨i, hi⟩ := List.mem_iff_getElem?.1 h
  obtain ⟨j, hj⟩ := List.mem_iff_getElem?.1 h2
  have h3 : ((opsL r).map (·.1))[i]? = some p.1 := by rw [List.getElem?_map, hi]; rfl
  have h4 : ((opsL r).map (·.1))[j]? = some p.1 := by rw [List.getElem?_map, hj, e]; rfl
  have hil := (List.getElem?_eq_some_iff.1 h3).1
  have : i = j := (List.getElem?_inj hil hn).1 (h3.trans h4.symm)
  subst this
  rw [hi] at hj
  injection hj with hj
  rw [hj]
theorem opsL_func {r : Nat} {a : Int} {v : Value} (h : (a, v) ∈ opsL r) : ∃ n, v = .func (.func n) #[pT r 0] #[] := by
  simp only [opsL, List.mem_cons, List.not_mem_nil, or_false, Prod.mk.injEq] at h
  rcases h with ⟨_, rfl⟩ | ⟨_, rfl⟩ | ⟨_, rfl⟩ | ⟨_, rfl⟩ | ⟨_, rfl⟩ | ⟨_, rfl⟩ | ⟨_, rfl⟩ | ⟨_, rfl⟩ | ⟨_, rfl⟩ | ⟨_, rfl⟩ | ⟨_, rfl⟩ | ⟨_, rfl⟩ <;> exact ⟨_, rfl⟩
theorem OpsTo.start (r : Nat) : OpsTo r (inK (.int .i64) (opsL r)) (List.replicate 13 .nilFunc) where
  len := by simp
  zero := rfl
  at_ p hp := .inl (List.mem_map.2 ⟨p, hp, rfl⟩)
  left q hq := by
    obtain ⟨p, hp, rfl⟩ := List.mem_map.1 hq
    exact ⟨p, hp, rfl⟩
theorem OpsTo.next {r : Nat} {left left' : List (Value × Value)} {ov : List Value} {p : Int × Value} (h : OpsTo r left ov) (hp : p ∈ opsL r) (ha : ∀ q, q ∈ left → q = (Value.int .i64 p.1, p.2) ∨ q ∈ left') (hs : ∀ q, q ∈ left' → q ∈ left) : OpsTo r left' (ov.set p.1.toNat p.2) where
  len := by rw [List.length_set, h.len]
  zero := by
    have := (opsL_rng hp).1
    rw [List.getElem?_set_ne (by omega), h.zero]
  at_ q hq := by
    have h1 := opsL_rng hp
    have h2 := opsL_rng hq
    by_cases e : q.1 = p.1
    · right
      rw [e, List.getElem?_set_self (by rw [h.len]; omega), opsL_fn hp hq e.symm]
    · rcases h.at_ q hq with h3 | h3
      · rcases ha _ h3 with h4 | h4
        · simp only [Prod.mk.injEq, Value.int.injEq, true_and] at h4
          exact absurd h4.1 e
        · exact .inl h4
      · right
        rw [List.getElem?_set_ne (by omega), h3]
  left q hq := h.left q (hs q hq)
theorem OpsTo.done {r : Nat} {ov : List Value} (h : OpsTo r [] ov) : ov = opsV r := by
  have ha : ∀ p, p ∈ opsL r → ov[p.1.toNat]? = some p.2 := fun p hp => (h.at_ p hp).resolve_left (by simp)
  have hk : ∀ (k : Nat) (p : Int × Value), (opsL r)[k]? = some p → ov[p.1.toNat]? = some p.2 := fun k p h => ha p (List.mem_of_getElem? h)
  apply List.ext_getElem?
  intro i
  match i with
  | 0 => exact h.zero
  | 1 => exact hk 0 _ rfl
  | 2 => exact hk 1 _ rfl
  | 3 => exact hk 2 _ rfl
  | 4 => exact hk 3 _ rfl
  | 5 => exact hk 4 _ rfl
  | 6 => exact hk 5 _ rfl
  | 7 => exact hk 6 _ rfl
  | 8 => exact hk 7 _ rfl
  | 9 => exact hk 8 _ rfl
  | 10 => exact hk 9 _ rfl
  | 11 => exact hk 10 _ rfl
  | 12 => exact hk 11 _ rfl
  | i + 13 => rw [List.getElem?_eq_none (by rw [h.len]; omega), List.getElem?_eq_none (by simp [opsV])]
end Go.Mor
namespace Go.Mor
open Go.RowKit
def thereB (bs : List SB) (pa va : Int) (ds : Dfs) (v b q : Int) : Bool := decide (0 ≤ v) && decide (v < va) && (decide (v < pa) || match findD ds v with
  | some p => if p.1 = b then decide (p.2 < q) else at2 (overL bs) p.1.toNat b.toNat
  | none => false)
theorem there_of {bs : List SB} {pa va : Int} {ds : Dfs} {v b q : Int} (h : thereB bs pa va ds v b q = true) : thereQ (overD bs) pa va ds v b q := by
  unfold thereB at h
  simp only [Bool.and_eq_true, Bool.or_eq_true, decide_eq_true_eq] at h
  obtain ⟨⟨h1, h2⟩, h3⟩ := h
  refine ⟨h1, h2, h3.imp id fun h3 => ?_⟩
  split at h3
  · rename_i p hp
    refine ⟨p, hp, ?_⟩
    split at h3
    · rename_i e
      exact .inl ⟨e, by simpa using h3⟩
    · rename_i e
      exact .inr ⟨e, h3⟩
  · cases h3
def readsB (pa va : Int) (fs : List FBlk) (k : Nat) (x : FBlk) : Bool :=
  (x.phis.all fun p => p.args.length == (srcs (bsOf fs) (k : Int)).length && (p.args.zip (srcs (bsOf fs) (k : Int))).all fun u => thereB (bsOf fs) pa va (defsF fs) u.1 u.2 20000) &&
  (x.insts.zipIdx.all fun p => p.1.args.all fun a => thereB (bsOf fs) pa va (defsF fs) a (k : Int) (p.2 : Int)) &&
  ((!decide (x.e = 1 ∨ (x.e = 2 ∧ x.v ≠ -1))) || thereB (bsOf fs) pa va (defsF fs) x.v (k : Int) 20000)
theorem reads_okB {pa va : Int} {fs : List FBlk} {k : Nat} {x : FBlk} (hx : fs[k]? = some x) (h : readsB pa va fs k x = true) : readsQ (overD (bsOf fs)) (fun _ => 20000) finR pa va fs k := by
  unfold readsB at h
  simp only [Bool.and_eq_true] at h
  obtain ⟨⟨h1, h2⟩, h3⟩ := h
  refine ⟨x, hx, fun j p hp => ?_, fun j p hp i a ha => ?_, fun hf => ?_⟩
  · have := List.all_eq_true.1 h1 p (List.mem_of_getElem? hp)
    simp only [Bool.and_eq_true, beq_iff_eq] at this
    refine ⟨this.1, fun i a s ha hs => ?_⟩
    have hz : (a, s) ∈ p.args.zip (srcs (bsOf fs) (k : Int)) := by
      refine List.mem_of_getElem? (i := i) ?_
      rw [List.getElem?_zip_eq_some]
      exact ⟨ha, hs⟩
    exact there_of (List.all_eq_true.1 this.2 _ hz)
  · have := List.all_eq_true.1 h2 (p, j) (List.mem_zipIdx_iff_getElem?.2 hp)
    exact there_of (List.all_eq_true.1 this a (List.mem_of_getElem? ha))
  · rw [Bool.or_eq_true] at h3
    rcases h3 with h3 | h3
    · simp only [Bool.not_eq_true', decide_eq_false_iff_not] at h3
      exact absurd hf h3
    · exact there_of h3
def goodB (nm : ByteArray) (pa va : Int) (fs : List FBlk) : Bool :=
  decide (nameQ nm) && decide (0 ≤ pa ∧ pa ≤ 16 ∧ pa ≤ va) && decide (0 < fs.length) && (match fs[0]? with | some x => decide (x.phis.length = 0) | none => true) && decide ((srcs (bsOf fs) 0).length = 0) &&
  decide ((orderL (bsOf fs)).length = fs.length) && (fs.all fun x => decide (endsQ (fs.length : Int) x)) && (fs.all fun x => x.insts.all fun p => decide (shapeQ p)) &&
  ((defsF fs).all fun d => decide (pa ≤ d.1) && decide (d.1 < va)) && decide (((defsF fs).map (·.1)).Nodup) && (fs.zipIdx.all fun x => readsB pa va fs x.2 x.1)
theorem good_of {nm : ByteArray} {pa va : Int} {fs : List FBlk} (h : goodB nm pa va fs = true) : GoodQ nm pa va fs := by
  unfold goodB at h
  simp only [Bool.and_eq_true, decide_eq_true_eq, List.all_eq_true] at h
  obtain ⟨⟨⟨⟨⟨⟨⟨⟨⟨⟨h1, h2⟩, h3⟩, h4⟩, h5⟩, h6⟩, h7⟩, h8⟩, h9⟩, h10⟩, h11⟩ := h
  refine ⟨h1, h2, h3, fun x hx => ?_, h5, h6, h7, ⟨h8, h9, h10⟩, fun k hk => ?_⟩
  · rw [hx] at h4
    simpa using h4
  · obtain ⟨x, hx⟩ := get_of hk
    exact (agree_ref h3 h6).readsQ (fun _ _ h => h) (reads_okB hx (h11 (x, k) (List.mem_zipIdx_iff_getElem?.2 hx)))
theorem valid_of {nm : ByteArray} {pa va : Int} {fs : List FBlk} (h : (decide ((sizeF fs : Int) > 20000 ∨ va > 20000) = false) ∧ goodB nm pa va fs = true) : validN nm pa va fs = 0 :=
  (valid_0 (by simpa using h.1) (good_of h.2)).symm
end Go.Mor
namespace Go.Mor
open Go.RowKit
def awB (A7 A5 : Option Addr) : FBlk := ⟨none, 0, [], A7, 2, [⟨1, 0, 7, ⟨#[]⟩, none, 0, []⟩, ⟨10, -1, 0, ⟨#[]⟩, A5, 1, [0]⟩], 2, -1, 0, 0⟩
def awN : ByteArray := ⟨#[102]⟩
def awF (A9 A7 A5 : Option Addr) : FFn := ⟨awN, false, 0, 1, A9, 1, [awB A7 A5]⟩
section
variable {A5 A7 A9 : Option Addr}
theorem ok_ins (op dst n : Int) (A : Option Addr) (c : Nat) (args : List Int) (h1 : In64 op) (h2 : In64 dst) (h3 : In64 n) (h4 : LenOk args.length) (h5 : ∀ x, x ∈ args → In64 x) : FIns.Ok ⟨op, dst, n, ⟨#[]⟩, A, c, args⟩ := ⟨h1, h2, h3, by show (0 : Nat) ≤ _; omega, h4, h5⟩
theorem aw_ok : FOk [awB A7 A5] := by
  intro x hx
  rw [List.mem_singleton] at hx
  subst hx
  refine ⟨by simp [awB, LenOk], fun p hp => by simp [awB] at hp, by simp [awB, LenOk], fun p hp => ?_, by simp [awB, In64], by simp [awB, In64], by simp [awB, In64], by simp [awB, In64]⟩
  simp only [awB, List.mem_cons, List.not_mem_nil, or_false] at hp
  rcases hp with rfl | rfl
  · exact ⟨by simp [In64], by simp [In64], by simp [In64], by show (0 : Nat) ≤ _; omega, by simp [LenOk], fun x hx => by simp at hx⟩
  · exact ⟨by simp [In64], by simp [In64], by simp [In64], by show (0 : Nat) ≤ _; omega, by simp [LenOk], fun x hx => by simp at hx; subst hx; simp [In64]⟩
theorem rd_none {w : World} : (Res.rd none []).holds w := fun i v hi => by simp at hi
theorem rds_none {w : World} {k : Nat} : (Res.rds none k []).holds w := fun i cs hi => by simp at hi
theorem fn_ro {w : World} {A : Option Addr} {fs : List FBlk} (hb : (Res.blocks A (bsOf fs)).holds w) (hx : ∀ x, x ∈ fs → ∀ r, r ∈ x.parts → r.holds w) : RO noS w (.fn A fs) := by
  refine RO.of (fun r hr => ?_)
  rcases List.mem_cons.1 hr with rfl | hr
  · exact hb
  · obtain ⟨x, hxm, hr⟩ := List.mem_flatMap.1 hr
    exact hx x hxm r hr
theorem blocks_row {w : World} {e n c : Nat} {A : Option Addr} {fs : List FBlk} (h : (Res.row e 6 A n c ((bsOf fs).flatMap SB.cells)).holds w) : (Res.blocks A (bsOf fs)).holds w := rows_rds (f := SB.cells) (fun _ => rfl) (by decide) h
theorem ins_row {w : World} {e n c : Nat} {A : Option Addr} {l : List FIns} (h : (Res.row e 5 A n c (l.flatMap FIns.cells)).holds w) : (Res.rds A 5 (l.map FIns.cells)).holds w := rows_rds (f := FIns.cells) (fun _ => rfl) (by decide) h
theorem fns_row {w : World} {e n c : Nat} {A : Option Addr} {l : List FFn} (h : (Res.row e 5 A n c (l.flatMap FFn.cells)).holds w) : RO noS w (.rds A 5 (l.map FFn.cells)) := RO.of (rows_rds (f := FFn.cells) (fun _ => rfl) (by decide) h)
theorem aw_ro {w : World} {e5 e7 e9 n5 n7 n9 c5 c7 c9 : Nat} (h5 : (Res.row e5 1 A5 n5 c5 (ints [0])).holds w) (h7 : (Res.row e7 5 A7 n7 c7 ((awB A7 A5).insts.flatMap FIns.cells)).holds w) (h9 : (Res.row e9 6 A9 n9 c9 ((bsOf [awB A7 A5]).flatMap SB.cells)).holds w) : RO noS w (.fn A9 [awB A7 A5]) := by
  refine fn_ro (blocks_row h9) (fun x hx r hr => ?_)
  rw [List.mem_singleton] at hx
  subst hx
  have e : (awB A7 A5).parts = [.rds none 2 [], .rds A7 5 ((awB A7 A5).insts.map FIns.cells), .rd none [], .rd A5 (ints [0])] := rfl
  rw [e] at hr
  simp only [List.mem_cons, List.not_mem_nil, or_false] at hr
  rcases hr with rfl | rfl | rfl | rfl
  · exact rds_none
  · exact ins_row h7
  · exact rd_none
  · exact row_rd h5
theorem aw_in {w : World} {e11 e12 n11 n12 c11 c12 : Nat} {A11 A12 : Option Addr} (hf : RO noS w (.fn A9 [awB A7 A5])) (h11 : (Res.row e11 5 A11 n11 c11 ([awF A9 A7 A5].flatMap FFn.cells)).holds w) (h12 : (Res.row e12 1 A12 n12 c12 [.string awN]).holds w) : RunIn w [awF A9 A7 A5] A11 [awN] A12 [] none 0 where
  len := by simp
  cells := fns_row h11
  ok x hx := by
    rw [List.mem_singleton] at hx
    subst hx
    exact ⟨aw_ok, by simp [awF]⟩
  fn x hx := by
    rw [List.mem_singleton] at hx
    subst hx
    exact hf
  glen := by simp
  bg := RO.of (row_rd h12)
  ilen := by simp
  inr := RO.of rd_none
  bytes b hb := by simp at hb
theorem aw_size : (sizeF [awB A7 A5] : Int) = 3 := rfl
theorem aw_valid : validN awN 0 1 [awB A7 A5] = 0 := valid_of ⟨by simp [sizeF, sizeTo, awB], by rfl⟩
theorem aw_bad : ¬ badQ [awF A9 A7 A5] 10 [] 1 := by
  rintro (h | ⟨i, f, hi, hf, hv⟩)
  · simp at h
  · obtain rfl : i = 0 := by omega
    simp at hf
    subst hf
    exact hv aw_valid
theorem aw_out : outOf (runS (envOf [awF A9 A7 A5] [] 10 [] 10) (chosenD []) [awN]) = (1, 0, [7], 3) := rfl
theorem aw_run : runO [awF A9 A7 A5] [] [awN] 10 [] 10 = (1, 0, [7], 3) := by
  unfold runO
  rw [if_neg (show ¬ badQ [awF A9 A7 A5] 10 [] [awF A9 A7 A5].length from aw_bad), aw_out]
end
end Go.Mor
namespace Go.Mor
open Go.RowKit
theorem setAt_bs {l : List FBlk} {m : Nat} (h : m < l.length) (y : FBlk) : setAt ((bsOf l).flatMap SB.cells) (m * 6) (xV y) = (bsOf (l.set m y)).flatMap SB.cells := by
  have := setAt_flat (f := SB.cells) (k := 6) (fun _ => rfl) y.sb (bsOf l) m (by rw [bsOf_len]; exact h)
  rw [show bsOf (l.set m y) = (bsOf l).set m y.sb from List.map_set]
  exact this
theorem bs_rd {w : World} {A : Option Addr} {fs : List FBlk} (h : (Res.blocks A (bsOf fs)).holds w) : (Res.rd A ((bsOf fs).flatMap SB.cells)).holds w := rds_rd (f := SB.cells) (k := 6) (fun _ => rfl) h
theorem ins_rd {w : World} {A : Option Addr} {js : List FIns} (h : (Res.rds A 5 (js.map FIns.cells)).holds w) : (Res.rd A (js.flatMap FIns.cells)).holds w := rds_rd (f := FIns.cells) (k := 5) (fun _ => rfl) h
theorem ins_snoc (js : List FIns) (p : FIns) : js.flatMap FIns.cells ++ p.cells = (js ++ [p]).flatMap FIns.cells := by simp
theorem ins_cons (js : List FIns) (p : FIns) : p.cells ++ js.flatMap FIns.cells = ([p] ++ js).flatMap FIns.cells := by simp
theorem bs_len6 (bs : List SB) : (bs.flatMap SB.cells).length = bs.length * 6 := flat_len (f := SB.cells) (k := 6) (fun _ => rfl) bs
theorem ins_len5 (js : List FIns) : (js.flatMap FIns.cells).length = js.length * 5 := flat_len (f := FIns.cells) (k := 5) (fun _ => rfl) js
theorem bs_one (bs : List SB) : ∀ u ∈ bs.flatMap SB.cells, u.oneCell' = true := by
  intro u hu
  obtain ⟨x, _, hu⟩ := List.mem_flatMap.1 hu
  simp only [SB.cells, List.mem_cons, List.not_mem_nil, or_false] at hu
  rcases hu with rfl | rfl | rfl | rfl | rfl | rfl <;> rfl
theorem ins_one (js : List FIns) : ∀ u ∈ js.flatMap FIns.cells, u.oneCell' = true := by
  intro u hu
  obtain ⟨x, _, hu⟩ := List.mem_flatMap.1 hu
  simp only [FIns.cells, List.mem_cons, List.not_mem_nil, or_false] at hu
  rcases hu with rfl | rfl | rfl | rfl | rfl <;> rfl
section
variable {w : World} {fs : List FBlk} {fA gA iA q : Option Addr} {m ic : Nat} {x : FBlk} {js : List FIns} {va n : Int}
theorem fn_parts (h : RO noS w (.fn fA fs)) : ∀ y, y ∈ fs → ∀ r, r ∈ y.parts → r.holds w := fun y hy _ hr =>
  (h.sub (List.mem_cons_of_mem _ (List.mem_flatMap.2 ⟨y, hy, hr⟩))).1
theorem set_ro (h : RO noS w (.fn fA fs)) (hx : fs[m]? = some x) (hb : (Res.blocks gA (bsOf (fs.set m (x.wi iA ic js)))).holds w) (h1 : (Res.rds iA 5 (js.map FIns.cells)).holds w) (h2 : ∀ p, p ∈ js → (Res.rd p.A (ints p.args)).holds w) : RO noS w (.fn gA (fs.set m (x.wi iA ic js))) := by
  refine fn_ro hb (fun y hy r hr => ?_)
  rcases List.mem_or_eq_of_mem_set hy with hy | rfl
  · exact fn_parts h y hy r hr
  · have hxp := fn_parts h x (List.mem_of_getElem? hx)
    unfold FBlk.parts at hr hxp
    rcases List.mem_cons.1 hr with rfl | hr
    · exact hxp _ List.mem_cons_self
    rcases List.mem_cons.1 hr with rfl | hr
    · exact h1
    rcases List.mem_append.1 hr with hr | hr
    · exact hxp _ (List.mem_cons_of_mem _ (List.mem_cons_of_mem _ (List.mem_append_left _ hr)))
    · obtain ⟨p, hp, rfl⟩ := List.mem_map.1 hr
      exact h2 p hp
theorem set_ok (h : FOk fs) (hx : fs[m]? = some x) (hl : LenOk js.length) (hj : ∀ p, p ∈ js → p.Ok) : FOk (fs.set m (x.wi iA ic js)) := by
  intro y hy
  rcases List.mem_or_eq_of_mem_set hy with hy | rfl
  · exact h y hy
  · have hxo := h.get hx
    exact ⟨hxo.lp, hxo.phis, hl, hj, hxo.e, hxo.v, hxo.a, hxo.b⟩
theorem cI_ok (h : In64 va) (hn : In64 n) : (cI va n).Ok := ok_ins _ _ _ _ _ _ (by simp [In64]) h hn (by simp [LenOk]) (fun x hx => by simp at hx)
theorem pI_ok (h : In64 va) : (pI q va).Ok := ok_ins _ _ _ _ _ _ (by simp [In64]) (by simp [In64]) (by simp [In64]) (by simp [LenOk]) (fun x hx => by simp only [List.mem_cons, List.not_mem_nil, or_false] at hx; rw [hx]; exact h)
theorem more_ok {ks : List FIns} (h1 : ∀ p, p ∈ js → p.Ok) (h2 : ∀ p, p ∈ ks → p.Ok) : ∀ p, p ∈ js ++ ks → p.Ok := fun p hp => (List.mem_append.1 hp).elim (h1 p) (h2 p)
theorem more_rd {ks : List FIns} (h1 : ∀ p, p ∈ js → (Res.rd p.A (ints p.args)).holds w) (h2 : ∀ p, p ∈ ks → (Res.rd p.A (ints p.args)).holds w) : ∀ p, p ∈ js ++ ks → (Res.rd p.A (ints p.args)).holds w := fun p hp => (List.mem_append.1 hp).elim (h1 p) (h2 p)
theorem one_ok {p : FIns} (h : p.Ok) : ∀ q, q ∈ [p] → q.Ok := fun q hq => by rw [List.mem_singleton.1 hq]; exact h
theorem cI_rd : ∀ p, p ∈ [cI va n] → (Res.rd p.A (ints p.args)).holds w := fun p hp => by rw [List.mem_singleton.1 hp]; exact rd_none
theorem pI_rd {e k c : Nat} (h : (Res.row e 1 q k c (ints [va])).holds w) : ∀ p, p ∈ [pI q va] → (Res.rd p.A (ints p.args)).holds w := fun p hp => by rw [List.mem_singleton.1 hp]; exact row_rd h
theorem fn_insts (h : RO noS w (.fn fA fs)) (hx : fs[m]? = some x) : ∀ p, p ∈ x.insts → (Res.rd p.A (ints p.args)).holds w := fun p hp => fn_parts h x (List.mem_of_getElem? hx) _ (List.mem_cons_of_mem _ (List.mem_cons_of_mem _ (List.mem_append_right _ (List.mem_map.2 ⟨p, hp, rfl⟩))))
theorem fn_rds (h : RO noS w (.fn fA fs)) (hx : fs[m]? = some x) : (Res.rds x.iA 5 (x.insts.map FIns.cells)).holds w := fn_parts h x (List.mem_of_getElem? hx) _ (List.mem_cons_of_mem _ List.mem_cons_self)
theorem ins_size (hx : fs[m]? = some x) : x.insts.length ≤ sizeF fs := by
  have h : ∀ d k, k + d = fs.length → sizeTo fs k ≤ sizeTo fs fs.length := fun d => by
    induction d with
    | zero => intro k hk; rw [show k = fs.length by omega]; exact Nat.le_refl _
    | succ d ih =>
      intro k hk
      obtain ⟨y, hy⟩ := get_of (l := fs) (i := k) (by omega)
      have h1 := ih (k + 1) (by omega)
      rw [sizeTo_succ hy] at h1
      omega
  have hlt := (List.getElem?_eq_some_iff.1 hx).1
  have h1 := h (fs.length - (m + 1)) (m + 1) (by omega)
  rw [sizeTo_succ hx] at h1
  unfold sizeF
  omega
variable {nm : ByteArray} {pa : Int} {c : Nat}
theorem set_last (hx : fs[m]? = some x) (hm : m + 1 = fs.length) (y : FBlk) : fs = fs.take m ++ [x] ∧ fs.set m y = fs.take m ++ [y] := by
  obtain ⟨hlt, he⟩ := List.getElem?_eq_some_iff.1 hx
  have h1 : fs = fs.take m ++ [x] := by
    have := List.take_succ_eq_append_getElem hlt
    rw [he, List.take_of_length_le (by omega)] at this
    exact this
  refine ⟨h1, ?_⟩
  have hl : (fs.take m).length = m := by rw [List.length_take]; omega
  conv => lhs; rw [h1]
  rw [List.set_append_right _ _ (by omega), hl, Nat.sub_self]
  rfl
section
variable (hx : fs[m]? = some x) (hm : m + 1 = fs.length) (h : validN nm pa va fs = 0) (hg : ¬ greatQ va fs)
include hx hm h hg
theorem one_more : validN nm pa (va + 1) (fs.set m (x.wi iA ic (x.insts ++ [cI va 1]))) = 0 := by
  obtain ⟨h1, h2⟩ := set_last hx hm (x.wi iA ic (x.insts ++ [cI va 1]))
  rw [h1] at h hg
  rw [h2]
  exact once_ok h hg
theorem two_more : validN nm pa (va + 1) (fs.set m (x.wi iA ic (x.insts ++ [cI va 1] ++ [cI va 2]))) = 4 := by
  obtain ⟨h1, h2⟩ := set_last hx hm (x.wi iA ic (x.insts ++ [cI va 1] ++ [cI va 2]))
  rw [h1] at h hg
  rw [h2]
  exact once_twice h hg
theorem one_read {y : FBlk} {B : Option Addr} {d : Nat} (hy : (fs.set m (x.wi iA ic (x.insts ++ [cI va 1])))[0]? = some y) : validN nm pa (va + 1) ((fs.set m (x.wi iA ic (x.insts ++ [cI va 1]))).set 0 (y.wi B d ([pI q va] ++ y.insts))) = 4 := by
  obtain ⟨h1, h2⟩ := set_last hx hm (x.wi iA ic (x.insts ++ [cI va 1]))
  rw [h1] at h hg
  rw [h2] at hy ⊢
  exact once_read h hg hy
theorem one_size {k : Nat} {y : FBlk} (hy : (fs.set m (x.wi iA ic (x.insts ++ [cI va 1])))[k]? = some y) : y.insts.length ≤ 3061 := by
  have h3 := ins_size hy
  obtain ⟨h1, h2⟩ := set_last hx hm (x.wi iA ic (x.insts ++ [cI va 1]))
  have h4 := size_small (valid_gd h).2.2 hg
  rw [h2, sizeF_more, ← h1] at h3
  simp only [List.length_singleton] at h3
  omega
end
end
end Go.Mor
namespace Go.Proofs.Ytjekgaabcigphaa
open Go.Mor
theorem catch_p (b6 b7 : Nat) (x6 x7 : Value) (k c : Int) (w : World) (hR : (Res.pk [.blk b6 3 [x6], .blk b7 3 [x7]]).holds w) :
    CallsD Try.prog 75 #[pT b6 0, pT b7 0] (.panicking [{ v := endV k c, recovered := false }]) w (fun e u' w' => (∃ v, e = .returned v) ∧ u' = .panicking [{ v := endV k c, recovered := true }] ∧ Mem ((Res.pk [.blk b6 3 [x6], .blk b7 3 [x7]]).fp) w w' [.blk b6 3 [.int .i64 k], .blk b7 3 [.int .i64 c]]) := by
 refine callsD_of_wpS Try.func75 (c := bodyOf Try.f75) rfl ?_
 intro c0 cs hu
 have fr := frame0 (fn := Try.f75) (N := 14) [pT b6 0, pT b7 0]
 refine WS_gen fr ?_
 clear fr; intro aC fr
 refine WS_seq (by kernel_rfl) ?_
 have hM := (Mem.unpk hR : Mem ((Res.pk [.blk b6 3 [x6], .blk b7 3 [x7]]).fp) w w [.blk b6 3 [x6], .blk b7 3 [x7]])
 refine WS_caught 8 5 #[] 20 fr (recoverD_pan hu) ?hn_ ?_
 case hn_ => intro a w h; obtain ⟨u, ⟨v, h1⟩, _⟩ := h; cases h1
 clear fr aC
 refine zta (.iface 133 (.agg #[(.int .i64 k), (.int .i64 c)])) 20 133 (.tuple #[(.agg #[(.int .i64 k), (.int .i64 c)]), (.bool true)]) (ta_yes Try.underlying133 _) <| zpn 3 <| zal hM 133 [(.int .i64 0), (.int .i64 0)] fun b1 w2 hb1 M3 => ?_
 replace M3 := M3.nf
 clear hM
 refine zss M3 2 [(.int .i64 k), (.int .i64 c)] rfl fun w4 M5 => ?_
 replace M5 := M5.nf
 refine zpn 1 <| zfe ?_
 intro aC fr
 refine WS_of2 ?_
 revert aC
 refine zsp <| zcT <| zkp [(0, (pT b6 0)), (1, (pT b7 0)), (2, (pT b1 0)), (9, (.bool true))] ?_
 intro aC fr
 refine zdj (N := 14) (env0 := [(0, (pT b6 0)), (1, (pT b7 0)), (2, (pT b1 0)), (9, (.bool true))]) (specAt [.det (pT b1 0), .det (.int .i64 k), .det (pT b1 1), .det (.int .i64 c), .det undef, .det undef]) (fun ls vs w_ => match ls 5 with | true => (Mem (Res.pk [.blk b6 3 [x6], .blk b7 3 [x7]]).fp w w_ [.blk b6 3 [(.int .i64 k)], .blk b7 3 [(.int .i64 c)], .blk b1 133 [(.int .i64 k), (.int .i64 c)]]) | false => (match ls 4 with | true => (Mem (Res.pk [.blk b6 3 [x6], .blk b7 3 [x7]]).fp w w_ [.blk b6 3 [(.int .i64 k)], .blk b7 3 [x7], .blk b1 133 [(.int .i64 k), (.int .i64 c)]]) | false => (Mem (Res.pk [.blk b6 3 [x6], .blk b7 3 [x7]]).fp w w_ [.blk b6 3 [x6], .blk b7 3 [x7], .blk b1 133 [(.int .i64 k), (.int .i64 c)]]))) fr (plain_ok (.det (.det (.det (.det (.det (.det .nil))))))) (M5.then_ (Mem.drew _)) (la (la (la (la (la (la lz (dPJ fun _ _ _ _ h => h)) (dLJ ⟨b1, 0, none⟩ (.int .i64 k) (fun _ _ _ _ h => h) ?_)) (dPJ fun _ _ _ _ h => h)) (dLJ ⟨b1, 1, none⟩ (.int .i64 c) (fun _ _ _ _ h => h) ?_)) ?_) ?_) ?_
 intro w_ ls vs hJ hi_ hc_ hp
 have f4 : ls 4 = false := notyet hc_ hi_ (n := 6) (by kernel_rfl)
 have f5 : ls 5 = false := notyet hc_ hi_ (n := 6) (by kernel_rfl)
 have hM_ := hJ
 simp only [f4, f5] at hM_
 exact (blk_cell (hM_.get 2 rfl) rfl)
 intro w_ ls vs hJ hi_ hc_ hp
 have f5 : ls 5 = false := notyet hc_ hi_ (n := 6) (by kernel_rfl)
 have hM_ := hJ
 simp only [f5] at hM_
 cases fu : ls 4
 simp only [fu] at hM_
 exact (blk_cell (hM_.get 2 rfl) rfl)
 simp only [fu] at hM_
 exact (blk_cell (hM_.get 2 rfl) rfl)
 intro aa_ w_ ls vs rest_ hJ hi_ hc_ hp hF
 refine okG (g0 := none) ?_
 replace hF : Fr aa_ 14 [(0, (pT b6 0)), (11, (.int .i64 k))] := hF.kp [0, 11]
 have f4 : ls 4 = false := hi_
 have f5 : ls 5 = false := notyet hc_ hi_ (n := 6) (by kernel_rfl)
 have hM_ := hJ
 simp only [f4, f5] at hM_
 refine From_store_blk (by kernel_rfl : coreAt _ 0 = some (none, (.store 3 (.tmp 0) (.tmp 11)), 0, none)) hF (by kernel_rfl) (by kernel_rfl) (k' := 1) rfl (b := b6) (off := 0) (t0 := 3) (v := (.int .i64 k)) (cs := [x6]) (by kernel_rfl) (by kernel_rfl) (by kernel_rfl) rfl hM_ 0 rfl (by simp) ?_
 intro w2 hm2 _ a2 ea _
 refine From_end (by kernel_rfl) ?_; refine op_doneJ (d := none) (by kernel_rfl) ea rfl ?_
 show match ls 5 with | true => _ | false => (_)
 rw [f5]
 exact hm2
 intro aa_ w_ ls vs rest_ hJ hi_ hc_ hp hF
 refine okG (g0 := none) ?_
 replace hF : Fr aa_ 14 [(1, (pT b7 0)), (13, (.int .i64 c))] := hF.kp [1, 13]
 have f4 : ls 4 = true := donebefore hc_ (fun k hk => (hp k hk).1) (n := 6) (by kernel_rfl)
 have f5 : ls 5 = false := hi_
 have hM_ := hJ
 simp only [f4, f5] at hM_
 refine From_store_blk (by kernel_rfl : coreAt _ 0 = some (none, (.store 3 (.tmp 1) (.tmp 13)), 0, none)) hF (by kernel_rfl) (by kernel_rfl) (k' := 1) rfl (b := b7) (off := 0) (t0 := 3) (v := (.int .i64 c)) (cs := [x7]) (by kernel_rfl) (by kernel_rfl) (by kernel_rfl) rfl hM_ 1 rfl (by simp) ?_
 intro w2 hm2 _ a2 ea _
 refine From_end (by kernel_rfl) ?_; refine op_doneJ (d := none) (by kernel_rfl) ea rfl ?_
 show _
 exact hm2
 intro aC w10 ls vs hall M11 hv fr
 simp only [show ls 5 = true from hall 5 (by decide)] at M11
 revert aC; refine zkp [] ?_
 clear hall hv fr aC M5; clear vs ls
 intro aC fr
 exact ⟨fr.defers, _, rfl, _, results_none rfl _ _ _, ⟨_, rfl⟩, rfl, M11.tk 2⟩
theorem catch_n (b6 b7 : Nat) (x6 x7 : Value) (w : World) (hR : (Res.pk [.blk b6 3 [x6], .blk b7 3 [x7]]).holds w) :
    CallsD Try.prog 75 #[pT b6 0, pT b7 0] (.returning) w (fun e u' w' => (∃ v, e = .returned v) ∧ u' = .returning ∧ Mem ((Res.pk [.blk b6 3 [x6], .blk b7 3 [x7]]).fp) w w' [.blk b6 3 [x6], .blk b7 3 [x7]]) := by
 refine callsD_of_wpS Try.func75 (c := bodyOf Try.f75) rfl ?_
 intro c0 cs hu
 have fr := frame0 (fn := Try.f75) (N := 14) [pT b6 0, pT b7 0]
 refine WS_gen fr ?_
 clear fr; intro aC fr
 refine WS_seq (by kernel_rfl) ?_
 have hM := (Mem.unpk hR : Mem ((Res.pk [.blk b6 3 [x6], .blk b7 3 [x7]]).fp) w w [.blk b6 3 [x6], .blk b7 3 [x7]])
 refine WS_nothing 8 5 #[] 20 fr (recoverD_ret hu) ?hn_ ?_
 case hn_ => intro a w h; obtain ⟨u, ⟨v, h1⟩, _⟩ := h; cases h1
 clear fr aC
 refine zta .nilIface 20 133 (.tuple #[(.agg #[(.int .i64 0), (.int .i64 0)]), (.bool false)]) (ta_nil Try.underlying133 (by kernel_rfl)) <| zpn 3 <| zal hM 133 [(.int .i64 0), (.int .i64 0)] fun b1 w2 hb1 M3 => ?_
 replace M3 := M3.nf
 clear hM
 refine zss M3 2 [(.int .i64 0), (.int .i64 0)] rfl fun w4 M5 => ?_
 replace M5 := M5.nf
 refine zpn 1 <| zfe ?_
 intro aC fr
 refine WS_of2 ?_
 revert aC
 refine zsp <| zcF <| zsk ?_
 intro aC fr
 exact ⟨fr.defers, _, (by rw [← hu]), _, results_none rfl _ _ _, ⟨_, rfl⟩, rfl, M5.tk 2⟩
abbrev playN (b6 b7 : Nat) : FN := ⟨42, [{ target := .fn (.func 75) #[pT b6 0, pT b7 0], args := #[] }]⟩
theorem play_pan {Φ : Value → World → Prop} {a : Act} {env : Env} {w0 w : World} {S : Nat → Prop} {L : List Res} {b6 b7 : Nat} {x6 x7 : Value} {k c : Int} (hF : Fr a (playN b6 b7) env) (h6 : Go.Mor.look env 6 = some (pT b6 0)) (h7 : Go.Mor.look env 7 = some (pT b7 0))
    (hM : Mem S w0 w ([.blk b6 3 [x6], .blk b7 3 [x7]] ++ L)) (hR : ∀ w', Mem S w0 w' L → Φ (.tuple #[.int .i64 k, .int .i64 c]) w') : bodyPostD Try.prog Try.f49 (Ret Φ) (pan (endV k c)) a w := by
  show Leaves Try.prog Try.f49 a.tmps (Ret Φ) a.defers (.panicking [{ v := endV k c, recovered := false }]) w
  rw [hF.defers]
  refine leaves_one (by kernel_rfl) (by intro h; cases h) (catch_p b6 b7 x6 x7 k c w (Mem.pk_holds hM)) rfl (fun w' hX => ?_)
  have M2 := Mem.mdk hM hX
  exact ⟨_, results_cell2 rfl _ _ _ (hF.slot _ _ h6) (hF.slot _ _ h7) (by kernel_rfl) (blk_cell (M2.get 0 rfl) rfl) (blk_cell (M2.get 1 rfl) rfl), _, rfl, hR w' M2.drop2⟩
theorem play_ret {Φ : Value → World → Prop} {a : Act} {env : Env} {w0 w : World} {S : Nat → Prop} {L : List Res} {b6 b7 : Nat} {k c : Int} (hF : Fr a (playN b6 b7) env) (h6 : Go.Mor.look env 6 = some (pT b6 0)) (h7 : Go.Mor.look env 7 = some (pT b7 0))
    (hM : Mem S w0 w ([.blk b6 3 [.int .i64 k], .blk b7 3 [.int .i64 c]] ++ L)) (hR : ∀ w', Mem S w0 w' L → Φ (.tuple #[.int .i64 k, .int .i64 c]) w') : bodyPostD Try.prog Try.f49 (Ret Φ) .ret a w := by
  show Leaves Try.prog Try.f49 a.tmps (Ret Φ) a.defers .returning w
  rw [hF.defers]
  refine leaves_one (by kernel_rfl) (by intro h; cases h) (catch_n b6 b7 _ _ w (Mem.pk_holds hM)) rfl (fun w' hX => ?_)
  have M2 := Mem.mdk hM hX
  exact ⟨_, results_cell2 rfl _ _ _ (hF.slot _ _ h6) (hF.slot _ _ h7) (by kernel_rfl) (blk_cell (M2.get 0 rfl) rfl) (blk_cell (M2.get 1 rfl) rfl), _, rfl, hR w' M2.drop2⟩
end Go.Proofs.Ytjekgaabcigphaa
namespace Go.Proofs.Ytjekgaabcigphaa
open Go.Mor
theorem lay_d (C : RC) (ds : List FDat) (dA : Option Addr) (dc : Nat) (w : World) (hdl : ds.length ≤ 1000) (hW : ∀ d, d ∈ ds → d.WF) (hm1 : 1 ≤ C.E.memN) (hm2 : C.E.memN ≤ 262144) (hfn : C.E.fns.length ≤ 1000) (cs : List FDat) (hcs : cs = chosenD ds)
    (hR : (Res.pk (runL C (lyS (List.replicate C.E.memN 0) 0) none 0 ++ [.map C.dB (inK .string (vK []))])).holds w) (hD : RO (lyP C) w (.dats dA ds)) (hN : RO (lyP C) w (.map C.mB (inK .string (vK C.E.names)))) :
    Calls Try.prog 76 #[pT C.r 0, .slice dA ds.length dc] w (Ret fun v w' => v = .bool (decide (nextTo cs cs.length ≤ C.E.memN)) ∧ Mem (lyP C) w w' (runL C (lyS (lyM C.E cs) (nextTo cs cs.length : Int)) none 0 ++ [.map C.dB (inK .string (vK (dataTo cs cs.length)))])) := by
  subst hcs
  refine (lay_c C ds dA dc w hdl hW hm1 hm2 hfn hR hD hN).mono ?_
  rintro e w' ⟨v, rfl, h⟩
  refine ⟨v, rfl, ?_⟩
  rcases h with ⟨h1, h2, h3⟩ | ⟨h1, h2, h3⟩
  · refine ⟨by rw [h2, decide_eq_true h1], ?_⟩
    unfold lyM
    rw [if_pos h1]
    exact h3
  · refine ⟨by rw [h2, decide_eq_false (by omega)], ?_⟩
    unfold lyM
    rw [if_neg (by omega)]
    exact h3
set_option maxHeartbeats 2000000 in
theorem play_c (C : RC) (ds : List FDat) (dA : Option Addr) (dc : Nat) (bg : List ByteArray) (gA : Option Addr) (gc : Nat) (w : World) (hC : C.WF) (hdl : ds.length ≤ 1000) (hW : ∀ d, d ∈ ds → d.WF) (hm1 : 1 ≤ C.E.memN) (cs : List FDat) (hcs : cs = chosenD ds) (hd : C.E.data = dataTo cs cs.length)
    (hgl : bg.length ≤ 1000000) (hR : (Res.pk (runL C (lyS (List.replicate C.E.memN 0) 0) none 0 ++ [.map C.dB (inK .string (vK []))])).holds w) (hD : RO (lyP C) w (.dats dA ds)) (h0 : RO (lyP C) w C.ro0) (hB : RO (lyP C) w (.rd gA (bg.map Value.string))) :
    Calls Try.prog 49 #[(pT C.r 0), (.slice dA ds.length dc), (.slice gA bg.length gc)] w (Ret fun v w' => ∃ (k c : Int) (s : PSt) (oA : Option Addr) (oc : Nat), outS (runS C.E cs bg) = (k, c, s) ∧ v = .tuple #[.int .i64 k, .int .i64 c] ∧ Mem (lyP C) w w' (runL C s oA oc ++ [.map C.dB (inK .string (vK C.E.data))])) := by
 refine enterD (N := ⟨42, []⟩) (vs := [(pT C.r 0), (.slice dA ds.length dc), (.slice gA bg.length gc)]) (f := 49) Try.func49 ?_
 have hM := (Mem.unpk hR : Mem ((lyP C)) w w [.blk C.r 89 [(.slice C.fA (C.E.fns.length + 1) C.fc), (.slice C.sA (C.E.fns.length + 1) C.sc), (.map (some C.mB)), (.map (some C.dB)), (.slice (sM C.mG) C.E.memN C.E.memN), (.int .i64 0), (.slice ((inAt C.iA C.ic 0).1) (C.E.inp.length - 0) ((inAt C.iA C.ic 0).2)), (.slice none 0 0), (.int .i64 C.E.fuel), (.int .i64 0), (.int .i64 0), (.slice (some C.oP) 13 13)], .row 2 1 (sM C.mG) C.E.memN C.E.memN (ints (List.replicate C.E.memN 0)), .row 5 1 none 0 0 [], .map C.dB (inK .string (vK []))])
 refine zsr <| zal hM 3 [(.int .i64 0)] fun b1 w2 hb1 M3 => ?_
 replace M3 := M3.nf
 clear hM
 refine zal M3 3 [(.int .i64 0)] fun b4 w5 hb4 M6 => ?_
 replace M6 := M6.nf
 refine zfe <| zsr <| zpn 1 <| zdf 75 [pT b1 0, pT b4 0] (.tmp 12) #[] 0 <| zfe <| zsq <| zsr <| zpn 2 <| zcl (lay_d C ds dA dc w5 hdl hW hm1 hC.mem hC.nfns cs hcs (Mem.pk_holds (l := runL C (lyS (List.replicate C.E.memN 0) 0) none 0 ++ [.map C.dB (inK .string (vK []))]) M6) (hD.pk_at (l := runL C (lyS (List.replicate C.E.memN 0) 0) none 0 ++ [.map C.dB (inK .string (vK []))]) M6) (h0.mB0.pk_at (l := runL C (lyS (List.replicate C.E.memN 0) 0) none 0 ++ [.map C.dB (inK .string (vK []))]) M6)) ?_
 rintro _ w7 ⟨rfl, M8x⟩
 have M8 : Mem (lyP C) w w7 [.blk C.r 89 [(.slice C.fA (C.E.fns.length + 1) C.fc), (.slice C.sA (C.E.fns.length + 1) C.sc), (.map (some C.mB)), (.map (some C.dB)), (.slice (sM C.mG) C.E.memN C.E.memN), (.int .i64 (nextTo cs cs.length : Int)), (.slice ((inAt C.iA C.ic 0).1) (C.E.inp.length - 0) ((inAt C.iA C.ic 0).2)), (.slice none 0 0), (.int .i64 C.E.fuel), (.int .i64 0), (.int .i64 0), (.slice (some C.oP) 13 13)], .row 2 1 (sM C.mG) C.E.memN C.E.memN (ints (lyM C.E cs)), .row 5 1 none 0 0 [], .map C.dB (inK .string (vK (dataTo cs cs.length))), .blk b1 3 [(.int .i64 0)], .blk b4 3 [(.int .i64 0)]] := M6.mdk M8x
 refine zpn 1 <| zfe <| zcP (!(decide (nextTo cs cs.length ≤ C.E.memN))) (¬ (nextTo cs cs.length ≤ C.E.memN)) (by simp only [notT, decide_eq_true_eq]) (fun c9 => ?_) (fun c9 => ?_)
 refine zrg <| zpn 1 <| zce (stop_c C.r 3 0 w7) (fun _ w2_ ⟨hv_, hx_⟩ a_ hf_ => by subst hv_; exact play_pan hf_ rfl rfl (Mem.od (L' := [.blk b1 3 [.int .i64 0], .blk b4 3 [.int .i64 0]] ++ (runL C (lyS (lyM C.E cs) (nextTo cs cs.length : Int)) none 0 ++ [.map C.dB (inK .string (vK (dataTo cs cs.length)))])) (M8.cl hx_) [5, 5] 6 rfl) (fun w_ hX_ => ⟨3, 0, (lyS (lyM C.E cs) (nextTo cs cs.length : Int)), none, 0, (by rw [run_no (by omega)]; rfl), rfl, hd ▸ hX_⟩)) ?_
 rintro _ w10 h_; exact h_.elim
 refine zsk <| zsq <| zsr ?_
 have hfit : nextTo cs cs.length ≤ C.E.memN := by omega
 have hr0 := congrArg outS (run_yes (l := bg) hd hfit)
 refine zpn 3 <| zfe <| zbk 0 ?_
 have M12 : Mem (lyP C) w w7 [.blk C.r 89 [(.slice C.fA (C.E.fns.length + 1) C.fc), (.slice C.sA (C.E.fns.length + 1) C.sc), (.map (some C.mB)), (.map (some C.dB)), (.slice (sM C.mG) C.E.memN C.E.memN), (.int .i64 ((lyS (lyM C.E cs) (nextTo cs cs.length : Int)).next)), (.slice ((inAt C.iA C.ic (lyS (lyM C.E cs) (nextTo cs cs.length : Int)).pos).1) (C.E.inp.length - (lyS (lyM C.E cs) (nextTo cs cs.length : Int)).pos) ((inAt C.iA C.ic (lyS (lyM C.E cs) (nextTo cs cs.length : Int)).pos).2)), (.slice none ((lyS (lyM C.E cs) (nextTo cs cs.length : Int)).out.length) 0), (.int .i64 C.E.fuel), (.int .i64 ((lyS (lyM C.E cs) (nextTo cs cs.length : Int)).steps)), (.int .i64 ((lyS (lyM C.E cs) (nextTo cs cs.length : Int)).opened)), (.slice (some C.oP) 13 13)], .row 2 1 (sM C.mG) C.E.memN C.E.memN (ints (lyS (lyM C.E cs) (nextTo cs cs.length : Int)).mem), .row 5 1 none ((lyS (lyM C.E cs) (nextTo cs cs.length : Int)).out.length) 0 (u8s (lyS (lyM C.E cs) (nextTo cs cs.length : Int)).out), .map C.dB (inK .string (vK (dataTo cs cs.length))), .blk b1 3 [(.int .i64 0)], .blk b4 3 [(.int .i64 0)]] := M8.cast rfl
 intro aC fr
 refine zlp (fun n_ a_ w_ => ∃ (j : Nat) (sj : PSt) (oAj : Option Addr) (ocj : Nat), n_ = bg.length - j ∧ Fr a_ (playN b1 b4) [(0, (pT C.r 0)), (6, (pT b1 0)), (7, (pT b4 0)), (19, (.slice gA bg.length gc)), (20, (.int .i64 ((bg.length : Nat) : Int))), (21, (nV j))] ∧ Mem (lyP C) w w_ [.blk C.r 89 (rcells C sj oAj ocj), .row 2 1 (sM C.mG) C.E.memN C.E.memN (ints sj.mem), .row 5 1 oAj sj.out.length ocj (u8s sj.out), .map C.dB (inK .string (vK (dataTo cs cs.length))), .blk b1 3 [(.int .i64 0)], .blk b4 3 [(.int .i64 0)]] ∧ (j ≤ bg.length) ∧ (RGood C sj) ∧ (outS (runS C.E cs bg) = outS (playS C.E (C.E.fuel.toNat + 1) (bg.drop j) sj))) (n := _) ⟨0, (lyS (lyM C.E cs) (nextTo cs cs.length : Int)), none, 0, rfl, fr.kp [0, 6, 7, 19, 20, 21], M12, Nat.zero_le _, lyM_good hC hfit, hr0⟩ ?_
 clear fr aC M12; rintro n aC w15 ⟨j, sj, oAj, ocj, rfl, fr, M16, hj, hGj, hrest⟩
 revert aC
 refine zsp <| zsq <| zcD (((j : Int) : Int) < ((bg.length : Nat) : Int)) (fun c19 => ?_) (fun c19 => ?_)
 refine zsk <| zsq <| zbk 1 <| zsr ?_
 obtain ⟨b, hb⟩ := get_of (l := bg) (i := j) (by omega)
 obtain ⟨ad20, rfl⟩ := rd_some (M16.ro hB) (by simp; omega)
 refine zix ad20 bg.length 1 (j : Int) <| zld ((ad20 : Addr).add (((j : Int)).toNat * 1)) (.string b) (rd_get1 (M16.ro hB) rfl (by simp [hb])) <| zpn 1 <| zfe <| zsr ?_
 have hpa := hrest.trans (congrArg outS (play_at (E := C.E) (g := (C.E.fuel.toNat + 1)) (s := sj) hb))
 cases hq : lkp C.E.names b
 rw [hq] at hpa
 refine zpn 3 <| zld ⟨C.r, 2, none⟩ (.map (some C.mB)) (blk_cell (M16.get 0 rfl) rfl) <| zpn 1 <| zlv (ht := Try.underlying84) (strLaw Try.underlying9) b (.int .i64 0) (M16.ro h0.mB0) true (v := (.tuple #[(.int .i64 0), (.bool false)])) (by rw [lkp_vK, hq]; rfl) <| zpn 5 <| zfe <| zsr <| zpn 3 <| zce (fault_t C.r w15) (fun _ w2_ ⟨hv_, hx_⟩ a_ hf_ => by subst hv_; exact inB_pan <| inB_pan <| play_pan hf_ rfl rfl (Mem.od (L' := [.blk b1 3 [.int .i64 0], .blk b4 3 [.int .i64 0]] ++ (runL C sj oAj ocj ++ [.map C.dB (inK .string (vK (dataTo cs cs.length)))])) (M16.cl hx_) [5, 5] 6 rfl) (fun w_ hX_ => ⟨5, 0, sj, oAj, ocj, hpa, rfl, hd ▸ hX_⟩)) ?_
 rintro _ w21 h_; exact h_.elim
 rename_i n
 rw [hq] at hpa
 refine zpn 3 <| zld ⟨C.r, 2, none⟩ (.map (some C.mB)) (blk_cell (M16.get 0 rfl) rfl) <| zpn 1 <| zlv (ht := Try.underlying84) (strLaw Try.underlying9) b (.int .i64 0) (M16.ro h0.mB0) true (v := (.tuple #[(.int .i64 n), (.bool true)])) (by rw [lkp_vK, hq]; rfl) <| zpn 5 <| zfe <| zsr <| zpn 3 <| zce (fault_f C.r w15) (fun _ _ h_ => h_.elim) ?_
 rintro _ w23 ⟨rfl, M24x⟩
 have M24 := M16.cl M24x
 refine zfe <| zrg <| zpn 2 ?_
 have hr2 : outS (runS C.E cs bg) = outS ((callS C.E (C.E.fuel.toNat + 1) n [] sj).bind fun _ s => playS C.E (C.E.fuel.toNat + 1) (bg.drop (j + 1)) s) := hpa
 have hro : RO (rS C sj oAj ocj) w23 C.ro := RC.ro_of (h0.pk_at (l := runL C sj oAj ocj) M24) (by rw [hd]; exact RO.pk_own (l := runL C sj oAj ocj) M24 0 rfl)
 refine zce (calls_all C hC (C.E.fuel.toNat + 1) n [] none 0 sj oAj ocj w23 hGj (by have := hGj.s1; have := hC.fuel; omega) (Mem.pk_holds (l := runL C sj oAj ocj) M24) hro RO.nil_ (by simp)) (fun _ w2_ ⟨k_, c_, s_, oA_, oc_, hg_, hv_, hG_, hx_⟩ a_ hf_ => by subst hv_; exact inB_pan <| inB_pan <| play_pan hf_ rfl rfl (Mem.od (L' := [.blk b1 3 [.int .i64 0], .blk b4 3 [.int .i64 0]] ++ (runL C s_ oA_ oc_ ++ [.map C.dB (inK .string (vK (dataTo cs cs.length)))])) (Mem.mdk (l := runL C sj oAj ocj) M24 hx_) [5, 5] 6 rfl) (fun w_ hX_ => ⟨k_, c_, s_, oA_, oc_, hr2.trans (outS_bind hg_), rfl, hd ▸ hX_⟩)) ?_
 rintro _ w30 ⟨xx25, s26, oA27, oc28, hgb29, rfl, hGs26, M31x⟩
 have M31 : Mem (lyP C) w w30 [.blk C.r 89 (rcells C s26 oA27 oc28), .row 2 1 (sM C.mG) C.E.memN C.E.memN (ints s26.mem), .row 5 1 oA27 s26.out.length oc28 (u8s s26.out), .map C.dB (inK .string (vK (dataTo cs cs.length))), .blk b1 3 [(.int .i64 0)], .blk b4 3 [(.int .i64 0)]] := M24.mdk M31x
 refine zkp [(0, (pT C.r 0)), (6, (pT b1 0)), (7, (pT b4 0)), (19, (.slice (some ad20) bg.length gc)), (20, (.int .i64 ((bg.length : Nat) : Int))), (21, (nV j))] <| zfe <| zrg <| zar ((j : Int) + 1) <| zpn 1 <| zfe ?_
 intro aC fr
 exact ⟨bg.length - (j + 1), by omega, j + 1, s26, oA27, oc28, rfl, fr.kp [0, 6, 7, 19, 20, 21], M31, by omega, hGs26, hr2.trans (outS_next hgb29)⟩
 refine zex 0 <| zbh <| zsr ?_
 have hfin := hrest.trans (congrArg outS (play_end (E := C.E) (g := (C.E.fuel.toNat + 1)) (s := sj) (by omega : bg.length ≤ j)))
 refine zsb (ho := (by simp)) M16 4 0 (.int .i64 1) rfl fun w34 M35 => ?_
 replace M35 := M35.nf
 refine zsb (ho := (by simp)) M35 5 0 (.int .i64 0) rfl fun w36 M37 => ?_
 replace M37 := M37.nf
 refine zfe <| zre ?_
 intro aC fr
 exact play_ret fr rfl rfl (Mem.od (L' := [.blk b1 3 [.int .i64 1], .blk b4 3 [.int .i64 0]] ++ (runL C sj oAj ocj ++ [.map C.dB (inK .string (vK (dataTo cs cs.length)))])) M37 [5, 5] 6 rfl) (fun w_ hX_ => ⟨1, 0, sj, oAj, ocj, hfin, rfl, hd ▸ hX_⟩)
end Go.Proofs.Ytjekgaabcigphaa
