/-
  Texts of the proof, part 14.
-/
import Derived.Test.YthgbejihcchcnaaDoorZt13
set_option maxRecDepth 10000
namespace Go.Proofs.YthgbejihcchcnaaDoor
open Go.Mor
theorem throughR_c (n pn p q m tm tp : Nat) (pl : List Int) (PA : Option Addr) (pc : Nat) (nm : ByteArray) (wk : Bool) (pa va : Int) (A : Option Addr) (c : Nat) (fs : List FBlk) (A1 A2 : Option Addr) (n1 c1 c2 : Nat) (tw0 : Int) (M0 : List (Int × Int)) (rO : List RowV) (SO : Int → Int → Bool) (w : World) (hN : fs.length ≤ 1000) (hok : FOk fs) (hA : RO (Res.pk [.blk q 3 [.int .i64 tw0], .map m (inK (Value.int .i64) (vM M0)), .blk p 4 [.bool true]]).fp w (.fn A fs)) (hpn : pa = (pn : Int)) (hpn2 : pn ≤ n) (hn2 : n ≤ 20000) (hln : pl.length = n) (hvr : ∀ x, x ∈ fs → VR n x) (hR : SetsR n fs.length rO SO) (hO : RO (Res.pk [.blk q 3 [.int .i64 tw0], .map m (inK (Value.int .i64) (vM M0)), .blk p 4 [.bool true]]).fp w (.rd A2 (slv rO))) (hFa : RO (Res.pk [.blk q 3 [.int .i64 tw0], .map m (inK (Value.int .i64) (vM M0)), .blk p 4 [.bool true]]).fp w (.fam 88 rO)) (hT : RO (Res.pk [.blk q 3 [.int .i64 tw0], .map m (inK (Value.int .i64) (vM M0)), .blk p 4 [.bool true]]).fp w (.rd (sM 0) tabL)) (htm : RO (Res.pk [.blk q 3 [.int .i64 tw0], .map m (inK (Value.int .i64) (vM M0)), .blk p 4 [.bool true]]).fp w (.blk tm 38 [.map (some m)])) (htp : RO (Res.pk [.blk q 3 [.int .i64 tw0], .map m (inK (Value.int .i64) (vM M0)), .blk p 4 [.bool true]]).fp w (.blk tp 25 [.slice PA pl.length pc])) (hpl : RO (Res.pk [.blk q 3 [.int .i64 tw0], .map m (inK (Value.int .i64) (vM M0)), .blk p 4 [.bool true]]).fp w (.rd PA (ints pl))) (hmm : (Res.pk [.blk q 3 [.int .i64 tw0], .map m (inK (Value.int .i64) (vM M0)), .blk p 4 [.bool true]]).holds w) :
    Calls Tryd.prog 19 #[(fA nm wk pa va A c fs), (.agg #[(.slice A1 n1 c1), (.slice A2 ((bsOf fs).length) c2)]), (.agg #[(.func (.func 21) #[] #[(pT tm 0), (pT q 0)]), (.func (.func 22) #[] #[(pT tm 0), (pT tp 0), (pT q 0)]), (.func (.func 23) #[] #[(pT tm 0), (pT tp 0), (pT q 0)]), (.func (.func 24) #[] #[(pT p 0), (pT q 0)])])] w (Ret fun u w' => ∃ M' tw', u = .tuple #[] ∧ Mem (Res.pk [.blk q 3 [.int .i64 tw0], .map m (inK (Value.int .i64) (vM M0)), .blk p 4 [.bool true]]).fp w w' [.blk q 3 [.int .i64 tw'], .map m (inK (Value.int .i64) (vM M')), .blk p 4 [.bool ((besTo n pn fs SO fs.length).all (sepP pl))]]) := by
 have hbl := bsOf_len fs
 have hm : (bsOf fs).length ≤ 1000000 := by omega
 have hB := hA.bs
 have hn1 : n ≤ 1000000 := by omega
 refine zen 137 [(fA nm wk pa va A c fs), (.agg #[(.slice A1 n1 c1), (.slice A2 ((bsOf fs).length) c2)]), (.agg #[(.func (.func 21) #[] #[(pT tm 0), (pT q 0)]), (.func (.func 22) #[] #[(pT tm 0), (pT tp 0), (pT q 0)]), (.func (.func 23) #[] #[(pT tm 0), (pT tp 0), (pT q 0)]), (.func (.func 24) #[] #[(pT p 0), (pT q 0)])])] Tryd.func19 ?_
 have hM := Mem.unpk hmm
 refine zsr <| zbx hM 24 (fA nm wk pa va A c fs) (fV nm wk pa va A c fs) fun b1 w2 hb1 M3 => ?_
 replace M3 := M3.nf
 clear hM
 refine zbx M3 42 (.agg #[(.slice A1 n1 c1), (.slice A2 ((bsOf fs).length) c2)]) [(.slice A1 n1 c1), (.slice A2 ((bsOf fs).length) c2)] fun b4 w5 hb4 M6 => ?_
 replace M6 := M6.nf
 refine zbx M6 46 (.agg #[(.func (.func 21) #[] #[(pT tm 0), (pT q 0)]), (.func (.func 22) #[] #[(pT tm 0), (pT tp 0), (pT q 0)]), (.func (.func 23) #[] #[(pT tm 0), (pT tp 0), (pT q 0)]), (.func (.func 24) #[] #[(pT p 0), (pT q 0)])]) [(.func (.func 21) #[] #[(pT tm 0), (pT q 0)]), (.func (.func 22) #[] #[(pT tm 0), (pT tp 0), (pT q 0)]), (.func (.func 23) #[] #[(pT tm 0), (pT tp 0), (pT q 0)]), (.func (.func 24) #[] #[(pT p 0), (pT q 0)])] fun b7 w8 hb7 M9 => ?_
 replace M9 := M9.nf
 refine zfe <| zsr <| zpn 1 <| zld ⟨b1, 4, none⟩ (.slice A ((bsOf fs).length) c) (blk_cell (M9.get 3 rfl) rfl) <| zpn 2 <| zfe <| zbk 0 ?_
 intro aC fr
 refine zlp (fun n_ a_ w_ => ∃ (k : Nat) (MK : List (Int × Int)) (tK : Int), n_ = fs.length - k ∧ Fr a_ 137 [(3, (pT b1 0)), (4, (pT b4 0)), (5, (pT b7 0)), (21, (.slice A ((bsOf fs).length) c)), (22, (.int .i64 (((bsOf fs).length : Nat) : Int))), (23, (nV k))] ∧ Mem (Res.pk [.blk q 3 [.int .i64 tw0], .map m (inK (Value.int .i64) (vM M0)), .blk p 4 [.bool true]]).fp w w_ [.blk q 3 [(.int .i64 tK)], .map m (inK (Value.int .i64) (vM MK)), .blk p 4 [(.bool ((besTo n pn fs SO k).all (sepP pl)))], .blk b1 24 (fV nm wk pa va A c fs), .blk b4 42 [(.slice A1 n1 c1), (.slice A2 ((bsOf fs).length) c2)], .blk b7 46 [(.func (.func 21) #[] #[(pT tm 0), (pT q 0)]), (.func (.func 22) #[] #[(pT tm 0), (pT tp 0), (pT q 0)]), (.func (.func 23) #[] #[(pT tm 0), (pT tp 0), (pT q 0)]), (.func (.func 24) #[] #[(pT p 0), (pT q 0)])]] ∧ (k ≤ fs.length)) (n := _) ⟨0, M0, tw0, rfl, fr.kp [3, 4, 5, 21, 22, 23], (M9.cast rfl), by omega⟩ ?_
 clear fr aC M9; rintro n aC w12 ⟨k, MK, tK, rfl, fr, M13, hk⟩
 revert aC
 refine zsp <| zsq <| zcD (((k : Int) : Int) < (((bsOf fs).length : Nat) : Int)) (fun c16 => ?_) (fun c16 => ?_)
 refine zsk <| zsq <| zbk 1 <| zsr ?_
 obtain ⟨x, hx⟩ := get_of (l := fs) (i := k) (by omega)
 have hl1 : x.phis.length ≤ 281474976710656 := (hok.get hx).lp
 have hl2 : x.insts.length ≤ 281474976710656 := (hok.get hx).li
 have hv := hvr x (List.mem_of_getElem? hx)
 refine zpn 1 ?_
 obtain ⟨ad17, rfl⟩ := blocks_some (M13.ro hB) (bsOf_get hx)
 refine zix ad17 ((bsOf fs).length) 6 (k : Int) <| zls ((ad17 : Addr).add (((k : Int)).toNat * 6)) (xV x) (fblk_get (M13.ro hB) rfl hx) <| zal M13 53 [(.slice none 0 0), (.slice none 0 0), (.int .i64 0), (.int .i64 0), (.int .i64 0), (.int .i64 0)] fun b18 w19 hb18 M20 => ?_
 replace M20 := M20.nf
 refine zpn 1 <| zss M20 6 (xV x) rfl fun w21 M22 => ?_
 replace M22 := M22.nf
 refine zfe <| zsr <| zpn 1 <| zld ⟨b7, 0, none⟩ (.func (.func 21) #[] #[(pT tm 0), (pT q 0)]) (blk_cell (M22.get 5 rfl) rfl) <| zcl (rbegin_c q m tm MK tK w21 (RO.pk_at (l := [.blk q 3 [(.int .i64 tK)], .map m (inK (Value.int .i64) (vM MK))]) htm M22) (Mem.pk_holds (l := [.blk q 3 [(.int .i64 tK)], .map m (inK (Value.int .i64) (vM MK))]) M22)) ?_
 rintro _ w23 ⟨rfl, M24x⟩
 have M24 : Mem (Res.pk [.blk q 3 [.int .i64 tw0], .map m (inK (Value.int .i64) (vM M0)), .blk p 4 [.bool true]]).fp w w23 [.blk q 3 [(.int .i64 0)], .map m (inK (Value.int .i64) (vM [])), .blk p 4 [(.bool ((besTo n pn fs SO k).all (sepP pl)))], .blk b1 24 (fV nm wk pa va (some ad17) c fs), .blk b4 42 [(.slice A1 n1 c1), (.slice A2 ((bsOf fs).length) c2)], .blk b7 46 [(.func (.func 21) #[] #[(pT tm 0), (pT q 0)]), (.func (.func 22) #[] #[(pT tm 0), (pT tp 0), (pT q 0)]), (.func (.func 23) #[] #[(pT tm 0), (pT tp 0), (pT q 0)]), (.func (.func 24) #[] #[(pT p 0), (pT q 0)])], .blk b18 53 (xV x)] := M22.mdk M24x
 refine zfe <| zsr ?_
 obtain ⟨Ak, ck, wsk, hrk, hSk⟩ := hR.at_ k (by omega)
 have hwl := hSk.len
 intro aC fr
 refine From_build0 (by kernel_rfl : coreAt _ 0 = some (some 31, (.buildSlice 83 0 #[]), 83, none)) fr (by kernel_rfl) (by kernel_rfl) (k' := 1) rfl (e := 88) (size := 1) (by kernel_rfl) (by kernel_rfl) M24 ?_
 intro b25 w26 hb25 _ M27 _ aC ea fr; clear ea
 replace M27 := M27.nf
 revert aC
 refine zpn 1 <| zld ⟨b4, 1, none⟩ (.slice A2 ((bsOf fs).length) c2) (blk_cell (M27.get 4 rfl) rfl) <| zkp [(3, (pT b1 0)), (4, (pT b4 0)), (5, (pT b7 0)), (6, (nV k)), (7, (pT b18 0)), (21, (.slice (some ad17) ((bsOf fs).length) c)), (22, (.int .i64 (((bsOf fs).length : Nat) : Int))), (23, (nV k)), (31, (.slice (sM b25) 0 0)), (33, (.slice A2 ((bsOf fs).length) c2))] <| zpn 1 ?_
 obtain ⟨ad32, rfl⟩ := rd_some (M27.ro hO) (by rw [slv_len, hR.len]; omega)
 refine zix ad32 ((bsOf fs).length) 1 (k : Int) <| zld ((ad32 : Addr).add (((k : Int)).toNat * 1)) (.slice Ak ((n + 63) / 64) ck) (rd_get1 (M27.ro hO) rfl (slv_get hrk)) ?_
 intro aC fr
 refine zAp 37 (.tmp 31) (.tmp 36) 83 83 fr (e := 88) (size := 1) (bytes := 8) (z := (.int .u64 0)) (A := (sM b25)) (B := Ak) (n := 0) (cap := 0) (m := ((n + 63) / 64)) (cap' := ck) (xs := []) (news := (u64s wsk)) M27 7 rfl (fam_rd (M27.ro hFa) hrk) (by rw [u64s_len, hSk.len, Nat.mul_one]) (by intro v hv; obtain ⟨x, _, rfl⟩ := List.mem_map.1 hv; rfl) (by omega) (by simp only [maxLen]; omega) ?_
 intro A33 c34 w35 M36 _ aC ea fr; clear ea
 replace M36 := M36.nf
 revert aC
 refine zkp [(3, (pT b1 0)), (4, (pT b4 0)), (5, (pT b7 0)), (6, (nV k)), (7, (pT b18 0)), (21, (.slice (some ad17) ((bsOf fs).length) c)), (22, (.int .i64 (((bsOf fs).length : Nat) : Int))), (23, (nV k)), (37, (.slice A33 (0 + ((n + 63) / 64)) c34))] ?_
 rw [Nat.zero_add]
 have M41 : Mem (Res.pk [.blk q 3 [.int .i64 tw0], .map m (inK (Value.int .i64) (vM M0)), .blk p 4 [.bool true]]).fp w w35 [.blk q 3 [(.int .i64 0)], .map m (inK (Value.int .i64) (vM [])), .blk p 4 [(.bool ((besTo n pn fs SO k).all (sepP pl)))], .blk b1 24 (fV nm wk pa va (some ad17) c fs), .blk b4 42 [(.slice A1 n1 c1), (.slice (some ad32) ((bsOf fs).length) c2)], .blk b7 46 [(.func (.func 21) #[] #[(pT tm 0), (pT q 0)]), (.func (.func 22) #[] #[(pT tm 0), (pT tp 0), (pT q 0)]), (.func (.func 23) #[] #[(pT tm 0), (pT tp 0), (pT q 0)]), (.func (.func 24) #[] #[(pT p 0), (pT q 0)])], .blk b18 53 (xV x), .row 88 1 A33 ((n + 63) / 64) c34 (u64s wsk)] := M36.cast (by simp only [Nat.zero_add])
 refine zal M41 83 [(.slice none 0 0)] fun b42 w43 hb42 M44 => ?_
 replace M44 := M44.nf
 refine zsb M44 8 0 (.slice A33 ((n + 63) / 64) c34) rfl fun w45 M46 => ?_
 replace M46 := M46.nf
 refine zfe <| zsq <| zsr <| zld ⟨b42, 0, none⟩ (.slice A33 ((n + 63) / 64) c34) (blk_cell (M46.get 8 rfl) rfl) <| zcl (each_c wsk ((n + 63) / 64) A33 c34 w45 hSk.fit hwl.symm (by omega) (RO.row_rd (M46.own_ro 7 rfl)) (hT.at_ M46)) ?_
 rintro _ w49 ⟨A47, c48, rfl, M50x⟩
 have M50 := M46.cl M50x
 refine zkp [(3, (pT b1 0)), (4, (pT b4 0)), (5, (pT b7 0)), (6, (nV k)), (7, (pT b18 0)), (8, (pT b42 0)), (21, (.slice (some ad17) ((bsOf fs).length) c)), (22, (.int .i64 (((bsOf fs).length : Nat) : Int))), (23, (nV k)), (39, (.slice A47 (((eachN wsk 0).map (fun i : Nat => (i : Int))).length) c48))] ?_
 rw [hSk.each]
 have M51 : Mem (Res.pk [.blk q 3 [.int .i64 tw0], .map m (inK (Value.int .i64) (vM M0)), .blk p 4 [.bool true]]).fp w w49 [.blk q 3 [(.int .i64 0)], .map m (inK (Value.int .i64) (vM [])), .blk p 4 [(.bool ((besTo n pn fs SO k).all (sepP pl)))], .blk b1 24 (fV nm wk pa va (some ad17) c fs), .blk b4 42 [(.slice A1 n1 c1), (.slice (some ad32) ((bsOf fs).length) c2)], .blk b7 46 [(.func (.func 21) #[] #[(pT tm 0), (pT q 0)]), (.func (.func 22) #[] #[(pT tm 0), (pT tp 0), (pT q 0)]), (.func (.func 23) #[] #[(pT tm 0), (pT tp 0), (pT q 0)]), (.func (.func 24) #[] #[(pT p 0), (pT q 0)])], .blk b18 53 (xV x), .row 88 1 A33 ((n + 63) / 64) c34 (u64s wsk), .blk b42 83 [(.slice A33 ((n + 63) / 64) c34)], .row 3 1 A47 ((listS n (SO (k : Int))).length) c48 (ints (listS n (SO (k : Int))))] := M50.cast (by rw [hSk.each])
 have hll : (listS n (SO (k : Int))).length ≤ n := cardS_le
 refine zpn 2 <| zfe <| zbk 2 ?_
 intro aC fr
 refine zlp (fun n_ a_ w_ => ∃ (i : Nat) (M1 : List (Int × Int)) (tw1 : Int), n_ = (listS n (SO (k : Int))).length - i ∧ Fr a_ 137 [(3, (pT b1 0)), (4, (pT b4 0)), (5, (pT b7 0)), (6, (nV k)), (7, (pT b18 0)), (8, (pT b42 0)), (21, (.slice (some ad17) ((bsOf fs).length) c)), (22, (.int .i64 (((bsOf fs).length : Nat) : Int))), (23, (nV k)), (39, (.slice A47 ((listS n (SO (k : Int))).length) c48)), (40, (.int .i64 (((listS n (SO (k : Int))).length : Nat) : Int))), (41, (nV i))] ∧ Mem (Res.pk [.blk q 3 [.int .i64 tw0], .map m (inK (Value.int .i64) (vM M0)), .blk p 4 [.bool true]]).fp w w_ [.blk q 3 [(.int .i64 tw1)], .map m (inK (Value.int .i64) (vM M1)), .blk p 4 [(.bool ((besTo n pn fs SO k).all (sepP pl)))], .blk b1 24 (fV nm wk pa va (some ad17) c fs), .blk b4 42 [(.slice A1 n1 c1), (.slice (some ad32) ((bsOf fs).length) c2)], .blk b7 46 [(.func (.func 21) #[] #[(pT tm 0), (pT q 0)]), (.func (.func 22) #[] #[(pT tm 0), (pT tp 0), (pT q 0)]), (.func (.func 23) #[] #[(pT tm 0), (pT tp 0), (pT q 0)]), (.func (.func 24) #[] #[(pT p 0), (pT q 0)])], .blk b18 53 (xV x), .row 88 1 A33 ((n + 63) / 64) c34 (u64s wsk), .blk b42 83 [(.slice A33 ((n + 63) / 64) c34)], .row 3 1 A47 ((listS n (SO (k : Int))).length) c48 (ints (listS n (SO (k : Int))))] ∧ (i ≤ (listS n (SO (k : Int))).length) ∧ (Fits n pl (memS ((listS n (SO (k : Int))).take i)) M1 tw1)) (n := _) ⟨0, [], 0, rfl, fr.kp [3, 4, 5, 6, 7, 8, 21, 22, 23, 39, 40, 41], M51, by omega, by rw [List.take_zero, memS_nil]; exact Fits.none⟩ ?_
 clear fr aC M51; rintro n aC w54 ⟨i, M1, tw1, rfl, fr, M55, hi, hY1⟩
 revert aC
 refine zsp <| zsq <| zcD (((i : Int) : Int) < (((listS n (SO (k : Int))).length : Nat) : Int)) (fun c58 => ?_) (fun c58 => ?_)
 refine zsk <| zsq <| zbk 3 <| zsr ?_
 obtain ⟨a1, ha1⟩ := get_of (l := (listS n (SO (k : Int)))) (i := i) (by omega)
 obtain ⟨ha1a, ha1b⟩ := listS_in a1 (List.mem_of_getElem? ha1)
 obtain ⟨a9, rfl⟩ := Int.eq_ofNat_of_zero_le ha1a
 obtain ⟨g60, rfl⟩ := row_some (M55.get 9 rfl) (by omega)
 refine zix ⟨g60, 0, none⟩ ((listS n (SO (k : Int))).length) 1 (i : Int) <| zld ((⟨g60, 0, none⟩ : Addr).add (((i : Int)).toNat * 1)) (nV a9) (rd_at (row_rd (M55.get 9 rfl)) rfl ha1) <| zpn 1 <| zfe <| zrg <| zpn 1 <| zld ⟨b7, 1, none⟩ (.func (.func 22) #[] #[(pT tm 0), (pT tp 0), (pT q 0)]) (blk_cell (M55.get 5 rfl) rfl) <| zpn 1 <| zcl (rmore_c q m tm M1 tw1 n pl PA pc tp a9 w54 (by omega) (hY1.btw (by omega)) (hY1.bcn (by omega)) (RO.pk_at (l := [.blk q 3 [(.int .i64 tw1)], .map m (inK (Value.int .i64) (vM M1))]) htm M55) (RO.pk_at (l := [.blk q 3 [(.int .i64 tw1)], .map m (inK (Value.int .i64) (vM M1))]) htp M55) (RO.pk_at (l := [.blk q 3 [(.int .i64 tw1)], .map m (inK (Value.int .i64) (vM M1))]) hpl M55) (Mem.pk_holds (l := [.blk q 3 [(.int .i64 tw1)], .map m (inK (Value.int .i64) (vM M1))]) M55)) ?_
 rintro _ w61 ⟨rfl, M62x⟩
 have M62 : Mem (Res.pk [.blk q 3 [.int .i64 tw0], .map m (inK (Value.int .i64) (vM M0)), .blk p 4 [.bool true]]).fp w w61 [.blk q 3 [(.int .i64 (twUp pl M1 a9 tw1))], .map m (inK (Value.int .i64) (vM (cntUp pl M1 a9 1))), .blk p 4 [(.bool ((besTo n pn fs SO k).all (sepP pl)))], .blk b1 24 (fV nm wk pa va (some ad17) c fs), .blk b4 42 [(.slice A1 n1 c1), (.slice (some ad32) ((bsOf fs).length) c2)], .blk b7 46 [(.func (.func 21) #[] #[(pT tm 0), (pT q 0)]), (.func (.func 22) #[] #[(pT tm 0), (pT tp 0), (pT q 0)]), (.func (.func 23) #[] #[(pT tm 0), (pT tp 0), (pT q 0)]), (.func (.func 24) #[] #[(pT p 0), (pT q 0)])], .blk b18 53 (xV x), .row 88 1 A33 ((n + 63) / 64) c34 (u64s wsk), .blk b42 83 [(.slice A33 ((n + 63) / 64) c34)], .row 3 1 (sM g60) ((listS n (SO (k : Int))).length) c48 (ints (listS n (SO (k : Int))))] := M55.mdk M62x
 refine zfe <| zrg <| zar ((i : Int) + 1) <| zpn 1 <| zfe ?_
 intro aC fr
 exact ⟨(listS n (SO (k : Int))).length - (i + 1), by omega, i + 1, (cntUp pl M1 a9 1), (twUp pl M1 a9 tw1), rfl, fr.kp [3, 4, 5, 6, 7, 8, 21, 22, 23, 39, 40, 41], M62, by omega, by rw [memS_next ha1]; exact hY1.put (by omega) (by omega) (memS_new listS_nodup ha1)⟩
 refine zex 2 <| zbh <| zsr ?_
 have hY2 : Fits n pl (SO (k : Int)) M1 tw1 := by rw [List.take_of_length_le (by omega)] at hY1; exact hY1.congr memS_all
 have M65 := M55.od [8, 8, 8, 8, 8, 8, 8, 8, 8] 9
 have M66 := M65.od [8, 7, 7, 7, 7, 7, 7, 7, 8] 9
 refine zpn 2 <| zfe <| zsp <| zsq ?_
 intro aC fr
 refine W_cut (fun a_ w_ => ∃ (wsA : List Nat) (MA : List (Int × Int)) (twA : Int), Fr a_ 137 [(3, (pT b1 0)), (4, (pT b4 0)), (5, (pT b7 0)), (6, (nV k)), (7, (pT b18 0)), (11, (.func (.func 46) #[] #[(pT b42 0), (pT b7 0)])), (12, (.func (.func 49) #[] #[(pT b42 0), (pT b7 0)])), (21, (.slice (some ad17) ((bsOf fs).length) c)), (22, (.int .i64 (((bsOf fs).length : Nat) : Int))), (23, (nV k))] ∧ Mem (Res.pk [.blk q 3 [.int .i64 tw0], .map m (inK (Value.int .i64) (vM M0)), .blk p 4 [.bool true]]).fp w w_ [.row 88 1 A33 ((n + 63) / 64) c34 (u64s wsA), .blk q 3 [(.int .i64 twA)], .map m (inK (Value.int .i64) (vM MA)), .blk p 4 [(.bool ((besTo n pn fs SO k).all (sepP pl)))], .blk b1 24 (fV nm wk pa va (some ad17) c fs), .blk b4 42 [(.slice A1 n1 c1), (.slice (some ad32) ((bsOf fs).length) c2)], .blk b7 46 [(.func (.func 21) #[] #[(pT tm 0), (pT q 0)]), (.func (.func 22) #[] #[(pT tm 0), (pT tp 0), (pT q 0)]), (.func (.func 23) #[] #[(pT tm 0), (pT tp 0), (pT q 0)]), (.func (.func 24) #[] #[(pT p 0), (pT q 0)])], .blk b18 53 (xV x), .blk b42 83 [(.slice A33 ((n + 63) / 64) c34)]] ∧ (SetW n wsA (endR x (SO (k : Int)))) ∧ (Fits n pl (endR x (SO (k : Int))) MA twA)) ?_ ?_
 clear fr aC M66; rintro aC w69 ⟨wsA, MA, twA, fr, M70, hSA, hYA⟩
 revert aC
 refine zsq <| zsr <| zpn 1 <| zld ⟨b18, 1, none⟩ (.slice x.iA x.insts.length x.ic) (blk_cell (M70.get 7 rfl) rfl) <| zpn 1 <| zar (((x.insts.length : Nat) : Int) - 1) <| zpn 1 <| zfe <| zbk 4 ?_
 intro aC fr
 refine zlp (fun n_ a_ w_ => ∃ (j : Nat) (iv : Int) (ws2 : List Nat) (M2 : List (Int × Int)) (tw2 : Int), n_ = 2 * j ∧ Fr a_ 137 [(3, (pT b1 0)), (4, (pT b4 0)), (5, (pT b7 0)), (6, (nV k)), (7, (pT b18 0)), (11, (.func (.func 46) #[] #[(pT b42 0), (pT b7 0)])), (12, (.func (.func 49) #[] #[(pT b42 0), (pT b7 0)])), (13, (.int .i64 iv)), (21, (.slice (some ad17) ((bsOf fs).length) c)), (22, (.int .i64 (((bsOf fs).length : Nat) : Int))), (23, (nV k))] ∧ Mem (Res.pk [.blk q 3 [.int .i64 tw0], .map m (inK (Value.int .i64) (vM M0)), .blk p 4 [.bool true]]).fp w w_ [.row 88 1 A33 ((n + 63) / 64) c34 (u64s ws2), .blk q 3 [(.int .i64 tw2)], .map m (inK (Value.int .i64) (vM M2)), .blk p 4 [(.bool (((besTo n pn fs SO k).all (sepP pl)) && (plL n (x.insts.drop j) (endR x (SO (k : Int)))).all (sepP pl)))], .blk b1 24 (fV nm wk pa va (some ad17) c fs), .blk b4 42 [(.slice A1 n1 c1), (.slice (some ad32) ((bsOf fs).length) c2)], .blk b7 46 [(.func (.func 21) #[] #[(pT tm 0), (pT q 0)]), (.func (.func 22) #[] #[(pT tm 0), (pT tp 0), (pT q 0)]), (.func (.func 23) #[] #[(pT tm 0), (pT tp 0), (pT q 0)]), (.func (.func 24) #[] #[(pT p 0), (pT q 0)])], .blk b18 53 (xV x), .blk b42 83 [(.slice A33 ((n + 63) / 64) c34)]] ∧ (j ≤ x.insts.length) ∧ (iv = (j : Int) - 1) ∧ (SetW n ws2 (intoB (x.insts.drop j) (endR x (SO (k : Int))))) ∧ (Fits n pl (intoB (x.insts.drop j) (endR x (SO (k : Int)))) M2 tw2)) (n := _) ⟨x.insts.length, (((x.insts.length : Nat) : Int) - 1), wsA, MA, twA, rfl, fr.kp [3, 4, 5, 6, 7, 11, 12, 13, 21, 22, 23], (M70.cast (by rw [List.drop_length, plL, List.all_nil, Bool.and_true])), by omega, by omega, by rw [intoB_end]; exact hSA, by rw [intoB_end]; exact hYA⟩ ?_
 clear fr aC M70; rintro n aC w75 ⟨j, iv, ws2, M2, tw2, rfl, fr, M76, hj, hiv, hS2, hFb⟩
 revert aC
 refine zsq <| zsp <| zcD ((iv : Int) ≥ 0) (fun c79 => ?_) (fun c79 => ?_)
 refine zsk <| zsq <| zbk 5 <| zsr ?_
 obtain ⟨j0, rfl⟩ : ∃ j0, j = j0 + 1 := ⟨j - 1, by omega⟩
 obtain rfl : iv = (j0 : Int) := by omega
 obtain ⟨p3, hp3⟩ := get_of (l := x.insts) (i := j0) (by omega)
 obtain ⟨hpd0, hpd1, hpa⟩ := hv.insts p3 (List.mem_of_getElem? hp3)
 have hpl3 : p3.args.length ≤ 281474976710656 := ((hok.get hx).insts p3 (List.mem_of_getElem? hp3)).len
 refine zpn 1 <| zld ⟨b18, 1, none⟩ (.slice x.iA x.insts.length x.ic) (blk_cell (M76.get 7 rfl) rfl) <| zpn 1 ?_
 obtain ⟨ad80, had81⟩ := rds_some (M76.ro (hA.insts hx)) (cs := p3.cells) (i := j0) (by simp [hp3])
 intro aC fr
 refine From_ixA (some 80) x.iA ad80 x.insts.length 5 (j0 : Int) fr (by kernel_rfl) had81 (by omega) (by omega) ?_
 intro aC fr
 revert aC
 refine zls ((ad80 : Addr).add (((j0 : Int)).toNat * 5)) (iV p3) (ins_get (M76.ro (hA.insts hx)) had81 hp3) <| zal M76 57 [(.int .i64 0), (.int .i64 0), (.int .i64 0), (.string ⟨#[]⟩), (.slice none 0 0)] fun b86 w87 hb86 M88 => ?_
 replace M88 := M88.nf
 refine zss M88 9 (iV p3) rfl fun w89 M90 => ?_
 replace M90 := M90.nf
 refine zfe <| zsq ?_
 intro aC fr
 refine W_cut (fun a_ w_ => ∃ (wsB : List Nat) (MB : List (Int × Int)) (twB : Int), Fr a_ 137 [(3, (pT b1 0)), (4, (pT b4 0)), (5, (pT b7 0)), (6, (nV k)), (7, (pT b18 0)), (11, (.func (.func 46) #[] #[(pT b42 0), (pT b7 0)])), (12, (.func (.func 49) #[] #[(pT b42 0), (pT b7 0)])), (13, (nV j0)), (14, (pT b86 0)), (21, (.slice (some ad17) ((bsOf fs).length) c)), (22, (.int .i64 (((bsOf fs).length : Nat) : Int))), (23, (nV k))] ∧ Mem (Res.pk [.blk q 3 [.int .i64 tw0], .map m (inK (Value.int .i64) (vM M0)), .blk p 4 [.bool true]]).fp w w_ [.row 88 1 A33 ((n + 63) / 64) c34 (u64s wsB), .blk q 3 [(.int .i64 twB)], .map m (inK (Value.int .i64) (vM MB)), .blk p 4 [(.bool (((besTo n pn fs SO k).all (sepP pl)) && (plL n (x.insts.drop (j0 + 1)) (endR x (SO (k : Int)))).all (sepP pl)))], .blk b1 24 (fV nm wk pa va (some ad17) c fs), .blk b4 42 [(.slice A1 n1 c1), (.slice (some ad32) ((bsOf fs).length) c2)], .blk b7 46 [(.func (.func 21) #[] #[(pT tm 0), (pT q 0)]), (.func (.func 22) #[] #[(pT tm 0), (pT tp 0), (pT q 0)]), (.func (.func 23) #[] #[(pT tm 0), (pT tp 0), (pT q 0)]), (.func (.func 24) #[] #[(pT p 0), (pT q 0)])], .blk b18 53 (xV x), .blk b42 83 [(.slice A33 ((n + 63) / 64) c34)], .blk b86 57 (iV p3)] ∧ (SetW n wsB (putD (intoB (x.insts.drop (j0 + 1)) (endR x (SO (k : Int)))) p3.dst)) ∧ (Fits n pl (putD (intoB (x.insts.drop (j0 + 1)) (endR x (SO (k : Int)))) p3.dst) MB twB)) ?_ ?_
 clear fr aC M90; rintro aC w93 ⟨wsB, MB, twB, fr, M94, hSB, hYB⟩
 revert aC
 refine zsr <| zpn 1 <| zld ⟨b7, 3, none⟩ (.func (.func 24) #[] #[(pT p 0), (pT q 0)]) (blk_cell (M94.get 6 rfl) rfl) <| zcl ((by have h := rplc_c p q (((besTo n pn fs SO k).all (sepP pl)) && (plL n (x.insts.drop (j0 + 1)) (endR x (SO (k : Int)))).all (sepP pl)) twB w93 (M94.get 3 rfl) (M94.own_but 1 3 rfl rfl (by decide)); rw [hYB.sep (by omega)] at h; exact h)) ?_
 rintro _ w97 ⟨rfl, M98x⟩
 have M98 := M94.md 3 rfl M98x
 refine zfe <| zsq ?_
 intro aC fr
 refine W_cut (fun a_ w_ => ∃ (wsC : List Nat) (MC : List (Int × Int)) (twC : Int), Fr a_ 137 [(3, (pT b1 0)), (4, (pT b4 0)), (5, (pT b7 0)), (6, (nV k)), (7, (pT b18 0)), (11, (.func (.func 46) #[] #[(pT b42 0), (pT b7 0)])), (12, (.func (.func 49) #[] #[(pT b42 0), (pT b7 0)])), (13, (nV j0)), (14, (pT b86 0)), (21, (.slice (some ad17) ((bsOf fs).length) c)), (22, (.int .i64 (((bsOf fs).length : Nat) : Int))), (23, (nV k))] ∧ Mem (Res.pk [.blk q 3 [.int .i64 tw0], .map m (inK (Value.int .i64) (vM M0)), .blk p 4 [.bool true]]).fp w w_ [.row 88 1 A33 ((n + 63) / 64) c34 (u64s wsC), .blk q 3 [(.int .i64 twC)], .map m (inK (Value.int .i64) (vM MC)), .blk p 4 [(.bool ((((besTo n pn fs SO k).all (sepP pl)) && (plL n (x.insts.drop (j0 + 1)) (endR x (SO (k : Int)))).all (sepP pl)) && sepP pl (listS n (putD (intoB (x.insts.drop (j0 + 1)) (endR x (SO (k : Int)))) p3.dst))))], .blk b1 24 (fV nm wk pa va (some ad17) c fs), .blk b4 42 [(.slice A1 n1 c1), (.slice (some ad32) ((bsOf fs).length) c2)], .blk b7 46 [(.func (.func 21) #[] #[(pT tm 0), (pT q 0)]), (.func (.func 22) #[] #[(pT tm 0), (pT tp 0), (pT q 0)]), (.func (.func 23) #[] #[(pT tm 0), (pT tp 0), (pT q 0)]), (.func (.func 24) #[] #[(pT p 0), (pT q 0)])], .blk b18 53 (xV x), .blk b42 83 [(.slice A33 ((n + 63) / 64) c34)], .blk b86 57 (iV p3)] ∧ (SetW n wsC (takeD (intoB (x.insts.drop (j0 + 1)) (endR x (SO (k : Int)))) p3.dst)) ∧ (Fits n pl (takeD (intoB (x.insts.drop (j0 + 1)) (endR x (SO (k : Int)))) p3.dst) MC twC)) ?_ ?_
 clear fr aC M98; rintro aC w101 ⟨wsC, MC, twC, fr, M102, hSC, hYC⟩
 revert aC
 refine zsr <| zpn 1 <| zld ⟨b86, 4, none⟩ (.slice p3.A p3.args.length p3.c) (blk_cell (M102.get 9 rfl) rfl) <| zpn 2 <| zfe <| zbk 6 ?_
 intro aC fr
 refine zlp (fun n_ a_ w_ => ∃ (kk : Nat) (ws6 : List Nat) (M6 : List (Int × Int)) (tw6 : Int), n_ = p3.args.length - kk ∧ Fr a_ 137 [(3, (pT b1 0)), (4, (pT b4 0)), (5, (pT b7 0)), (6, (nV k)), (7, (pT b18 0)), (11, (.func (.func 46) #[] #[(pT b42 0), (pT b7 0)])), (12, (.func (.func 49) #[] #[(pT b42 0), (pT b7 0)])), (13, (nV j0)), (21, (.slice (some ad17) ((bsOf fs).length) c)), (22, (.int .i64 (((bsOf fs).length : Nat) : Int))), (23, (nV k)), (100, (.slice p3.A p3.args.length p3.c)), (101, (.int .i64 ((p3.args.length : Nat) : Int))), (102, (nV kk))] ∧ Mem (Res.pk [.blk q 3 [.int .i64 tw0], .map m (inK (Value.int .i64) (vM M0)), .blk p 4 [.bool true]]).fp w w_ [.row 88 1 A33 ((n + 63) / 64) c34 (u64s ws6), .blk q 3 [(.int .i64 tw6)], .map m (inK (Value.int .i64) (vM M6)), .blk p 4 [(.bool ((((besTo n pn fs SO k).all (sepP pl)) && (plL n (x.insts.drop (j0 + 1)) (endR x (SO (k : Int)))).all (sepP pl)) && sepP pl (listS n (putD (intoB (x.insts.drop (j0 + 1)) (endR x (SO (k : Int)))) p3.dst))))], .blk b1 24 (fV nm wk pa va (some ad17) c fs), .blk b4 42 [(.slice A1 n1 c1), (.slice (some ad32) ((bsOf fs).length) c2)], .blk b7 46 [(.func (.func 21) #[] #[(pT tm 0), (pT q 0)]), (.func (.func 22) #[] #[(pT tm 0), (pT tp 0), (pT q 0)]), (.func (.func 23) #[] #[(pT tm 0), (pT tp 0), (pT q 0)]), (.func (.func 24) #[] #[(pT p 0), (pT q 0)])], .blk b18 53 (xV x), .blk b42 83 [(.slice A33 ((n + 63) / 64) c34)], .blk b86 57 (iV p3)] ∧ (kk ≤ p3.args.length) ∧ (SetW n ws6 (addL (takeD (intoB (x.insts.drop (j0 + 1)) (endR x (SO (k : Int)))) p3.dst) (p3.args.take kk))) ∧ (Fits n pl (addL (takeD (intoB (x.insts.drop (j0 + 1)) (endR x (SO (k : Int)))) p3.dst) (p3.args.take kk)) M6 tw6)) (n := _) ⟨0, wsC, MC, twC, rfl, fr.kp [3, 4, 5, 6, 7, 11, 12, 13, 21, 22, 23, 100, 101, 102], M102, by omega, by rw [List.take_zero, addL_nil]; exact hSC, by rw [List.take_zero, addL_nil]; exact hYC⟩ ?_
 clear fr aC M102; rintro n aC w107 ⟨kk, ws6, M6, tw6, rfl, fr, M108, hkk, hS6, hY6⟩
 revert aC
 refine zsp <| zsq <| zcD (((kk : Int) : Int) < ((p3.args.length : Nat) : Int)) (fun c111 => ?_) (fun c111 => ?_)
 refine zsk <| zsq <| zbk 7 <| zsr ?_
 obtain ⟨a0, ha⟩ := get_of (l := p3.args) (i := kk) (by omega)
 obtain ⟨ha0, ha1⟩ := hpa a0 (List.mem_of_getElem? ha)
 obtain ⟨an, rfl⟩ := Int.eq_ofNat_of_zero_le ha0
 obtain ⟨ad112, had113⟩ := rd_some (M108.ro (hA.inst hx hp3)) (by simp [ints]; omega)
 intro aC fr
 refine From_ixA (some 104) p3.A ad112 p3.args.length 1 (kk : Int) fr (by kernel_rfl) had113 (by omega) (by omega) ?_
 intro aC fr
 revert aC
 refine zld ((ad112 : Addr).add (((kk : Int)).toNat * 1)) (nV an) (rd_at (M108.ro (hA.inst hx hp3)) had113 ha) <| zpn 1 <| zfe <| zrg <| zpn 2 <| zcl (tmore_c n an b42 b7 p q m tm tp pl PA pc A33 c34 ws6 (addL (takeD (intoB (x.insts.drop (j0 + 1)) (endR x (SO (k : Int)))) p3.dst) (p3.args.take kk)) M6 tw6 w107 hn2 hln (by omega) hS6 hY6 (RO.pk_own (l := [.row 88 1 A33 ((n + 63) / 64) c34 (u64s ws6), .blk q 3 [(.int .i64 tw6)], .map m (inK (Value.int .i64) (vM M6))]) M108 5 rfl) (RO.pk_own (l := [.row 88 1 A33 ((n + 63) / 64) c34 (u64s ws6), .blk q 3 [(.int .i64 tw6)], .map m (inK (Value.int .i64) (vM M6))]) M108 3 rfl) (RO.pk_at (l := [.row 88 1 A33 ((n + 63) / 64) c34 (u64s ws6), .blk q 3 [(.int .i64 tw6)], .map m (inK (Value.int .i64) (vM M6))]) htm M108) (RO.pk_at (l := [.row 88 1 A33 ((n + 63) / 64) c34 (u64s ws6), .blk q 3 [(.int .i64 tw6)], .map m (inK (Value.int .i64) (vM M6))]) htp M108) (RO.pk_at (l := [.row 88 1 A33 ((n + 63) / 64) c34 (u64s ws6), .blk q 3 [(.int .i64 tw6)], .map m (inK (Value.int .i64) (vM M6))]) hpl M108) (Mem.pk_holds (l := [.row 88 1 A33 ((n + 63) / 64) c34 (u64s ws6), .blk q 3 [(.int .i64 tw6)], .map m (inK (Value.int .i64) (vM M6))]) M108)) ?_
 rintro _ w123 ⟨ws118, M120, tw121, rfl, hS119, hY122, M124x⟩
 have M124 : Mem (Res.pk [.blk q 3 [.int .i64 tw0], .map m (inK (Value.int .i64) (vM M0)), .blk p 4 [.bool true]]).fp w w123 [.row 88 1 A33 ((n + 63) / 64) c34 (u64s ws118), .blk q 3 [(.int .i64 tw121)], .map m (inK (Value.int .i64) (vM M120)), .blk p 4 [(.bool ((((besTo n pn fs SO k).all (sepP pl)) && (plL n (x.insts.drop (j0 + 1)) (endR x (SO (k : Int)))).all (sepP pl)) && sepP pl (listS n (putD (intoB (x.insts.drop (j0 + 1)) (endR x (SO (k : Int)))) p3.dst))))], .blk b1 24 (fV nm wk pa va (some ad17) c fs), .blk b4 42 [(.slice A1 n1 c1), (.slice (some ad32) ((bsOf fs).length) c2)], .blk b7 46 [(.func (.func 21) #[] #[(pT tm 0), (pT q 0)]), (.func (.func 22) #[] #[(pT tm 0), (pT tp 0), (pT q 0)]), (.func (.func 23) #[] #[(pT tm 0), (pT tp 0), (pT q 0)]), (.func (.func 24) #[] #[(pT p 0), (pT q 0)])], .blk b18 53 (xV x), .blk b42 83 [(.slice A33 ((n + 63) / 64) c34)], .blk b86 57 (iV p3)] := M108.mdk M124x
 refine zfe <| zrg <| zar ((kk : Int) + 1) <| zpn 1 <| zfe ?_
 intro aC fr
 exact ⟨p3.args.length - (kk + 1), by omega, kk + 1, ws118, M120, tw121, rfl, fr.kp [3, 4, 5, 6, 7, 11, 12, 13, 21, 22, 23, 100, 101, 102], M124, by omega, by rw [← addL_next ha]; exact hS119, by rw [← addL_next ha]; exact hY122⟩
 refine zex 6 <| zbh <| zrg ?_
 have hBj : (addL (takeD (intoB (x.insts.drop (j0 + 1)) (endR x (SO (k : Int)))) p3.dst) (p3.args.take kk)) = (intoB (x.insts.drop j0) (endR x (SO (k : Int)))) := by rw [intoB_drop hp3, insS, show kk = p3.args.length by omega, List.take_length]
 have hPj : ((((besTo n pn fs SO k).all (sepP pl)) && (plL n (x.insts.drop (j0 + 1)) (endR x (SO (k : Int)))).all (sepP pl)) && sepP pl (listS n (putD (intoB (x.insts.drop (j0 + 1)) (endR x (SO (k : Int)))) p3.dst))) = (((besTo n pn fs SO k).all (sepP pl)) && (plL n (x.insts.drop j0) (endR x (SO (k : Int)))).all (sepP pl)) := by rw [plL_drop hp3, List.all_cons]; exact and3 _ _ _
 refine zpn 1 <| zar ((j0 : Int) - 1) <| zpn 1 <| zfe ?_
 have M127 : Mem (Res.pk [.blk q 3 [.int .i64 tw0], .map m (inK (Value.int .i64) (vM M0)), .blk p 4 [.bool true]]).fp w w107 [.row 88 1 A33 ((n + 63) / 64) c34 (u64s ws6), .blk q 3 [(.int .i64 tw6)], .map m (inK (Value.int .i64) (vM M6)), .blk p 4 [(.bool (((besTo n pn fs SO k).all (sepP pl)) && (plL n (x.insts.drop j0) (endR x (SO (k : Int)))).all (sepP pl)))], .blk b1 24 (fV nm wk pa va (some ad17) c fs), .blk b4 42 [(.slice A1 n1 c1), (.slice (some ad32) ((bsOf fs).length) c2)], .blk b7 46 [(.func (.func 21) #[] #[(pT tm 0), (pT q 0)]), (.func (.func 22) #[] #[(pT tm 0), (pT tp 0), (pT q 0)]), (.func (.func 23) #[] #[(pT tm 0), (pT tp 0), (pT q 0)]), (.func (.func 24) #[] #[(pT p 0), (pT q 0)])], .blk b18 53 (xV x), .blk b42 83 [(.slice A33 ((n + 63) / 64) c34)], .blk b86 57 (iV p3)] := M108.cast (by rw [hPj])
 intro aC fr
 exact ⟨2 * j0, by omega, j0, ((j0 : Int) - 1), ws6, M6, tw6, rfl, fr.kp [3, 4, 5, 6, 7, 11, 12, 13, 21, 22, 23], (M127.tk 9), by omega, by omega, by rw [← hBj]; exact hS6, by rw [← hBj]; exact hY6⟩
 revert aC
 refine zsr <| zpn 1 <| zld ⟨b86, 1, none⟩ (.int .i64 p3.dst) (blk_cell (M98.get 9 rfl) rfl) <| zpn 1 <| zfe <| zcD ((p3.dst : Int) ≥ 0) (fun c130 => ?_) (fun c130 => ?_)
 obtain ⟨dn, hdn⟩ := Int.eq_ofNat_of_zero_le (show 0 ≤ p3.dst by omega)
 refine zrg <| zpn 2 <| zld ⟨b86, 1, none⟩ (.int .i64 (dn : Int)) (by rw [← hdn]; exact blk_cell (M98.get 9 rfl) rfl) <| zcl (tless_c n dn b42 b7 p q m tm tp pl PA pc A33 c34 wsB (putD (intoB (x.insts.drop (j0 + 1)) (endR x (SO (k : Int)))) p3.dst) MB twB w97 hn2 hln (by omega) hSB hYB (RO.pk_own (l := [.row 88 1 A33 ((n + 63) / 64) c34 (u64s wsB), .blk q 3 [(.int .i64 twB)], .map m (inK (Value.int .i64) (vM MB))]) M98 5 rfl) (RO.pk_own (l := [.row 88 1 A33 ((n + 63) / 64) c34 (u64s wsB), .blk q 3 [(.int .i64 twB)], .map m (inK (Value.int .i64) (vM MB))]) M98 3 rfl) (RO.pk_at (l := [.row 88 1 A33 ((n + 63) / 64) c34 (u64s wsB), .blk q 3 [(.int .i64 twB)], .map m (inK (Value.int .i64) (vM MB))]) htm M98) (RO.pk_at (l := [.row 88 1 A33 ((n + 63) / 64) c34 (u64s wsB), .blk q 3 [(.int .i64 twB)], .map m (inK (Value.int .i64) (vM MB))]) htp M98) (RO.pk_at (l := [.row 88 1 A33 ((n + 63) / 64) c34 (u64s wsB), .blk q 3 [(.int .i64 twB)], .map m (inK (Value.int .i64) (vM MB))]) hpl M98) (Mem.pk_holds (l := [.row 88 1 A33 ((n + 63) / 64) c34 (u64s wsB), .blk q 3 [(.int .i64 twB)], .map m (inK (Value.int .i64) (vM MB))]) M98)) ?_
 rintro _ w136 ⟨ws131, M133, tw134, rfl, hS132, hY135, M137x⟩
 have M137 : Mem (Res.pk [.blk q 3 [.int .i64 tw0], .map m (inK (Value.int .i64) (vM M0)), .blk p 4 [.bool true]]).fp w w136 [.row 88 1 A33 ((n + 63) / 64) c34 (u64s ws131), .blk q 3 [(.int .i64 tw134)], .map m (inK (Value.int .i64) (vM M133)), .blk p 4 [(.bool ((((besTo n pn fs SO k).all (sepP pl)) && (plL n (x.insts.drop (j0 + 1)) (endR x (SO (k : Int)))).all (sepP pl)) && sepP pl (listS n (putD (intoB (x.insts.drop (j0 + 1)) (endR x (SO (k : Int)))) p3.dst))))], .blk b1 24 (fV nm wk pa va (some ad17) c fs), .blk b4 42 [(.slice A1 n1 c1), (.slice (some ad32) ((bsOf fs).length) c2)], .blk b7 46 [(.func (.func 21) #[] #[(pT tm 0), (pT q 0)]), (.func (.func 22) #[] #[(pT tm 0), (pT tp 0), (pT q 0)]), (.func (.func 23) #[] #[(pT tm 0), (pT tp 0), (pT q 0)]), (.func (.func 24) #[] #[(pT p 0), (pT q 0)])], .blk b18 53 (xV x), .blk b42 83 [(.slice A33 ((n + 63) / 64) c34)], .blk b86 57 (iV p3)] := M98.mdk M137x
 refine zfe ?_
 have hEq : (remS (putD (intoB (x.insts.drop (j0 + 1)) (endR x (SO (k : Int)))) p3.dst) (dn : Int)) = (takeD (intoB (x.insts.drop (j0 + 1)) (endR x (SO (k : Int)))) p3.dst) := (by rw [← take_put]; unfold takeD; rw [if_pos (show 0 ≤ p3.dst by omega), hdn])
 rw [hEq] at hS132
 rw [hEq] at hY135
 intro aC fr
 exact ⟨ws131, M133, tw134, fr.kp [3, 4, 5, 6, 7, 11, 12, 13, 14, 21, 22, 23], M137, hS132, hY135⟩
 refine zsk ?_
 have hEq : (putD (intoB (x.insts.drop (j0 + 1)) (endR x (SO (k : Int)))) p3.dst) = (takeD (intoB (x.insts.drop (j0 + 1)) (endR x (SO (k : Int)))) p3.dst) := (by rw [← take_put]; unfold takeD; rw [if_neg (show ¬ 0 ≤ p3.dst by omega)])
 rw [hEq] at hSB
 rw [hEq] at hYB
 intro aC fr
 exact ⟨wsB, MB, twB, fr.kp [3, 4, 5, 6, 7, 11, 12, 13, 14, 21, 22, 23], M98, hSB, hYB⟩
 revert aC
 refine zsr <| zpn 1 <| zld ⟨b86, 1, none⟩ (.int .i64 p3.dst) (blk_cell (M90.get 9 rfl) rfl) <| zpn 1 <| zfe <| zcD ((p3.dst : Int) ≥ 0) (fun c142 => ?_) (fun c142 => ?_)
 obtain ⟨dn, hdn⟩ := Int.eq_ofNat_of_zero_le (show 0 ≤ p3.dst by omega)
 refine zrg <| zpn 2 <| zld ⟨b86, 1, none⟩ (.int .i64 (dn : Int)) (by rw [← hdn]; exact blk_cell (M90.get 9 rfl) rfl) <| zkp [(3, (pT b1 0)), (4, (pT b4 0)), (5, (pT b7 0)), (6, (nV k)), (7, (pT b18 0)), (11, (.func (.func 46) #[] #[(pT b42 0), (pT b7 0)])), (12, (.func (.func 49) #[] #[(pT b42 0), (pT b7 0)])), (13, (nV j0)), (14, (pT b86 0)), (21, (.slice (some ad17) ((bsOf fs).length) c)), (22, (.int .i64 (((bsOf fs).length : Nat) : Int))), (23, (nV k)), (85, (.func (.func 46) #[] #[(pT b42 0), (pT b7 0)])), (87, (nV dn))] <| zcl (tmore_c n dn b42 b7 p q m tm tp pl PA pc A33 c34 ws2 (intoB (x.insts.drop (j0 + 1)) (endR x (SO (k : Int)))) M2 tw2 w89 hn2 hln (by omega) hS2 hFb (RO.pk_own (l := [.row 88 1 A33 ((n + 63) / 64) c34 (u64s ws2), .blk q 3 [(.int .i64 tw2)], .map m (inK (Value.int .i64) (vM M2))]) M90 5 rfl) (RO.pk_own (l := [.row 88 1 A33 ((n + 63) / 64) c34 (u64s ws2), .blk q 3 [(.int .i64 tw2)], .map m (inK (Value.int .i64) (vM M2))]) M90 3 rfl) (RO.pk_at (l := [.row 88 1 A33 ((n + 63) / 64) c34 (u64s ws2), .blk q 3 [(.int .i64 tw2)], .map m (inK (Value.int .i64) (vM M2))]) htm M90) (RO.pk_at (l := [.row 88 1 A33 ((n + 63) / 64) c34 (u64s ws2), .blk q 3 [(.int .i64 tw2)], .map m (inK (Value.int .i64) (vM M2))]) htp M90) (RO.pk_at (l := [.row 88 1 A33 ((n + 63) / 64) c34 (u64s ws2), .blk q 3 [(.int .i64 tw2)], .map m (inK (Value.int .i64) (vM M2))]) hpl M90) (Mem.pk_holds (l := [.row 88 1 A33 ((n + 63) / 64) c34 (u64s ws2), .blk q 3 [(.int .i64 tw2)], .map m (inK (Value.int .i64) (vM M2))]) M90)) ?_
 rintro _ w148 ⟨ws143, M145, tw146, rfl, hS144, hY147, M149x⟩
 have M149 : Mem (Res.pk [.blk q 3 [.int .i64 tw0], .map m (inK (Value.int .i64) (vM M0)), .blk p 4 [.bool true]]).fp w w148 [.row 88 1 A33 ((n + 63) / 64) c34 (u64s ws143), .blk q 3 [(.int .i64 tw146)], .map m (inK (Value.int .i64) (vM M145)), .blk p 4 [(.bool (((besTo n pn fs SO k).all (sepP pl)) && (plL n (x.insts.drop (j0 + 1)) (endR x (SO (k : Int)))).all (sepP pl)))], .blk b1 24 (fV nm wk pa va (some ad17) c fs), .blk b4 42 [(.slice A1 n1 c1), (.slice (some ad32) ((bsOf fs).length) c2)], .blk b7 46 [(.func (.func 21) #[] #[(pT tm 0), (pT q 0)]), (.func (.func 22) #[] #[(pT tm 0), (pT tp 0), (pT q 0)]), (.func (.func 23) #[] #[(pT tm 0), (pT tp 0), (pT q 0)]), (.func (.func 24) #[] #[(pT p 0), (pT q 0)])], .blk b18 53 (xV x), .blk b42 83 [(.slice A33 ((n + 63) / 64) c34)], .blk b86 57 (iV p3)] := M90.mdk M149x
 refine zfe ?_
 have hEq : (addS (intoB (x.insts.drop (j0 + 1)) (endR x (SO (k : Int)))) (dn : Int)) = (putD (intoB (x.insts.drop (j0 + 1)) (endR x (SO (k : Int)))) p3.dst) := (by unfold putD; rw [if_pos (show 0 ≤ p3.dst by omega), hdn])
 rw [hEq] at hS144
 rw [hEq] at hY147
 intro aC fr
 exact ⟨ws143, M145, tw146, fr.kp [3, 4, 5, 6, 7, 11, 12, 13, 14, 21, 22, 23], M149, hS144, hY147⟩
 refine zsk ?_
 have hEq : (intoB (x.insts.drop (j0 + 1)) (endR x (SO (k : Int)))) = (putD (intoB (x.insts.drop (j0 + 1)) (endR x (SO (k : Int)))) p3.dst) := (by unfold putD; rw [if_neg (show ¬ 0 ≤ p3.dst by omega)])
 rw [hEq] at hS2
 rw [hEq] at hFb
 intro aC fr
 exact ⟨ws2, M2, tw2, fr.kp [3, 4, 5, 6, 7, 11, 12, 13, 14, 21, 22, 23], M90, hS2, hFb⟩
 refine zex 4 <| zbh <| zsq <| zsr ?_
 obtain rfl : j = 0 := by omega
 rw [List.drop_zero] at hS2 hFb
 have M154 : Mem (Res.pk [.blk q 3 [.int .i64 tw0], .map m (inK (Value.int .i64) (vM M0)), .blk p 4 [.bool true]]).fp w w75 [.row 88 1 A33 ((n + 63) / 64) c34 (u64s ws2), .blk q 3 [(.int .i64 tw2)], .map m (inK (Value.int .i64) (vM M2)), .blk p 4 [(.bool (((besTo n pn fs SO k).all (sepP pl)) && (plL n x.insts (endR x (SO (k : Int)))).all (sepP pl)))], .blk b1 24 (fV nm wk pa va (some ad17) c fs), .blk b4 42 [(.slice A1 n1 c1), (.slice (some ad32) ((bsOf fs).length) c2)], .blk b7 46 [(.func (.func 21) #[] #[(pT tm 0), (pT q 0)]), (.func (.func 22) #[] #[(pT tm 0), (pT tp 0), (pT q 0)]), (.func (.func 23) #[] #[(pT tm 0), (pT tp 0), (pT q 0)]), (.func (.func 24) #[] #[(pT p 0), (pT q 0)])], .blk b18 53 (xV x), .blk b42 83 [(.slice A33 ((n + 63) / 64) c34)]] := M76.cast (by rw [List.drop_zero])
 refine zpn 1 <| zld ⟨b18, 0, none⟩ (.slice x.pA x.phis.length x.pc) (blk_cell (M154.get 7 rfl) rfl) <| zpn 2 <| zfe <| zbk 8 ?_
 intro aC fr
 refine zlp (fun n_ a_ w_ => ∃ (q1 : Nat) (ws7 : List Nat) (M7 : List (Int × Int)) (tw7 : Int), n_ = x.phis.length - q1 ∧ Fr a_ 137 [(3, (pT b1 0)), (4, (pT b4 0)), (5, (pT b7 0)), (6, (nV k)), (11, (.func (.func 46) #[] #[(pT b42 0), (pT b7 0)])), (21, (.slice (some ad17) ((bsOf fs).length) c)), (22, (.int .i64 (((bsOf fs).length : Nat) : Int))), (23, (nV k)), (111, (.slice x.pA x.phis.length x.pc)), (112, (.int .i64 ((x.phis.length : Nat) : Int))), (113, (nV q1))] ∧ Mem (Res.pk [.blk q 3 [.int .i64 tw0], .map m (inK (Value.int .i64) (vM M0)), .blk p 4 [.bool true]]).fp w w_ [.row 88 1 A33 ((n + 63) / 64) c34 (u64s ws7), .blk q 3 [(.int .i64 tw7)], .map m (inK (Value.int .i64) (vM M7)), .blk p 4 [(.bool (((besTo n pn fs SO k).all (sepP pl)) && (plL n x.insts (endR x (SO (k : Int)))).all (sepP pl)))], .blk b1 24 (fV nm wk pa va (some ad17) c fs), .blk b4 42 [(.slice A1 n1 c1), (.slice (some ad32) ((bsOf fs).length) c2)], .blk b7 46 [(.func (.func 21) #[] #[(pT tm 0), (pT q 0)]), (.func (.func 22) #[] #[(pT tm 0), (pT tp 0), (pT q 0)]), (.func (.func 23) #[] #[(pT tm 0), (pT tp 0), (pT q 0)]), (.func (.func 24) #[] #[(pT p 0), (pT q 0)])], .blk b18 53 (xV x), .blk b42 83 [(.slice A33 ((n + 63) / 64) c34)]] ∧ (q1 ≤ x.phis.length) ∧ (SetW n ws7 (phS (x.phis.take q1) (intoB x.insts (endR x (SO (k : Int)))))) ∧ (Fits n pl (phS (x.phis.take q1) (intoB x.insts (endR x (SO (k : Int))))) M7 tw7)) (n := _) ⟨0, ws2, M2, tw2, rfl, fr.kp [3, 4, 5, 6, 11, 21, 22, 23, 111, 112, 113], M154, by omega, by rw [List.take_zero, phS, List.foldl_nil]; exact hS2, by rw [List.take_zero, phS, List.foldl_nil]; exact hFb⟩ ?_
 clear fr aC M154; rintro n aC w157 ⟨q1, ws7, M7, tw7, rfl, fr, M158, hq1, hS7, hY7⟩
 revert aC
 refine zsp <| zsq <| zcD (((q1 : Int) : Int) < ((x.phis.length : Nat) : Int)) (fun c161 => ?_) (fun c161 => ?_)
 refine zsk <| zsq <| zbk 9 <| zsr ?_
 obtain ⟨p2, hph⟩ := get_of (l := x.phis) (i := q1) (by omega)
 obtain ⟨hd0, hd1⟩ := hv.phis p2 (List.mem_of_getElem? hph)
 obtain ⟨dn, hdn⟩ := Int.eq_ofNat_of_zero_le hd0
 obtain ⟨ad162, had163⟩ := rds_some (M158.ro (hA.phis hx)) (cs := p2.cells) (i := q1) (by simp [hph])
 intro aC fr
 refine From_ixA (some 115) x.pA ad162 x.phis.length 2 (q1 : Int) fr (by kernel_rfl) had163 (by omega) (by omega) ?_
 intro aC fr
 revert aC
 refine zls ((ad162 : Addr).add (((q1 : Int)).toNat * 2)) (pV p2) (phi_get (M158.ro (hA.phis hx)) had163 hph) <| zal M158 86 [(.int .i64 0), (.slice none 0 0)] fun b168 w169 hb168 M170 => ?_
 replace M170 := M170.nf
 refine zss M170 9 (pV p2) rfl fun w171 M172 => ?_
 replace M172 := M172.nf
 refine zfe <| zrg <| zpn 2 <| zld ⟨b168, 0, none⟩ (.int .i64 (dn : Int)) (by rw [← hdn]; exact blk_cell (M172.get 9 rfl) rfl) <| zcl (tmore_c n dn b42 b7 p q m tm tp pl PA pc A33 c34 ws7 (phS (x.phis.take q1) (intoB x.insts (endR x (SO (k : Int))))) M7 tw7 w171 hn2 hln (by omega) hS7 hY7 (RO.pk_own (l := [.row 88 1 A33 ((n + 63) / 64) c34 (u64s ws7), .blk q 3 [(.int .i64 tw7)], .map m (inK (Value.int .i64) (vM M7))]) M172 5 rfl) (RO.pk_own (l := [.row 88 1 A33 ((n + 63) / 64) c34 (u64s ws7), .blk q 3 [(.int .i64 tw7)], .map m (inK (Value.int .i64) (vM M7))]) M172 3 rfl) (RO.pk_at (l := [.row 88 1 A33 ((n + 63) / 64) c34 (u64s ws7), .blk q 3 [(.int .i64 tw7)], .map m (inK (Value.int .i64) (vM M7))]) htm M172) (RO.pk_at (l := [.row 88 1 A33 ((n + 63) / 64) c34 (u64s ws7), .blk q 3 [(.int .i64 tw7)], .map m (inK (Value.int .i64) (vM M7))]) htp M172) (RO.pk_at (l := [.row 88 1 A33 ((n + 63) / 64) c34 (u64s ws7), .blk q 3 [(.int .i64 tw7)], .map m (inK (Value.int .i64) (vM M7))]) hpl M172) (Mem.pk_holds (l := [.row 88 1 A33 ((n + 63) / 64) c34 (u64s ws7), .blk q 3 [(.int .i64 tw7)], .map m (inK (Value.int .i64) (vM M7))]) M172)) ?_
 rintro _ w178 ⟨ws173, M175, tw176, rfl, hS174, hY177, M179x⟩
 have M179 : Mem (Res.pk [.blk q 3 [.int .i64 tw0], .map m (inK (Value.int .i64) (vM M0)), .blk p 4 [.bool true]]).fp w w178 [.row 88 1 A33 ((n + 63) / 64) c34 (u64s ws173), .blk q 3 [(.int .i64 tw176)], .map m (inK (Value.int .i64) (vM M175)), .blk p 4 [(.bool (((besTo n pn fs SO k).all (sepP pl)) && (plL n x.insts (endR x (SO (k : Int)))).all (sepP pl)))], .blk b1 24 (fV nm wk pa va (some ad17) c fs), .blk b4 42 [(.slice A1 n1 c1), (.slice (some ad32) ((bsOf fs).length) c2)], .blk b7 46 [(.func (.func 21) #[] #[(pT tm 0), (pT q 0)]), (.func (.func 22) #[] #[(pT tm 0), (pT tp 0), (pT q 0)]), (.func (.func 23) #[] #[(pT tm 0), (pT tp 0), (pT q 0)]), (.func (.func 24) #[] #[(pT p 0), (pT q 0)])], .blk b18 53 (xV x), .blk b42 83 [(.slice A33 ((n + 63) / 64) c34)], .blk b168 86 (pV p2)] := M172.mdk M179x
 refine zfe <| zrg <| zar ((q1 : Int) + 1) <| zpn 1 <| zfe ?_
 intro aC fr
 exact ⟨x.phis.length - (q1 + 1), by omega, q1 + 1, ws173, M175, tw176, rfl, fr.kp [3, 4, 5, 6, 11, 21, 22, 23, 111, 112, 113], (M179.tk 9), by omega, by rw [phS_next hph, hdn]; exact hS174, by rw [phS_next hph, hdn]; exact hY177⟩
 refine zex 8 <| zbh <| zsq ?_
 intro aC fr
 refine W_cut (fun a_ w_ => ∃ (wsD : List Nat) (MD : List (Int × Int)) (twD : Int), Fr a_ 137 [(3, (pT b1 0)), (4, (pT b4 0)), (5, (pT b7 0)), (21, (.slice (some ad17) ((bsOf fs).length) c)), (22, (.int .i64 (((bsOf fs).length : Nat) : Int))), (23, (nV k))] ∧ Mem (Res.pk [.blk q 3 [.int .i64 tw0], .map m (inK (Value.int .i64) (vM M0)), .blk p 4 [.bool true]]).fp w w_ [.row 88 1 A33 ((n + 63) / 64) c34 (u64s wsD), .blk q 3 [(.int .i64 twD)], .map m (inK (Value.int .i64) (vM MD)), .blk p 4 [(.bool (((besTo n pn fs SO k).all (sepP pl)) && (plL n x.insts (endR x (SO (k : Int)))).all (sepP pl)))], .blk b1 24 (fV nm wk pa va (some ad17) c fs), .blk b4 42 [(.slice A1 n1 c1), (.slice (some ad32) ((bsOf fs).length) c2)], .blk b7 46 [(.func (.func 21) #[] #[(pT tm 0), (pT q 0)]), (.func (.func 22) #[] #[(pT tm 0), (pT tp 0), (pT q 0)]), (.func (.func 23) #[] #[(pT tm 0), (pT tp 0), (pT q 0)]), (.func (.func 24) #[] #[(pT p 0), (pT q 0)])], .blk b18 53 (xV x), .blk b42 83 [(.slice A33 ((n + 63) / 64) c34)]] ∧ (SetW n wsD (firstS pn k x (SO (k : Int)))) ∧ (Fits n pl (firstS pn k x (SO (k : Int))) MD twD)) ?_ ?_
 clear fr aC M158; rintro aC w184 ⟨wsD, MD, twD, fr, M185, hSD, hYD⟩
 revert aC
 refine zrg <| zpn 1 <| zld ⟨b7, 3, none⟩ (.func (.func 24) #[] #[(pT p 0), (pT q 0)]) (blk_cell (M185.get 6 rfl) rfl) <| zcl ((by have h := rplc_c p q (((besTo n pn fs SO k).all (sepP pl)) && (plL n x.insts (endR x (SO (k : Int)))).all (sepP pl)) twD w184 (M185.get 3 rfl) (M185.own_but 1 3 rfl rfl (by decide)); rw [hYD.sep (by omega)] at h; exact h)) ?_
 rintro _ w188 ⟨rfl, M189x⟩
 have M189 := M185.md 3 rfl M189x
 refine zfe <| zrg <| zar ((k : Int) + 1) <| zpn 1 <| zfe ?_
 have M190 := M189.od [6, 6, 6, 6, 6, 6] 6
 have M191 : Mem (Res.pk [.blk q 3 [.int .i64 tw0], .map m (inK (Value.int .i64) (vM M0)), .blk p 4 [.bool true]]).fp w w188 [.blk q 3 [(.int .i64 twD)], .map m (inK (Value.int .i64) (vM MD)), .blk p 4 [(.bool ((besTo n pn fs SO (k + 1)).all (sepP pl)))], .blk b1 24 (fV nm wk pa va (some ad17) c fs), .blk b4 42 [(.slice A1 n1 c1), (.slice (some ad32) ((bsOf fs).length) c2)], .blk b7 46 [(.func (.func 21) #[] #[(pT tm 0), (pT q 0)]), (.func (.func 22) #[] #[(pT tm 0), (pT tp 0), (pT q 0)]), (.func (.func 23) #[] #[(pT tm 0), (pT tp 0), (pT q 0)]), (.func (.func 24) #[] #[(pT p 0), (pT q 0)])]] := M190.cast (by rw [besTo_next hx, List.all_append, blkC, List.all_cons, ← and3])
 intro aC fr
 exact ⟨fs.length - (k + 1), by omega, k + 1, MD, twD, rfl, fr.kp [3, 4, 5, 21, 22, 23], M191, by omega⟩
 revert aC
 refine zsr ?_
 rw [show q1 = x.phis.length by omega, List.take_length] at hS7 hY7
 refine zpn 2 <| zfe <| zcP (((k : Int) : Int) == 0) (((k : Int) : Int) = 0) (by simp only [beq_iff_eq]) (fun c194 => ?_) (fun c194 => ?_)
 have hk0 : k = 0 := by omega
 refine zsr <| zpn 1 <| zld ⟨b1, 2, none⟩ (.int .i64 pa) (blk_cell (M158.get 4 rfl) rfl) <| zpn 1 <| zfe <| zbk 10 ?_
 intro aC fr
 refine zlp (fun n_ a_ w_ => ∃ (u : Nat) (ws8 : List Nat) (M8 : List (Int × Int)) (tw8 : Int), n_ = pn - u ∧ Fr a_ 137 [(3, (pT b1 0)), (4, (pT b4 0)), (5, (pT b7 0)), (11, (.func (.func 46) #[] #[(pT b42 0), (pT b7 0)])), (21, (.slice (some ad17) ((bsOf fs).length) c)), (22, (.int .i64 (((bsOf fs).length : Nat) : Int))), (23, (nV k)), (125, (.int .i64 pa)), (126, (nV u))] ∧ Mem (Res.pk [.blk q 3 [.int .i64 tw0], .map m (inK (Value.int .i64) (vM M0)), .blk p 4 [.bool true]]).fp w w_ [.row 88 1 A33 ((n + 63) / 64) c34 (u64s ws8), .blk q 3 [(.int .i64 tw8)], .map m (inK (Value.int .i64) (vM M8)), .blk p 4 [(.bool (((besTo n pn fs SO k).all (sepP pl)) && (plL n x.insts (endR x (SO (k : Int)))).all (sepP pl)))], .blk b1 24 (fV nm wk pa va (some ad17) c fs), .blk b4 42 [(.slice A1 n1 c1), (.slice (some ad32) ((bsOf fs).length) c2)], .blk b7 46 [(.func (.func 21) #[] #[(pT tm 0), (pT q 0)]), (.func (.func 22) #[] #[(pT tm 0), (pT tp 0), (pT q 0)]), (.func (.func 23) #[] #[(pT tm 0), (pT tp 0), (pT q 0)]), (.func (.func 24) #[] #[(pT p 0), (pT q 0)])], .blk b18 53 (xV x), .blk b42 83 [(.slice A33 ((n + 63) / 64) c34)]] ∧ (u ≤ pn) ∧ (SetW n ws8 (loS u (phS x.phis (intoB x.insts (endR x (SO (k : Int))))))) ∧ (Fits n pl (loS u (phS x.phis (intoB x.insts (endR x (SO (k : Int)))))) M8 tw8)) (n := _) ⟨0, ws7, M7, tw7, rfl, fr.kp [3, 4, 5, 11, 21, 22, 23, 125, 126], M158, by omega, by rw [loS_zero]; exact hS7, by rw [loS_zero]; exact hY7⟩ ?_
 clear fr aC M158; rintro n aC w197 ⟨u, ws8, M8, tw8, rfl, fr, M198, hu, hS8, hY8⟩
 revert aC
 refine zsp <| zsq <| zcD (((u : Int) : Int) < pa) (fun c201 => ?_) (fun c201 => ?_)
 refine zsk <| zsq <| zbk 11 <| zsp <| zrg <| zpn 2 <| zcl (tmore_c n u b42 b7 p q m tm tp pl PA pc A33 c34 ws8 (loS u (phS x.phis (intoB x.insts (endR x (SO (k : Int)))))) M8 tw8 w197 hn2 hln (by omega) hS8 hY8 (RO.pk_own (l := [.row 88 1 A33 ((n + 63) / 64) c34 (u64s ws8), .blk q 3 [(.int .i64 tw8)], .map m (inK (Value.int .i64) (vM M8))]) M198 5 rfl) (RO.pk_own (l := [.row 88 1 A33 ((n + 63) / 64) c34 (u64s ws8), .blk q 3 [(.int .i64 tw8)], .map m (inK (Value.int .i64) (vM M8))]) M198 3 rfl) (RO.pk_at (l := [.row 88 1 A33 ((n + 63) / 64) c34 (u64s ws8), .blk q 3 [(.int .i64 tw8)], .map m (inK (Value.int .i64) (vM M8))]) htm M198) (RO.pk_at (l := [.row 88 1 A33 ((n + 63) / 64) c34 (u64s ws8), .blk q 3 [(.int .i64 tw8)], .map m (inK (Value.int .i64) (vM M8))]) htp M198) (RO.pk_at (l := [.row 88 1 A33 ((n + 63) / 64) c34 (u64s ws8), .blk q 3 [(.int .i64 tw8)], .map m (inK (Value.int .i64) (vM M8))]) hpl M198) (Mem.pk_holds (l := [.row 88 1 A33 ((n + 63) / 64) c34 (u64s ws8), .blk q 3 [(.int .i64 tw8)], .map m (inK (Value.int .i64) (vM M8))]) M198)) ?_
 rintro _ w207 ⟨ws202, M204, tw205, rfl, hS203, hY206, M208x⟩
 have M208 : Mem (Res.pk [.blk q 3 [.int .i64 tw0], .map m (inK (Value.int .i64) (vM M0)), .blk p 4 [.bool true]]).fp w w207 [.row 88 1 A33 ((n + 63) / 64) c34 (u64s ws202), .blk q 3 [(.int .i64 tw205)], .map m (inK (Value.int .i64) (vM M204)), .blk p 4 [(.bool (((besTo n pn fs SO k).all (sepP pl)) && (plL n x.insts (endR x (SO (k : Int)))).all (sepP pl)))], .blk b1 24 (fV nm wk pa va (some ad17) c fs), .blk b4 42 [(.slice A1 n1 c1), (.slice (some ad32) ((bsOf fs).length) c2)], .blk b7 46 [(.func (.func 21) #[] #[(pT tm 0), (pT q 0)]), (.func (.func 22) #[] #[(pT tm 0), (pT tp 0), (pT q 0)]), (.func (.func 23) #[] #[(pT tm 0), (pT tp 0), (pT q 0)]), (.func (.func 24) #[] #[(pT p 0), (pT q 0)])], .blk b18 53 (xV x), .blk b42 83 [(.slice A33 ((n + 63) / 64) c34)]] := M198.mdk M208x
 refine zfe <| zrg <| zar ((u : Int) + 1) <| zpn 1 <| zfe ?_
 intro aC fr
 exact ⟨pn - (u + 1), by omega, u + 1, ws202, M204, tw205, rfl, fr.kp [3, 4, 5, 11, 21, 22, 23, 125, 126], M208, by omega, by rw [loS_next]; exact hS203, by rw [loS_next]; exact hY206⟩
 refine zex 10 <| zbh ?_
 have hEq : (loS u (phS x.phis (intoB x.insts (endR x (SO (k : Int)))))) = (firstS pn k x (SO (k : Int))) := (by unfold firstS; rw [if_pos hk0, show u = pn by omega])
 rw [hEq] at hS8
 rw [hEq] at hY8
 intro aC fr
 exact ⟨ws8, M8, tw8, fr.kp [3, 4, 5, 21, 22, 23], M198, hS8, hY8⟩
 have hk0 : ¬ k = 0 := by omega
 refine zsk ?_
 have hEq : (phS x.phis (intoB x.insts (endR x (SO (k : Int))))) = (firstS pn k x (SO (k : Int))) := (by unfold firstS; rw [if_neg hk0])
 rw [hEq] at hS7
 rw [hEq] at hY7
 intro aC fr
 exact ⟨ws7, M7, tw7, fr.kp [3, 4, 5, 21, 22, 23], M158, hS7, hY7⟩
 revert aC
 refine zsr <| zpn 1 <| zld ⟨b18, 2, none⟩ (.int .i64 x.e) (blk_cell (M66.get 7 rfl) rfl) <| zpn 2 ?_
 obtain ⟨B215, hB215⟩ : ∃ B : Bool, B = ((x.e : Int) == 1) := ⟨_, rfl⟩
 refine zkp [(3, (pT b1 0)), (4, (pT b4 0)), (5, (pT b7 0)), (6, (nV k)), (7, (pT b18 0)), (11, (.func (.func 46) #[] #[(pT b42 0), (pT b7 0)])), (12, (.func (.func 49) #[] #[(pT b42 0), (pT b7 0)])), (21, (.slice (some ad17) ((bsOf fs).length) c)), (22, (.int .i64 (((bsOf fs).length : Nat) : Int))), (23, (nV k)), (55, (.bool ((x.e : Int) == 1)))] ?_
 rw [← hB215]
 have iB215 : B215 = true ↔ ((x.e : Int) = 1) := by rw [hB215]; simp only [beq_iff_eq]
 clear hB215
 intro aC fr
 refine zpk 1 5 [56] fr (news := [(56, (cond (!B215) (pT b18 2) undef))]) (by cases B215 <;> kernel_rfl) ?_
 intro aC fr
 refine From_either (B := (!B215)) (d := (some 57)) (.int .i64 x.e) fr (by cases B215 <;> kernel_rfl) (fun hB hh => ?_) ?_
 cases B215 <;> first | (exact absurd hB (by decide)) | skip
 have c215 : ¬ ((x.e : Int) = 1) := (fun h => Bool.noConfusion (iB215.2 h) : ¬ ((x.e : Int) = 1))
 exact From_ld (some 57) ⟨b18, 2, none⟩ fr (by kernel_rfl) (.int .i64 x.e) (blk_cell (M66.get 7 rfl) rfl) hh
 intro aC fr
 refine zpk 2 8 [59] fr (news := [(59, (cond (!B215) (.bool ((x.e : Int) == 2)) undef))]) (by cases B215 <;> kernel_rfl) ?_
 intro aC fr
 obtain ⟨B224, hB224⟩ : ∃ B : Bool, B = ((x.e : Int) == 2) := ⟨_, rfl⟩
 revert aC
 refine zkp [(3, (pT b1 0)), (4, (pT b4 0)), (5, (pT b7 0)), (6, (nV k)), (7, (pT b18 0)), (11, (.func (.func 46) #[] #[(pT b42 0), (pT b7 0)])), (12, (.func (.func 49) #[] #[(pT b42 0), (pT b7 0)])), (21, (.slice (some ad17) ((bsOf fs).length) c)), (22, (.int .i64 (((bsOf fs).length : Nat) : Int))), (23, (nV k)), (55, (.bool B215)), (59, (cond (!B215) (.bool ((x.e : Int) == 2)) undef))] ?_
 rw [← hB224]
 have iB224 : B224 = true ↔ ((x.e : Int) = 2) := by rw [hB224]; simp only [beq_iff_eq]
 clear hB224
 intro aC fr
 refine zpk 1 9 [60] fr (news := [(60, (cond (!B215 && B224) (pT b18 3) undef))]) (by cases B215 <;> cases B224 <;> kernel_rfl) ?_
 intro aC fr
 refine From_either (B := (!B215 && B224)) (d := (some 61)) (.int .i64 x.v) fr (by cases B215 <;> cases B224 <;> kernel_rfl) (fun hB hh => ?_) ?_
 cases B215 <;> cases B224 <;> first | (exact absurd hB (by decide)) | skip
 have c215 : ¬ ((x.e : Int) = 1) := (fun h => Bool.noConfusion (iB215.2 h) : ¬ ((x.e : Int) = 1))
 have c224 : ((x.e : Int) = 2) := iB224.1 rfl
 exact From_ld (some 61) ⟨b18, 3, none⟩ fr (by kernel_rfl) (.int .i64 x.v) (blk_cell (M66.get 7 rfl) rfl) hh
 intro aC fr
 refine zpk 3 13 [64] fr (news := [(64, (.bool (B215 || (B224 && decide ((x.v : Int) ≥ 0)))))]) (by cases B215 <;> cases B224 <;> kernel_rfl) ?_
 intro aC fr
 revert aC
 refine zfe <| zcP (B215 || (B224 && decide ((x.v : Int) ≥ 0))) (((x.e : Int) = 1) ∨ (((x.e : Int) = 2) ∧ ((x.v : Int) ≥ 0))) (by simp only [Bool.or_eq_true, Bool.and_eq_true, decide_eq_true_eq, iB215, iB224]) (fun c233 => ?_) (fun c233 => ?_)
 have hfin : finS x := by unfold finS; omega
 obtain ⟨vn, hvn⟩ := Int.eq_ofNat_of_zero_le (hv.fin hfin).1
 have hvl := (hv.fin hfin).2
 refine zrg <| zpn 2 <| zld ⟨b18, 3, none⟩ (.int .i64 (vn : Int)) (by rw [← hvn]; exact blk_cell (M66.get 7 rfl) rfl) <| zcl (tmore_c n vn b42 b7 p q m tm tp pl PA pc A33 c34 wsk (SO (k : Int)) M1 tw1 w54 hn2 hln (by omega) hSk hY2 (RO.pk_own (l := [.row 88 1 A33 ((n + 63) / 64) c34 (u64s wsk), .blk q 3 [(.int .i64 tw1)], .map m (inK (Value.int .i64) (vM M1))]) M66 5 rfl) (RO.pk_own (l := [.row 88 1 A33 ((n + 63) / 64) c34 (u64s wsk), .blk q 3 [(.int .i64 tw1)], .map m (inK (Value.int .i64) (vM M1))]) M66 3 rfl) (RO.pk_at (l := [.row 88 1 A33 ((n + 63) / 64) c34 (u64s wsk), .blk q 3 [(.int .i64 tw1)], .map m (inK (Value.int .i64) (vM M1))]) htm M66) (RO.pk_at (l := [.row 88 1 A33 ((n + 63) / 64) c34 (u64s wsk), .blk q 3 [(.int .i64 tw1)], .map m (inK (Value.int .i64) (vM M1))]) htp M66) (RO.pk_at (l := [.row 88 1 A33 ((n + 63) / 64) c34 (u64s wsk), .blk q 3 [(.int .i64 tw1)], .map m (inK (Value.int .i64) (vM M1))]) hpl M66) (Mem.pk_holds (l := [.row 88 1 A33 ((n + 63) / 64) c34 (u64s wsk), .blk q 3 [(.int .i64 tw1)], .map m (inK (Value.int .i64) (vM M1))]) M66)) ?_
 rintro _ w239 ⟨ws234, M236, tw237, rfl, hS235, hY238, M240x⟩
 have M240 : Mem (Res.pk [.blk q 3 [.int .i64 tw0], .map m (inK (Value.int .i64) (vM M0)), .blk p 4 [.bool true]]).fp w w239 [.row 88 1 A33 ((n + 63) / 64) c34 (u64s ws234), .blk q 3 [(.int .i64 tw237)], .map m (inK (Value.int .i64) (vM M236)), .blk p 4 [(.bool ((besTo n pn fs SO k).all (sepP pl)))], .blk b1 24 (fV nm wk pa va (some ad17) c fs), .blk b4 42 [(.slice A1 n1 c1), (.slice (some ad32) ((bsOf fs).length) c2)], .blk b7 46 [(.func (.func 21) #[] #[(pT tm 0), (pT q 0)]), (.func (.func 22) #[] #[(pT tm 0), (pT tp 0), (pT q 0)]), (.func (.func 23) #[] #[(pT tm 0), (pT tp 0), (pT q 0)]), (.func (.func 24) #[] #[(pT p 0), (pT q 0)])], .blk b18 53 (xV x), .blk b42 83 [(.slice A33 ((n + 63) / 64) c34)]] := M66.mdk M240x
 refine zfe ?_
 have hEq : (addS (SO (k : Int)) (vn : Int)) = (endR x (SO (k : Int))) := (by rw [← hvn]; exact endR_yes hfin (SO (k : Int)))
 rw [hEq] at hS235
 rw [hEq] at hY238
 intro aC fr
 exact ⟨ws234, M236, tw237, fr.kp [3, 4, 5, 6, 7, 11, 12, 21, 22, 23], M240, hS235, hY238⟩
 have hfin : ¬ finS x := by unfold finS; omega
 refine zsk ?_
 have hEq : (SO (k : Int)) = (endR x (SO (k : Int))) := endR_no hfin (SO (k : Int))
 rw [hEq] at hSk
 rw [hEq] at hY2
 intro aC fr
 exact ⟨wsk, M1, tw1, fr.kp [3, 4, 5, 6, 7, 11, 12, 21, 22, 23], M66, hSk, hY2⟩
 refine zex 0 <| zbh <| zo0 ?_
 have M245 := M13.od [2, 2, 2] 3
 exact ⟨MK, tK, rfl, M245.cast (by rw [show k = fs.length by omega])⟩
end Go.Proofs.YthgbejihcchcnaaDoor
namespace Go.Mor
open Go.RowKit
section
variable {P : Program}
variable {c : Code} {K K' : Act → World → Prop} {Q : Exit → Act → World → Prop} {k : Nat} {a : Act} {w : World}
end
section
variable {P : Program} {c : Code} {K : Act → World → Prop} {Q : Exit → Act → World → Prop} {N : FN} {env0 : Env} {wr : World} {sp : Nat → Spec} {J : (Nat → Bool) → (Nat → Value) → World → Prop}
theorem drawJ_tail (hd : dstsOk c = true) (hdn : ∀ i d, dstAt c i = some d → d < N.n) (hdet : ∀ j v w w', (sp j).ok v w → (sp j).ok v w') (hpl : predsLt c = true) {m : Nat} (ht : tailOk c m = true) (hm : m ≤ (opsOf c).size) (hops : ∀ i, i < m → OpOKJ P c Q N env0 sp J i)
    (hend : ∀ a w, (∀ listed : Array Bool, listed.size = (opsOf c).size → (∀ j, j < m → listed.getD j false = true) → (∀ j, m ≤ j → listed.getD j false = false) → KnownJ c N env0 sp J listed a w → From P c K Q m a w)) :
    ∀ (n fuel : Nat) (listed : Array Bool) (a : Act) (w : World), listed.size = (opsOf c).size → ((List.range (opsOf c).size).filter (fun j => !listed.getD j false)).length = n → n ≤ fuel → (∀ j, m ≤ j → listed.getD j false = false) → KnownJ c N env0 sp J listed a w →
      wpAny P .any (opsOf c) (Exit.then K Q) fuel listed a w := by
  intro n
  induction n using Nat.strongRecOn with
  | _ n ih =>
    intro fuel listed a w hsz hn hf hup hk
    by_cases hall : ∀ j, j < m → listed.getD j false = true
    · have hlen : (opsOf c).size ≤ m + n := by
        have h1 : ((List.range (opsOf c).size).filter (fun j => !listed.getD j false)).length = (opsOf c).size - m := by
          have e : (List.range (opsOf c).size).filter (fun j => !listed.getD j false) = (List.range (opsOf c).size).filter (fun j => decide (m ≤ j)) := by
            apply List.filter_congr
            intro j _
            by_cases hj : j < m
            · rw [hall j hj]; simp; omega
            · rw [hup j (by omega)]; simp; omega
          rw [e]
          have key : ∀ N, ((List.range N).filter (fun j => decide (m ≤ j))).length = N - m := by
            intro N
            induction N with
            | zero => simp
            | succ N ihN =>
              rw [List.range_succ, List.filter_append, List.length_append, ihN]
              by_cases h : m ≤ N
              · simp [h]; omega
              · simp [h]; omega
          exact key _
        omega
      refine any_tail hpl ht n fuel m listed a w hsz hlen hf (Nat.le_refl _) hm (fun j hj => ?_) (hend a w listed hsz hall hup hk)
      by_cases h : j < m
      · rw [hall j h]; simp [h]
      · rw [hup j (by omega)]; simp [h]
    · have hpos : 0 < n := by
        rcases Nat.eq_zero_or_pos n with h0 | h0
        · exfalso
          apply hall
          intro j hj
          cases hq : listed.getD j false with
          | true => rfl
          | false =>
            have : j ∈ (List.range (opsOf c).size).filter (fun j => !listed.getD j false) := List.mem_filter.2 ⟨List.mem_range.2 (by omega), by rw [hq]; rfl⟩
            have := List.length_pos_of_mem this
            omega
        · exact h0
      cases fuel with
      | zero => omega
      | succ fuel =>
        refine ⟨fun hr => absurd (fun j hj => none_ready hpl hsz hr j (by omega)) hall, fun i hi => ?_⟩
        obtain ⟨h1, h2, _⟩ := ready_spec hi
        have hcl : Closed c (fun q => listed.getD q false) := by
          obtain ⟨ls, vs, hls, hout, _, _, _, hcl, _⟩ := hk
          have e : ls = fun q => listed.getD q false := by
            funext q
            rcases Nat.lt_or_ge q listed.size with h | h
            · exact hls q h
            · rw [hout q h]
              simp [Array.getD, Nat.not_lt.2 h]
          rw [← e]
          exact hcl
        have him : i < m := by
          rcases Nat.lt_or_ge i m with h | h
          · exact h
          · exfalso
            apply hall
            intro j hj
            simp only [tailOk, List.all_eq_true, List.mem_range, Bool.or_eq_true] at ht
            have hre : reach c (opsOf c).size i j = true := by
              rcases ht i h1 with h3 | h3
              · have : i < m := by simpa [Nat.blt_eq] using h3
                omega
              · exact h3 j (by omega)
            exact donebefore hcl (fun q hq => ready_preds hi q hq) hre
        have hni := ready_not hsz hi
        have hil : i < listed.size := by omega
        refine drawJ_step hd hdn hdet (hops i him) hsz hi hk (fun a' w' hk' => ?_)
        have hlt : ((List.range (opsOf c).size).filter (fun j => !(listed.setIfInBounds i true).getD j false)).length < n := by
          rw [← hn]
          have hsub : ((List.range (opsOf c).size).filter (fun j => !(listed.setIfInBounds i true).getD j false)) = ((List.range (opsOf c).size).filter (fun j => !listed.getD j false)).filter (fun j => !(Nat.beq j i)) := by
            rw [List.filter_filter]
            apply List.filter_congr
            intro j _
            rw [lst_set hil]
            by_cases e : j = i
            · subst e; simp
            · have hb : Nat.beq j i = false := by
                cases hq : Nat.beq j i with
                | false => rfl
                | true => exact absurd (Nat.eq_of_beq_eq_true hq) e
              simp [e, hb]
          rw [hsub]
          have hmem : i ∈ (List.range (opsOf c).size).filter (fun j => !listed.getD j false) := List.mem_filter.2 ⟨List.mem_range.2 h1, by rw [hni]; rfl⟩
          exact List.length_filter_lt_length_iff_exists.2 ⟨i, hmem, by simp⟩
        refine ih _ hlt fuel _ a' w' (by simpa using hsz) rfl (by omega) (fun j hj => ?_) hk'
        rw [lst_set hil, hup j hj]
        have : j ≠ i := by omega
        simp [this]
theorem zdtJ (m : Nat) (sp : Nat → Spec) (J : (Nat → Bool) → (Nat → Value) → World → Prop) {a : Act} (hF : Fr a N env0) (hdet : ∀ j v w w', (sp j).ok v w → (sp j).ok v w') (h0 : J (fun _ => false) (fun _ => undef) wr.drew) (hops : ∀ i, i < m → OpOKJ P c Q N env0 sp J i)
    (h : ∀ a' w' (ls : Nat → Bool) (vs : Nat → Value), (∀ j, j < m → ls j = true) → J ls vs w' → (∀ j, j < m → (sp j).ok (vs j) w') → Fr a' N (valsE c sp vs (List.range m) ++ restL c m env0) → From P c K Q m a' w')
    (ht : tailOk c m = true := by kernel_rfl) (hm' : Nat.ble m (opsOf c).size = true := by kernel_rfl)
    (hk : kind c = .region true := by kernel_rfl) (hm : P.follows .mixedOrders = true := by kernel_rfl) (hd : dstsOk c = true := by kernel_rfl) (hpl : predsLt c = true := by kernel_rfl) (hkeys : keysOk env0 = true := by kernel_rfl)
    (hdn : (List.range (opsOf c).size).all (fun i => okd (dstAt c i) N) = true := by kernel_rfl) : W P c K Q a wr := by
  have hdn' : ∀ i d, dstAt c i = some d → d < N.n := by
    intro i d hi
    have hlt : i < (opsOf c).size := by
      simp only [dstAt] at hi
      cases ho : (opsOf c)[i]? with
      | none => simp [ho] at hi
      | some o => exact (Array.getElem?_eq_some_iff.1 ho).1
    simp only [List.all_eq_true, List.mem_range] at hdn
    have := hdn i hlt
    rw [hi] at this
    simpa [okd, Nat.blt_eq] using this
  have hm2 := Nat.le_of_ble_eq_true hm'
  cases c <;> simp [kind] at hk
  rename_i id ops dr
  subst hk
  refine wp_region_any hm ?_
  have hrep : ∀ j, (Array.replicate ops.size false).getD j false = false := by
    intro j
    simp only [Array.getD_eq_getD_getElem?, Array.getElem?_replicate]
    split <;> rfl
  have h1 : KnownJ (.region id ops true) N env0 sp J (Array.replicate ops.size false) a { wr with drawn := wr.drawn + 1 } :=
    ⟨fun _ => false, fun _ => undef, fun j _ => (hrep j).symm, fun _ _ => rfl, h0, hF.defers, hF.size, (fun _ hj => absurd hj (by simp)), (fun _ hj => absurd hj (by simp)), fun t v htv _ => hF.slot t v (keys_look hkeys htv)⟩
  refine drawJ_tail (c := .region id ops true) hd hdn' hdet hpl ht hm2 hops ?_ _ ops.size _ a _ (by simp [opsOf]) rfl ?_ (fun j _ => hrep j) h1
  · intro a' w' listed hsz0 hall hup hk
    obtain ⟨ls, vs, hls, hout, hJ, hdef, hsz', _, hvs, hbase⟩ := hk
    have hlt : ∀ j, j < m → ls j = true := fun j hj => by
      rw [hls j (by omega)]; exact hall j hj
    refine h a' w' ls vs hlt hJ (fun j hj => (hvs j (hlt j hj)).1) ⟨hdef, hsz', fun t v hv => ?_⟩
    rcases look_append hv with h1 | h1
    · obtain ⟨j, hj, hdj, rfl⟩ := look_vals h1
      obtain ⟨h2, h3⟩ := hvs j (hlt j (List.mem_range.1 hj))
      rw [Spec.val_ok h2]
      exact h3 t hdj
    · obtain ⟨h2, h3⟩ := look_restL h1
      refine hbase t v h2 (fun j hj => ?_)
      rcases Nat.lt_or_ge j m with hjm | hjm
      · exact h3 j hjm
      · rcases Nat.lt_or_ge j listed.size with hq | hq
        · rw [hls j hq, hup j hjm] at hj; cases hj
        · rw [hout j hq] at hj; cases hj
  · refine Nat.le_trans (List.length_filter_le _ _) ?_
    simp [opsOf]
end
end Go.Mor
namespace Go.Proofs.YthgbejihcchcnaaDoor
open Go.Mor
theorem right_c (nm : ByteArray) (wk : Bool) (pa va : Int) (A : Option Addr) (c : Nat) (fs : List FBlk) (pl : List Int) (PA : Option Addr) (pc : Nat) (w : World) (hN : fs.length ≤ 1000) (hok : FOk fs) (hA : RO noS w (.fn A fs)) (hll : pl.length ≤ 100000) (hpl : RO noS w (.rd PA (ints pl))) (hT : RO noS w (.rd (sM 0) tabL)) :
    Calls Tryd.prog 8 #[(fA nm wk pa va A c fs), (.slice PA pl.length pc)] w (Ret fun v w' => v = .bool (rightN nm pa va fs pl) ∧ Mem noS w w' []) := by
 have hbl := bsOf_len fs
 have hm : (bsOf fs).length ≤ 1000000 := by omega
 have hB := hA.bs
 refine zen 40 [(fA nm wk pa va A c fs), (.slice PA pl.length pc)] Tryd.func8 ?_
 have hM := Mem.init w
 refine zsr <| zbx hM 24 (fA nm wk pa va A c fs) (fV nm wk pa va A c fs) fun b1 w2 hb1 M3 => ?_
 replace M3 := M3.nf
 clear hM
 refine zbx M3 25 (.slice PA pl.length pc) [(.slice PA pl.length pc)] fun b4 w5 hb4 M6 => ?_
 replace M6 := M6.nf
 refine zpn 1 <| zfe <| zsq <| zsr <| zls ⟨b1, 0, none⟩ (fV nm wk pa va A c fs) (blk_cells (M6.get 0 rfl)) <| zcl (valid_c nm wk pa va A c fs w5 hN hok (hA.at_ M6)) ?_
 rintro _ w7 ⟨rfl, M8x⟩
 have M8 := M6.cl M8x
 refine zpn 2 ?_
 obtain ⟨B9, hB9⟩ : ∃ B : Bool, B = ((validN nm pa va fs : Int) != 0) := ⟨_, rfl⟩
 refine zkp [(2, (pT b1 0)), (3, (pT b4 0)), (13, (.bool ((validN nm pa va fs : Int) != 0)))] ?_
 rw [← hB9]
 have iB9 : B9 = true ↔ ((validN nm pa va fs : Int) ≠ 0) := by rw [hB9]; simp only [bne_iff_ne]
 clear hB9
 intro aC fr
 refine From_either (B := (!B9)) (d := (some 14)) (.slice PA pl.length pc) fr (by cases B9 <;> kernel_rfl) (fun hB hh => ?_) ?_
 cases B9 <;> first | (exact absurd hB (by decide)) | skip
 have c9 : ¬ ((validN nm pa va fs : Int) ≠ 0) := (fun h => Bool.noConfusion (iB9.2 h) : ¬ ((validN nm pa va fs : Int) ≠ 0))
 exact From_ld (some 14) ⟨b4, 0, none⟩ fr (by kernel_rfl) (.slice PA pl.length pc) (blk_cell (M8.get 1 rfl) rfl) hh
 intro aC fr
 refine zpk 2 7 [15, 16] fr (news := [(15, (cond (!B9) (.int .i64 ((pl.length : Nat) : Int)) undef)), (16, (cond (!B9) (pT b1 3) undef))]) (by cases B9 <;> kernel_rfl) ?_
 intro aC fr
 refine From_either (B := (!B9)) (d := (some 17)) (.int .i64 va) fr (by cases B9 <;> kernel_rfl) (fun hB hh => ?_) ?_
 cases B9 <;> first | (exact absurd hB (by decide)) | skip
 have c9 : ¬ ((validN nm pa va fs : Int) ≠ 0) := (fun h => Bool.noConfusion (iB9.2 h) : ¬ ((validN nm pa va fs : Int) ≠ 0))
 exact From_ld (some 17) ⟨b1, 3, none⟩ fr (by kernel_rfl) (.int .i64 va) (blk_cell (M8.get 0 rfl) rfl) hh
 intro aC fr
 refine zpk 2 10 [19] fr (news := [(19, (.bool (B9 || ((((pl.length : Nat) : Int) : Int) != va))))]) (by cases B9 <;> kernel_rfl) ?_
 intro aC fr
 revert aC
 refine zfe <| zcP (B9 || ((((pl.length : Nat) : Int) : Int) != va)) (((validN nm pa va fs : Int) ≠ 0) ∨ ((((pl.length : Nat) : Int) : Int) ≠ va)) (by simp only [Bool.or_eq_true, bne_iff_ne, iB9]) (fun c20 => ?_) (fun c20 => ?_)
 refine zsp <| zre <| zo1 (.bool false) ?_
 have M21 := M8.od [] 0
 exact ⟨by rw [rightN_bad (by omega)], M21⟩
 refine zsk <| zsq <| zsr <| zld ⟨b4, 0, none⟩ (.slice PA pl.length pc) (blk_cell (M8.get 1 rfl) rfl) <| zpn 2 <| zfe <| zbk 0 ?_
 intro aC fr
 refine zlp (fun n_ a_ w_ => ∃ (i : Nat), n_ = pl.length - i ∧ Fr a_ 40 [(2, (pT b1 0)), (3, (pT b4 0)), (20, (.slice PA pl.length pc)), (21, (.int .i64 ((pl.length : Nat) : Int))), (22, (nV i))] ∧ Mem noS w w_ [.blk b1 24 (fV nm wk pa va A c fs), .blk b4 25 [(.slice PA pl.length pc)]] ∧ (i ≤ pl.length) ∧ (∀ x, x ∈ pl.take i → 0 ≤ x)) (n := _) ⟨0, rfl, fr.kp [2, 3, 20, 21, 22], M8, by omega, by simp⟩ ?_
 clear fr aC M8; rintro n aC w24 ⟨i, rfl, fr, M25, hi, hge⟩
 revert aC
 refine zsp <| zsq <| zcD (((i : Int) : Int) < ((pl.length : Nat) : Int)) (fun c28 => ?_) (fun c28 => ?_)
 refine zsk <| zsq <| zbk 1 <| zsr ?_
 obtain ⟨y, hy⟩ := get_of (l := pl) (i := i) (by omega)
 obtain ⟨ad29, rfl⟩ := rd_some (M25.ro hpl) (by simp [ints]; omega)
 refine zix ad29 pl.length 1 (i : Int) <| zld ((ad29 : Addr).add (((i : Int)).toNat * 1)) (.int .i64 y) (rd_at (M25.ro hpl) rfl hy) <| zpn 1 <| zfe <| zsp <| zcD ((y : Int) < 0) (fun c30 => ?_) (fun c30 => ?_)
 refine zsp <| zre <| zbr <| zbr <| zo1 (.bool false) ?_
 have M31 := M25.od [] 0
 exact ⟨by rw [rightN_neg (by omega) (List.mem_of_getElem? hy) (by omega)], M31⟩
 refine zsk <| zrg <| zar ((i : Int) + 1) <| zpn 1 <| zfe ?_
 intro aC fr
 exact ⟨pl.length - (i + 1), by omega, i + 1, rfl, fr.kp [2, 3, 20, 21, 22], M25, by omega, by intro z hz; rw [takeS_snoc hy, List.mem_append, List.mem_singleton] at hz; rcases hz with hz | hz; exact hge z hz; omega⟩
 refine zex 0 <| zbh <| zsr ?_
 have hge2 : ∀ x, x ∈ pl → 0 ≤ x := by rw [List.take_of_length_le (by omega)] at hge; exact hge
 have hv0 : validN nm pa va fs = 0 := by omega
 obtain ⟨hgood, hvl, _⟩ := valid_good hv0
 have hpar := hgood.par
 obtain ⟨n, hva⟩ := Int.eq_ofNat_of_zero_le (show 0 ≤ va by omega)
 obtain ⟨pn, hpn⟩ := Int.eq_ofNat_of_zero_le hpar.1
 have hn2 : n ≤ 20000 := by omega
 have hpn2 : pn ≤ n := by omega
 have hvr := good_vr hgood hva
 have hln : pl.length = n := by omega
 refine zmm M25 fun b34 w35 hb34 M36 => ?_
 replace M36 := M36.nf
 have M37 : Mem noS w w35 [.blk b1 24 (fV nm wk pa va A c fs), .blk b4 25 [(.slice PA pl.length pc)], .map b34 (inK (Value.int .i64) (vM []))] := M36.cast rfl
 refine zal M37 38 [(.map none)] fun b38 w39 hb38 M40 => ?_
 replace M40 := M40.nf
 refine zsb M40 3 0 (.map (some b34)) rfl fun w41 M42 => ?_
 replace M42 := M42.nf
 refine zfe <| zsr <| zal M42 3 [(.int .i64 0)] fun b43 w44 hb43 M45 => ?_
 replace M45 := M45.nf
 refine zsb M45 4 0 (.int .i64 0) rfl fun w46 M47 => ?_
 replace M47 := M47.nf
 refine zfe <| zsr <| zal M47 4 [(.bool false)] fun b48 w49 hb48 M50 => ?_
 replace M50 := M50.nf
 refine zsb M50 5 0 (.bool true) rfl fun w51 M52 => ?_
 replace M52 := M52.nf
 refine zfe <| zsq ?_
 have M53 := M52.od [3, 2, 2, 5, 4, 5] 6
 refine zkp [(2, (pT b1 0)), (3, (pT b4 0)), (7, (pT b38 0)), (8, (pT b43 0)), (9, (pT b48 0))] ?_
 intro aC fr
 refine zdtJ (N := 40) (env0 := [(2, (pT b1 0)), (3, (pT b4 0)), (7, (pT b38 0)), (8, (pT b43 0)), (9, (pT b48 0))]) (wr := w51) 8 (specAt [.det (fA nm wk pa va A c fs), .det (fA nm wk pa va A c fs), Spec.free, .det (.func (.func 21) #[] #[(pT b38 0), (pT b43 0)]), .det (.func (.func 22) #[] #[(pT b38 0), (pT b4 0), (pT b43 0)]), .det (.func (.func 23) #[] #[(pT b38 0), (pT b4 0), (pT b43 0)]), .det (.func (.func 24) #[] #[(pT b48 0), (pT b43 0)]), .det (.agg #[(.func (.func 21) #[] #[(pT b38 0), (pT b43 0)]), (.func (.func 22) #[] #[(pT b38 0), (pT b4 0), (pT b43 0)]), (.func (.func 23) #[] #[(pT b38 0), (pT b4 0), (pT b43 0)]), (.func (.func 24) #[] #[(pT b48 0), (pT b43 0)])])]) (fun ls vs w_ => match ls 2 with | true => (∃ (A54 : Option Addr) (c55 : Nat) (A56 : Option Addr) (c57 : Nat) (rI58 : List RowV) (rO59 : List RowV) (SI : Int → Int → Bool) (SO : Int → Int → Bool), vs 2 = (.agg #[(.slice A54 ((bsOf fs).length) c55), (.slice A56 ((bsOf fs).length) c57)]) ∧ (SetsR n fs.length rI58 SI) ∧ (SetsR n fs.length rO59 SO) ∧ (LiveS n fs SI SO) ∧ Mem noS w w_ [.blk b43 3 [(.int .i64 0)], .map b34 (inK (Value.int .i64) (vM [])), .blk b48 4 [(.bool true)], .blk b1 24 (fV nm wk pa va A c fs), .blk b4 25 [(.slice PA pl.length pc)], .blk b38 38 [(.map (some b34))], .fam 88 rI58, .row 83 1 A54 ((bsOf fs).length) c55 (slv rI58), .fam 88 rO59, .row 83 1 A56 ((bsOf fs).length) c57 (slv rO59)]) | false => (Mem noS w w_ [.blk b43 3 [(.int .i64 0)], .map b34 (inK (Value.int .i64) (vM [])), .blk b48 4 [(.bool true)], .blk b1 24 (fV nm wk pa va A c fs), .blk b4 25 [(.slice PA pl.length pc)], .blk b38 38 [(.map (some b34))]])) fr (plain_ok (.det (.det (.free (.det (.det (.det (.det (.det .nil))))))))) (M53.then_ (Mem.drew _)) (la (la (la (la (la (la (la (la lz ?_) ?_) ?_) (dPJ fun _ _ _ _ h => h)) (dPJ fun _ _ _ _ h => h)) (dPJ fun _ _ _ _ h => h)) (dPJ fun _ _ _ _ h => h)) (dPJ fun _ _ _ _ h => h)) ?_
 intro aa_ w_ ls vs rest_ hJ hi_ hc_ hp hF
 refine okG (g0 := none) ?_
 replace hF : Fr aa_ 40 [(2, (pT b1 0))] := hF.kp [2]
 have hM_ := hJ
 cases fu : ls 2
 simp only [fu] at hM_
 refine From_loadS (by kernel_rfl : coreAt _ 0 = some (some 30, (.load 24 (.tmp 2)), 24, none)) hF (by kernel_rfl) (by kernel_rfl) (k' := 1) rfl (ad := ⟨b1, 0, none⟩) (vs := (fV nm wk pa va A c fs)) (by kernel_rfl) (by kernel_rfl) (blk_cells (hM_.get 3 rfl)) ?_
 intro a2 ea _
 refine From_end (by kernel_rfl) ?_; exact op_doneJ (d := some 30) (by kernel_rfl) ea rfl hJ
 simp only [fu] at hM_
 obtain ⟨_, _, _, _, _, _, _, _, _, _, _, _, hM_⟩ := hM_
 refine From_loadS (by kernel_rfl : coreAt _ 0 = some (some 30, (.load 24 (.tmp 2)), 24, none)) hF (by kernel_rfl) (by kernel_rfl) (k' := 1) rfl (ad := ⟨b1, 0, none⟩) (vs := (fV nm wk pa va A c fs)) (by kernel_rfl) (by kernel_rfl) (blk_cells (hM_.get 3 rfl)) ?_
 intro a2 ea _
 refine From_end (by kernel_rfl) ?_; exact op_doneJ (d := some 30) (by kernel_rfl) ea rfl hJ
 intro aa_ w_ ls vs rest_ hJ hi_ hc_ hp hF
 refine okG (g0 := none) ?_
 replace hF : Fr aa_ 40 [(2, (pT b1 0))] := hF.kp [2]
 have f2 : ls 2 = false := notyet hc_ hi_ (n := 9) (by kernel_rfl)
 have hM_ := hJ
 simp only [f2] at hM_
 refine From_loadS (by kernel_rfl : coreAt _ 0 = some (some 31, (.load 24 (.tmp 2)), 24, none)) hF (by kernel_rfl) (by kernel_rfl) (k' := 1) rfl (ad := ⟨b1, 0, none⟩) (vs := (fV nm wk pa va A c fs)) (by kernel_rfl) (by kernel_rfl) (blk_cells (hM_.get 3 rfl)) ?_
 intro a2 ea _
 refine From_end (by kernel_rfl) ?_; exact op_doneJ (d := some 31) (by kernel_rfl) ea rfl hJ
 intro aa_ w_ ls vs rest_ hJ hi_ hc_ hp hF
 refine okG (g0 := none) ?_
 replace hF : Fr aa_ 40 [(31, (fA nm wk pa va A c fs))] := hF.kp [31]
 have f2 : ls 2 = false := hi_
 have hM_ := hJ
 simp only [f2] at hM_
 refine From_call (by kernel_rfl : coreAt _ 0 = some (some 32, (.call { callee := (.value (.func 20)), args := #[(.tmp 31)], argTypes := #[24] }), 42, none)) hF (by kernel_rfl) (by kernel_rfl) (k' := 1) rfl (f := 20) (vs := [(fA nm wk pa va A c fs)]) (cap := []) (by kernel_rfl) (by kernel_rfl) (by kernel_rfl) (of_c n nm wk pa va A c fs w_ hN hok (hA.at_ hM_) hva hn2 hgood) ?_
 rintro _ w2 ⟨A54p, c55p, A56p, c57p, rI58p, rO59p, SIp, SOp, rfl, hRI, hRO, hLV, hm2⟩ a2 ea _
 have hm3 := hM_.call hm2
 refine From_end (by kernel_rfl) ?_; refine op_doneJ (d := some 32) (by kernel_rfl) ea trivial ?_
 show ∃ (A54 : Option Addr) (c55 : Nat) (A56 : Option Addr) (c57 : Nat) (rI58 : List RowV) (rO59 : List RowV) (SI : Int → Int → Bool) (SO : Int → Int → Bool), _
 exact ⟨A54p, c55p, A56p, c57p, rI58p, rO59p, SIp, SOp, rfl, hRI, hRO, hLV, hm3⟩
 intro aC w64 ls vs hall M65 hv fr
 simp only [show ls 2 = true from hall 2 (by decide)] at M65
 revert aC; refine zkp [(9, (pT b48 0)), (30, (fA nm wk pa va A c fs)), (32, vs 2), (37, (.agg #[(.func (.func 21) #[] #[(pT b38 0), (pT b43 0)]), (.func (.func 22) #[] #[(pT b38 0), (pT b4 0), (pT b43 0)]), (.func (.func 23) #[] #[(pT b38 0), (pT b4 0), (pT b43 0)]), (.func (.func 24) #[] #[(pT b48 0), (pT b43 0)])]))] ?_
 obtain ⟨A54, c55, A56, c57, rI58, rO59, SI, SO, e2_, hRI, hRO, hLV, M65⟩ := M65
 try rw [e2_]
 clear e2_
 clear hall hv fr aC M53; clear vs ls
 refine zcl (throughR_c n pn b48 b43 b34 b38 b4 pl PA pc nm wk pa va A c fs A54 A56 ((bsOf fs).length) c55 c57 0 [] rO59 SO w64 hN hok (RO.pk_at (l := [.blk b43 3 [(.int .i64 0)], .map b34 (inK (Value.int .i64) (vM [])), .blk b48 4 [(.bool true)]]) hA M65) hpn hpn2 hn2 hln hvr hRO (RO.row_rd (RO.pk_own (l := [.blk b43 3 [(.int .i64 0)], .map b34 (inK (Value.int .i64) (vM [])), .blk b48 4 [(.bool true)]]) M65 6 rfl)) (RO.pk_own (l := [.blk b43 3 [(.int .i64 0)], .map b34 (inK (Value.int .i64) (vM [])), .blk b48 4 [(.bool true)]]) M65 5 rfl) (RO.pk_at (l := [.blk b43 3 [(.int .i64 0)], .map b34 (inK (Value.int .i64) (vM [])), .blk b48 4 [(.bool true)]]) hT M65) (RO.pk_own (l := [.blk b43 3 [(.int .i64 0)], .map b34 (inK (Value.int .i64) (vM [])), .blk b48 4 [(.bool true)]]) M65 2 rfl) (RO.pk_own (l := [.blk b43 3 [(.int .i64 0)], .map b34 (inK (Value.int .i64) (vM [])), .blk b48 4 [(.bool true)]]) M65 1 rfl) (RO.pk_at (l := [.blk b43 3 [(.int .i64 0)], .map b34 (inK (Value.int .i64) (vM [])), .blk b48 4 [(.bool true)]]) hpl M65) (Mem.pk_holds (l := [.blk b43 3 [(.int .i64 0)], .map b34 (inK (Value.int .i64) (vM [])), .blk b48 4 [(.bool true)]]) M65)) ?_
 rintro _ w68 ⟨M66, tw67, rfl, M69x⟩
 have M69 : Mem noS w w68 [.blk b43 3 [(.int .i64 tw67)], .map b34 (inK (Value.int .i64) (vM M66)), .blk b48 4 [(.bool ((besTo n pn fs SO fs.length).all (sepP pl)))], .blk b1 24 (fV nm wk pa va A c fs), .blk b4 25 [(.slice PA pl.length pc)], .blk b38 38 [(.map (some b34))], .fam 88 rI58, .row 83 1 A54 ((bsOf fs).length) c55 (slv rI58), .fam 88 rO59, .row 83 1 A56 ((bsOf fs).length) c57 (slv rO59)] := M65.mdk M69x
 refine zfe <| zsr <| zld ⟨b48, 0, none⟩ (.bool ((besTo n pn fs SO fs.length).all (sepP pl))) (blk_cell (M69.get 2 rfl) rfl) <| zpn 1 <| zfe <| zre <| zo1 (.bool ((besTo n pn fs SO fs.length).all (sepP pl))) ?_
 have M70 := M69.od [] 0
 exact ⟨by rw [rightN_ok (by omega) hge2, show va.toNat = n by omega, show pa.toNat = pn by omega, ← besTo_li hLV], M70⟩
end Go.Proofs.YthgbejihcchcnaaDoor
namespace Go.Proofs.YthgbejihcchcnaaDoor
open Go.Mor
theorem sample_c (w : World) :
    Calls Tryd.prog 17 #[] w (Ret fun v w' => ∃ A5 A7 A9, v = fA exN false 0 3 A9 1 [exB A7 A5] ∧ RO noS w' (.fn A9 [exB A7 A5]) ∧ Mem noS w w' []) := by
 refine zen 9 [] Tryd.func17 ?_
 have hM := Mem.init w
 refine zsr <| zal hM 24 [(.string ⟨#[]⟩), (.bool false), (.int .i64 0), (.int .i64 0), (.slice none 0 0)] fun b1 w2 hb1 M3 => ?_
 replace M3 := M3.nf
 clear hM
 refine zfe <| zsr <| zpn 2 ?_
 intro aC fr
 refine zBs 3 25 2 #[(0, (.const (.int .i64 0))), (1, (.const (.int .i64 1)))] 25 fr (e := 3) (size := 1) (zs := [(.int .i64 0)]) (vs := [(0, (.int .i64 0)), (1, (.int .i64 1))]) (cs := [(.int .i64 0), (.int .i64 1)]) M3 ?_
 intro b4 w5 hb4 _ M6 _ aC ea fr; clear ea
 replace M6 := M6.nf
 revert aC
 refine zpn 1 ?_
 intro aC fr
 refine zBs 5 51 3 #[(0, (.tmp 1)), (1, (.tmp 2)), (2, (.tmp 4))] 51 fr (e := 57) (size := 5) (zs := [(.int .i64 0), (.int .i64 0), (.int .i64 0), (.string ⟨#[]⟩), (.slice none 0 0)]) (vs := [(0, (.agg #[(.int .i64 1), (.int .i64 0), (.int .i64 1), (.string ⟨#[]⟩), (.slice none 0 0)])), (1, (.agg #[(.int .i64 1), (.int .i64 1), (.int .i64 2), (.string ⟨#[]⟩), (.slice none 0 0)])), (2, (.agg #[(.int .i64 17), (.int .i64 2), (.int .i64 0), (.string ⟨#[]⟩), (.slice (sM b4) 2 2)]))]) (cs := [(.int .i64 1), (.int .i64 0), (.int .i64 1), (.string ⟨#[]⟩), (.slice none 0 0), (.int .i64 1), (.int .i64 1), (.int .i64 2), (.string ⟨#[]⟩), (.slice none 0 0), (.int .i64 17), (.int .i64 2), (.int .i64 0), (.string ⟨#[]⟩), (.slice (sM b4) 2 2)]) M6 ?_
 intro b11 w12 hb11 _ M13 _ aC ea fr; clear ea
 replace M13 := M13.nf
 revert aC
 refine zpn 1 ?_
 intro aC fr
 refine zBs 7 22 1 #[(0, (.tmp 6))] 22 fr (e := 53) (size := 6) (zs := [(.slice none 0 0), (.slice none 0 0), (.int .i64 0), (.int .i64 0), (.int .i64 0), (.int .i64 0)]) (vs := [(0, (.agg #[(.slice none 0 0), (.slice (sM b11) 3 3), (.int .i64 2), (.int .i64 2), (.int .i64 0), (.int .i64 0)]))]) (cs := [(.slice none 0 0), (.slice (sM b11) 3 3), (.int .i64 2), (.int .i64 2), (.int .i64 0), (.int .i64 0)]) M13 ?_
 intro b18 w19 hb18 _ M20 _ aC ea fr; clear ea
 replace M20 := M20.nf
 revert aC
 refine zpn 1 <| zss M20 0 [(.string ⟨#[102]⟩), (.bool false), (.int .i64 0), (.int .i64 3), (.slice (sM b18) 1 1)] rfl fun w25 M26 => ?_
 replace M26 := M26.nf
 refine zfe <| zre ?_
 intro aC fr
 refine outC (ad := ⟨b1, 0, none⟩) (vs := [(.string ⟨#[102]⟩), (.bool false), (.int .i64 0), (.int .i64 3), (.slice (sM b18) 1 1)]) fr rfl (by kernel_rfl) (by kernel_rfl) (blk_cells (M26.get 0 rfl)) ?_
 refine ⟨_, rfl, ?_⟩
 refine ⟨(sM b4), (sM b11), (sM b18), rfl, (ex_ro (A5 := (sM b4)) (A7 := (sM b11)) (A9 := (sM b18)) (M26.get 1 rfl) (M26.get 2 rfl) (M26.get 3 rfl)), ?_⟩
 have M29 := M26.od [] 0
 exact M29
end Go.Proofs.YthgbejihcchcnaaDoor
namespace Go.Proofs.YthgbejihcchcnaaDoor
open Go.Mor
theorem great19_c (nm : ByteArray) (wk : Bool) (pa va : Int) (A : Option Addr) (c : Nat) (fs : List FBlk) (w : World) (hok : FOk fs) (hA : RO noS w (.fn A fs)) :
    Calls Tryd.prog 15 #[(fA nm wk pa va A c fs)] w (Ret fun v w' => v = .bool (decide (greatQ va fs)) ∧ Mem noS w w' []) := by
 have hbl := bsOf_len fs
 have hB := hA.bs
 refine zen 51 [(fA nm wk pa va A c fs)] Tryd.func15 ?_
 have hM := Mem.init w
 refine zsr <| zbx hM 24 (fA nm wk pa va A c fs) (fV nm wk pa va A c fs) fun b1 w2 hb1 M3 => ?_
 replace M3 := M3.nf
 clear hM
 refine zpn 1 <| zfe <| zsq <| zsr <| zpn 1 <| zld ⟨b1, 4, none⟩ (.slice A ((bsOf fs).length) c) (blk_cell (M3.get 0 rfl) rfl) <| zpn 3 ?_
 obtain ⟨B4, hB4⟩ : ∃ B : Bool, B = decide (((((bsOf fs).length : Nat) : Int) : Int) > 60) := ⟨_, rfl⟩
 refine zkp [(1, (pT b1 0)), (9, (.bool (decide (((((bsOf fs).length : Nat) : Int) : Int) > 60))))] ?_
 rw [← hB4]
 have iB4 : B4 = true ↔ (((((bsOf fs).length : Nat) : Int) : Int) > 60) := by rw [hB4]; simp only [decide_eq_true_eq]
 clear hB4
 intro aC fr
 refine zpk 1 6 [10] fr (news := [(10, (cond (!B4) (pT b1 3) undef))]) (by cases B4 <;> kernel_rfl) ?_
 intro aC fr
 refine From_either (B := (!B4)) (d := (some 11)) (.int .i64 va) fr (by cases B4 <;> kernel_rfl) (fun hB hh => ?_) ?_
 cases B4 <;> first | (exact absurd hB (by decide)) | skip
 have c4 : ¬ (((((bsOf fs).length : Nat) : Int) : Int) > 60) := (fun h => Bool.noConfusion (iB4.2 h) : ¬ (((((bsOf fs).length : Nat) : Int) : Int) > 60))
 exact From_ld (some 11) ⟨b1, 3, none⟩ fr (by kernel_rfl) (.int .i64 va) (blk_cell (M3.get 0 rfl) rfl) hh
 intro aC fr
 refine zpk 2 9 [13] fr (news := [(13, (.bool (B4 || decide ((va : Int) > 3000))))]) (by cases B4 <;> kernel_rfl) ?_
 intro aC fr
 revert aC
 refine zfe <| zcP (B4 || decide ((va : Int) > 3000)) ((((((bsOf fs).length : Nat) : Int) : Int) > 60) ∨ ((va : Int) > 3000)) (by simp only [Bool.or_eq_true, decide_eq_true_eq, iB4]) (fun c13 => ?_) (fun c13 => ?_)
 refine zsr <| zpn 1 <| zld ⟨b1, 3, none⟩ (.int .i64 va) (blk_cell (M3.get 0 rfl) rfl) <| zpn 2 ?_
 obtain ⟨B14, hB14⟩ : ∃ B : Bool, B = decide ((va : Int) ≤ 20000) := ⟨_, rfl⟩
 refine zkp [(1, (pT b1 0)), (17, (.bool (decide ((va : Int) ≤ 20000))))] ?_
 rw [← hB14]
 have iB14 : B14 = true ↔ ((va : Int) ≤ 20000) := by rw [hB14]; simp only [decide_eq_true_eq]
 clear hB14
 intro aC fr
 refine zpk 1 5 [18] fr (news := [(18, (cond (!B14) (pT b1 4) undef))]) (by cases B14 <;> kernel_rfl) ?_
 intro aC fr
 refine From_either (B := (!B14)) (d := (some 19)) (.slice A ((bsOf fs).length) c) fr (by cases B14 <;> kernel_rfl) (fun hB hh => ?_) ?_
 cases B14 <;> first | (exact absurd hB (by decide)) | skip
 have c14 : ¬ ((va : Int) ≤ 20000) := (fun h => Bool.noConfusion (iB14.2 h) : ¬ ((va : Int) ≤ 20000))
 exact From_ld (some 19) ⟨b1, 4, none⟩ fr (by kernel_rfl) (.slice A ((bsOf fs).length) c) (blk_cell (M3.get 0 rfl) rfl) hh
 intro aC fr
 refine zpk 4 10 [2, 22] fr (news := [(2, (.bool (B14 || decide (((((bsOf fs).length : Nat) : Int) : Int) > 60)))), (22, (.bool (B14 || decide (((((bsOf fs).length : Nat) : Int) : Int) > 60))))]) (by cases B14 <;> kernel_rfl) ?_
 intro aC fr
 revert aC
 refine zfe <| zre <| zo1 (.bool (B14 || decide (((((bsOf fs).length : Nat) : Int) : Int) > 60))) ?_
 have hR : (B14 || decide (((((bsOf fs).length : Nat) : Int) : Int) > 60)) = true ↔ (((va : Int) ≤ 20000) ∨ (((((bsOf fs).length : Nat) : Int) : Int) > 60)) := by simp only [Bool.or_eq_true, decide_eq_true_eq, iB14]
 have M23 := M3.od [] 0
 exact ⟨bool_dec hR (by unfold greatQ; omega), M23⟩
 have hl60 : fs.length ≤ 60 := by omega
 refine zsk <| zsp <| zsq <| zsp <| zbk 0 ?_
 intro aC fr
 refine zlp (fun n_ a_ w_ => ∃ (k : Nat), n_ = fs.length - k ∧ Fr a_ 51 [(1, (pT b1 0)), (3, (.int .i64 ((greatTo fs k : Nat) : Int))), (4, (nV k))] ∧ Mem noS w w_ [.blk b1 24 (fV nm wk pa va A c fs)] ∧ (k ≤ fs.length)) (n := _) ⟨0, rfl, fr.kp [1, 3, 4], M3, by omega⟩ ?_
 clear fr aC M3; rintro n aC w26 ⟨k, rfl, fr, M27, hk⟩
 revert aC
 refine zsq <| zsr <| zpn 2 <| zld ⟨b1, 4, none⟩ (.slice A ((bsOf fs).length) c) (blk_cell (M27.get 0 rfl) rfl) <| zpn 2 <| zfe <| zcD (((k : Int) : Int) < (((bsOf fs).length : Nat) : Int)) (fun c30 => ?_) (fun c30 => ?_)
 refine zsk <| zsq <| zbk 1 ?_
 obtain ⟨x, hx⟩ := get_of (l := fs) (i := k) (by omega)
 have hl1 : x.phis.length ≤ 281474976710656 := (hok.get hx).lp
 have hl2 : x.insts.length ≤ 281474976710656 := (hok.get hx).li
 have hgl := greatTo_le fs k hk
 have hgs := greatTo_succ hx
 obtain ⟨ad31, rfl⟩ := blocks_some (M27.ro hB) (bsOf_get hx)
 refine zkp [(1, (pT b1 0)), (3, (.int .i64 ((greatTo fs k : Nat) : Int))), (4, (nV k))] ?_
 intro aC fr
 refine zdr (N := 51) (env0 := [(1, (pT b1 0)), (3, (.int .i64 ((greatTo fs k : Nat) : Int))), (4, (nV k))]) (specAt [.det (.int .i64 ((greatTo fs k : Nat) : Int)), .det (pT b1 4), .det (.slice (some ad31) ((bsOf fs).length) c), .det (nV k), .det (.pointer (some ((ad31 : Addr).add (((k : Int)).toNat * 6)))), .det (.pointer (some ((ad31 : Addr).add (((k : Int)).toNat * 6)))), .det (.slice x.pA x.phis.length x.pc), .det (.int .i64 ((x.phis.length : Nat) : Int)), .det (.int .i64 ((min x.phis.length 5000 : Nat) : Int)), .det (.int .i64 (((greatTo fs k : Nat) : Int) + ((min x.phis.length 5000 : Nat) : Int))), .det (pT b1 4), .det (.slice (some ad31) ((bsOf fs).length) c), .det (nV k), .det (.pointer (some ((ad31 : Addr).add (((k : Int)).toNat * 6)))), .det (.pointer (some (((ad31 : Addr).add (((k : Int)).toNat * 6)).add 1))), .det (.slice x.iA x.insts.length x.ic), .det (.int .i64 ((x.insts.length : Nat) : Int)), .det (.int .i64 ((min x.insts.length 5000 : Nat) : Int)), .det (.int .i64 (((greatTo fs (k + 1) : Nat) : Int))), .det (.int .i64 (((greatTo fs (k + 1) : Nat) : Int)))]) fr (la (la (la (la (la (la (la (la (la (la (la (la (la (la (la (la (la (la (la (la lz dP) dP) (dL ⟨b1, 4, none⟩ (.slice (some ad31) ((bsOf fs).length) c) fun w_ hK => (blk_cell ((M27.then_ hK).get 0 rfl) rfl))) dP) (dI ad31 ((bsOf fs).length) 6 (k : Int))) dP) (dL ((ad31 : Addr).add (((k : Int)).toNat * 6)) (.slice x.pA x.phis.length x.pc) fun w_ hK => (fblk_get ((M27.then_ hK).ro hB) rfl hx 0 _ rfl))) dP) (dMN .i64 ((x.phis.length : Nat) : Int) 5000 ((min x.phis.length 5000 : Nat) : Int) (.tmp 37) (.const (.int .i64 5000)) #[3, 3] 3 none (by split <;> omega))) (dA (((greatTo fs k : Nat) : Int) + ((min x.phis.length 5000 : Nat) : Int)))) dP) (dL ⟨b1, 4, none⟩ (.slice (some ad31) ((bsOf fs).length) c) fun w_ hK => (blk_cell ((M27.then_ hK).get 0 rfl) rfl))) dP) (dI ad31 ((bsOf fs).length) 6 (k : Int))) dP) (dL (((ad31 : Addr).add (((k : Int)).toNat * 6)).add 1) (.slice x.iA x.insts.length x.ic) fun w_ hK => (fblk_get ((M27.then_ hK).ro hB) rfl hx 1 _ rfl))) dP) (dMN .i64 ((x.insts.length : Nat) : Int) 5000 ((min x.insts.length 5000 : Nat) : Int) (.tmp 46) (.const (.int .i64 5000)) #[3, 3] 3 none (by split <;> omega))) ?_) dP) ?_
 intro aa_ w_ vs rest_ hK hp hF
 refine okG (g0 := none) ?_
 replace hF : Fr aa_ 51 [(39, (.int .i64 (((greatTo fs k : Nat) : Int) + ((min x.phis.length 5000 : Nat) : Int)))), (47, (.int .i64 ((min x.insts.length 5000 : Nat) : Int)))] := hF.kp [39, 47]
 refine From_arith (by kernel_rfl : coreAt _ 0 = some (some 48, (.binOp .add 3 (.tmp 39) (.tmp 47) 3), 3, none)) hF (by kernel_rfl) (by kernel_rfl) (k' := 1) rfl (i := (((greatTo fs k : Nat) : Int) + ((min x.phis.length 5000 : Nat) : Int))) (j := ((min x.insts.length 5000 : Nat) : Int)) (z := (((greatTo fs (k + 1) : Nat) : Int))) (by kernel_rfl) (by kernel_rfl) (congrArg some (by omega)) (by omega) (by omega) ?_
 intro a2 ea _
 refine From_end (by kernel_rfl) ?_; exact op_done (d := some 48) (by kernel_rfl) ea (Kp.refl _) rfl
 intro aC w36 vs hK hv fr
 revert aC; refine zkp [(1, (pT b1 0)), (3, (.int .i64 (((greatTo fs (k + 1) : Nat) : Int)))), (4, (nV k))] ?_
 have M37 := M27.then_ hK
 clear hK hv fr aC M27; clear vs
 refine zrg <| zpn 1 <| zar ((k : Int) + 1) <| zpn 1 <| zfe ?_
 intro aC fr
 exact ⟨fs.length - (k + 1), by omega, k + 1, rfl, fr.kp [1, 3, 4], M37, by omega⟩
 refine zex 0 <| zbh <| zsp <| zre <| zo1 (.bool (decide ((((greatTo fs k : Nat) : Int) : Int) > 3000))) ?_
 have hR : decide ((((greatTo fs k : Nat) : Int) : Int) > 3000) = true ↔ ((((greatTo fs k : Nat) : Int) : Int) > 3000) := by simp only [decide_eq_true_eq]
 have M40 := M27.od [] 0
 exact ⟨bool_dec hR (by unfold greatQ; (try rw [show k = fs.length by omega]); omega), M40⟩
end Go.Proofs.YthgbejihcchcnaaDoor
namespace Go.Proofs.YthgbejihcchcnaaDoor
open Go.Mor
theorem num7_c (e : Int) (w : World) :
    Calls Tryd.prog 12 #[(.int .i64 e)] w (Ret fun v w' => v = .int .i64 e ∧ Mem noS w w' []) := by
 refine zen 4 [(.int .i64 e)] Tryd.func12 ?_
 have hM := Mem.init w
 refine zsp <| zsp <| zre <| zo1 (.int .i64 e) ?_
 exact ⟨rfl, hM⟩
theorem great7_c (nm : ByteArray) (wk : Bool) (pa va : Int) (A : Option Addr) (c : Nat) (fs : List FBlk) (w : World) (hok : FOk fs) (hA : RO noS w (.fn A fs)) :
    Calls Tryd.prog 6 #[(fA nm wk pa va A c fs)] w (Ret fun v w' => v = .bool (decide (great7Q va fs)) ∧ Mem noS w w' []) := by
 have hbl := bsOf_len fs
 have hB := hA.bs
 refine zen 15 [(fA nm wk pa va A c fs)] Tryd.func6 ?_
 have hM := Mem.init w
 refine zsr <| zbx hM 24 (fA nm wk pa va A c fs) (fV nm wk pa va A c fs) fun b1 w2 hb1 M3 => ?_
 replace M3 := M3.nf
 clear hM
 refine zpn 1 <| zfe <| zsr <| zls ⟨b1, 0, none⟩ (fV nm wk pa va A c fs) (blk_cells (M3.get 0 rfl)) <| zcl (vs := #[(fA nm wk pa va A c fs)]) (great19_c _ _ _ va A c fs w2 hok (hA.at_ M3)) ?_
 rintro _ w4 ⟨rfl, M5x⟩
 have M5 := M3.cl M5x
 refine zpn 1 ?_
 obtain ⟨B6, hB6⟩ : ∃ B : Bool, B = decide (greatQ va fs) := ⟨_, rfl⟩
 refine zkp [(1, (pT b1 0)), (5, (.bool (decide (greatQ va fs))))] ?_
 rw [← hB6]
 have iB6 : B6 = true ↔ (greatQ va fs) := by rw [hB6]; simp only [decide_eq_true_eq]
 clear hB6
 cases B6
 have c6 : ¬ (greatQ va fs) := (fun h => Bool.noConfusion (iB6.2 h) : ¬ (greatQ va fs))
 refine zls ⟨b1, 0, none⟩ (fV nm wk pa va A c fs) (blk_cells (M5.get 0 rfl)) <| zcl (vs := #[(fA nm wk pa va A c fs)]) (rsize_c _ _ _ _ A c fs w4 (Nat.le_trans (greatQ_len (by assumption)) (by decide)) hok (hA.at_ M5)) ?_
 rintro _ w7 ⟨rfl, M8x⟩
 have M8 := M5.cl M8x
 refine zpn 3 ?_
 obtain ⟨B9, hB9⟩ : ∃ B : Bool, B = decide ((((sizeF fs : Nat) : Int) : Int) > 800) := ⟨_, rfl⟩
 refine zkp [(1, (pT b1 0)), (10, (.bool (decide ((((sizeF fs : Nat) : Int) : Int) > 800))))] ?_
 rw [← hB9]
 have iB9 : B9 = true ↔ ((((sizeF fs : Nat) : Int) : Int) > 800) := by rw [hB9]; simp only [decide_eq_true_eq]
 clear hB9
 intro aC fr
 refine zpk 1 9 [11] fr (news := [(11, (cond (!B9) (pT b1 3) undef))]) (by cases B9 <;> kernel_rfl) ?_
 intro aC fr
 refine From_either (B := (!B9)) (d := (some 12)) (.int .i64 va) fr (by cases B9 <;> kernel_rfl) (fun hB hh => ?_) ?_
 cases B9 <;> first | (exact absurd hB (by decide)) | skip
 have c9 : ¬ ((((sizeF fs : Nat) : Int) : Int) > 800) := (fun h => Bool.noConfusion (iB9.2 h) : ¬ ((((sizeF fs : Nat) : Int) : Int) > 800))
 exact From_ld (some 12) ⟨b1, 3, none⟩ fr (by kernel_rfl) (.int .i64 va) (blk_cell (M8.get 0 rfl) rfl) hh
 intro aC fr
 refine zpk 3 13 [2, 14] fr (news := [(2, (.bool (B9 || decide ((va : Int) > 500)))), (14, (.bool (B9 || decide ((va : Int) > 500))))]) (by cases B9 <;> kernel_rfl) ?_
 intro aC fr
 revert aC
 refine zfe <| zre <| zo1 (.bool (B9 || decide ((va : Int) > 500))) ?_
 have hR : (B9 || decide ((va : Int) > 500)) = true ↔ (((((sizeF fs : Nat) : Int) : Int) > 800) ∨ ((va : Int) > 500)) := by simp only [Bool.or_eq_true, decide_eq_true_eq, iB9]
 have M18 := M8.od [] 0
 exact ⟨bool_dec hR (by first | (have h1 : greatQ va fs := ‹_›; exact ⟨fun _ => .inl h1, fun _ => trivial⟩) | (have h1 : ¬ greatQ va fs := ‹_›; unfold great7Q; simp only [h1, false_or]; omega)), M18⟩
 have c6 : (greatQ va fs) := iB6.1 rfl
 refine zpn 10 <| zfe <| zre <| zo1 (.bool true) ?_
 have hR : true = true ↔ True := by simp
 have M19 := M5.od [] 0
 exact ⟨bool_dec hR (by first | (have h1 : greatQ va fs := ‹_›; exact ⟨fun _ => .inl h1, fun _ => trivial⟩) | (have h1 : ¬ greatQ va fs := ‹_›; unfold great7Q; simp only [h1, false_or]; omega)), M19⟩
theorem sameInts_c (l m : List Int) (A A2 : Option Addr) (c c2 : Nat) (w : World) (_hl : l.length ≤ 1000000) (_hm2 : m.length ≤ 1000000) (hl : RO noS w (.rd A (ints l))) (hm : RO noS w (.rd A2 (ints m))) :
    Calls Tryd.prog 14 #[(.slice A l.length c), (.slice A2 m.length c2)] w (Ret fun v w' => v = .bool (decide (l = m)) ∧ Mem noS w w' []) := by
 refine zen 26 [(.slice A l.length c), (.slice A2 m.length c2)] Tryd.func14 ?_
 have hM := Mem.init w
 refine zsp <| zsq <| zsp <| zcP ((((l.length : Nat) : Int) : Int) != ((m.length : Nat) : Int)) ((((l.length : Nat) : Int) : Int) ≠ ((m.length : Nat) : Int)) (by simp only [bne_iff_ne]) (fun c1 => ?_) (fun c1 => ?_)
 refine zsp <| zre <| zo1 (.bool false) ?_
 exact ⟨by rw [decide_eq_false (fun h => by rw [h] at c1; omega)], hM⟩
 refine zsk <| zsq <| zsp <| zbk 0 ?_
 intro aC fr
 refine zlp (fun n_ a_ w_ => ∃ (i : Nat), n_ = l.length - i ∧ Fr a_ 26 [(0, (.slice A l.length c)), (1, (.slice A2 m.length c2)), (5, (nV i))] ∧ Mem noS w w_ [] ∧ (i ≤ l.length) ∧ (l.take i = m.take i)) (n := _) ⟨0, rfl, fr.kp [0, 1, 5], hM, by omega, by rw [List.take_zero, List.take_zero]⟩ ?_
 clear fr aC hM; rintro n aC w4 ⟨i, rfl, fr, M5, hi, hpre⟩
 revert aC
 refine zsq <| zsp <| zcD (((i : Int) : Int) < ((l.length : Nat) : Int)) (fun c8 => ?_) (fun c8 => ?_)
 refine zsk <| zsq <| zbk 1 <| zsq ?_
 obtain ⟨x, hx⟩ := get_of (l := l) (i := i) (by omega)
 obtain ⟨y, hy⟩ := get_of (l := m) (i := i) (by omega)
 obtain ⟨ad9, rfl⟩ := rd_some (M5.ro hl) (by simp [ints]; omega)
 obtain ⟨ad10, rfl⟩ := rd_some (M5.ro hm) (by simp [ints]; omega)
 obtain ⟨B11, hB11⟩ : ∃ B : Bool, B = (x != y) := ⟨_, rfl⟩
 refine zkp [(0, (.slice (some ad9) l.length c)), (1, (.slice (some ad10) m.length c2)), (5, (nV i))] ?_
 intro aC fr
 refine zdr (N := 26) (env0 := [(0, (.slice (some ad9) l.length c)), (1, (.slice (some ad10) m.length c2)), (5, (nV i))]) (specAt [.det (.slice (some ad9) l.length c), .det (nV i), .det (.pointer (some ((ad9 : Addr).add (((i : Int)).toNat * 1)))), .det (.int .i64 x), .det (.slice (some ad10) m.length c2), .det (nV i), .det (.pointer (some ((ad10 : Addr).add (((i : Int)).toNat * 1)))), .det (.int .i64 y), .det (.bool B11)]) fr (la (la (la (la (la (la (la (la (la lz dP) dP) (dI ad9 l.length 1 (i : Int))) (dL ((ad9 : Addr).add (((i : Int)).toNat * 1)) (.int .i64 x) fun w_ hK => (rd_at ((M5.then_ hK).ro hl) rfl hx))) dP) dP) (dI ad10 m.length 1 (i : Int))) (dL ((ad10 : Addr).add (((i : Int)).toNat * 1)) (.int .i64 y) fun w_ hK => (rd_at ((M5.then_ hK).ro hm) rfl hy))) (dC (x != y) hB11)) ?_
 intro aC w16 vs hK hv fr
 revert aC; refine zkp [(0, (.slice (some ad9) l.length c)), (1, (.slice (some ad10) m.length c2)), (5, (nV i)), (25, (.bool B11))] ?_
 have M17 := M5.then_ hK
 clear hK hv fr aC M5; clear vs
 have iB11 : B11 = true ↔ ((x : Int) ≠ y) := by rw [hB11]; simp only [bne_iff_ne]
 clear hB11
 refine zcP B11 ((x : Int) ≠ y) iB11 (fun c18 => ?_) (fun c18 => ?_)
 refine zsp <| zre <| zbr <| zbr <| zo1 (.bool false) ?_
 exact ⟨by rw [decide_eq_false (fun h => by subst h; rw [hx] at hy; injection hy; omega)], M17⟩
 refine zsk <| zrg <| zpn 1 <| zar ((i : Int) + 1) <| zpn 1 <| zfe ?_
 intro aC fr
 exact ⟨l.length - (i + 1), by omega, i + 1, rfl, fr.kp [0, 1, 5], M17, by omega, by rw [takeS_snoc hx, takeS_snoc hy, hpre, show x = y by omega]⟩
 refine zex 0 <| zbh <| zsp <| zre <| zo1 (.bool true) ?_
 exact ⟨by rw [decide_eq_true (by rw [List.take_of_length_le (by omega), List.take_of_length_le (by omega)] at hpre; exact hpre)], M5⟩
theorem ex_cap {A5 A7 : Option Addr} : ∀ x, x ∈ [exB A7 A5] → ∀ p, p ∈ x.insts → p.args.length ≤ p.c := by
  intro x hx p hp
  rw [List.mem_singleton] at hx
  subst hx
  simp only [exB, List.mem_cons, List.not_mem_nil, or_false] at hp
  rcases hp with rfl | rfl | rfl <;> simp
theorem alloc_ex (A5 A7 A9 : Option Addr) (w : World) (hA : RO noS w (.fn A9 [exB A7 A5])) (hT : RO noS w (.rd (sM 0) tabL)) : Calls Tryd.prog 11 #[.agg #[.string exN, .bool false, .int .i64 0, .int .i64 3, .slice A9 (bsOf [exB A7 A5]).length 1], .int .i64 2] w (Ret fun v w' => ∃ A' c', v = .tuple #[.slice A' 3 c', .int .i64 0, .int .i64 0] ∧ Mem noS w w' [.row 3 1 A' 3 c' (ints [0, 1, 0])]) := by
  have h9 := alloc_c exN false 0 3 A9 1 [exB A7 A5] 2 w (by simp) ex_ok hA (by simp [sizeF, sizeTo, exB]) ex_cap hT
  rw [ex_alloc] at h9
  exact h9
theorem right_ex1 (A5 A7 A9 : Option Addr) (w : World) (hA : RO noS w (.fn A9 [exB A7 A5])) (hT : RO noS w (.rd (sM 0) tabL)) (B : Option Addr) (c : Nat) (hB : RO noS w (.rd B (ints [0, 1, 0]))) : Calls Tryd.prog 8 #[.agg #[.string exN, .bool false, .int .i64 0, .int .i64 3, .slice A9 (bsOf [exB A7 A5]).length 1], .slice B 3 c] w (Ret fun v w' => v = .bool true ∧ Mem noS w w' []) := by
  have h9 := right_c exN false 0 3 A9 1 [exB A7 A5] [0, 1, 0] B c w (by simp) ex_ok hA (by simp) hB hT
  rw [ex_right] at h9
  exact h9
theorem right_ex2 (A5 A7 A9 : Option Addr) (w : World) (hA : RO noS w (.fn A9 [exB A7 A5])) (hT : RO noS w (.rd (sM 0) tabL)) (B : Option Addr) (c : Nat) (hB : RO noS w (.rd B (ints [0, 0, 0]))) : Calls Tryd.prog 8 #[.agg #[.string exN, .bool false, .int .i64 0, .int .i64 3, .slice A9 (bsOf [exB A7 A5]).length 1], .slice B 3 c] w (Ret fun v w' => v = .bool false ∧ Mem noS w w' []) := by
  have h9 := right_c exN false 0 3 A9 1 [exB A7 A5] [0, 0, 0] B c w (by simp) ex_ok hA (by simp) hB hT
  rw [ex_wrong] at h9
  exact h9
end Go.Proofs.YthgbejihcchcnaaDoor
namespace Go.Proofs.YthgbejihcchcnaaDoor
open Go.Mor
theorem awake7_c (w : World) (hT : RO noS w (.rd (sM 0) tabL)) :
    Calls Tryd.prog 7 #[] w (Ret fun v w' => v = .bool true ∧ Mem noS w w' []) := by
 refine zen 42 [] Tryd.func7 ?_
 have hM := Mem.init w
 refine zsp <| zsr <| zcl (sample_c w) ?_
 rintro _ w1 ⟨A5x, A7x, A9x, rfl, hRx, M2x⟩
 have M2 := hM.cl M2x
 clear M2x hM
 refine zcl (alloc_ex A5x A7x A9x w1 hRx (hT.at_ M2)) ?_
 rintro _ w3 ⟨Al, cl, rfl, M4x⟩
 have M4 := M2.cl M4x
 refine zpn 7 <| zfe <| zsq ?_
 obtain ⟨B5, hB5⟩ : ∃ B : Bool, B = ((0 : Int) == 0) := ⟨_, rfl⟩
 obtain rfl : B5 = true := by
   have hkn : (((0 : Int) : Int) = 0) := by rfl
   first | exact hB5.trans (decide_eq_true hkn) | exact hB5.trans (decide_eq_false hkn) | exact hB5.trans (beq_iff_eq.2 hkn) | exact hB5.trans (bne_iff_ne.2 hkn) | exact hB5.trans (Bool.eq_false_iff.2 (fun e => hkn (beq_iff_eq.1 e))) | exact hB5.trans (Bool.eq_false_iff.2 (fun e => hkn (bne_iff_ne.1 e)))
 obtain ⟨B6, hB6⟩ : ∃ B : Bool, B = ((0 : Int) == 0) := ⟨_, rfl⟩
 obtain rfl : B6 = true := by
   have hkn : (((0 : Int) : Int) = 0) := by rfl
   first | exact hB6.trans (decide_eq_true hkn) | exact hB6.trans (decide_eq_false hkn) | exact hB6.trans (beq_iff_eq.2 hkn) | exact hB6.trans (bne_iff_ne.2 hkn) | exact hB6.trans (Bool.eq_false_iff.2 (fun e => hkn (beq_iff_eq.1 e))) | exact hB6.trans (Bool.eq_false_iff.2 (fun e => hkn (bne_iff_ne.1 e)))
 obtain ⟨B7, hB7⟩ : ∃ B : Bool, B = (((([0, 1, 0] : List Int).length : Nat) : Int) == 3) := ⟨_, rfl⟩
 obtain rfl : B7 = true := by
   have hkn : ((((([0, 1, 0] : List Int).length : Nat) : Int) : Int) = 3) := by rfl
   first | exact hB7.trans (decide_eq_true hkn) | exact hB7.trans (decide_eq_false hkn) | exact hB7.trans (beq_iff_eq.2 hkn) | exact hB7.trans (bne_iff_ne.2 hkn) | exact hB7.trans (Bool.eq_false_iff.2 (fun e => hkn (beq_iff_eq.1 e))) | exact hB7.trans (Bool.eq_false_iff.2 (fun e => hkn (bne_iff_ne.1 e)))
 obtain ⟨g8, rfl⟩ := row_some (M4.get 0 rfl) (by omega)
 obtain ⟨B9, hB9⟩ : ∃ B : Bool, B = ((0 : Int) != (1 : Int)) := ⟨_, rfl⟩
 obtain rfl : B9 = true := by
   have hkn : (((0 : Int) : Int) ≠ (1 : Int)) := by decide
   first | exact hB9.trans (decide_eq_true hkn) | exact hB9.trans (decide_eq_false hkn) | exact hB9.trans (beq_iff_eq.2 hkn) | exact hB9.trans (bne_iff_ne.2 hkn) | exact hB9.trans (Bool.eq_false_iff.2 (fun e => hkn (beq_iff_eq.1 e))) | exact hB9.trans (Bool.eq_false_iff.2 (fun e => hkn (bne_iff_ne.1 e)))
 refine zkp [(1, (.slice (sM g8) (([0, 1, 0] : List Int).length) cl)), (2, (nV 0)), (3, (nV 0))] ?_
 intro aC fr
 refine zdt 29 (N := 42) (env0 := [(1, (.slice (sM g8) (([0, 1, 0] : List Int).length) cl)), (2, (nV 0)), (3, (nV 0))]) (specAt [.det (nV 0), .det (nV 0), .det (.bool true), .det (.bool true), .det (nV 0), .det (.bool true), .det (.bool true), .det (.bool true), .det (.slice (sM g8) (([0, 1, 0] : List Int).length) cl), .det (.int .i64 ((([0, 1, 0] : List Int).length : Nat) : Int)), .det (.bool true), .det (.bool true), .det (.bool true), .det (.slice (sM g8) (([0, 1, 0] : List Int).length) cl), .det (.pointer (some ((⟨g8, 0, none⟩ : Addr).add ((0 : Int).toNat * 1)))), .det (nV 0), .det (.slice (sM g8) (([0, 1, 0] : List Int).length) cl), .det (.pointer (some ((⟨g8, 0, none⟩ : Addr).add ((1 : Int).toNat * 1)))), .det (nV 1), .det (.bool true), .det (.bool true), .det (.bool true), exSpec, .det (.slice (sM g8) (([0, 1, 0] : List Int).length) cl), .det (.bool true), .det (.bool true), .det (.bool true), exSpec, .sl 3 [(.int .i64 0), (.int .i64 0), (.int .i64 0)]]) fr (la (la (la (la (la (la (la (la (la (la (la (la (la (la (la (la (la (la (la (la (la (la (la (la (la (la (la (la (la lz dP) (dD (fun w_ hK => num7_c (0 : Int) w_) rfl)) (dC ((0 : Int) == 0) hB5)) dP) dP) (dC ((0 : Int) == 0) hB6)) dP) dP) dP) dP) (dC (((([0, 1, 0] : List Int).length : Nat) : Int) == 3) hB7)) dP) dP) dP) (dI (h1 := (by decide)) ⟨g8, 0, none⟩ (([0, 1, 0] : List Int).length) 1 0)) (dL ((⟨g8, 0, none⟩ : Addr).add ((0 : Int).toNat * 1)) (nV 0) fun w_ hK => (rd_at (row_rd ((M4.then_ hK).get 0 rfl)) rfl (show [0, 1, 0][(0 : Int).toNat]? = some (0 : Int) from rfl)))) dP) (dI (h1 := (by decide)) ⟨g8, 0, none⟩ (([0, 1, 0] : List Int).length) 1 1)) (dL ((⟨g8, 0, none⟩ : Addr).add ((1 : Int).toNat * 1)) (nV 1) fun w_ hK => (rd_at (row_rd ((M4.then_ hK).get 0 rfl)) rfl (show [0, 1, 0][(1 : Int).toNat]? = some (1 : Int) from rfl)))) (dC ((0 : Int) != (1 : Int)) hB9)) dP) dP) ?_) dP) ?_) dP) dP) ?_) ?_) ?_
 intro aa_ w_ vs rest_ hK hp hF
 refine ⟨true, opok_guard (g0 := some (21, true)) (by kernel_rfl) (by kernel_rfl), fun _ => ?_, fun h => Bool.noConfusion h⟩
 replace hF : Fr aa_ 42 [(31, (.bool true))] := hF.kp [31]
 refine From_call (by kernel_rfl : coreAt _ 0 = some (some 32, (.call { callee := (.value (.func 17)), args := #[], argTypes := #[] }), 24, none)) hF (by kernel_rfl) (by kernel_rfl) (k' := 1) rfl (f := 17) (vs := []) (cap := []) (by kernel_rfl) (by kernel_rfl) (by kernel_rfl) (sample_c w_) ?_
 rintro _ w2 ⟨A5y, A7y, A9y, rfl, hRy, hm_⟩ a2 ea _
 refine From_end (by kernel_rfl) ?_; exact op_done (d := some 32) (by kernel_rfl) ea hm_.kp ⟨A5y, A7y, A9y, rfl, hRy⟩
 intro aa_ w_ vs rest_ hK hp hF
 refine ⟨true, opok_guard (g0 := some (21, true)) (by kernel_rfl) (by kernel_rfl), fun _ => ?_, fun h => Bool.noConfusion h⟩
 replace hF : Fr aa_ 42 [(31, (.bool true)), (32, vs 22), (33, (.slice (sM g8) (([0, 1, 0] : List Int).length) cl))] := hF.kp [31, 32, 33]
 obtain ⟨A5_22, A7_22, A9_22, e22, r22⟩ := hp 22 (mem_preds (by kernel_rfl))
 rw [e22] at hF
 refine From_call (by kernel_rfl : coreAt _ 0 = some (some 34, (.call { callee := (.value (.func 8)), args := #[(.tmp 32), (.tmp 33)], argTypes := #[24, 25] }), 4, none)) hF (by kernel_rfl) (by kernel_rfl) (k' := 1) rfl (f := 8) (vs := [(.agg #[(.string exN), (.bool false), (.int .i64 0), (.int .i64 3), (.slice A9_22 ((bsOf [exB A7_22 A5_22]).length) 1)]), (.slice (sM g8) (([0, 1, 0] : List Int).length) cl)]) (cap := []) (by kernel_rfl) (by kernel_rfl) (by kernel_rfl) (right_ex1 A5_22 A7_22 A9_22 w_ r22 (hT.at_ (M4.then_ hK)) (sM g8) cl (RO.of (row_rd ((M4.then_ hK).get 0 rfl)))) ?_
 rintro _ w2 ⟨rfl, hm_⟩ a2 ea _
 refine From_end (by kernel_rfl) ?_; exact op_done (d := some 34) (by kernel_rfl) ea hm_.kp rfl
 intro aa_ w_ vs rest_ hK hp hF
 refine ⟨true, opok_guard (g0 := some (26, true)) (by kernel_rfl) (by kernel_rfl), fun _ => ?_, fun h => Bool.noConfusion h⟩
 replace hF : Fr aa_ 42 [(36, (.bool true))] := hF.kp [36]
 refine From_call (by kernel_rfl : coreAt _ 0 = some (some 37, (.call { callee := (.value (.func 17)), args := #[], argTypes := #[] }), 24, none)) hF (by kernel_rfl) (by kernel_rfl) (k' := 1) rfl (f := 17) (vs := []) (cap := []) (by kernel_rfl) (by kernel_rfl) (by kernel_rfl) (sample_c w_) ?_
 rintro _ w2 ⟨A5y, A7y, A9y, rfl, hRy, hm_⟩ a2 ea _
 refine From_end (by kernel_rfl) ?_; exact op_done (d := some 37) (by kernel_rfl) ea hm_.kp ⟨A5y, A7y, A9y, rfl, hRy⟩
 intro aa_ w_ vs rest_ hK hp hF
 refine ⟨true, opok_guard (g0 := some (26, true)) (by kernel_rfl) (by kernel_rfl), fun _ => ?_, fun h => Bool.noConfusion h⟩
 replace hF : Fr aa_ 42 [(36, (.bool true))] := hF.kp [36]
 refine zBs 38 25 3 #[(0, (.const (.int .i64 0))), (1, (.const (.int .i64 0))), (2, (.const (.int .i64 0)))] 25 hF (e := 3) (size := 1) (zs := [(.int .i64 0)]) (vs := [(0, (.int .i64 0)), (1, (.int .i64 0)), (2, (.int .i64 0))]) (cs := [(.int .i64 0), (.int .i64 0), (.int .i64 0)]) (Mem.init w_) ?_
 intro b_ w2 _ _ _ hm_ a2 ea _
 refine From_end (by kernel_rfl) ?_; exact op_done (d := some 38) (by kernel_rfl) ea hm_.kp ⟨_, _, rfl, row_rd (hm_.get 0 rfl)⟩
 intro aC w16 vs hK hv fr
 revert aC; refine zkp [(36, (.bool true)), (37, vs 27), (38, vs 28)] ?_
 obtain ⟨A5_27, A7_27, A9_27, e27, r18⟩ := hv 27 (by decide)
 rw [e27]; clear e27
 obtain ⟨A10, c11, e28, r19⟩ := hv 28 (by decide)
 rw [e28]; clear e28
 have M17 := M4.then_ hK
 clear hK hv fr aC M4; clear vs
 refine zcl (right_ex2 A5_27 A7_27 A9_27 w16 (by assumption) (hT.at_ M17) A10 c11 (RO.of (by assumption))) ?_
 rintro _ w20 ⟨rfl, M21x⟩
 have M21 := M17.cl M21x
 refine zpn 3 <| zfe <| zre <| zo1 (.bool true) ?_
 have M22 := M21.od [] 0
 exact ⟨rfl, M22⟩
end Go.Proofs.YthgbejihcchcnaaDoor
namespace Go.Proofs.YthgbejihcchcnaaDoor
open Go.Mor
theorem regsTwins_c (nm : ByteArray) (wk : Bool) (pa va : Int) (A : Option Addr) (c : Nat) (fs : List FBlk) (kk : Int) (w : World) (hok : FOk fs) (hA : RO noS w (.fn A fs)) (hcap : ∀ x, x ∈ fs → ∀ p, p ∈ x.insts → p.args.length ≤ p.c) (hT : RO noS w (.rd (sM 0) tabL)) :
    Calls Tryd.prog 5 #[(fA nm wk pa va A c fs), (.int .i64 kk)] w (Ret fun v w' => v = .bool true ∧ Mem noS w w' []) := by
 have hbl := bsOf_len fs
 have hB := hA.bs
 refine zen 73 [(fA nm wk pa va A c fs), (.int .i64 kk)] Tryd.func5 ?_
 have hM := Mem.init w
 refine zsr <| zbx hM 24 (fA nm wk pa va A c fs) (fV nm wk pa va A c fs) fun b1 w2 hb1 M3 => ?_
 replace M3 := M3.nf
 clear hM
 refine zpn 1 <| zfe <| zsq <| zsr <| zls ⟨b1, 0, none⟩ (fV nm wk pa va A c fs) (blk_cells (M3.get 0 rfl)) <| zcl (great7_c nm wk pa va A c fs w2 hok (hA.at_ M3)) ?_
 rintro _ w4 ⟨rfl, M5x⟩
 have M5 := M3.cl M5x
 refine zfe <| zcD (great7Q va fs) (fun c6 => ?_) (fun c6 => ?_)
 refine zsr <| zcl (awake7_c w4 (hT.at_ M5)) ?_
 rintro _ w7 ⟨rfl, M8x⟩
 have M8 := M5.cl M8x
 refine zpn 1 <| zfe <| zre <| zo1 (.bool true) ?_
 have M9 := M8.od [] 0
 exact ⟨rfl, M9⟩
 obtain ⟨hN6, hs8⟩ := great7_no c6
 have hal := allocN_len (nm := nm) (pa := pa) (va := va) (k := kk) (fs := fs)
 refine zsk <| zsr <| zls ⟨b1, 0, none⟩ (fV nm wk pa va A c fs) (blk_cells (M5.get 0 rfl)) <| zpn 1 <| zcl (alloc_c nm wk pa va A c fs kk w4 (by omega) hok (hA.at_ M5) (by omega) hcap (hT.at_ M5)) ?_
 rintro _ w12 ⟨Al10, cl11, rfl, M13x⟩
 have M13 := M5.cl M13x
 refine zpn 7 <| zfe <| zsr <| zls ⟨b1, 0, none⟩ (fV nm wk pa va A c fs) (blk_cells (M13.get 0 rfl)) <| zpn 1 <| zcl (alloc_c nm wk pa va A c fs kk w12 (by omega) hok (hA.at_ M13) (by omega) hcap (hT.at_ M13)) ?_
 rintro _ w16 ⟨Al14, cl15, rfl, M17x⟩
 have M17 := M13.cl M17x
 refine zpn 7 <| zfe <| zsr <| zpn 2 <| zcl ((by have h9 := sameInts_c (allocN nm pa va fs kk).1 (allocN nm pa va fs kk).1 Al10 Al14 cl11 cl15 w16 (by omega) (by omega) (RO.row_rd (M17.own_ro 1 rfl)) (RO.row_rd (M17.own_ro 2 rfl)); rw [decide_eq_true rfl] at h9; exact h9)) ?_
 rintro _ w18 ⟨rfl, M19x⟩
 have M19 := M17.cl M19x
 refine zkp [(1, (.int .i64 kk)), (2, (pT b1 0)), (5, (.slice Al10 ((allocN nm pa va fs kk).1.length) cl11)), (6, (.int .i64 ((allocN nm pa va fs kk).2.1))), (7, (.int .i64 ((allocN nm pa va fs kk).2.2))), (8, (.slice Al14 ((allocN nm pa va fs kk).1.length) cl15)), (9, (.int .i64 ((allocN nm pa va fs kk).2.1))), (10, (.int .i64 ((allocN nm pa va fs kk).2.2))), (35, (.bool true))] <| zpn 3 <| zcm (((allocN nm pa va fs kk).2.1) == ((allocN nm pa va fs kk).2.1)) fun B20 hB20 => ?_
 obtain rfl : B20 = true := by
   have hkn : ((((allocN nm pa va fs kk).2.1) : Int) = ((allocN nm pa va fs kk).2.1)) := by rfl
   first | exact hB20.trans (decide_eq_true hkn) | exact hB20.trans (decide_eq_false hkn) | exact hB20.trans (beq_iff_eq.2 hkn) | exact hB20.trans (bne_iff_ne.2 hkn) | exact hB20.trans (Bool.eq_false_iff.2 (fun e => hkn (beq_iff_eq.1 e))) | exact hB20.trans (Bool.eq_false_iff.2 (fun e => hkn (bne_iff_ne.1 e)))
 clear hB20
 refine zpn 3 <| zcl (num7_c ((allocN nm pa va fs kk).2.2) w18) ?_
 rintro _ w21 ⟨rfl, M22x⟩
 have M22 := M19.cl M22x
 refine zpn 1 <| zcl (num7_c ((allocN nm pa va fs kk).2.2) w21) ?_
 rintro _ w23 ⟨rfl, M24x⟩
 have M24 := M22.cl M24x
 refine zcm (((allocN nm pa va fs kk).2.2) == ((allocN nm pa va fs kk).2.2)) fun B25 hB25 => ?_
 obtain rfl : B25 = true := by
   have hkn : ((((allocN nm pa va fs kk).2.2) : Int) = ((allocN nm pa va fs kk).2.2)) := by rfl
   first | exact hB25.trans (decide_eq_true hkn) | exact hB25.trans (decide_eq_false hkn) | exact hB25.trans (beq_iff_eq.2 hkn) | exact hB25.trans (bne_iff_ne.2 hkn) | exact hB25.trans (Bool.eq_false_iff.2 (fun e => hkn (beq_iff_eq.1 e))) | exact hB25.trans (Bool.eq_false_iff.2 (fun e => hkn (bne_iff_ne.1 e)))
 clear hB25
 refine zpn 2 <| zfe <| zsq <| zsp <| zbk 0 ?_
 intro aC fr
 refine zlp (fun n_ a_ w_ => ∃ (i : Nat) (ms : List Int), n_ = (allocN nm pa va fs kk).1.length - i ∧ Fr a_ 73 [(1, (.int .i64 kk)), (2, (pT b1 0)), (5, (.slice Al10 ((allocN nm pa va fs kk).1.length) cl11)), (8, (.slice Al14 ((allocN nm pa va fs kk).1.length) cl15)), (11, (.bool true)), (12, (nV i))] ∧ Mem noS w w_ [.blk b1 24 (fV nm wk pa va A c fs), .row 3 1 Al10 ((allocN nm pa va fs kk).1.length) cl11 (ints ms), .row 3 1 Al14 ((allocN nm pa va fs kk).1.length) cl15 (ints ((allocN nm pa va fs kk).1))] ∧ (i ≤ (allocN nm pa va fs kk).1.length) ∧ (ms.length = (allocN nm pa va fs kk).1.length)) (n := _) ⟨0, (allocN nm pa va fs kk).1, rfl, fr.kp [1, 2, 5, 8, 11, 12], M24, by omega, rfl⟩ ?_
 clear fr aC M24; rintro n aC w28 ⟨i, ms, rfl, fr, M29, hi, hms⟩
 revert aC
 refine zsq <| zsp <| zcD (((i : Int) : Int) < (((allocN nm pa va fs kk).1.length : Nat) : Int)) (fun c32 => ?_) (fun c32 => ?_)
 refine zsk <| zsq <| zbk 1 <| zrg <| zpn 2 ?_
 obtain ⟨g34, rfl⟩ := row_some (M29.get 1 rfl) (by omega)
 refine zix ⟨g34, 0, none⟩ ((allocN nm pa va fs kk).1.length) 1 (i : Int) <| zsw M29 1 ((⟨g34, 0, none⟩ : Addr).add (((i : Int)).toNat * 1)) (((i : Int)).toNat * 1) (.int .i64 (-1)) rfl rfl (by omega) fun w35 M36 => ?_
 replace M36 := M36.nf
 refine zfe <| zrg <| zpn 1 <| zar ((i : Int) + 1) <| zpn 1 <| zfe ?_
 have M37 : Mem noS w w35 [.blk b1 24 (fV nm wk pa va A c fs), .row 3 1 (sM g34) ((allocN nm pa va fs kk).1.length) cl11 (ints (ms.set i (-1))), .row 3 1 Al14 ((allocN nm pa va fs kk).1.length) cl15 (ints ((allocN nm pa va fs kk).1))] := M36.cast (by simp only [ints_set, Int.toNat_natCast, Nat.mul_one])
 intro aC fr
 exact ⟨(allocN nm pa va fs kk).1.length - (i + 1), by omega, i + 1, (ms.set i (-1)), rfl, fr.kp [1, 2, 5, 8, 11, 12], M37, by omega, by rw [List.length_set]; exact hms⟩
 refine zex 0 <| zbh <| zsr <| zls ⟨b1, 0, none⟩ (fV nm wk pa va A c fs) (blk_cells (M29.get 0 rfl)) <| zpn 1 <| zcl (alloc_c nm wk pa va A c fs kk w28 (by omega) hok (hA.at_ M29) (by omega) hcap (hT.at_ M29)) ?_
 rintro _ w42 ⟨Al40, cl41, rfl, M43x⟩
 have M43 := M29.cl M43x
 refine zpn 7 <| zfe <| zsr <| zpn 4 <| zcl ((by have h9 := sameInts_c (allocN nm pa va fs kk).1 (allocN nm pa va fs kk).1 Al14 Al40 cl15 cl41 w42 (by omega) (by omega) (RO.row_rd (M43.own_ro 2 rfl)) (RO.row_rd (M43.own_ro 3 rfl)); rw [decide_eq_true rfl] at h9; exact h9)) ?_
 rintro _ w44 ⟨rfl, M45x⟩
 have M45 := M43.cl M45x
 refine zpn 2 <| zcl (awake7_c w44 (hT.at_ M45)) ?_
 rintro _ w46 ⟨rfl, M47x⟩
 have M47 := M45.cl M47x
 refine zpn 2 <| zfe <| zre <| zo1 (.bool true) ?_
 have M48 := M47.od [] 0
 exact ⟨rfl, M48⟩
end Go.Proofs.YthgbejihcchcnaaDoor
namespace Go.Proofs.YthgbejihcchcnaaDoor
open Go.Mor Go.ChangeShapes Go.WideShapes Go.ChangeAt Go.RowKit Go.Deep
section
variable {H : Type} {enc : TypeId × Value → H} {w : World} {base : Nat} {spare : Nat → Bool} {held : Bool}
theorem slice_capC {t e : TypeId} (ht : Tryd.prog.underlying t = some (.slice e)) {fuel : Nat} {A : Option Addr} {len cap : Nat} {x : DataW H × List MemPlace} (h : DataW.trod enc Tryd.prog w base spare held fuel t [.slice A len cap] = some x) : len ≤ cap := by
  rcases DataW.trod_slice ht h with ⟨hcs, _⟩ | ⟨a, len', cap', elems, rest, n, _, hcs, _, _, hl, _, _, _, _, _⟩
  · simp at hcs
    omega
  · simp at hcs
    obtain ⟨_, rfl, rfl⟩ := hcs
    exact hl
theorem open_numsC {fuel : Nat} {v : Value} {x : DataW H × List MemPlace} (h : DataW.trod enc Tryd.prog w base spare held fuel 25 [v] = some x) (hz : Reach_ 25 x.1) :
    ∃ A l c, v = .slice A (List.length l) c ∧ LenOk l.length ∧ (∀ x, x ∈ l → In64 x) ∧ (Res.rd A (ints l)).holds w ∧ l.length ≤ c := by
  have hcp : ∀ A len cap, v = .slice A len cap → len ≤ cap := fun A len cap e => by subst e; exact slice_capC Tryd.underlying25 h
  obtain ⟨A, len, cap, rfl, hl, hx⟩ := open_elems (k := 8) Tryd.underlying25 (by kernel_rfl) (by omega) h hz
  have c3 : Tryd.prog.cellsOf 3 = 1 := by kernel_rfl
  have : ∀ i, i < len → ∃ k : Int, In64 k ∧ ∃ ad, A = some ad ∧ w.cell? (ad.add i) = some (.int .i64 k) := by
    intro i hi
    obtain ⟨ad, cs, n, y, hA, hlen, hc, htr, _⟩ := hx i hi
    rw [c3] at hlen hc
    match cs, hlen with
    | [c0], _ =>
      obtain ⟨k, rfl, hk⟩ := i64_of Tryd.underlying3 htr
      refine ⟨k, hk, ad, hA, ?_⟩
      have h0 := hc 0 _ rfl
      rw [Nat.mul_one] at h0
      simpa [Addr.add] using h0
  obtain ⟨l, rfl, hp⟩ := list_of this
  refine ⟨A, l, cap, rfl, hl, fun k hk => ?_, fun i v hi => ?_, hcp _ _ _ rfl⟩
  · obtain ⟨i, hi⟩ := List.mem_iff_getElem?.1 hk
    exact (hp i k hi).1
  · simp only [ints, List.getElem?_map, Option.map_eq_some_iff] at hi
    obtain ⟨k, hk, rfl⟩ := hi
    exact (hp i k hk).2
theorem open_instsC {fuel : Nat} {v : Value} {x : DataW H × List MemPlace} (h : DataW.trod enc Tryd.prog w base spare held fuel 51 [v] = some x) (hz : Reach_ 51 x.1) :
    ∃ A l c, v = .slice A (List.length l) c ∧ LenOk l.length ∧ (∀ p : FIns, p ∈ l → p.Ok ∧ (Res.rd p.A (ints p.args)).holds w ∧ p.args.length ≤ p.c) ∧ (Res.rds A 5 (l.map FIns.cells)).holds w := by
  obtain ⟨A, len, cap, rfl, hl, hx⟩ := open_structs2 (k := 64) Tryd.underlying51 Tryd.underlying57 (by kernel_rfl) (by kernel_rfl) (by kernel_rfl) (by omega) h hz
  have : ∀ i, i < len → ∃ b : FIns, (b.Ok ∧ (Res.rd b.A (ints b.args)).holds w ∧ b.args.length ≤ b.c) ∧ ∃ ad : Addr, A = some ad ∧ ∀ (j : Nat) (v : Value), b.cells[j]? = some v → w.cell? ((ad.add (i * 5)).add j) = some v := by
    intro i hi
    obtain ⟨ad, cs, hA, hln, hc, n, hf⟩ := hx i hi
    obtain ⟨c0, c1, c2, c3, c4, rfl⟩ := list5 hln
    obtain ⟨_, _, e, g0, zg0⟩ := hf 0 _ rfl
    cases e
    obtain ⟨o, rfl, ho⟩ := i64_of Tryd.underlying3 g0
    obtain ⟨_, _, e, g1, zg1⟩ := hf 1 _ rfl
    cases e
    obtain ⟨d, rfl, hd⟩ := i64_of Tryd.underlying3 g1
    obtain ⟨_, _, e, g2, zg2⟩ := hf 2 _ rfl
    cases e
    obtain ⟨m, rfl, hmm⟩ := i64_of Tryd.underlying2 g2
    obtain ⟨_, _, e, g3, zg3⟩ := hf 3 _ rfl
    cases e
    obtain ⟨s, rfl, hs⟩ := str_of Tryd.underlying9 g3 zg3
    obtain ⟨_, _, e, g4, zg4⟩ := hf 4 _ rfl
    cases e
    obtain ⟨Aa, gs, ca, rfl, h1, h2, h3, h4⟩ := open_numsC g4 zg4
    exact ⟨⟨o, d, m, s, Aa, ca, gs⟩, ⟨⟨ho, hd, hmm, hs, h1, h2⟩, h3, h4⟩, ad, hA, hc⟩
  obtain ⟨l, rfl, hp⟩ := list_of this
  refine ⟨A, l, cap, rfl, hl, fun p hpm => ?_, fun i cs hi => ?_⟩
  · obtain ⟨i, hi⟩ := List.mem_iff_getElem?.1 hpm
    exact (hp i p hi).1
  · rw [List.getElem?_map] at hi
    obtain ⟨b, hb, rfl⟩ := Option.map_eq_some_iff.1 hi
    exact (hp i b hb).2
theorem open_fblksC {fuel : Nat} {v : Value} {x : DataW H × List MemPlace} (h : DataW.trod enc Tryd.prog w base spare held fuel 22 [v] = some x) (hz : Reach_ 22 x.1) :
    ∃ A fs c, v = .slice A (bsOf fs).length c ∧ FOk fs ∧ (Res.fn A fs).holds w ∧ ∀ x, x ∈ fs → ∀ p, p ∈ x.insts → p.args.length ≤ p.c := by
  obtain ⟨A, len, cap, rfl, _, hx⟩ := open_structs2 (k := 80) Tryd.underlying22 Tryd.underlying53 (by kernel_rfl) (by kernel_rfl) (by kernel_rfl) (by omega) h hz
  have : ∀ i, i < len → ∃ b : FBlk, (b.Ok ∧ (∀ r, r ∈ b.parts → r.holds w) ∧ ∀ p, p ∈ b.insts → p.args.length ≤ p.c) ∧ ∃ ad : Addr, A = some ad ∧ ∀ (j : Nat) (v : Value), b.sb.cells[j]? = some v → w.cell? ((ad.add (i * 6)).add j) = some v := by
    intro i hi
    obtain ⟨ad, cs, hA, hln, hc, n, hf⟩ := hx i hi
    obtain ⟨c0, c1, c2, c3, c4, c5, rfl⟩ := list6 hln
    obtain ⟨_, _, e, g0, zg0⟩ := hf 0 _ rfl
    cases e
    obtain ⟨pA, ps, pc, rfl, hp1, hp2, hp3⟩ := open_phis g0 zg0
    obtain ⟨_, _, e, g1, zg1⟩ := hf 1 _ rfl
    cases e
    obtain ⟨iA, js, ic, rfl, hi1, hi2, hi3⟩ := open_instsC g1 zg1
    obtain ⟨_, _, e, g2, zg2⟩ := hf 2 _ rfl
    cases e
    obtain ⟨x2, rfl, h2⟩ := i64_of Tryd.underlying3 g2
    obtain ⟨_, _, e, g3, zg3⟩ := hf 3 _ rfl
    cases e
    obtain ⟨x3, rfl, h3⟩ := i64_of Tryd.underlying3 g3
    obtain ⟨_, _, e, g4, zg4⟩ := hf 4 _ rfl
    cases e
    obtain ⟨x4, rfl, h4⟩ := i64_of Tryd.underlying3 g4
    obtain ⟨_, _, e, g5, zg5⟩ := hf 5 _ rfl
    cases e
    obtain ⟨x5, rfl, h5⟩ := i64_of Tryd.underlying3 g5
    refine ⟨⟨pA, pc, ps, iA, ic, js, x2, x3, x4, x5⟩, ⟨⟨hp1, fun p hp => (hp2 p hp).1, hi1, fun p hp => (hi2 p hp).1, h2, h3, h4, h5⟩, fun r hr => ?_, fun p hp => (hi2 p hp).2.2⟩, ad, hA, hc⟩
    unfold FBlk.parts at hr
    rcases List.mem_cons.1 hr with rfl | hr
    · exact hp3
    · rcases List.mem_cons.1 hr with rfl | hr
      · exact hi3
      · rcases List.mem_append.1 hr with hr | hr
        · obtain ⟨p, hp, rfl⟩ := List.mem_map.1 hr
          exact (hp2 p hp).2
        · obtain ⟨p, hp, rfl⟩ := List.mem_map.1 hr
          exact (hi2 p hp).2.1
  obtain ⟨fs, rfl, hbs⟩ := list_of this
  refine ⟨A, fs, cap, by rw [bsOf_len], fun x hx => ?_, fun r hr => ?_, fun x hx => ?_⟩
  · obtain ⟨i, hi⟩ := List.mem_iff_getElem?.1 hx
    exact (hbs i x hi).1.1
  · rcases List.mem_cons.1 hr with rfl | hr
    · intro i cs hi
      unfold bsOf at hi
      rw [List.getElem?_map, List.getElem?_map] at hi
      obtain ⟨b, hb, rfl⟩ := Option.map_eq_some_iff.1 hi
      obtain ⟨y, hy, rfl⟩ := Option.map_eq_some_iff.1 hb
      exact (hbs i y hy).2
    · obtain ⟨y, hy, hr⟩ := List.mem_flatMap.1 hr
      obtain ⟨i, hi⟩ := List.mem_iff_getElem?.1 hy
      exact (hbs i y hi).1.2.1 r hr
  · obtain ⟨i, hi⟩ := List.mem_iff_getElem?.1 hx
    exact (hbs i x hi).1.2.2
theorem open_ffuncC {r : Reach} {b0 : Nat} {v : Value} {d : DataW H} {p : List MemPlace} (hok : Value.okWide Tryd.prog w r b0 24 v) (h : DataW.Trod enc Tryd.prog w base spare held 24 v d p) (hz : Reach_ 24 d) :
    ∃ nm wk pa va A fs c, v = .agg #[.string nm, .bool wk, .int .i64 pa, .int .i64 va, .slice A (bsOf fs).length c] ∧ FOk fs ∧ (Res.fn A fs).holds w ∧ ∀ x, x ∈ fs → ∀ p, p ∈ x.insts → p.args.length ≤ p.c := by
  obtain ⟨cs, rfl, _⟩ := okWide_struct Tryd.underlying24 hok
  obtain ⟨fuel, h⟩ := h
  obtain ⟨hl, n, hf0⟩ := fields_of2 Tryd.underlying24 (by kernel_rfl) (by kernel_rfl) (cs := cs.toList) (by simpa [Value.cells] using h) hz
  have hf := fun (i : Nat) (f : Field) hi => (hf0 i f hi)
  have hsz : cs.size = 5 := by simpa using hl
  obtain ⟨c0, c1, c2, c3, c4, rfl⟩ := array5 hsz
  obtain ⟨_, _, e, g0, zg0⟩ := hf 0 _ rfl
  cases e
  obtain ⟨nm, rfl, _⟩ := str_of Tryd.underlying9 g0 zg0
  obtain ⟨_, _, e, g1, zg1⟩ := hf 1 _ rfl
  cases e
  obtain ⟨wk, hw, _⟩ := DataW.trod_bool Tryd.underlying4 g1
  simp at hw
  subst hw
  obtain ⟨_, _, e, g2, zg2⟩ := hf 2 _ rfl
  cases e
  obtain ⟨pa, rfl, _⟩ := i64_of Tryd.underlying3 g2
  obtain ⟨_, _, e, g3, zg3⟩ := hf 3 _ rfl
  cases e
  obtain ⟨va, rfl, _⟩ := i64_of Tryd.underlying3 g3
  obtain ⟨_, _, e, g, zg⟩ := hf 4 _ rfl
  cases e
  obtain ⟨A, fs, c, rfl, h1, h2, h3⟩ := open_fblksC g zg
  exact ⟨nm, wk, pa, va, A, fs, c, rfl, h1, h2, h3⟩
end
end Go.Proofs.YthgbejihcchcnaaDoor
