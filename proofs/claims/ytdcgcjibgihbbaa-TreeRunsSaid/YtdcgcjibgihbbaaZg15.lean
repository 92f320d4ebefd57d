/-
  Texts of the proof, part 15.
-/
import Derived.Test.YtdcgcjibgihbbaaZg14
set_option maxRecDepth 10000
namespace Go.Proofs.Ytdcgcjibgihbbaa
open Go.Mor
theorem strong_c (b : Bool) (w : World) :
    Calls Try.prog 70 #[(.bool b)] w (Ret fun v w' => v = .int .i64 (stg b) ∧ Mem noS w w' []) := by
 refine zen 4 [(.bool b)] Try.func70 ?_
 have hM := Mem.init w
 refine zsp <| zsq <| zsp <| zcP b (b = true) Iff.rfl (fun c1 => ?_) (fun c1 => ?_)
 refine zsp <| zre <| zo1 (vI 1) ?_
 exact ⟨by unfold stg; first | rw [if_pos (by assumption)] | rw [if_neg (by simp_all)], hM⟩
 replace c1 : b = false := Bool.eq_false_iff.2 c1
 refine zsk <| zsp <| zre <| zo1 (vI 2) ?_
 exact ⟨by unfold stg; first | rw [if_pos (by assumption)] | rw [if_neg (by simp_all)], hM⟩
set_option maxHeartbeats 2000000 in
set_option maxHeartbeats 4000000 in
theorem tlay_c (C : TC) (ms : List TMod) (mA : Option Addr) (mc : Nat) (w : World) (hml : ms.length ≤ 1000) (hfl : (flF ms).length ≤ 1000) (hdl0 : (flD ms).length ≤ 1000) (hWD : ∀ d, d ∈ flD ms → d.WF) (hnF : ∀ f, f ∈ flF ms → f.nm.size ≤ 60) (hm1 : 1 ≤ C.E.memN) (hm2 : C.E.memN ≤ 262144) (hR : (Res.pk [tl_ C none 0 0 (vI 0), .row 2 1 (sM C.mG) C.E.memN C.E.memN (ints (List.replicate C.E.memN 0)), .row 5 1 none 0 0 [], .map C.mB (inK .string (vK [])), .map C.dB (inK .string (vK []))]).holds w) (hMs : RO (tlyS C) w (.mods mA ms)) :
    Calls Try.prog 53 #[(pT C.r 0), (vS mA ms.length mc)] w (Ret fun v w' => ∃ fA fc, (((nextTo (csD ms) (csD ms).length) ≤ C.E.memN ∧ v = .bool true ∧ Mem (tlyS C) w w' [.blk C.r 66 [(vS fA ((csF ms).length + 1) fc), (.map (some C.mB)), (.map (some C.dB)), (vS (sM C.mG) C.E.memN C.E.memN), (vI ((nextTo (csD ms) (csD ms).length) : Int)), (vS ((inAt C.iA C.ic 0).1) (C.E.inp.length - 0) ((inAt C.iA C.ic 0).2)), (vS none 0 0), (vI C.E.fuel), (vI 0), (vI 0)], .row 2 1 (sM C.mG) C.E.memN C.E.memN (ints (layTo (nmsTo (csF ms) (csF ms).length) (dataTo (csD ms) (csD ms).length) (csD ms) C.E.memN (csD ms).length)), .row 5 1 none 0 0 [], .map C.mB (inK .string (vK (nmsTo (csF ms) (csF ms).length))), .map C.dB (inK .string (vK (dataTo (csD ms) (csD ms).length))), .row 45 5 fA ((csF ms).length + 1) fc (fnT (csF ms) (csF ms).length)]) ∨ (C.E.memN < (nextTo (csD ms) (csD ms).length) ∧ v = .bool false ∧ Mem (tlyS C) w w' [.blk C.r 66 [(vS fA ((csF ms).length + 1) fc), (.map (some C.mB)), (.map (some C.dB)), (vS (sM C.mG) C.E.memN C.E.memN), (vI ((nextTo (csD ms) (csD ms).length) : Int)), (vS ((inAt C.iA C.ic 0).1) (C.E.inp.length - 0) ((inAt C.iA C.ic 0).2)), (vS none 0 0), (vI C.E.fuel), (vI 0), (vI 0)], .row 2 1 (sM C.mG) C.E.memN C.E.memN (ints (List.replicate C.E.memN 0)), .row 5 1 none 0 0 [], .map C.mB (inK .string (vK (nmsTo (csF ms) (csF ms).length))), .map C.dB (inK .string (vK (dataTo (csD ms) (csD ms).length))), .row 45 5 fA ((csF ms).length + 1) fc (fnT (csF ms) (csF ms).length)]))) := by
 have hlen : ∀ d, d ∈ csD ms → d.words.length ≤ 16384 := fun d hd => (hWD d (csD_mem hd)).len
 refine zen 270 [(pT C.r 0), (vS mA ms.length mc)] Try.func53 ?_
 have hM := (Mem.unpk hR : Mem (tlyS C) w w [tl_ C none 0 0 (vI 0), .row 2 1 (sM C.mG) C.E.memN C.E.memN (ints (List.replicate C.E.memN 0)), .row 5 1 none 0 0 [], .map C.mB (inK .string (vK [])), .map C.dB (inK .string (vK []))])
 refine zsp <| zsr <| zmm hM fun b1 w2 hb1 M3 => ?_
 replace M3 := M3.nf
 clear hM
 have M4 : Mem (tlyS C) w w2 [tl_ C none 0 0 (vI 0), .row 2 1 (sM C.mG) C.E.memN C.E.memN (ints (List.replicate C.E.memN 0)), .row 5 1 none 0 0 [], .map C.mB (inK .string (vK [])), .map C.dB (inK .string (vK [])), .map b1 (inK .string (vK []))] := M3.cast rfl
 refine zpn 1 <| zfe <| zsq <| zsp <| zbk 0 ?_
 have M5 : Mem (tlyS C) w w2 [tl_ C none 0 0 (vI 0), .row 2 1 (sM C.mG) C.E.memN C.E.memN (ints (List.replicate C.E.memN 0)), .row 5 1 none 0 0 [], .map C.mB (inK .string (vK [])), .map C.dB (inK .string (vK [])), .map b1 (inK .string (vK (wkM (evM (ms.take 0)))))] := M4.cast rfl
 intro aC fr
 refine zlp (fun n_ a_ w_ => ∃ (j : Nat), n_ = ms.length - j ∧ Fr a_ 270 [(0, (pT C.r 0)), (1, (vS mA ms.length mc)), (5, (.map (some b1))), (31, (vS mA ms.length mc)), (32, (vI ((ms.length : Nat) : Int))), (33, (nV j))] ∧ Mem (tlyS C) w w_ [tl_ C none 0 0 (vI 0), .row 2 1 (sM C.mG) C.E.memN C.E.memN (ints (List.replicate C.E.memN 0)), .row 5 1 none 0 0 [], .map C.mB (inK .string (vK [])), .map C.dB (inK .string (vK [])), .map b1 (inK .string (vK (wkM (evM (ms.take j)))))] ∧ (j ≤ ms.length)) (n := _) ⟨0, rfl, fr.kp [0, 1, 5, 31, 32, 33], M5, Nat.zero_le _⟩ ?_
 clear fr aC M5; rintro n aC w8 ⟨j, rfl, fr, M9, hj⟩
 revert aC
 refine zsp <| zsq <| zcD (((j : Int) : Int) < ((ms.length : Nat) : Int)) (fun c12 => ?_) (fun c12 => ?_)
 refine zsk <| zsq <| zbk 1 <| zsr ?_
 obtain ⟨m, hm⟩ := get_of (l := ms) (i := j) (by omega)
 have hmm := List.mem_of_getElem? hm
 have hof := off_le (g := fun m : TMod => m.fns) hm
 have hod := off_le (g := fun m : TMod => m.dats) hm
 change offF ms j + _ ≤ (flF ms).length at hof
 change offD ms j + _ ≤ (flD ms).length at hod
 obtain ⟨ad13, rfl⟩ := rds_some (M9.ro hMs.mcells) (cs := m.cells) (i := j) (gm hm)
 refine zix ad13 ms.length 3 (j : Int) ?_
 refine zls ((ad13 : Addr).add (((j : Int)).toNat * 3)) (MC m) (rds_cells (i := j) (M9.ro hMs.mcells) rfl (gm hm)) ?_
 refine zal M9 25 [(.string ⟨#[]⟩), (vS none 0 0), (vS none 0 0)] fun b14 w15 hb14 M16 => ?_
 replace M16 := M16.nf
 refine zss M16 6 (MC m) rfl fun w17 M18 => ?_
 replace M18 := M18.nf
 refine zfe <| zsq <| zsr <| zpn 1 <| zld ⟨b14, 1, none⟩ (vS m.fA m.fns.length m.fc) (blk_cell (M18.get 6 rfl) rfl) <| zpn 2 <| zfe <| zbk 2 ?_
 have M19 : Mem (tlyS C) w w17 [tl_ C none 0 0 (vI 0), .row 2 1 (sM C.mG) C.E.memN C.E.memN (ints (List.replicate C.E.memN 0)), .row 5 1 none 0 0 [], .map C.mB (inK .string (vK [])), .map C.dB (inK .string (vK [])), .map b1 (inK .string (vK (wkM (evM (ms.take j) ++ (evF m).take 0)))), .blk b14 25 (MC m)] := M18.cast (by rw [List.take_zero, List.append_nil])
 intro aC fr
 refine zlp (fun n_ a_ w_ => ∃ (k : Nat), n_ = m.fns.length - k ∧ Fr a_ 270 [(0, (pT C.r 0)), (1, (vS (some ad13) ms.length mc)), (5, (.map (some b1))), (7, (pT b14 0)), (31, (vS (some ad13) ms.length mc)), (32, (vI ((ms.length : Nat) : Int))), (33, (nV j)), (38, (vS m.fA m.fns.length m.fc)), (39, (vI ((m.fns.length : Nat) : Int))), (40, (nV k))] ∧ Mem (tlyS C) w w_ [tl_ C none 0 0 (vI 0), .row 2 1 (sM C.mG) C.E.memN C.E.memN (ints (List.replicate C.E.memN 0)), .row 5 1 none 0 0 [], .map C.mB (inK .string (vK [])), .map C.dB (inK .string (vK [])), .map b1 (inK .string (vK (wkM (evM (ms.take j) ++ (evF m).take k)))), .blk b14 25 (MC m)] ∧ (k ≤ m.fns.length)) (n := _) ⟨0, rfl, fr.kp [0, 1, 5, 7, 31, 32, 33, 38, 39, 40], M19, Nat.zero_le _⟩ ?_
 clear fr aC M19; rintro n aC w22 ⟨k, rfl, fr, M23, hk⟩
 revert aC
 refine zsp <| zsq <| zcD (((k : Int) : Int) < ((m.fns.length : Nat) : Int)) (fun c26 => ?_) (fun c26 => ?_)
 refine zsk <| zsq <| zbk 3 <| zsr ?_
 obtain ⟨x, hx⟩ := get_of (l := m.fns) (i := k) (by omega)
 have hxf : (flF ms)[offF ms j + k]? = some x := flat_get (g := fun m : TMod => m.fns) hm hx
 have hxs := hnF x (List.mem_of_getElem? hxf)
 obtain ⟨ad27, had28⟩ := rds_some (M23.ro (hMs.mfns hmm)) (cs := x.cells) (i := k) (gm hx)
 intro aC fr
 refine From_ixA (some 42) m.fA ad27 m.fns.length 5 (k : Int) fr (by kernel_rfl) had28 (by omega) (by omega) ?_
 intro aC fr
 revert aC
 refine zls ((ad27 : Addr).add (((k : Int)).toNat * 5)) (FC x) (rds_cells (i := k) (M23.ro (hMs.mfns hmm)) had28 (gm hx)) ?_
 refine zal M23 45 [(.string ⟨#[]⟩), (.bool false), (vI 0), (vI 0), (vS none 0 0)] fun b33 w34 hb33 M35 => ?_
 replace M35 := M35.nf
 refine zss M35 7 (FC x) rfl fun w36 M37 => ?_
 replace M37 := M37.nf
 refine zfe <| zkp [(0, (pT C.r 0)), (1, (vS (some ad13) ms.length mc)), (5, (.map (some b1))), (7, (pT b14 0)), (9, (pT b33 0)), (31, (vS (some ad13) ms.length mc)), (32, (vI ((ms.length : Nat) : Int))), (33, (nV j)), (38, (vS m.fA m.fns.length m.fc)), (39, (vI ((m.fns.length : Nat) : Int))), (40, (nV k))] ?_
 intro aC fr
 refine zdt 13 (N := 270) (env0 := [(0, (pT C.r 0)), (1, (vS (some ad13) ms.length mc)), (5, (.map (some b1))), (7, (pT b14 0)), (9, (pT b33 0)), (31, (vS (some ad13) ms.length mc)), (32, (vI ((ms.length : Nat) : Int))), (33, (nV j)), (38, (vS m.fA m.fns.length m.fc)), (39, (vI ((m.fns.length : Nat) : Int))), (40, (nV k))]) (specAt [.det (.map (some b1)), .det (pT b33 0), .det (.string x.nm), .det (.string ((⟨#[102]⟩ : ByteArray) ++ x.nm)), .det (.map (some b1)), .det (pT b33 0), .det (.string x.nm), .det (.string ((⟨#[102]⟩ : ByteArray) ++ x.nm)), .det (vI ((lkp (wkM (evM (ms.take j) ++ (evF m).take k)) ((⟨#[102]⟩ : ByteArray) ++ x.nm)).getD 0)), .det (pT b33 1), .det (.bool x.wk), .det (vI (stg x.wk)), .det (vI (max ((lkp (wkM (evM (ms.take j) ++ (evF m).take k)) ((⟨#[102]⟩ : ByteArray) ++ x.nm)).getD 0) (stg x.wk)))]) fr (la (la (la (la (la (la (la (la (la (la (la (la (la lz dP) dP) (dL ⟨b33, 0, none⟩ (.string x.nm) fun w_ hK => (blk_cell ((M37.then_ hK).get 7 rfl) rfl))) (dCat (⟨#[102]⟩ : ByteArray) x.nm 9 (size_key hxs (by decide)))) dP) dP) (dL ⟨b33, 0, none⟩ (.string x.nm) fun w_ hK => (blk_cell ((M37.then_ hK).get 7 rfl) rfl))) (dCat (⟨#[102]⟩ : ByteArray) x.nm 9 (size_key hxs (by decide)))) (dM (strLaw Try.underlying9) Try.underlying60 ((⟨#[102]⟩ : ByteArray) ++ x.nm) (vI 0) (fun w_ hK => (M37.then_ hK).get 5 rfl) false (hv := by rw [lkV_get]; rfl))) dP) (dL ⟨b33, 1, none⟩ (.bool x.wk) fun w_ hK => (blk_cell ((M37.then_ hK).get 7 rfl) rfl))) (dD (fun w_ hK => strong_c x.wk w_) rfl)) (dMX .i64 ((lkp (wkM (evM (ms.take j) ++ (evF m).take k)) ((⟨#[102]⟩ : ByteArray) ++ x.nm)).getD 0) (stg x.wk) (max ((lkp (wkM (evM (ms.take j) ++ (evF m).take k)) ((⟨#[102]⟩ : ByteArray) ++ x.nm)).getD 0) (stg x.wk)) (.tmp 52) (.tmp 55) #[3, 3] 3 none (max_if _ _))) ?_
 intro aC w42 vs hK hv fr
 revert aC; refine zkp [(0, (pT C.r 0)), (1, (vS (some ad13) ms.length mc)), (5, (.map (some b1))), (7, (pT b14 0)), (31, (vS (some ad13) ms.length mc)), (32, (vI ((ms.length : Nat) : Int))), (33, (nV j)), (38, (vS m.fA m.fns.length m.fc)), (39, (vI ((m.fns.length : Nat) : Int))), (40, (nV k)), (44, (.map (some b1))), (47, (.string ((⟨#[102]⟩ : ByteArray) ++ x.nm))), (56, (vI (max ((lkp (wkM (evM (ms.take j) ++ (evF m).take k)) ((⟨#[102]⟩ : ByteArray) ++ x.nm)).getD 0) (stg x.wk))))] ?_
 have M43 := M37.then_ hK
 clear hK hv fr aC M37; clear vs
 refine zmu (strLaw Try.underlying9) M43 5 ((⟨#[102]⟩ : ByteArray) ++ x.nm) (vI (max ((lkp (wkM (evM (ms.take j) ++ (evF m).take k)) ((⟨#[102]⟩ : ByteArray) ++ x.nm)).getD 0) (stg x.wk))) (l := (vK (wkM (evM (ms.take j) ++ (evF m).take k)))) rfl Try.underlying60 fun w44 M45 => ?_
 replace M45 := M45.nf
 have M46 : Mem (tlyS C) w w44 [tl_ C none 0 0 (vI 0), .row 2 1 (sM C.mG) C.E.memN C.E.memN (ints (List.replicate C.E.memN 0)), .row 5 1 none 0 0 [], .map C.mB (inK .string (vK [])), .map C.dB (inK .string (vK [])), .map b1 (inK .string (vK (wkM (evM (ms.take j) ++ (evF m).take (k + 1))))), .blk b14 25 (MC m), .blk b33 45 (FC x)] := M45.cast (by rw [wk_put (es := evM (ms.take j) ++ (evF m).take k) (es' := evM (ms.take j) ++ (evF m).take (k + 1)) (by rw [evF_take hx, ← List.append_assoc]; rfl)])
 refine zfe <| zrg <| zar ((k : Int) + 1) <| zpn 1 <| zfe ?_
 intro aC fr
 exact ⟨m.fns.length - (k + 1), by omega, k + 1, rfl, fr.kp [0, 1, 5, 7, 31, 32, 33, 38, 39, 40], M46.tk 7, by omega⟩
 refine zex 2 <| zbh <| zsr ?_
 obtain rfl : k = m.fns.length := by omega
 have M49 : Mem (tlyS C) w w22 [tl_ C none 0 0 (vI 0), .row 2 1 (sM C.mG) C.E.memN C.E.memN (ints (List.replicate C.E.memN 0)), .row 5 1 none 0 0 [], .map C.mB (inK .string (vK [])), .map C.dB (inK .string (vK [])), .map b1 (inK .string (vK (wkM (evM (ms.take j) ++ evF m)))), .blk b14 25 (MC m)] := M23.cast (by rw [evF_all (Nat.le_refl _)])
 refine zpn 1 <| zld ⟨b14, 2, none⟩ (vS m.dA m.dats.length m.dc) (blk_cell (M49.get 6 rfl) rfl) <| zpn 2 <| zfe <| zbk 4 ?_
 have M50 : Mem (tlyS C) w w22 [tl_ C none 0 0 (vI 0), .row 2 1 (sM C.mG) C.E.memN C.E.memN (ints (List.replicate C.E.memN 0)), .row 5 1 none 0 0 [], .map C.mB (inK .string (vK [])), .map C.dB (inK .string (vK [])), .map b1 (inK .string (vK (wkM (evM (ms.take j) ++ evF m ++ (evD m).take 0)))), .blk b14 25 (MC m)] := M49.cast (by rw [List.take_zero, List.append_nil])
 intro aC fr
 refine zlp (fun n_ a_ w_ => ∃ (k : Nat), n_ = m.dats.length - k ∧ Fr a_ 270 [(0, (pT C.r 0)), (1, (vS (some ad13) ms.length mc)), (5, (.map (some b1))), (31, (vS (some ad13) ms.length mc)), (32, (vI ((ms.length : Nat) : Int))), (33, (nV j)), (59, (vS m.dA m.dats.length m.dc)), (60, (vI ((m.dats.length : Nat) : Int))), (61, (nV k))] ∧ Mem (tlyS C) w w_ [tl_ C none 0 0 (vI 0), .row 2 1 (sM C.mG) C.E.memN C.E.memN (ints (List.replicate C.E.memN 0)), .row 5 1 none 0 0 [], .map C.mB (inK .string (vK [])), .map C.dB (inK .string (vK [])), .map b1 (inK .string (vK (wkM (evM (ms.take j) ++ evF m ++ (evD m).take k)))), .blk b14 25 (MC m)] ∧ (k ≤ m.dats.length)) (n := _) ⟨0, rfl, fr.kp [0, 1, 5, 31, 32, 33, 59, 60, 61], M50, Nat.zero_le _⟩ ?_
 clear fr aC M50; rintro n aC w53 ⟨k, rfl, fr, M54, hk⟩
 revert aC
 refine zsp <| zsq <| zcD (((k : Int) : Int) < ((m.dats.length : Nat) : Int)) (fun c57 => ?_) (fun c57 => ?_)
 refine zsk <| zsq <| zbk 5 <| zsr ?_
 obtain ⟨d, hd⟩ := get_of (l := m.dats) (i := k) (by omega)
 have hdf : (flD ms)[offD ms j + k]? = some d := flat_get (g := fun m : TMod => m.dats) hm hd
 have hds := (hWD d (List.mem_of_getElem? hdf)).name
 unfold nameQ at hds
 obtain ⟨ad58, had59⟩ := rds_some (M54.ro (hMs.mdats hmm)) (cs := d.cells) (i := k) (gm hd)
 intro aC fr
 refine From_ixA (some 63) m.dA ad58 m.dats.length 4 (k : Int) fr (by kernel_rfl) had59 (by omega) (by omega) ?_
 intro aC fr
 revert aC
 refine zls ((ad58 : Addr).add (((k : Int)).toNat * 4)) (DC d) (rds_cells (i := k) (M54.ro (hMs.mdats hmm)) had59 (gm hd)) ?_
 refine zal M54 59 [(.string ⟨#[]⟩), (.bool false), (vS none 0 0), (vS none 0 0)] fun b64 w65 hb64 M66 => ?_
 replace M66 := M66.nf
 refine zss M66 7 (DC d) rfl fun w67 M68 => ?_
 replace M68 := M68.nf
 refine zfe <| zkp [(0, (pT C.r 0)), (1, (vS (some ad13) ms.length mc)), (5, (.map (some b1))), (11, (pT b64 0)), (31, (vS (some ad13) ms.length mc)), (32, (vI ((ms.length : Nat) : Int))), (33, (nV j)), (59, (vS m.dA m.dats.length m.dc)), (60, (vI ((m.dats.length : Nat) : Int))), (61, (nV k))] ?_
 intro aC fr
 refine zdt 13 (N := 270) (env0 := [(0, (pT C.r 0)), (1, (vS (some ad13) ms.length mc)), (5, (.map (some b1))), (11, (pT b64 0)), (31, (vS (some ad13) ms.length mc)), (32, (vI ((ms.length : Nat) : Int))), (33, (nV j)), (59, (vS m.dA m.dats.length m.dc)), (60, (vI ((m.dats.length : Nat) : Int))), (61, (nV k))]) (specAt [.det (.map (some b1)), .det (pT b64 0), .det (.string d.nm), .det (.string ((⟨#[100]⟩ : ByteArray) ++ d.nm)), .det (.map (some b1)), .det (pT b64 0), .det (.string d.nm), .det (.string ((⟨#[100]⟩ : ByteArray) ++ d.nm)), .det (vI ((lkp (wkM (evM (ms.take j) ++ evF m ++ (evD m).take k)) ((⟨#[100]⟩ : ByteArray) ++ d.nm)).getD 0)), .det (pT b64 1), .det (.bool d.wk), .det (vI (stg d.wk)), .det (vI (max ((lkp (wkM (evM (ms.take j) ++ evF m ++ (evD m).take k)) ((⟨#[100]⟩ : ByteArray) ++ d.nm)).getD 0) (stg d.wk)))]) fr (la (la (la (la (la (la (la (la (la (la (la (la (la lz dP) dP) (dL ⟨b64, 0, none⟩ (.string d.nm) fun w_ hK => (blk_cell ((M68.then_ hK).get 7 rfl) rfl))) (dCat (⟨#[100]⟩ : ByteArray) d.nm 9 (size_key hds.2 (by decide)))) dP) dP) (dL ⟨b64, 0, none⟩ (.string d.nm) fun w_ hK => (blk_cell ((M68.then_ hK).get 7 rfl) rfl))) (dCat (⟨#[100]⟩ : ByteArray) d.nm 9 (size_key hds.2 (by decide)))) (dM (strLaw Try.underlying9) Try.underlying60 ((⟨#[100]⟩ : ByteArray) ++ d.nm) (vI 0) (fun w_ hK => (M68.then_ hK).get 5 rfl) false (hv := by rw [lkV_get]; rfl))) dP) (dL ⟨b64, 1, none⟩ (.bool d.wk) fun w_ hK => (blk_cell ((M68.then_ hK).get 7 rfl) rfl))) (dD (fun w_ hK => strong_c d.wk w_) rfl)) (dMX .i64 ((lkp (wkM (evM (ms.take j) ++ evF m ++ (evD m).take k)) ((⟨#[100]⟩ : ByteArray) ++ d.nm)).getD 0) (stg d.wk) (max ((lkp (wkM (evM (ms.take j) ++ evF m ++ (evD m).take k)) ((⟨#[100]⟩ : ByteArray) ++ d.nm)).getD 0) (stg d.wk)) (.tmp 73) (.tmp 76) #[3, 3] 3 none (max_if _ _))) ?_
 intro aC w73 vs hK hv fr
 revert aC; refine zkp [(0, (pT C.r 0)), (1, (vS (some ad13) ms.length mc)), (5, (.map (some b1))), (31, (vS (some ad13) ms.length mc)), (32, (vI ((ms.length : Nat) : Int))), (33, (nV j)), (59, (vS m.dA m.dats.length m.dc)), (60, (vI ((m.dats.length : Nat) : Int))), (61, (nV k)), (65, (.map (some b1))), (68, (.string ((⟨#[100]⟩ : ByteArray) ++ d.nm))), (77, (vI (max ((lkp (wkM (evM (ms.take j) ++ evF m ++ (evD m).take k)) ((⟨#[100]⟩ : ByteArray) ++ d.nm)).getD 0) (stg d.wk))))] ?_
 have M74 := M68.then_ hK
 clear hK hv fr aC M68; clear vs
 refine zmu (strLaw Try.underlying9) M74 5 ((⟨#[100]⟩ : ByteArray) ++ d.nm) (vI (max ((lkp (wkM (evM (ms.take j) ++ evF m ++ (evD m).take k)) ((⟨#[100]⟩ : ByteArray) ++ d.nm)).getD 0) (stg d.wk))) (l := (vK (wkM (evM (ms.take j) ++ evF m ++ (evD m).take k)))) rfl Try.underlying60 fun w75 M76 => ?_
 replace M76 := M76.nf
 have M77 : Mem (tlyS C) w w75 [tl_ C none 0 0 (vI 0), .row 2 1 (sM C.mG) C.E.memN C.E.memN (ints (List.replicate C.E.memN 0)), .row 5 1 none 0 0 [], .map C.mB (inK .string (vK [])), .map C.dB (inK .string (vK [])), .map b1 (inK .string (vK (wkM (evM (ms.take j) ++ evF m ++ (evD m).take (k + 1))))), .blk b14 25 (MC m), .blk b64 59 (DC d)] := M76.cast (by rw [wk_put (es := evM (ms.take j) ++ evF m ++ (evD m).take k) (es' := evM (ms.take j) ++ evF m ++ (evD m).take (k + 1)) (by rw [evD_take hd, ← List.append_assoc]; rfl)])
 refine zfe <| zrg <| zar ((k : Int) + 1) <| zpn 1 <| zfe ?_
 intro aC fr
 exact ⟨m.dats.length - (k + 1), by omega, k + 1, rfl, fr.kp [0, 1, 5, 31, 32, 33, 59, 60, 61], M77.tk 7, by omega⟩
 refine zex 4 <| zbh <| zrg ?_
 obtain rfl : k = m.dats.length := by omega
 have M80 : Mem (tlyS C) w w53 [tl_ C none 0 0 (vI 0), .row 2 1 (sM C.mG) C.E.memN C.E.memN (ints (List.replicate C.E.memN 0)), .row 5 1 none 0 0 [], .map C.mB (inK .string (vK [])), .map C.dB (inK .string (vK [])), .map b1 (inK .string (vK (wkM (evM (ms.take j) ++ evF m ++ evD m)))), .blk b14 25 (MC m)] := M54.cast (by rw [evD_all (Nat.le_refl _)])
 refine zar ((j : Int) + 1) <| zpn 1 <| zfe ?_
 intro aC fr
 exact ⟨ms.length - (j + 1), by omega, j + 1, rfl, fr.kp [0, 1, 5, 31, 32, 33], ((M80.tk 6).cast (by rw [evM_succ hm, List.append_assoc] <;> rfl)), by omega⟩
 refine zex 0 <| zbh <| zsr ?_
 obtain rfl : j = ms.length := by omega
 have M83 : Mem (tlyS C) w w8 [tl_ C none 0 0 (vI 0), .row 2 1 (sM C.mG) C.E.memN C.E.memN (ints (List.replicate C.E.memN 0)), .row 5 1 none 0 0 [], .map C.mB (inK .string (vK [])), .map C.dB (inK .string (vK [])), .map b1 (inK .string (vK (wkM (evM ms))))] := M9.cast (by rw [List.take_length])
 refine zpn 2 ?_
 intro aC fr
 refine zBs 82 22 1 #[(0, (.tmp 81))] 22 fr (e := 45) (size := 5) (zs := [(.string ⟨#[]⟩), (.bool false), (vI 0), (vI 0), (vS none 0 0)]) (vs := [(0, (.agg #[(.string ⟨#[]⟩), (.bool false), (vI 0), (vI 0), (vS none 0 0)]))]) (cs := [(.string ⟨#[]⟩), (.bool false), (vI 0), (vI 0), (vS none 0 0)]) M83 ?_
 intro b84 w85 hb84 _ M86 _ aC ea fr; clear ea
 replace M86 := M86.nf
 revert aC
 refine zpn 2 <| zsb (ho := (by simp)) M86 0 0 (vS (sM b84) 1 1) rfl fun w91 M92 => ?_
 replace M92 := M92.nf
 refine zfe <| zsr <| zpn 3 <| zsb (ho := (by simp)) M92 0 4 (vI 1) rfl fun w93 M94 => ?_
 replace M94 := M94.nf
 refine zfe <| zsp <| zsq <| zsp <| zbk 6 ?_
 have M95 := M94.cl (Mem.nilrow _ 59 4)
 have M96 : Mem (tlyS C) w w93 [.blk C.r 66 [(vS (sM b84) (0 + 1) 1), (.map (some C.mB)), (.map (some C.dB)), (vS (sM C.mG) C.E.memN C.E.memN), (vI (nextTo (csD ms) 0 : Int)), (vS ((inAt C.iA C.ic 0).1) (C.E.inp.length - 0) ((inAt C.iA C.ic 0).2)), (vS none 0 0), (vI C.E.fuel), (vI 0), (vI 0)], .row 2 1 (sM C.mG) C.E.memN C.E.memN (ints (List.replicate C.E.memN 0)), .row 5 1 none 0 0 [], .map C.mB (inK .string (vK (nmsTo (csF ms) 0))), .map C.dB (inK .string (vK (dataTo (csD ms) 0))), .map b1 (inK .string (vK (wkM (evM ms)))), .row 45 5 (sM b84) (0 + 1) 1 (fnT (csF ms) 0), .row 59 4 none 0 0 (((csD ms).take 0).flatMap FDat.cells)] := M95.cast (by rw [dataTo_zero, nmsTo_zero]; rfl)
 intro aC fr
 refine zlp (fun n_ a_ w_ => ∃ (j : Nat) (cf : Nat) (cd : Nat) (fA : Option Addr) (fc : Nat) (dA : Option Addr) (dc : Nat), n_ = ms.length - j ∧ Fr a_ 270 [(0, (pT C.r 0)), (5, (.map (some b1))), (12, (vS dA cd dc)), (88, (vS mA ms.length mc)), (89, (vI ((ms.length : Nat) : Int))), (90, (nV j))] ∧ Mem (tlyS C) w w_ [.blk C.r 66 [(vS fA (cf + 1) fc), (.map (some C.mB)), (.map (some C.dB)), (vS (sM C.mG) C.E.memN C.E.memN), (vI (nextTo (csD ms) cd : Int)), (vS ((inAt C.iA C.ic 0).1) (C.E.inp.length - 0) ((inAt C.iA C.ic 0).2)), (vS none 0 0), (vI C.E.fuel), (vI 0), (vI 0)], .row 2 1 (sM C.mG) C.E.memN C.E.memN (ints (List.replicate C.E.memN 0)), .row 5 1 none 0 0 [], .map C.mB (inK .string (vK (nmsTo (csF ms) cf))), .map C.dB (inK .string (vK (dataTo (csD ms) cd))), .map b1 (inK .string (vK (wkM (evM ms)))), .row 45 5 fA (cf + 1) fc (fnT (csF ms) cf), .row 59 4 dA cd dc (((csD ms).take cd).flatMap FDat.cells)] ∧ (j ≤ ms.length) ∧ (cf = cF ms (offF ms j)) ∧ (cd = cD ms (offD ms j))) (n := _) ⟨0, 0, 0, (sM b84), 1, none, 0, rfl, fr.kp [0, 5, 12, 88, 89, 90], M96, Nat.zero_le _, rfl, rfl⟩ ?_
 clear fr aC M96; rintro n aC w99 ⟨j, cf, cd, fA, fc, dA, dc, rfl, fr, M100, hj, hcf, hcd⟩
 revert aC
 refine zsp <| zsq <| zcD (((j : Int) : Int) < ((ms.length : Nat) : Int)) (fun c103 => ?_) (fun c103 => ?_)
 refine zsk <| zsq <| zbk 7 <| zsr ?_
 obtain ⟨m, hm⟩ := get_of (l := ms) (i := j) (by omega)
 have hmm := List.mem_of_getElem? hm
 have hof := off_le (g := fun m : TMod => m.fns) hm
 have hod := off_le (g := fun m : TMod => m.dats) hm
 change offF ms j + _ ≤ (flF ms).length at hof
 change offD ms j + _ ≤ (flD ms).length at hod
 obtain ⟨ad104, rfl⟩ := rds_some (M100.ro hMs.mcells) (cs := m.cells) (i := j) (gm hm)
 refine zix ad104 ms.length 3 (j : Int) ?_
 refine zls ((ad104 : Addr).add (((j : Int)).toNat * 3)) (MC m) (rds_cells (i := j) (M100.ro hMs.mcells) rfl (gm hm)) ?_
 refine zal M100 25 [(.string ⟨#[]⟩), (vS none 0 0), (vS none 0 0)] fun b105 w106 hb105 M107 => ?_
 replace M107 := M107.nf
 refine zss M107 8 (MC m) rfl fun w108 M109 => ?_
 replace M109 := M109.nf
 refine zfe <| zsq <| zsr <| zpn 1 <| zld ⟨b105, 1, none⟩ (vS m.fA m.fns.length m.fc) (blk_cell (M109.get 8 rfl) rfl) <| zpn 2 <| zfe <| zbk 8 ?_
 intro aC fr
 refine zlp (fun n_ a_ w_ => ∃ (k : Nat) (cf2 : Nat) (fA2 : Option Addr) (fc2 : Nat), n_ = m.fns.length - k ∧ Fr a_ 270 [(0, (pT C.r 0)), (5, (.map (some b1))), (12, (vS dA cd dc)), (14, (pT b105 0)), (88, (vS (some ad104) ms.length mc)), (89, (vI ((ms.length : Nat) : Int))), (90, (nV j)), (95, (vS m.fA m.fns.length m.fc)), (96, (vI ((m.fns.length : Nat) : Int))), (97, (nV k))] ∧ Mem (tlyS C) w w_ [.blk C.r 66 [(vS fA2 (cf2 + 1) fc2), (.map (some C.mB)), (.map (some C.dB)), (vS (sM C.mG) C.E.memN C.E.memN), (vI (nextTo (csD ms) cd : Int)), (vS ((inAt C.iA C.ic 0).1) (C.E.inp.length - 0) ((inAt C.iA C.ic 0).2)), (vS none 0 0), (vI C.E.fuel), (vI 0), (vI 0)], .row 2 1 (sM C.mG) C.E.memN C.E.memN (ints (List.replicate C.E.memN 0)), .row 5 1 none 0 0 [], .map C.mB (inK .string (vK (nmsTo (csF ms) cf2))), .map C.dB (inK .string (vK (dataTo (csD ms) cd))), .map b1 (inK .string (vK (wkM (evM ms)))), .row 45 5 fA2 (cf2 + 1) fc2 (fnT (csF ms) cf2), .row 59 4 dA cd dc (((csD ms).take cd).flatMap FDat.cells), .blk b105 25 (MC m)] ∧ (k ≤ m.fns.length) ∧ (cf2 = cF ms (offF ms j + k))) (n := _) ⟨0, cf, fA, fc, rfl, fr.kp [0, 5, 12, 14, 88, 89, 90, 95, 96, 97], M109, Nat.zero_le _, hcf⟩ ?_
 clear fr aC M109; rintro n aC w112 ⟨k, cf2, fA2, fc2, rfl, fr, M113, hk, hcf2⟩
 revert aC
 refine zsp <| zsq <| zcD (((k : Int) : Int) < ((m.fns.length : Nat) : Int)) (fun c116 => ?_) (fun c116 => ?_)
 refine zsk <| zsq <| zbk 9 <| zsr ?_
 obtain ⟨x, hx⟩ := get_of (l := m.fns) (i := k) (by omega)
 have hxf : (flF ms)[offF ms j + k]? = some x := flat_get (g := fun m : TMod => m.fns) hm hx
 have hxs := hnF x (List.mem_of_getElem? hxf)
 have hcnt := fn_count hxf
 rw [← hcf2] at hcnt
 have hcle : cf2 ≤ (csF ms).length := by rw [hcf2]; exact cF_le (by omega)
 have hcln := csF_len (ms := ms)
 obtain ⟨ad117, had118⟩ := rds_some (M113.ro (hMs.mfns hmm)) (cs := x.cells) (i := k) (gm hx)
 intro aC fr
 refine From_ixA (some 99) m.fA ad117 m.fns.length 5 (k : Int) fr (by kernel_rfl) had118 (by omega) (by omega) ?_
 intro aC fr
 revert aC
 refine zls ((ad117 : Addr).add (((k : Int)).toNat * 5)) (FC x) (rds_cells (i := k) (M113.ro (hMs.mfns hmm)) had118 (gm hx)) ?_
 refine zal M113 45 [(.string ⟨#[]⟩), (.bool false), (vI 0), (vI 0), (vS none 0 0)] fun b123 w124 hb123 M125 => ?_
 replace M125 := M125.nf
 refine zss M125 9 (FC x) rfl fun w126 M127 => ?_
 replace M127 := M127.nf
 refine zfe <| zsq ?_
 cases hq : lkp (nmsTo (csF ms) cf2) x.nm
 refine zkp [(0, (pT C.r 0)), (5, (.map (some b1))), (12, (vS dA cd dc)), (14, (pT b105 0)), (16, (pT b123 0)), (88, (vS (some ad104) ms.length mc)), (89, (vI ((ms.length : Nat) : Int))), (90, (nV j)), (95, (vS m.fA m.fns.length m.fc)), (96, (vI ((m.fns.length : Nat) : Int))), (97, (nV k))] ?_
 intro aC fr
 refine zdt 11 (N := 270) (env0 := [(0, (pT C.r 0)), (5, (.map (some b1))), (12, (vS dA cd dc)), (14, (pT b105 0)), (16, (pT b123 0)), (88, (vS (some ad104) ms.length mc)), (89, (vI ((ms.length : Nat) : Int))), (90, (nV j)), (95, (vS m.fA m.fns.length m.fc)), (96, (vI ((m.fns.length : Nat) : Int))), (97, (nV k))]) (specAt [.det (pT C.r 0), .det (pT C.r 0), .det (pT C.r 1), .det (.map (some C.mB)), .det (pT b123 0), .det (.string x.nm), .det (.tuple #[(vI 0), (.bool false)]), .det (.tuple #[(vI 0), (.bool false)]), .det (vI 0), .det (.bool false), .det (vI 0)]) fr (la (la (la (la (la (la (la (la (la (la (la lz dP) dP) dP) (dL ⟨C.r, 1, none⟩ (.map (some C.mB)) fun w_ hK => (blk_cell ((M127.then_ hK).get 0 rfl) rfl))) dP) (dL ⟨b123, 0, none⟩ (.string x.nm) fun w_ hK => (blk_cell ((M127.then_ hK).get 9 rfl) rfl))) (dM (strLaw Try.underlying9) Try.underlying60 x.nm (vI 0) (fun w_ hK => (M127.then_ hK).get 3 rfl) true (hv := by rw [lkp_vK, hq]; rfl))) dP) dP) dP) dP) ?_
 intro aC w132 vs hK hv fr
 revert aC; refine zkp [(0, (pT C.r 0)), (5, (.map (some b1))), (12, (vS dA cd dc)), (14, (pT b105 0)), (16, (pT b123 0)), (88, (vS (some ad104) ms.length mc)), (89, (vI ((ms.length : Nat) : Int))), (90, (nV j)), (95, (vS m.fA m.fns.length m.fc)), (96, (vI ((m.fns.length : Nat) : Int))), (97, (nV k)), (110, (.bool false))] ?_
 have M133 := M127.then_ hK
 clear hK hv fr aC M127; clear vs
 refine zpn 1 <| zfe <| zsq <| zkp [(0, (pT C.r 0)), (5, (.map (some b1))), (12, (vS dA cd dc)), (14, (pT b105 0)), (16, (pT b123 0)), (18, (.bool false)), (88, (vS (some ad104) ms.length mc)), (89, (vI ((ms.length : Nat) : Int))), (90, (nV j)), (95, (vS m.fA m.fns.length m.fc)), (96, (vI ((m.fns.length : Nat) : Int))), (97, (nV k))] ?_
 intro aC fr
 refine zdt 11 (N := 270) (env0 := [(0, (pT C.r 0)), (5, (.map (some b1))), (12, (vS dA cd dc)), (14, (pT b105 0)), (16, (pT b123 0)), (18, (.bool false)), (88, (vS (some ad104) ms.length mc)), (89, (vI ((ms.length : Nat) : Int))), (90, (nV j)), (95, (vS m.fA m.fns.length m.fc)), (96, (vI ((m.fns.length : Nat) : Int))), (97, (nV k))]) (specAt [.det (.bool false), .det (.bool true), .det (.bool true), .det (pT b123 1), .det (.bool x.wk), .det (vI (stg x.wk)), .det (.map (some b1)), .det (pT b123 0), .det (.string x.nm), .det (.string ((⟨#[102]⟩ : ByteArray) ++ x.nm)), .det (vI ((lkp (wkM (evM ms)) ((⟨#[102]⟩ : ByteArray) ++ x.nm)).getD 0))]) fr (la (la (la (la (la (la (la (la (la (la (la lz dP) dP) dP) dP) (dL ⟨b123, 1, none⟩ (.bool x.wk) fun w_ hK => (blk_cell ((M133.then_ hK).get 9 rfl) rfl))) (dD (fun w_ hK => strong_c x.wk w_) rfl)) dP) dP) (dL ⟨b123, 0, none⟩ (.string x.nm) fun w_ hK => (blk_cell ((M133.then_ hK).get 9 rfl) rfl))) (dCat (⟨#[102]⟩ : ByteArray) x.nm 9 (size_key hxs (by decide)))) (dM (strLaw Try.underlying9) Try.underlying60 ((⟨#[102]⟩ : ByteArray) ++ x.nm) (vI 0) (fun w_ hK => (M133.then_ hK).get 5 rfl) false (hv := by rw [lkV_get]; rfl))) ?_
 intro aC w138 vs hK hv fr
 revert aC; refine zkp [(0, (pT C.r 0)), (5, (.map (some b1))), (12, (vS dA cd dc)), (14, (pT b105 0)), (16, (pT b123 0)), (88, (vS (some ad104) ms.length mc)), (89, (vI ((ms.length : Nat) : Int))), (90, (nV j)), (95, (vS m.fA m.fns.length m.fc)), (96, (vI ((m.fns.length : Nat) : Int))), (97, (nV k)), (113, (.bool true)), (116, (vI (stg x.wk))), (121, (vI ((lkp (wkM (evM ms)) ((⟨#[102]⟩ : ByteArray) ++ x.nm)).getD 0)))] ?_
 have M139 := M133.then_ hK
 clear hK hv fr aC M133; clear vs
 refine zpn 2 <| zfe <| zcQ (stg x.wk) ((lkp (wkM (evM ms)) ((⟨#[102]⟩ : ByteArray) ++ x.nm)).getD 0) (fun c140 => ?_) (fun c140 => ?_)
 have hb := hcnt.1 ⟨hq, c140⟩
 obtain ⟨hc1, hc2⟩ := cF_yes hxf hb
 rw [← hcf2] at hc2
 rw [← hcf2] at hc1
 have hcl1 := (List.getElem?_eq_some_iff.1 hc2).1
 refine zsq <| zkp [(0, (pT C.r 0)), (5, (.map (some b1))), (12, (vS dA cd dc)), (14, (pT b105 0)), (16, (pT b123 0)), (88, (vS (some ad104) ms.length mc)), (89, (vI ((ms.length : Nat) : Int))), (90, (nV j)), (95, (vS m.fA m.fns.length m.fc)), (96, (vI ((m.fns.length : Nat) : Int))), (97, (nV k))] ?_
 intro aC fr
 refine zdt 11 (N := 270) (env0 := [(0, (pT C.r 0)), (5, (.map (some b1))), (12, (vS dA cd dc)), (14, (pT b105 0)), (16, (pT b123 0)), (88, (vS (some ad104) ms.length mc)), (89, (vI ((ms.length : Nat) : Int))), (90, (nV j)), (95, (vS m.fA m.fns.length m.fc)), (96, (vI ((m.fns.length : Nat) : Int))), (97, (nV k))]) (specAt [.det (pT C.r 0), .det (pT C.r 0), .det (pT C.r 1), .det (.map (some C.mB)), .det (pT b123 0), .det (.string x.nm), .det (pT C.r 0), .det (pT C.r 0), .det (pT C.r 0), .det (vS fA2 (cf2 + 1) fc2), .det (vI (((cf2 + 1) : Nat) : Int))]) fr (la (la (la (la (la (la (la (la (la (la (la lz dP) dP) dP) (dL ⟨C.r, 1, none⟩ (.map (some C.mB)) fun w_ hK => (blk_cell ((M139.then_ hK).get 0 rfl) rfl))) dP) (dL ⟨b123, 0, none⟩ (.string x.nm) fun w_ hK => (blk_cell ((M139.then_ hK).get 9 rfl) rfl))) dP) dP) dP) (dL ⟨C.r, 0, none⟩ (vS fA2 (cf2 + 1) fc2) fun w_ hK => (blk_cell ((M139.then_ hK).get 0 rfl) rfl))) dP) ?_
 intro aC w145 vs hK hv fr
 revert aC; refine zkp [(0, (pT C.r 0)), (5, (.map (some b1))), (12, (vS dA cd dc)), (14, (pT b105 0)), (16, (pT b123 0)), (88, (vS (some ad104) ms.length mc)), (89, (vI ((ms.length : Nat) : Int))), (90, (nV j)), (95, (vS m.fA m.fns.length m.fc)), (96, (vI ((m.fns.length : Nat) : Int))), (97, (nV k)), (127, (.map (some C.mB))), (129, (.string x.nm)), (134, (vI (((cf2 + 1) : Nat) : Int)))] ?_
 have M146 := M139.then_ hK
 clear hK hv fr aC M139; clear vs
 refine zmu (strLaw Try.underlying9) M146 3 x.nm (vI (((cf2 + 1) : Nat) : Int)) (l := (vK (nmsTo (csF ms) cf2))) rfl Try.underlying60 fun w147 M148 => ?_
 replace M148 := M148.nf
 have M149 : Mem (tlyS C) w w147 [.blk C.r 66 [(vS fA2 (cf2 + 1) fc2), (.map (some C.mB)), (.map (some C.dB)), (vS (sM C.mG) C.E.memN C.E.memN), (vI (nextTo (csD ms) cd : Int)), (vS ((inAt C.iA C.ic 0).1) (C.E.inp.length - 0) ((inAt C.iA C.ic 0).2)), (vS none 0 0), (vI C.E.fuel), (vI 0), (vI 0)], .row 2 1 (sM C.mG) C.E.memN C.E.memN (ints (List.replicate C.E.memN 0)), .row 5 1 none 0 0 [], .map C.mB (inK .string (vK (nmsTo (csF ms) (cf2 + 1)))), .map C.dB (inK .string (vK (dataTo (csD ms) cd))), .map b1 (inK .string (vK (wkM (evM ms)))), .row 45 5 fA2 (cf2 + 1) fc2 (fnT (csF ms) cf2), .row 59 4 dA cd dc (((csD ms).take cd).flatMap FDat.cells), .blk b105 25 (MC m), .blk b123 45 (FC x)] := M148.cast (by rw [nmsTo_up (nms_new hq) hc2])
 refine zfe <| zkp [(0, (pT C.r 0)), (5, (.map (some b1))), (12, (vS dA cd dc)), (14, (pT b105 0)), (16, (pT b123 0)), (88, (vS (some ad104) ms.length mc)), (89, (vI ((ms.length : Nat) : Int))), (90, (nV j)), (95, (vS m.fA m.fns.length m.fc)), (96, (vI ((m.fns.length : Nat) : Int))), (97, (nV k))] ?_
 intro aC fr
 refine zdj (N := 270) (env0 := [(0, (pT C.r 0)), (5, (.map (some b1))), (12, (vS dA cd dc)), (14, (pT b105 0)), (16, (pT b123 0)), (88, (vS (some ad104) ms.length mc)), (89, (vI ((ms.length : Nat) : Int))), (90, (nV j)), (95, (vS m.fA m.fns.length m.fc)), (96, (vI ((m.fns.length : Nat) : Int))), (97, (nV k))]) (specAt [.det (pT C.r 0), .det (pT C.r 0), .det (pT C.r 0), .det (pT C.r 0), .det (vS fA2 (cf2 + 1) fc2), .det (.agg (FC x).toArray), Spec.free, Spec.free, .det (pT C.r 0), .det (pT C.r 0), .det undef]) (fun ls vs w_ => match ls 10 with | true => (∃ (g150 : Nat) (A151 : Option Addr) (c152 : Nat), vs 6 = (vS (sM g150) 1 1) ∧ vs 7 = (vS A151 ((cf2 + 1) + 1) c152) ∧ Mem (tlyS C) w w_ [.blk C.r 66 [(vS A151 ((cf2 + 1) + 1) c152), (.map (some C.mB)), (.map (some C.dB)), (vS (sM C.mG) C.E.memN C.E.memN), (vI (nextTo (csD ms) cd : Int)), (vS ((inAt C.iA C.ic 0).1) (C.E.inp.length - 0) ((inAt C.iA C.ic 0).2)), (vS none 0 0), (vI C.E.fuel), (vI 0), (vI 0)], .row 2 1 (sM C.mG) C.E.memN C.E.memN (ints (List.replicate C.E.memN 0)), .row 5 1 none 0 0 [], .map C.mB (inK .string (vK (nmsTo (csF ms) (cf2 + 1)))), .map C.dB (inK .string (vK (dataTo (csD ms) cd))), .map b1 (inK .string (vK (wkM (evM ms)))), .row 45 5 A151 ((cf2 + 1) + 1) c152 ((fnT (csF ms) cf2) ++ (FC x)), .row 59 4 dA cd dc (((csD ms).take cd).flatMap FDat.cells), .blk b105 25 (MC m), .blk b123 45 (FC x), .row 45 5 (sM g150) 1 1 (FC x)]) | false => (match ls 7 with | true => (∃ (g150 : Nat) (A151 : Option Addr) (c152 : Nat), vs 6 = (vS (sM g150) 1 1) ∧ vs 7 = (vS A151 ((cf2 + 1) + 1) c152) ∧ Mem (tlyS C) w w_ [.blk C.r 66 [(vS fA2 (cf2 + 1) fc2), (.map (some C.mB)), (.map (some C.dB)), (vS (sM C.mG) C.E.memN C.E.memN), (vI (nextTo (csD ms) cd : Int)), (vS ((inAt C.iA C.ic 0).1) (C.E.inp.length - 0) ((inAt C.iA C.ic 0).2)), (vS none 0 0), (vI C.E.fuel), (vI 0), (vI 0)], .row 2 1 (sM C.mG) C.E.memN C.E.memN (ints (List.replicate C.E.memN 0)), .row 5 1 none 0 0 [], .map C.mB (inK .string (vK (nmsTo (csF ms) (cf2 + 1)))), .map C.dB (inK .string (vK (dataTo (csD ms) cd))), .map b1 (inK .string (vK (wkM (evM ms)))), .row 45 5 A151 ((cf2 + 1) + 1) c152 ((fnT (csF ms) cf2) ++ (FC x)), .row 59 4 dA cd dc (((csD ms).take cd).flatMap FDat.cells), .blk b105 25 (MC m), .blk b123 45 (FC x), .row 45 5 (sM g150) 1 1 (FC x)]) | false => (match ls 6 with | true => (∃ (g150 : Nat), vs 6 = (vS (sM g150) 1 1) ∧ Mem (tlyS C) w w_ [.blk C.r 66 [(vS fA2 (cf2 + 1) fc2), (.map (some C.mB)), (.map (some C.dB)), (vS (sM C.mG) C.E.memN C.E.memN), (vI (nextTo (csD ms) cd : Int)), (vS ((inAt C.iA C.ic 0).1) (C.E.inp.length - 0) ((inAt C.iA C.ic 0).2)), (vS none 0 0), (vI C.E.fuel), (vI 0), (vI 0)], .row 2 1 (sM C.mG) C.E.memN C.E.memN (ints (List.replicate C.E.memN 0)), .row 5 1 none 0 0 [], .map C.mB (inK .string (vK (nmsTo (csF ms) (cf2 + 1)))), .map C.dB (inK .string (vK (dataTo (csD ms) cd))), .map b1 (inK .string (vK (wkM (evM ms)))), .row 45 5 fA2 (cf2 + 1) fc2 (fnT (csF ms) cf2), .row 59 4 dA cd dc (((csD ms).take cd).flatMap FDat.cells), .blk b105 25 (MC m), .blk b123 45 (FC x), .row 45 5 (sM g150) 1 1 (FC x)]) | false => (Mem (tlyS C) w w_ [.blk C.r 66 [(vS fA2 (cf2 + 1) fc2), (.map (some C.mB)), (.map (some C.dB)), (vS (sM C.mG) C.E.memN C.E.memN), (vI (nextTo (csD ms) cd : Int)), (vS ((inAt C.iA C.ic 0).1) (C.E.inp.length - 0) ((inAt C.iA C.ic 0).2)), (vS none 0 0), (vI C.E.fuel), (vI 0), (vI 0)], .row 2 1 (sM C.mG) C.E.memN C.E.memN (ints (List.replicate C.E.memN 0)), .row 5 1 none 0 0 [], .map C.mB (inK .string (vK (nmsTo (csF ms) (cf2 + 1)))), .map C.dB (inK .string (vK (dataTo (csD ms) cd))), .map b1 (inK .string (vK (wkM (evM ms)))), .row 45 5 fA2 (cf2 + 1) fc2 (fnT (csF ms) cf2), .row 59 4 dA cd dc (((csD ms).take cd).flatMap FDat.cells), .blk b105 25 (MC m), .blk b123 45 (FC x)])))) fr (plain_ok (.det (.det (.det (.det (.det (.det (.free (.free (.det (.det (.det .nil)))))))))))) (M149.then_ (Mem.drew _)) (la (la (la (la (la (la (la (la (la (la (la lz (dPJ fun _ _ _ _ h => h)) (dPJ fun _ _ _ _ h => h)) (dPJ fun _ _ _ _ h => h)) (dPJ fun _ _ _ _ h => h)) (dLJ ⟨C.r, 0, none⟩ (vS fA2 (cf2 + 1) fc2) (fun _ _ _ _ h => h) ?_)) ?_) ?_) ?_) (dPJ fun _ _ _ _ h => h)) (dPJ fun _ _ _ _ h => h)) ?_) ?_
 intro w_ ls vs hJ hi_ hc_ hp
 have f7 : ls 7 = false := notyet hc_ hi_ (n := 11) (by kernel_rfl)
 have f10 : ls 10 = false := notyet hc_ hi_ (n := 11) (by kernel_rfl)
 have hM_ := hJ
 simp only [f7, f10] at hM_
 cases fu : ls 6
 simp only [fu] at hM_
 exact (blk_cell (hM_.get 0 rfl) rfl)
 simp only [fu] at hM_
 obtain ⟨_, _, hM_⟩ := hM_
 exact (blk_cell (hM_.get 0 rfl) rfl)
 intro aa_ w_ ls vs rest_ hJ hi_ hc_ hp hF
 refine okG (g0 := none) ?_
 replace hF : Fr aa_ 270 [(16, (pT b123 0))] := hF.kp [16]
 have f6 : ls 6 = false := notyet hc_ hi_ (n := 11) (by kernel_rfl)
 have f7 : ls 7 = false := notyet hc_ hi_ (n := 11) (by kernel_rfl)
 have f10 : ls 10 = false := notyet hc_ hi_ (n := 11) (by kernel_rfl)
 have hM_ := hJ
 simp only [f6, f7, f10] at hM_
 refine From_loadS (by kernel_rfl : coreAt _ 0 = some (some 140, (.load 45 (.tmp 16)), 45, none)) hF (by kernel_rfl) (by kernel_rfl) (k' := 1) rfl (ad := ⟨b123, 0, none⟩) (vs := (FC x)) (by kernel_rfl) (by kernel_rfl) (blk_cells (hM_.get 9 rfl)) ?_
 intro a2 ea _
 refine From_end (by kernel_rfl) ?_; exact op_doneJ (d := some 140) (by kernel_rfl) ea rfl hJ
 intro aa_ w_ ls vs rest_ hJ hi_ hc_ hp hF
 refine okG (g0 := none) ?_
 replace hF : Fr aa_ 270 [(140, (.agg (FC x).toArray))] := hF.kp [140]
 have f6 : ls 6 = false := hi_
 have f7 : ls 7 = false := notyet hc_ hi_ (n := 11) (by kernel_rfl)
 have f10 : ls 10 = false := notyet hc_ hi_ (n := 11) (by kernel_rfl)
 have hM_ := hJ
 simp only [f6, f7, f10] at hM_
 refine zBs 141 22 1 #[(0, (.tmp 140))] 22 hF (e := 45) (size := 5) (zs := [(.string ⟨#[]⟩), (.bool false), (vI 0), (vI 0), (vS none 0 0)]) (vs := [(0, (.agg (FC x).toArray))]) (cs := (FC x)) hM_ ?_
 intro g150p w2 _ _ hm2 _ a2 ea _
 refine From_end (by kernel_rfl) ?_; refine op_doneJ (d := some 141) (by kernel_rfl) ea trivial ?_
 show match ls 10 with | true => _ | false => (match ls 7 with | true => _ | false => (∃ (g150 : Nat), _))
 rw [f10, f7]
 exact ⟨g150p, rfl, hm2⟩
 intro aa_ w_ ls vs rest_ hJ hi_ hc_ hp hF
 refine okG (g0 := none) ?_
 replace hF : Fr aa_ 270 [(139, (vS fA2 (cf2 + 1) fc2)), (141, vs 6)] := hF.kp [139, 141]
 have f6 : ls 6 = true := donebefore hc_ (fun k hk => (hp k hk).1) (n := 11) (by kernel_rfl)
 have f7 : ls 7 = false := hi_
 have f10 : ls 10 = false := notyet hc_ hi_ (n := 11) (by kernel_rfl)
 have hM_ := hJ
 simp only [f6, f7, f10] at hM_
 obtain ⟨g150p, e6_, hM_⟩ := hM_
 try rw [e6_] at hF
 refine zAp 142 (.tmp 139) (.tmp 141) 22 22 hF (e := 45) (size := 5) (bytes := 64) (z := (.agg #[(.string ⟨#[]⟩), (.bool false), (vI 0), (vI 0), (vS none 0 0)])) (A := fA2) (B := (sM g150p)) (n := (cf2 + 1)) (cap := fc2) (m := 1) (cap' := 1) (xs := (fnT (csF ms) cf2)) (news := (FC x)) hM_ 6 rfl (row_rd (hM_.get 10 rfl)) rfl (by simp [Value.oneCell']) (by omega) (by simp only [maxLen]; omega) ?_
 intro A151p c152p w2 hm2 _ a2 ea _
 refine From_end (by kernel_rfl) ?_; refine op_doneJ (d := some 142) (by kernel_rfl) ea trivial ?_
 show match ls 10 with | true => _ | false => (∃ (g150 : Nat) (A151 : Option Addr) (c152 : Nat), _)
 rw [f10]
 exact ⟨g150p, A151p, c152p, e6_, rfl, hm2⟩
 intro aa_ w_ ls vs rest_ hJ hi_ hc_ hp hF
 refine okG (g0 := none) ?_
 replace hF : Fr aa_ 270 [(142, vs 7), (144, (pT C.r 0))] := hF.kp [142, 144]
 have f6 : ls 6 = true := donebefore hc_ (fun k hk => (hp k hk).1) (n := 11) (by kernel_rfl)
 have f7 : ls 7 = true := donebefore hc_ (fun k hk => (hp k hk).1) (n := 11) (by kernel_rfl)
 have f10 : ls 10 = false := hi_
 have hM_ := hJ
 simp only [f6, f7, f10] at hM_
 obtain ⟨g150p, A151p, c152p, e6_, e7_, hM_⟩ := hM_
 try rw [e6_] at hF
 try rw [e7_] at hF
 refine From_store_blk (by kernel_rfl : coreAt _ 0 = some (none, (.store 22 (.tmp 144) (.tmp 142)), 0, none)) hF (by kernel_rfl) (by kernel_rfl) (k' := 1) rfl (b := C.r) (off := 0) (t0 := 66) (v := (vS A151p ((cf2 + 1) + 1) c152p)) (cs := [(vS fA2 (cf2 + 1) fc2), (.map (some C.mB)), (.map (some C.dB)), (vS (sM C.mG) C.E.memN C.E.memN), (vI (nextTo (csD ms) cd : Int)), (vS ((inAt C.iA C.ic 0).1) (C.E.inp.length - 0) ((inAt C.iA C.ic 0).2)), (vS none 0 0), (vI C.E.fuel), (vI 0), (vI 0)]) (by kernel_rfl) (by kernel_rfl) (by kernel_rfl) rfl hM_ 0 rfl (by simp) ?_
 intro w2 hm2 _ a2 ea _
 refine From_end (by kernel_rfl) ?_; refine op_doneJ (d := none) (by kernel_rfl) ea rfl ?_
 show ∃ (g150 : Nat) (A151 : Option Addr) (c152 : Nat), _
 exact ⟨g150p, A151p, c152p, e6_, e7_, hm2⟩
 intro aC w157 ls vs hall M158 hv fr
 simp only [show ls 10 = true from hall 10 (by decide)] at M158
 revert aC; refine zkp [(0, (pT C.r 0)), (5, (.map (some b1))), (12, (vS dA cd dc)), (14, (pT b105 0)), (88, (vS (some ad104) ms.length mc)), (89, (vI ((ms.length : Nat) : Int))), (90, (nV j)), (95, (vS m.fA m.fns.length m.fc)), (96, (vI ((m.fns.length : Nat) : Int))), (97, (nV k))] ?_
 obtain ⟨g150, A151, c152, e6_, e7_, M158⟩ := M158
 try rw [e6_]
 try rw [e7_]
 clear e6_ e7_
 clear hall hv fr aC M149; clear vs ls
 refine zrg ?_
 have hrf := row_fns hc2
 have M159 : Mem (tlyS C) w w157 [.blk C.r 66 [(vS A151 ((cf2 + 1) + 1) c152), (.map (some C.mB)), (.map (some C.dB)), (vS (sM C.mG) C.E.memN C.E.memN), (vI (nextTo (csD ms) cd : Int)), (vS ((inAt C.iA C.ic 0).1) (C.E.inp.length - 0) ((inAt C.iA C.ic 0).2)), (vS none 0 0), (vI C.E.fuel), (vI 0), (vI 0)], .row 2 1 (sM C.mG) C.E.memN C.E.memN (ints (List.replicate C.E.memN 0)), .row 5 1 none 0 0 [], .map C.mB (inK .string (vK (nmsTo (csF ms) (cf2 + 1)))), .map C.dB (inK .string (vK (dataTo (csD ms) cd))), .map b1 (inK .string (vK (wkM (evM ms)))), .row 45 5 A151 ((cf2 + 1) + 1) c152 (fnT (csF ms) (cf2 + 1)), .row 59 4 dA cd dc (((csD ms).take cd).flatMap FDat.cells), .blk b105 25 (MC m), .blk b123 45 (FC x), .row 45 5 (sM g150) 1 1 (FC x)] := M158.cast (by rw [← hrf]; rfl)
 refine zar ((k : Int) + 1) <| zpn 1 <| zfe ?_
 intro aC fr
 exact ⟨m.fns.length - (k + 1), by omega, k + 1, cf2 + 1, A151, c152, rfl, fr.kp [0, 5, 12, 14, 88, 89, 90, 95, 96, 97], M159.tk 9, by omega, hc1.symm⟩
 have hb : bestB (nwF ms) (offF ms j + k) = false := (Bool.eq_false_iff.2 (fun h_ => c140 (hcnt.2 h_).2))
 refine zsk <| zrg <| zar ((k : Int) + 1) <| zpn 1 <| zfe ?_
 intro aC fr
 exact ⟨m.fns.length - (k + 1), by omega, k + 1, cf2, fA2, fc2, rfl, fr.kp [0, 5, 12, 14, 88, 89, 90, 95, 96, 97], M139.tk 9, by omega, hcf2.trans (cF_no hb).symm⟩
 rename_i nn
 have hb : bestB (nwF ms) (offF ms j + k) = false := (Bool.eq_false_iff.2 (fun h_ => by have h1_ := (hcnt.2 h_).1; rw [hq] at h1_; cases h1_))
 refine zkp [(0, (pT C.r 0)), (5, (.map (some b1))), (12, (vS dA cd dc)), (14, (pT b105 0)), (16, (pT b123 0)), (88, (vS (some ad104) ms.length mc)), (89, (vI ((ms.length : Nat) : Int))), (90, (nV j)), (95, (vS m.fA m.fns.length m.fc)), (96, (vI ((m.fns.length : Nat) : Int))), (97, (nV k))] ?_
 intro aC fr
 refine zdt 11 (N := 270) (env0 := [(0, (pT C.r 0)), (5, (.map (some b1))), (12, (vS dA cd dc)), (14, (pT b105 0)), (16, (pT b123 0)), (88, (vS (some ad104) ms.length mc)), (89, (vI ((ms.length : Nat) : Int))), (90, (nV j)), (95, (vS m.fA m.fns.length m.fc)), (96, (vI ((m.fns.length : Nat) : Int))), (97, (nV k))]) (specAt [.det (pT C.r 0), .det (pT C.r 0), .det (pT C.r 1), .det (.map (some C.mB)), .det (pT b123 0), .det (.string x.nm), .det (.tuple #[(vI nn), (.bool true)]), .det (.tuple #[(vI nn), (.bool true)]), .det (vI nn), .det (.bool true), .det (vI nn)]) fr (la (la (la (la (la (la (la (la (la (la (la lz dP) dP) dP) (dL ⟨C.r, 1, none⟩ (.map (some C.mB)) fun w_ hK => (blk_cell ((M127.then_ hK).get 0 rfl) rfl))) dP) (dL ⟨b123, 0, none⟩ (.string x.nm) fun w_ hK => (blk_cell ((M127.then_ hK).get 9 rfl) rfl))) (dM (strLaw Try.underlying9) Try.underlying60 x.nm (vI 0) (fun w_ hK => (M127.then_ hK).get 3 rfl) true (hv := by rw [lkp_vK, hq]; rfl))) dP) dP) dP) dP) ?_
 intro aC w168 vs hK hv fr
 revert aC; refine zkp [(0, (pT C.r 0)), (5, (.map (some b1))), (12, (vS dA cd dc)), (14, (pT b105 0)), (16, (pT b123 0)), (88, (vS (some ad104) ms.length mc)), (89, (vI ((ms.length : Nat) : Int))), (90, (nV j)), (95, (vS m.fA m.fns.length m.fc)), (96, (vI ((m.fns.length : Nat) : Int))), (97, (nV k)), (110, (.bool true))] ?_
 have M169 := M127.then_ hK
 clear hK hv fr aC M127; clear vs
 refine zpn 1 <| zfe <| zsq <| zkp [(0, (pT C.r 0)), (5, (.map (some b1))), (12, (vS dA cd dc)), (14, (pT b105 0)), (16, (pT b123 0)), (18, (.bool true)), (88, (vS (some ad104) ms.length mc)), (89, (vI ((ms.length : Nat) : Int))), (90, (nV j)), (95, (vS m.fA m.fns.length m.fc)), (96, (vI ((m.fns.length : Nat) : Int))), (97, (nV k))] ?_
 intro aC fr
 refine zdt 11 (N := 270) (env0 := [(0, (pT C.r 0)), (5, (.map (some b1))), (12, (vS dA cd dc)), (14, (pT b105 0)), (16, (pT b123 0)), (18, (.bool true)), (88, (vS (some ad104) ms.length mc)), (89, (vI ((ms.length : Nat) : Int))), (90, (nV j)), (95, (vS m.fA m.fns.length m.fc)), (96, (vI ((m.fns.length : Nat) : Int))), (97, (nV k))]) (specAt [.det (.bool true), .det (.bool false), .det (.bool false), dU, dU, dU, dU, dU, dU, dU, dU]) fr (la (la (la (la (la (la (la (la (la (la (la lz dP) dP) dP) dK) dK) dK) dK) dK) dK) dK) dK) ?_
 intro aC w174 vs hK hv fr
 revert aC; refine zkp [(0, (pT C.r 0)), (5, (.map (some b1))), (12, (vS dA cd dc)), (14, (pT b105 0)), (16, (pT b123 0)), (88, (vS (some ad104) ms.length mc)), (89, (vI ((ms.length : Nat) : Int))), (90, (nV j)), (95, (vS m.fA m.fns.length m.fc)), (96, (vI ((m.fns.length : Nat) : Int))), (97, (nV k)), (113, (.bool false))] ?_
 have M175 := M169.then_ hK
 clear hK hv fr aC M169; clear vs
 refine zpn 2 <| zfe <| zcF <| zsk <| zrg <| zar ((k : Int) + 1) <| zpn 1 <| zfe ?_
 intro aC fr
 exact ⟨m.fns.length - (k + 1), by omega, k + 1, cf2, fA2, fc2, rfl, fr.kp [0, 5, 12, 14, 88, 89, 90, 95, 96, 97], M175.tk 9, by omega, hcf2.trans (cF_no hb).symm⟩
 refine zex 8 <| zbh <| zsr ?_
 obtain rfl : k = m.fns.length := by omega
 refine zpn 1 <| zld ⟨b105, 2, none⟩ (vS m.dA m.dats.length m.dc) (blk_cell (M113.get 8 rfl) rfl) <| zpn 2 <| zfe <| zbk 10 ?_
 intro aC fr
 refine zlp (fun n_ a_ w_ => ∃ (k : Nat) (cd2 : Nat) (dA2 : Option Addr) (dc2 : Nat), n_ = m.dats.length - k ∧ Fr a_ 270 [(0, (pT C.r 0)), (5, (.map (some b1))), (12, (vS dA2 cd2 dc2)), (88, (vS (some ad104) ms.length mc)), (89, (vI ((ms.length : Nat) : Int))), (90, (nV j)), (147, (vS m.dA m.dats.length m.dc)), (148, (vI ((m.dats.length : Nat) : Int))), (149, (nV k))] ∧ Mem (tlyS C) w w_ [.blk C.r 66 [(vS fA2 (cf2 + 1) fc2), (.map (some C.mB)), (.map (some C.dB)), (vS (sM C.mG) C.E.memN C.E.memN), (vI (nextTo (csD ms) cd2 : Int)), (vS ((inAt C.iA C.ic 0).1) (C.E.inp.length - 0) ((inAt C.iA C.ic 0).2)), (vS none 0 0), (vI C.E.fuel), (vI 0), (vI 0)], .row 2 1 (sM C.mG) C.E.memN C.E.memN (ints (List.replicate C.E.memN 0)), .row 5 1 none 0 0 [], .map C.mB (inK .string (vK (nmsTo (csF ms) cf2))), .map C.dB (inK .string (vK (dataTo (csD ms) cd2))), .map b1 (inK .string (vK (wkM (evM ms)))), .row 45 5 fA2 (cf2 + 1) fc2 (fnT (csF ms) cf2), .row 59 4 dA2 cd2 dc2 (((csD ms).take cd2).flatMap FDat.cells), .blk b105 25 (MC m)] ∧ (k ≤ m.dats.length) ∧ (cd2 = cD ms (offD ms j + k))) (n := _) ⟨0, cd, dA, dc, rfl, fr.kp [0, 5, 12, 88, 89, 90, 147, 148, 149], M113, Nat.zero_le _, hcd⟩ ?_
 clear fr aC M113; rintro n aC w180 ⟨k, cd2, dA2, dc2, rfl, fr, M181, hk, hcd2⟩
 revert aC
 refine zsp <| zsq <| zcD (((k : Int) : Int) < ((m.dats.length : Nat) : Int)) (fun c184 => ?_) (fun c184 => ?_)
 refine zsk <| zsq <| zbk 11 <| zsr ?_
 obtain ⟨d, hd⟩ := get_of (l := m.dats) (i := k) (by omega)
 have hdf : (flD ms)[offD ms j + k]? = some d := flat_get (g := fun m : TMod => m.dats) hm hd
 have hds := (hWD d (List.mem_of_getElem? hdf)).name
 unfold nameQ at hds
 have hcnt := dat_count hdf
 rw [← hcd2] at hcnt
 have hcle : cd2 ≤ (csD ms).length := by rw [hcd2]; exact cD_le (by omega)
 have hcln := csD_len (ms := ms)
 have hnle := nextTo_le hlen cd2 hcle
 have hdl := (hWD d (List.mem_of_getElem? hdf)).len
 obtain ⟨ad185, had186⟩ := rds_some (M181.ro (hMs.mdats hmm)) (cs := d.cells) (i := k) (gm hd)
 intro aC fr
 refine From_ixA (some 151) m.dA ad185 m.dats.length 4 (k : Int) fr (by kernel_rfl) had186 (by omega) (by omega) ?_
 intro aC fr
 revert aC
 refine zls ((ad185 : Addr).add (((k : Int)).toNat * 4)) (DC d) (rds_cells (i := k) (M181.ro (hMs.mdats hmm)) had186 (gm hd)) ?_
 refine zal M181 59 [(.string ⟨#[]⟩), (.bool false), (vS none 0 0), (vS none 0 0)] fun b191 w192 hb191 M193 => ?_
 replace M193 := M193.nf
 refine zss M193 9 (DC d) rfl fun w194 M195 => ?_
 replace M195 := M195.nf
 refine zfe <| zsq ?_
 cases hq : lkp (dataTo (csD ms) cd2) d.nm
 refine zkp [(0, (pT C.r 0)), (5, (.map (some b1))), (12, (vS dA2 cd2 dc2)), (20, (pT b191 0)), (88, (vS (some ad104) ms.length mc)), (89, (vI ((ms.length : Nat) : Int))), (90, (nV j)), (147, (vS m.dA m.dats.length m.dc)), (148, (vI ((m.dats.length : Nat) : Int))), (149, (nV k))] ?_
 intro aC fr
 refine zdt 11 (N := 270) (env0 := [(0, (pT C.r 0)), (5, (.map (some b1))), (12, (vS dA2 cd2 dc2)), (20, (pT b191 0)), (88, (vS (some ad104) ms.length mc)), (89, (vI ((ms.length : Nat) : Int))), (90, (nV j)), (147, (vS m.dA m.dats.length m.dc)), (148, (vI ((m.dats.length : Nat) : Int))), (149, (nV k))]) (specAt [.det (pT C.r 0), .det (pT C.r 0), .det (pT C.r 2), .det (.map (some C.dB)), .det (pT b191 0), .det (.string d.nm), .det (.tuple #[(vI 0), (.bool false)]), .det (.tuple #[(vI 0), (.bool false)]), .det (vI 0), .det (.bool false), .det (vI 0)]) fr (la (la (la (la (la (la (la (la (la (la (la lz dP) dP) dP) (dL ⟨C.r, 2, none⟩ (.map (some C.dB)) fun w_ hK => (blk_cell ((M195.then_ hK).get 0 rfl) rfl))) dP) (dL ⟨b191, 0, none⟩ (.string d.nm) fun w_ hK => (blk_cell ((M195.then_ hK).get 9 rfl) rfl))) (dM (strLaw Try.underlying9) Try.underlying64 d.nm (vI 0) (fun w_ hK => (M195.then_ hK).get 4 rfl) true (hv := by rw [lkp_vK, hq]; rfl))) dP) dP) dP) dP) ?_
 intro aC w200 vs hK hv fr
 revert aC; refine zkp [(0, (pT C.r 0)), (5, (.map (some b1))), (12, (vS dA2 cd2 dc2)), (20, (pT b191 0)), (88, (vS (some ad104) ms.length mc)), (89, (vI ((ms.length : Nat) : Int))), (90, (nV j)), (147, (vS m.dA m.dats.length m.dc)), (148, (vI ((m.dats.length : Nat) : Int))), (149, (nV k)), (162, (.bool false))] ?_
 have M201 := M195.then_ hK
 clear hK hv fr aC M195; clear vs
 refine zpn 1 <| zfe <| zsq <| zkp [(0, (pT C.r 0)), (5, (.map (some b1))), (12, (vS dA2 cd2 dc2)), (20, (pT b191 0)), (22, (.bool false)), (88, (vS (some ad104) ms.length mc)), (89, (vI ((ms.length : Nat) : Int))), (90, (nV j)), (147, (vS m.dA m.dats.length m.dc)), (148, (vI ((m.dats.length : Nat) : Int))), (149, (nV k))] ?_
 intro aC fr
 refine zdt 11 (N := 270) (env0 := [(0, (pT C.r 0)), (5, (.map (some b1))), (12, (vS dA2 cd2 dc2)), (20, (pT b191 0)), (22, (.bool false)), (88, (vS (some ad104) ms.length mc)), (89, (vI ((ms.length : Nat) : Int))), (90, (nV j)), (147, (vS m.dA m.dats.length m.dc)), (148, (vI ((m.dats.length : Nat) : Int))), (149, (nV k))]) (specAt [.det (.bool false), .det (.bool true), .det (.bool true), .det (pT b191 1), .det (.bool d.wk), .det (vI (stg d.wk)), .det (.map (some b1)), .det (pT b191 0), .det (.string d.nm), .det (.string ((⟨#[100]⟩ : ByteArray) ++ d.nm)), .det (vI ((lkp (wkM (evM ms)) ((⟨#[100]⟩ : ByteArray) ++ d.nm)).getD 0))]) fr (la (la (la (la (la (la (la (la (la (la (la lz dP) dP) dP) dP) (dL ⟨b191, 1, none⟩ (.bool d.wk) fun w_ hK => (blk_cell ((M201.then_ hK).get 9 rfl) rfl))) (dD (fun w_ hK => strong_c d.wk w_) rfl)) dP) dP) (dL ⟨b191, 0, none⟩ (.string d.nm) fun w_ hK => (blk_cell ((M201.then_ hK).get 9 rfl) rfl))) (dCat (⟨#[100]⟩ : ByteArray) d.nm 9 (size_key hds.2 (by decide)))) (dM (strLaw Try.underlying9) Try.underlying60 ((⟨#[100]⟩ : ByteArray) ++ d.nm) (vI 0) (fun w_ hK => (M201.then_ hK).get 5 rfl) false (hv := by rw [lkV_get]; rfl))) ?_
 intro aC w206 vs hK hv fr
 revert aC; refine zkp [(0, (pT C.r 0)), (5, (.map (some b1))), (12, (vS dA2 cd2 dc2)), (20, (pT b191 0)), (88, (vS (some ad104) ms.length mc)), (89, (vI ((ms.length : Nat) : Int))), (90, (nV j)), (147, (vS m.dA m.dats.length m.dc)), (148, (vI ((m.dats.length : Nat) : Int))), (149, (nV k)), (165, (.bool true)), (168, (vI (stg d.wk))), (173, (vI ((lkp (wkM (evM ms)) ((⟨#[100]⟩ : ByteArray) ++ d.nm)).getD 0)))] ?_
 have M207 := M201.then_ hK
 clear hK hv fr aC M201; clear vs
 refine zpn 2 <| zfe <| zcQ (stg d.wk) ((lkp (wkM (evM ms)) ((⟨#[100]⟩ : ByteArray) ++ d.nm)).getD 0) (fun c208 => ?_) (fun c208 => ?_)
 have hb := hcnt.1 ⟨hq, c208⟩
 obtain ⟨hc1, hc2⟩ := cD_yes hdf hb
 rw [← hcd2] at hc2
 rw [← hcd2] at hc1
 have hcl1 := (List.getElem?_eq_some_iff.1 hc2).1
 have hnx := nextTo_succ hc2
 refine zsq <| zkp [(0, (pT C.r 0)), (5, (.map (some b1))), (12, (vS dA2 cd2 dc2)), (20, (pT b191 0)), (88, (vS (some ad104) ms.length mc)), (89, (vI ((ms.length : Nat) : Int))), (90, (nV j)), (147, (vS m.dA m.dats.length m.dc)), (148, (vI ((m.dats.length : Nat) : Int))), (149, (nV k))] ?_
 intro aC fr
 refine zdt 10 (N := 270) (env0 := [(0, (pT C.r 0)), (5, (.map (some b1))), (12, (vS dA2 cd2 dc2)), (20, (pT b191 0)), (88, (vS (some ad104) ms.length mc)), (89, (vI ((ms.length : Nat) : Int))), (90, (nV j)), (147, (vS m.dA m.dats.length m.dc)), (148, (vI ((m.dats.length : Nat) : Int))), (149, (nV k))]) (specAt [.det (pT C.r 0), .det (pT C.r 0), .det (pT C.r 2), .det (.map (some C.dB)), .det (pT b191 0), .det (.string d.nm), .det (pT C.r 0), .det (pT C.r 0), .det (pT C.r 4), .det (vI (nextTo (csD ms) cd2 : Int))]) fr (la (la (la (la (la (la (la (la (la (la lz dP) dP) dP) (dL ⟨C.r, 2, none⟩ (.map (some C.dB)) fun w_ hK => (blk_cell ((M207.then_ hK).get 0 rfl) rfl))) dP) (dL ⟨b191, 0, none⟩ (.string d.nm) fun w_ hK => (blk_cell ((M207.then_ hK).get 9 rfl) rfl))) dP) dP) dP) (dL ⟨C.r, 4, none⟩ (vI (nextTo (csD ms) cd2 : Int)) fun w_ hK => (blk_cell ((M207.then_ hK).get 0 rfl) rfl))) ?_
 intro aC w213 vs hK hv fr
 revert aC; refine zkp [(0, (pT C.r 0)), (5, (.map (some b1))), (12, (vS dA2 cd2 dc2)), (20, (pT b191 0)), (88, (vS (some ad104) ms.length mc)), (89, (vI ((ms.length : Nat) : Int))), (90, (nV j)), (147, (vS m.dA m.dats.length m.dc)), (148, (vI ((m.dats.length : Nat) : Int))), (149, (nV k)), (179, (.map (some C.dB))), (181, (.string d.nm)), (185, (vI (nextTo (csD ms) cd2 : Int)))] ?_
 have M214 := M207.then_ hK
 clear hK hv fr aC M207; clear vs
 refine zmu (strLaw Try.underlying9) M214 4 d.nm (vI (nextTo (csD ms) cd2 : Int)) (l := (vK (dataTo (csD ms) cd2))) rfl Try.underlying64 fun w215 M216 => ?_
 replace M216 := M216.nf
 have M217 : Mem (tlyS C) w w215 [.blk C.r 66 [(vS fA2 (cf2 + 1) fc2), (.map (some C.mB)), (.map (some C.dB)), (vS (sM C.mG) C.E.memN C.E.memN), (vI (nextTo (csD ms) cd2 : Int)), (vS ((inAt C.iA C.ic 0).1) (C.E.inp.length - 0) ((inAt C.iA C.ic 0).2)), (vS none 0 0), (vI C.E.fuel), (vI 0), (vI 0)], .row 2 1 (sM C.mG) C.E.memN C.E.memN (ints (List.replicate C.E.memN 0)), .row 5 1 none 0 0 [], .map C.mB (inK .string (vK (nmsTo (csF ms) cf2))), .map C.dB (inK .string (vK (dataTo (csD ms) (cd2 + 1)))), .map b1 (inK .string (vK (wkM (evM ms)))), .row 45 5 fA2 (cf2 + 1) fc2 (fnT (csF ms) cf2), .row 59 4 dA2 cd2 dc2 (((csD ms).take cd2).flatMap FDat.cells), .blk b105 25 (MC m), .blk b191 59 (DC d)] := M216.cast (by rw [dataTo_up csD_nodup hc2])
 refine zfe <| zsq <| zkp [(0, (pT C.r 0)), (5, (.map (some b1))), (12, (vS dA2 cd2 dc2)), (20, (pT b191 0)), (88, (vS (some ad104) ms.length mc)), (89, (vI ((ms.length : Nat) : Int))), (90, (nV j)), (147, (vS m.dA m.dats.length m.dc)), (148, (vI ((m.dats.length : Nat) : Int))), (149, (nV k))] ?_
 intro aC fr
 refine zdt 7 (N := 270) (env0 := [(0, (pT C.r 0)), (5, (.map (some b1))), (12, (vS dA2 cd2 dc2)), (20, (pT b191 0)), (88, (vS (some ad104) ms.length mc)), (89, (vI ((ms.length : Nat) : Int))), (90, (nV j)), (147, (vS m.dA m.dats.length m.dc)), (148, (vI ((m.dats.length : Nat) : Int))), (149, (nV k))]) (specAt [.det (pT C.r 0), .det (pT C.r 0), .det (pT C.r 4), .det (vI (nextTo (csD ms) cd2 : Int)), .det (pT b191 2), .det (vS d.wA d.words.length d.wc), .det (vI ((d.words.length : Nat) : Int))]) fr (la (la (la (la (la (la (la lz dP) dP) dP) (dL ⟨C.r, 4, none⟩ (vI (nextTo (csD ms) cd2 : Int)) fun w_ hK => (blk_cell ((M217.then_ hK).get 0 rfl) rfl))) dP) (dL ⟨b191, 2, none⟩ (vS d.wA d.words.length d.wc) fun w_ hK => (blk_cell ((M217.then_ hK).get 9 rfl) rfl))) dP) ?_
 intro aC w222 vs hK hv fr
 revert aC; refine zkp [(0, (pT C.r 0)), (5, (.map (some b1))), (12, (vS dA2 cd2 dc2)), (20, (pT b191 0)), (88, (vS (some ad104) ms.length mc)), (89, (vI ((ms.length : Nat) : Int))), (90, (nV j)), (147, (vS m.dA m.dats.length m.dc)), (148, (vI ((m.dats.length : Nat) : Int))), (149, (nV k)), (186, (pT C.r 0)), (189, (vI (nextTo (csD ms) cd2 : Int))), (192, (vI ((d.words.length : Nat) : Int)))] ?_
 have M223 := M217.then_ hK
 clear hK hv fr aC M217; clear vs
 refine zar ((nextTo (csD ms) cd2 : Int) + ((d.words.length : Nat) : Int)) <| zpn 2 <| zsb (ho := (by simp)) M223 0 4 (vI ((nextTo (csD ms) cd2 : Int) + ((d.words.length : Nat) : Int))) rfl fun w224 M225 => ?_
 replace M225 := M225.nf
 refine zfe <| zrg <| zpn 1 <| zls ⟨b191, 0, none⟩ (DC d) (blk_cells (M225.get 9 rfl)) ?_
 intro aC fr
 refine zBs 198 23 1 #[(0, (.tmp 197))] 23 fr (e := 59) (size := 4) (zs := [(.string ⟨#[]⟩), (.bool false), (vS none 0 0), (vS none 0 0)]) (vs := [(0, (.agg (DC d).toArray))]) (cs := (DC d)) M225 ?_
 intro b226 w227 hb226 _ M228 _ aC ea fr; clear ea
 replace M228 := M228.nf
 refine zAN 199 (.tmp 196) (.tmp 198) 23 23 fr (e := 59) (size := 4) (bytes := 72) (z := (.agg #[(.string ⟨#[]⟩), (.bool false), (vS none 0 0), (vS none 0 0)])) (A := dA2) (B := (sM b226)) (n := cd2) (cap := dc2) (m := 1) (cap' := 1) (xs := (((csD ms).take cd2).flatMap FDat.cells)) (news := (DC d)) M228 7 rfl (row_rd (M228.get 10 rfl)) rfl (by simp [Value.oneCell']) (by omega) (by simp only [maxLen]; omega) (cd2 + 1) (((csD ms).take (cd2 + 1)).flatMap FDat.cells) rfl ((row_dats hc2).symm ▸ rfl : _) ?_
 intro A233 c234 w235 M236 _ aC ea fr; clear ea
 replace M236 := M236.nf
 have M239 := M236.od [9, 9, 9, 9, 9, 9, 9, 9, 9, 9] 10
 revert aC
 refine zpn 1 <| zfe <| zrg ?_
 have M240 : Mem (tlyS C) w w235 [.blk C.r 66 [(vS fA2 (cf2 + 1) fc2), (.map (some C.mB)), (.map (some C.dB)), (vS (sM C.mG) C.E.memN C.E.memN), (vI (nextTo (csD ms) (cd2 + 1) : Int)), (vS ((inAt C.iA C.ic 0).1) (C.E.inp.length - 0) ((inAt C.iA C.ic 0).2)), (vS none 0 0), (vI C.E.fuel), (vI 0), (vI 0)], .row 2 1 (sM C.mG) C.E.memN C.E.memN (ints (List.replicate C.E.memN 0)), .row 5 1 none 0 0 [], .map C.mB (inK .string (vK (nmsTo (csF ms) cf2))), .map C.dB (inK .string (vK (dataTo (csD ms) (cd2 + 1)))), .map b1 (inK .string (vK (wkM (evM ms)))), .row 45 5 fA2 (cf2 + 1) fc2 (fnT (csF ms) cf2), .row 59 4 A233 (cd2 + 1) c234 (((csD ms).take (cd2 + 1)).flatMap FDat.cells), .blk b105 25 (MC m), .blk b191 59 (DC d)] := M239.cast (by rw [hnx]; rfl)
 refine zar ((k : Int) + 1) <| zpn 1 <| zfe ?_
 intro aC fr
 exact ⟨m.dats.length - (k + 1), by omega, k + 1, cd2 + 1, A233, c234, rfl, fr.kp [0, 5, 12, 88, 89, 90, 147, 148, 149], M240.tk 9, by omega, hc1.symm⟩
 have hb : bestB (nwD ms) (offD ms j + k) = false := (Bool.eq_false_iff.2 (fun h_ => c208 (hcnt.2 h_).2))
 refine zsk <| zrg <| zar ((k : Int) + 1) <| zpn 1 <| zfe ?_
 intro aC fr
 exact ⟨m.dats.length - (k + 1), by omega, k + 1, cd2, dA2, dc2, rfl, fr.kp [0, 5, 12, 88, 89, 90, 147, 148, 149], M207.tk 9, by omega, hcd2.trans (cD_no hb).symm⟩
 rename_i nn
 have hb : bestB (nwD ms) (offD ms j + k) = false := (Bool.eq_false_iff.2 (fun h_ => by have h1_ := (hcnt.2 h_).1; rw [hq] at h1_; cases h1_))
 refine zkp [(0, (pT C.r 0)), (5, (.map (some b1))), (12, (vS dA2 cd2 dc2)), (20, (pT b191 0)), (88, (vS (some ad104) ms.length mc)), (89, (vI ((ms.length : Nat) : Int))), (90, (nV j)), (147, (vS m.dA m.dats.length m.dc)), (148, (vI ((m.dats.length : Nat) : Int))), (149, (nV k))] ?_
 intro aC fr
 refine zdt 11 (N := 270) (env0 := [(0, (pT C.r 0)), (5, (.map (some b1))), (12, (vS dA2 cd2 dc2)), (20, (pT b191 0)), (88, (vS (some ad104) ms.length mc)), (89, (vI ((ms.length : Nat) : Int))), (90, (nV j)), (147, (vS m.dA m.dats.length m.dc)), (148, (vI ((m.dats.length : Nat) : Int))), (149, (nV k))]) (specAt [.det (pT C.r 0), .det (pT C.r 0), .det (pT C.r 2), .det (.map (some C.dB)), .det (pT b191 0), .det (.string d.nm), .det (.tuple #[(vI nn), (.bool true)]), .det (.tuple #[(vI nn), (.bool true)]), .det (vI nn), .det (.bool true), .det (vI nn)]) fr (la (la (la (la (la (la (la (la (la (la (la lz dP) dP) dP) (dL ⟨C.r, 2, none⟩ (.map (some C.dB)) fun w_ hK => (blk_cell ((M195.then_ hK).get 0 rfl) rfl))) dP) (dL ⟨b191, 0, none⟩ (.string d.nm) fun w_ hK => (blk_cell ((M195.then_ hK).get 9 rfl) rfl))) (dM (strLaw Try.underlying9) Try.underlying64 d.nm (vI 0) (fun w_ hK => (M195.then_ hK).get 4 rfl) true (hv := by rw [lkp_vK, hq]; rfl))) dP) dP) dP) dP) ?_
 intro aC w249 vs hK hv fr
 revert aC; refine zkp [(0, (pT C.r 0)), (5, (.map (some b1))), (12, (vS dA2 cd2 dc2)), (20, (pT b191 0)), (88, (vS (some ad104) ms.length mc)), (89, (vI ((ms.length : Nat) : Int))), (90, (nV j)), (147, (vS m.dA m.dats.length m.dc)), (148, (vI ((m.dats.length : Nat) : Int))), (149, (nV k)), (162, (.bool true))] ?_
 have M250 := M195.then_ hK
 clear hK hv fr aC M195; clear vs
 refine zpn 1 <| zfe <| zsq <| zkp [(0, (pT C.r 0)), (5, (.map (some b1))), (12, (vS dA2 cd2 dc2)), (20, (pT b191 0)), (22, (.bool true)), (88, (vS (some ad104) ms.length mc)), (89, (vI ((ms.length : Nat) : Int))), (90, (nV j)), (147, (vS m.dA m.dats.length m.dc)), (148, (vI ((m.dats.length : Nat) : Int))), (149, (nV k))] ?_
 intro aC fr
 refine zdt 11 (N := 270) (env0 := [(0, (pT C.r 0)), (5, (.map (some b1))), (12, (vS dA2 cd2 dc2)), (20, (pT b191 0)), (22, (.bool true)), (88, (vS (some ad104) ms.length mc)), (89, (vI ((ms.length : Nat) : Int))), (90, (nV j)), (147, (vS m.dA m.dats.length m.dc)), (148, (vI ((m.dats.length : Nat) : Int))), (149, (nV k))]) (specAt [.det (.bool true), .det (.bool false), .det (.bool false), dU, dU, dU, dU, dU, dU, dU, dU]) fr (la (la (la (la (la (la (la (la (la (la (la lz dP) dP) dP) dK) dK) dK) dK) dK) dK) dK) dK) ?_
 intro aC w255 vs hK hv fr
 revert aC; refine zkp [(0, (pT C.r 0)), (5, (.map (some b1))), (12, (vS dA2 cd2 dc2)), (20, (pT b191 0)), (88, (vS (some ad104) ms.length mc)), (89, (vI ((ms.length : Nat) : Int))), (90, (nV j)), (147, (vS m.dA m.dats.length m.dc)), (148, (vI ((m.dats.length : Nat) : Int))), (149, (nV k)), (165, (.bool false))] ?_
 have M256 := M250.then_ hK
 clear hK hv fr aC M250; clear vs
 refine zpn 2 <| zfe <| zcF <| zsk <| zrg <| zar ((k : Int) + 1) <| zpn 1 <| zfe ?_
 intro aC fr
 exact ⟨m.dats.length - (k + 1), by omega, k + 1, cd2, dA2, dc2, rfl, fr.kp [0, 5, 12, 88, 89, 90, 147, 148, 149], M256.tk 9, by omega, hcd2.trans (cD_no hb).symm⟩
 refine zex 10 <| zbh <| zrg ?_
 obtain rfl : k = m.dats.length := by omega
 refine zar ((j : Int) + 1) <| zpn 1 <| zfe ?_
 intro aC fr
 exact ⟨ms.length - (j + 1), by omega, j + 1, cf2, cd2, fA2, fc2, dA2, dc2, rfl, fr.kp [0, 5, 12, 88, 89, 90], (M181.tk 8), by omega, hcf2.trans (congrArg (cF ms) (off_succ hm).symm), hcd2.trans (congrArg (cD ms) (off_succ hm).symm)⟩
 refine zex 6 <| zbh <| zsq <| zsq ?_
 obtain rfl : j = ms.length := by omega
 have hcfE : cf = (csF ms).length := by rw [hcf, show offF ms ms.length = (flF ms).length from off_end (Nat.le_refl _)]; rfl
 have hcdE : cd = (csD ms).length := by rw [hcd, show offD ms ms.length = (flD ms).length from off_end (Nat.le_refl _)]; rfl
 have hnle := nextTo_le hlen (csD ms).length (Nat.le_refl _)
 have hcln := csD_len (ms := ms)
 refine zkp [(0, (pT C.r 0)), (5, (.map (some b1))), (12, (vS dA cd dc)), (88, (vS mA ms.length mc)), (89, (vI ((ms.length : Nat) : Int)))] ?_
 subst hcfE
 subst hcdE
 have M261 : Mem (tlyS C) w w99 [.blk C.r 66 [(vS fA ((csF ms).length + 1) fc), (.map (some C.mB)), (.map (some C.dB)), (vS (sM C.mG) C.E.memN C.E.memN), (vI ((nextTo (csD ms) (csD ms).length) : Int)), (vS ((inAt C.iA C.ic 0).1) (C.E.inp.length - 0) ((inAt C.iA C.ic 0).2)), (vS none 0 0), (vI C.E.fuel), (vI 0), (vI 0)], .row 2 1 (sM C.mG) C.E.memN C.E.memN (ints (List.replicate C.E.memN 0)), .row 5 1 none 0 0 [], .map C.mB (inK .string (vK (nmsTo (csF ms) (csF ms).length))), .map C.dB (inK .string (vK (dataTo (csD ms) (csD ms).length))), .map b1 (inK .string (vK (wkM (evM ms)))), .row 45 5 fA ((csF ms).length + 1) fc (fnT (csF ms) (csF ms).length), .row 59 4 dA ((csD ms).length) dc ((csD ms).flatMap FDat.cells)] := M100.cast (by rw [List.take_length])
 obtain ⟨B262, hB262⟩ : ∃ B : Bool, B = decide (((nextTo (csD ms) (csD ms).length) : Int) > ((C.E.memN : Nat) : Int)) := ⟨_, rfl⟩
 refine zkp [(0, (pT C.r 0)), (5, (.map (some b1))), (12, (vS dA (csD ms).length dc)), (88, (vS mA ms.length mc)), (89, (vI ((ms.length : Nat) : Int)))] ?_
 intro aC fr
 refine zdr (N := 270) (env0 := [(0, (pT C.r 0)), (5, (.map (some b1))), (12, (vS dA (csD ms).length dc)), (88, (vS mA ms.length mc)), (89, (vI ((ms.length : Nat) : Int)))]) (specAt [.det (pT C.r 0), .det (pT C.r 0), .det (pT C.r 4), .det (vI ((nextTo (csD ms) (csD ms).length) : Int)), .det (pT C.r 0), .det (pT C.r 0), .det (pT C.r 3), .det (vS (sM C.mG) C.E.memN C.E.memN), .det (vI ((C.E.memN : Nat) : Int)), .det (.bool B262)]) fr (la (la (la (la (la (la (la (la (la (la lz dP) dP) dP) (dL ⟨C.r, 4, none⟩ (vI ((nextTo (csD ms) (csD ms).length) : Int)) fun w_ hK => (blk_cell ((M261.then_ hK).get 0 rfl) rfl))) dP) dP) dP) (dL ⟨C.r, 3, none⟩ (vS (sM C.mG) C.E.memN C.E.memN) fun w_ hK => (blk_cell ((M261.then_ hK).get 0 rfl) rfl))) dP) (dC (decide (((nextTo (csD ms) (csD ms).length) : Int) > ((C.E.memN : Nat) : Int))) hB262)) ?_
 intro aC w267 vs hK hv fr
 revert aC; refine zkp [(0, (pT C.r 0)), (12, (vS dA (csD ms).length dc)), (211, (.bool B262))] ?_
 have M268 := M261.then_ hK
 clear hK hv fr aC M261; clear vs
 have iB262 : B262 = true ↔ ((((nextTo (csD ms) (csD ms).length) : Int) : Int) > ((C.E.memN : Nat) : Int)) := by rw [hB262]; simp only [decide_eq_true_eq]
 clear hB262
 refine zcP B262 ((((nextTo (csD ms) (csD ms).length) : Int) : Int) > ((C.E.memN : Nat) : Int)) iB262 (fun c269 => ?_) (fun c269 => ?_)
 refine zsp <| zre <| zo1 (.bool false) ?_
 have M270 := M268.od [6, 5, 5, 5, 5, 5] 6
 exact ⟨fA, fc, .inr ⟨by omega, rfl, M270⟩⟩
 refine zsk <| zsq <| zsp <| zbk 12 ?_
 have hfit : (nextTo (csD ms) (csD ms).length) ≤ C.E.memN := by omega
 have M271 : Mem (tlyS C) w w267 [.blk C.r 66 [(vS fA ((csF ms).length + 1) fc), (.map (some C.mB)), (.map (some C.dB)), (vS (sM C.mG) C.E.memN C.E.memN), (vI ((nextTo (csD ms) (csD ms).length) : Int)), (vS ((inAt C.iA C.ic 0).1) (C.E.inp.length - 0) ((inAt C.iA C.ic 0).2)), (vS none 0 0), (vI C.E.fuel), (vI 0), (vI 0)], .row 2 1 (sM C.mG) C.E.memN C.E.memN (ints (layTo (nmsTo (csF ms) (csF ms).length) (dataTo (csD ms) (csD ms).length) (csD ms) C.E.memN 0)), .row 5 1 none 0 0 [], .map C.mB (inK .string (vK (nmsTo (csF ms) (csF ms).length))), .map C.dB (inK .string (vK (dataTo (csD ms) (csD ms).length))), .map b1 (inK .string (vK (wkM (evM ms)))), .row 45 5 fA ((csF ms).length + 1) fc (fnT (csF ms) (csF ms).length), .row 59 4 dA ((csD ms).length) dc ((csD ms).flatMap FDat.cells)] := M268.cast rfl
 intro aC fr
 refine zlp (fun n_ a_ w_ => ∃ (j : Nat), n_ = (csD ms).length - j ∧ Fr a_ 270 [(0, (pT C.r 0)), (212, (vS dA (csD ms).length dc)), (213, (vI (((csD ms).length : Nat) : Int))), (214, (nV j))] ∧ Mem (tlyS C) w w_ [.blk C.r 66 [(vS fA ((csF ms).length + 1) fc), (.map (some C.mB)), (.map (some C.dB)), (vS (sM C.mG) C.E.memN C.E.memN), (vI ((nextTo (csD ms) (csD ms).length) : Int)), (vS ((inAt C.iA C.ic 0).1) (C.E.inp.length - 0) ((inAt C.iA C.ic 0).2)), (vS none 0 0), (vI C.E.fuel), (vI 0), (vI 0)], .row 2 1 (sM C.mG) C.E.memN C.E.memN (ints (layTo (nmsTo (csF ms) (csF ms).length) (dataTo (csD ms) (csD ms).length) (csD ms) C.E.memN j)), .row 5 1 none 0 0 [], .map C.mB (inK .string (vK (nmsTo (csF ms) (csF ms).length))), .map C.dB (inK .string (vK (dataTo (csD ms) (csD ms).length))), .map b1 (inK .string (vK (wkM (evM ms)))), .row 45 5 fA ((csF ms).length + 1) fc (fnT (csF ms) (csF ms).length), .row 59 4 dA ((csD ms).length) dc ((csD ms).flatMap FDat.cells)] ∧ (j ≤ (csD ms).length)) (n := _) ⟨0, rfl, fr.kp [0, 212, 213, 214], M271, Nat.zero_le _⟩ ?_
 clear fr aC M271; rintro n aC w274 ⟨j, rfl, fr, M275, hj⟩
 revert aC
 refine zsp <| zsq <| zcD (((j : Int) : Int) < (((csD ms).length : Nat) : Int)) (fun c278 => ?_) (fun c278 => ?_)
 refine zsk <| zsq <| zbk 13 <| zsr ?_
 obtain ⟨d, hd⟩ := get_of (l := csD ms) (i := j) (by omega)
 have hdm := csD_mem (List.mem_of_getElem? hd)
 have hdw := (hWD d hdm).len
 have hnx := nextTo_succ hd
 have hnle2 := nextTo_le hlen j hj
 have hmn := nextTo_mono (ds := csD ms) (j := j + 1) (i := (csD ms).length) (by omega)
 have hll := layTo_len (names := (nmsTo (csF ms) (csF ms).length)) (data := (dataTo (csD ms) (csD ms).length)) (ds := csD ms) (memN := C.E.memN) j hj hfit
 obtain ⟨g280, rfl⟩ := row_some (M275.get 7 rfl) (by omega)
 refine zix ⟨g280, 0, none⟩ ((csD ms).length) 4 (j : Int) <| zls ((⟨g280, 0, none⟩ : Addr).add (((j : Int)).toNat * 4)) (DC d) (rds_cells (i := j) (rows_rds (f := FDat.cells) (size := 4) (l := csD ms) (fun _ => rfl) (by decide) (M275.get 7 rfl)) rfl (gm hd)) ?_
 refine zal M275 59 [(.string ⟨#[]⟩), (.bool false), (vS none 0 0), (vS none 0 0)] fun b281 w282 hb281 M283 => ?_
 replace M283 := M283.nf
 refine zss M283 8 (DC d) rfl fun w284 M285 => ?_
 replace M285 := M285.nf
 refine zfe <| zsq <| zkp [(0, (pT C.r 0)), (24, (pT b281 0)), (212, (vS (sM g280) ((csD ms).length) dc)), (213, (vI (((csD ms).length : Nat) : Int))), (214, (nV j))] ?_
 intro aC fr
 refine zdt 11 (N := 270) (env0 := [(0, (pT C.r 0)), (24, (pT b281 0)), (212, (vS (sM g280) ((csD ms).length) dc)), (213, (vI (((csD ms).length : Nat) : Int))), (214, (nV j))]) (specAt [.det (pT C.r 0), .det (pT C.r 0), .det (pT C.r 3), .det (vS (sM C.mG) C.E.memN C.E.memN), .det (pT C.r 0), .det (pT C.r 0), .det (pT C.r 2), .det (.map (some C.dB)), .det (pT b281 0), .det (.string d.nm), .det (vI (nextTo (csD ms) j : Int))]) fr (la (la (la (la (la (la (la (la (la (la (la lz dP) dP) dP) (dL ⟨C.r, 3, none⟩ (vS (sM C.mG) C.E.memN C.E.memN) fun w_ hK => (blk_cell ((M285.then_ hK).get 0 rfl) rfl))) dP) dP) dP) (dL ⟨C.r, 2, none⟩ (.map (some C.dB)) fun w_ hK => (blk_cell ((M285.then_ hK).get 0 rfl) rfl))) dP) (dL ⟨b281, 0, none⟩ (.string d.nm) fun w_ hK => (blk_cell ((M285.then_ hK).get 8 rfl) rfl))) (dM (strLaw Try.underlying9) Try.underlying64 d.nm (vI 0) (fun w_ hK => (M285.then_ hK).get 4 rfl) false (hv := by rw [lkp_vK, lkp_dataTo csD_nodup hd _ (by omega) (Nat.le_refl _)]; rfl))) ?_
 intro aC w290 vs hK hv fr
 revert aC; refine zkp [(0, (pT C.r 0)), (24, (pT b281 0)), (212, (vS (sM g280) ((csD ms).length) dc)), (213, (vI (((csD ms).length : Nat) : Int))), (214, (nV j)), (221, (vS (sM C.mG) C.E.memN C.E.memN)), (228, (vI (nextTo (csD ms) j : Int)))] ?_
 have M291 := M285.then_ hK
 clear hK hv fr aC M285; clear vs
 obtain ⟨D, hDe⟩ : ∃ D : Option Addr, D = (if C.E.memN = nextTo (csD ms) j then (some ⟨C.mG, 0, none⟩ : Option Addr) else (some ⟨C.mG, 0, none⟩ : Option Addr).map (·.add (nextTo (csD ms) j * 1))) := ⟨_, rfl⟩
 have hDw : d.words = [] ∨ D = some ⟨C.mG, nextTo (csD ms) j, none⟩ := by rw [hDe]; exact cut_words (by omega)
 refine zsv (A := some ⟨C.mG, 0, none⟩) (n := C.E.memN) (cap := C.E.memN) (size := 1) (v := .slice D (C.E.memN - nextTo (csD ms) j) (C.E.memN - nextTo (csD ms) j)) (hk := by kernel_rfl) (nextTo (csD ms) j) (by omega) (by rw [hDe]) <| zpn 1 <| zfe <| zsr <| zpn 2 <| zld ⟨b281, 2, none⟩ (vS d.wA d.words.length d.wc) (blk_cell (M291.get 8 rfl) rfl) ?_
 clear hDe
 refine zco M291 1 (nextTo (csD ms) j) (e := 2) (b := C.mG) (n := C.E.memN) (dn := C.E.memN - nextTo (csD ms) j) (m := d.words.length) (rc := C.E.memN) (D := D) (A := d.wA) (xs := ints d.words) (cs := ints (layTo (nmsTo (csF ms) (csF ms).length) (dataTo (csD ms) (csD ms).length) (csD ms) C.E.memN j)) rfl (hDw.imp (fun h => by rw [h]; rfl) id) (M291.ro (hMs.mwords hdm)) (ints_len _).symm (by omega) (by rw [ints_len, ints_len]; omega) (ints_one _) (fun w292 M293 => ?_) (by kernel_rfl)
 replace M293 := M293.nf
 have M294 : Mem (tlyS C) w w292 [.blk C.r 66 [(vS fA ((csF ms).length + 1) fc), (.map (some C.mB)), (.map (some C.dB)), (vS (sM C.mG) C.E.memN C.E.memN), (vI ((nextTo (csD ms) (csD ms).length) : Int)), (vS ((inAt C.iA C.ic 0).1) (C.E.inp.length - 0) ((inAt C.iA C.ic 0).2)), (vS none 0 0), (vI C.E.fuel), (vI 0), (vI 0)], .row 2 1 (sM C.mG) C.E.memN C.E.memN (ints (writeAt (layTo (nmsTo (csF ms) (csF ms).length) (dataTo (csD ms) (csD ms).length) (csD ms) C.E.memN j) (nextTo (csD ms) j) d.words)), .row 5 1 none 0 0 [], .map C.mB (inK .string (vK (nmsTo (csF ms) (csF ms).length))), .map C.dB (inK .string (vK (dataTo (csD ms) (csD ms).length))), .map b1 (inK .string (vK (wkM (evM ms)))), .row 45 5 fA ((csF ms).length + 1) fc (fnT (csF ms) (csF ms).length), .row 59 4 (sM g280) ((csD ms).length) dc ((csD ms).flatMap FDat.cells), .blk b281 59 (DC d)] := M293.cast (by rw [ints_write])
 refine zfe <| zsr <| zpn 1 <| zld ⟨b281, 3, none⟩ (vS d.rA d.refs.length d.rc) (blk_cell (M294.get 8 rfl) rfl) <| zpn 2 <| zfe <| zbk 14 ?_
 have M295 : Mem (tlyS C) w w292 [.blk C.r 66 [(vS fA ((csF ms).length + 1) fc), (.map (some C.mB)), (.map (some C.dB)), (vS (sM C.mG) C.E.memN C.E.memN), (vI ((nextTo (csD ms) (csD ms).length) : Int)), (vS ((inAt C.iA C.ic 0).1) (C.E.inp.length - 0) ((inAt C.iA C.ic 0).2)), (vS none 0 0), (vI C.E.fuel), (vI 0), (vI 0)], .row 2 1 (sM C.mG) C.E.memN C.E.memN (ints (putRefs (nmsTo (csF ms) (csF ms).length) (dataTo (csD ms) (csD ms).length) (nextTo (csD ms) j) (writeAt (layTo (nmsTo (csF ms) (csF ms).length) (dataTo (csD ms) (csD ms).length) (csD ms) C.E.memN j) (nextTo (csD ms) j) d.words) (d.refs.take 0))), .row 5 1 none 0 0 [], .map C.mB (inK .string (vK (nmsTo (csF ms) (csF ms).length))), .map C.dB (inK .string (vK (dataTo (csD ms) (csD ms).length))), .map b1 (inK .string (vK (wkM (evM ms)))), .row 45 5 fA ((csF ms).length + 1) fc (fnT (csF ms) (csF ms).length), .row 59 4 (sM g280) ((csD ms).length) dc ((csD ms).flatMap FDat.cells), .blk b281 59 (DC d)] := M294.cast rfl
 intro aC fr
 refine zlp (fun n_ a_ w_ => ∃ (q : Nat), n_ = d.refs.length - q ∧ Fr a_ 270 [(0, (pT C.r 0)), (25, (vS D (C.E.memN - nextTo (csD ms) j) (C.E.memN - nextTo (csD ms) j))), (212, (vS (sM g280) ((csD ms).length) dc)), (213, (vI (((csD ms).length : Nat) : Int))), (214, (nV j)), (235, (vS d.rA d.refs.length d.rc)), (236, (vI ((d.refs.length : Nat) : Int))), (237, (nV q))] ∧ Mem (tlyS C) w w_ [.blk C.r 66 [(vS fA ((csF ms).length + 1) fc), (.map (some C.mB)), (.map (some C.dB)), (vS (sM C.mG) C.E.memN C.E.memN), (vI ((nextTo (csD ms) (csD ms).length) : Int)), (vS ((inAt C.iA C.ic 0).1) (C.E.inp.length - 0) ((inAt C.iA C.ic 0).2)), (vS none 0 0), (vI C.E.fuel), (vI 0), (vI 0)], .row 2 1 (sM C.mG) C.E.memN C.E.memN (ints (putRefs (nmsTo (csF ms) (csF ms).length) (dataTo (csD ms) (csD ms).length) (nextTo (csD ms) j) (writeAt (layTo (nmsTo (csF ms) (csF ms).length) (dataTo (csD ms) (csD ms).length) (csD ms) C.E.memN j) (nextTo (csD ms) j) d.words) (d.refs.take q))), .row 5 1 none 0 0 [], .map C.mB (inK .string (vK (nmsTo (csF ms) (csF ms).length))), .map C.dB (inK .string (vK (dataTo (csD ms) (csD ms).length))), .map b1 (inK .string (vK (wkM (evM ms)))), .row 45 5 fA ((csF ms).length + 1) fc (fnT (csF ms) (csF ms).length), .row 59 4 (sM g280) ((csD ms).length) dc ((csD ms).flatMap FDat.cells), .blk b281 59 (DC d)] ∧ (q ≤ d.refs.length)) (n := _) ⟨0, rfl, fr.kp [0, 25, 212, 213, 214, 235, 236, 237], M295, Nat.zero_le _⟩ ?_
 clear fr aC M295; rintro n aC w298 ⟨q, rfl, fr, M299, hqj⟩
 revert aC
 refine zsp <| zsq <| zcD (((q : Int) : Int) < ((d.refs.length : Nat) : Int)) (fun c302 => ?_) (fun c302 => ?_)
 refine zsk <| zsq <| zbk 15 <| zsr ?_
 obtain ⟨r, hr⟩ := get_of (l := d.refs) (i := q) (by omega)
 have hrr := (hWD d hdm).refs r (List.mem_of_getElem? hr)
 have hrl := (hWD d hdm).rlen
 have hlm : (putRefs (nmsTo (csF ms) (csF ms).length) (dataTo (csD ms) (csD ms).length) (nextTo (csD ms) j) (writeAt (layTo (nmsTo (csF ms) (csF ms).length) (dataTo (csD ms) (csD ms).length) (csD ms) C.E.memN j) (nextTo (csD ms) j) d.words) (d.refs.take q)).length = C.E.memN := by rw [putRefs_len, writeAt_len (by rw [hll]; omega), hll]
 obtain ⟨ad303, had304⟩ := rds_some (M299.ro (hMs.mrefs hdm)) (i := q) (gm hr)
 intro aC fr
 refine From_ixA (some 239) d.rA ad303 d.refs.length 2 (q : Int) fr (by kernel_rfl) had304 (by omega) (by omega) ?_
 intro aC fr
 revert aC
 refine zls ((ad303 : Addr).add (((q : Int)).toNat * 2)) [(vI r.1), (.string r.2)] (rds_cells (i := q) (M299.ro (hMs.mrefs hdm)) had304 (gm hr)) ?_
 refine zal M299 96 [(vI 0), (.string ⟨#[]⟩)] fun b309 w310 hb309 M311 => ?_
 replace M311 := M311.nf
 refine zss M311 9 [(vI r.1), (.string r.2)] rfl fun w312 M313 => ?_
 replace M313 := M313.nf
 refine zfe <| zsq ?_
 obtain rfl := hDw.resolve_left (fun h => by rw [h] at hrr; simp at hrr; omega)
 refine zkp [(0, (pT C.r 0)), (25, (vS (some ⟨C.mG, nextTo (csD ms) j, none⟩) (C.E.memN - nextTo (csD ms) j) (C.E.memN - nextTo (csD ms) j))), (27, (pT b309 0)), (212, (vS (sM g280) ((csD ms).length) dc)), (213, (vI (((csD ms).length : Nat) : Int))), (214, (nV j)), (235, (vS d.rA d.refs.length d.rc)), (236, (vI ((d.refs.length : Nat) : Int))), (237, (nV q))] ?_
 intro aC fr
 refine zdt 10 (N := 270) (env0 := [(0, (pT C.r 0)), (25, (vS (some ⟨C.mG, nextTo (csD ms) j, none⟩) (C.E.memN - nextTo (csD ms) j) (C.E.memN - nextTo (csD ms) j))), (27, (pT b309 0)), (212, (vS (sM g280) ((csD ms).length) dc)), (213, (vI (((csD ms).length : Nat) : Int))), (214, (nV j)), (235, (vS d.rA d.refs.length d.rc)), (236, (vI ((d.refs.length : Nat) : Int))), (237, (nV q))]) (specAt [.det (vS (some ⟨C.mG, nextTo (csD ms) j, none⟩) (C.E.memN - nextTo (csD ms) j) (C.E.memN - nextTo (csD ms) j)), .det (pT b309 0), .det (vI r.1), .det (pT C.r 0), .det (pT C.r 0), .det (pT C.r 1), .det (.map (some C.mB)), .det (pT b309 1), .det (.string r.2), .det (vI ((lkp (nmsTo (csF ms) (csF ms).length) r.2).getD 0))]) fr (la (la (la (la (la (la (la (la (la (la lz dP) dP) (dL ⟨b309, 0, none⟩ (vI r.1) fun w_ hK => (blk_cell ((M313.then_ hK).get 9 rfl) rfl))) dP) dP) dP) (dL ⟨C.r, 1, none⟩ (.map (some C.mB)) fun w_ hK => (blk_cell ((M313.then_ hK).get 0 rfl) rfl))) dP) (dL ⟨b309, 1, none⟩ (.string r.2) fun w_ hK => (blk_cell ((M313.then_ hK).get 9 rfl) rfl))) (dM (strLaw Try.underlying9) Try.underlying60 r.2 (vI 0) (fun w_ hK => (M313.then_ hK).get 3 rfl) false (hv := by rw [lkV_get]; rfl))) ?_
 intro aC w318 vs hK hv fr
 revert aC; refine zkp [(0, (pT C.r 0)), (25, (vS (some ⟨C.mG, nextTo (csD ms) j, none⟩) (C.E.memN - nextTo (csD ms) j) (C.E.memN - nextTo (csD ms) j))), (27, (pT b309 0)), (212, (vS (sM g280) ((csD ms).length) dc)), (213, (vI (((csD ms).length : Nat) : Int))), (214, (nV j)), (235, (vS d.rA d.refs.length d.rc)), (236, (vI ((d.refs.length : Nat) : Int))), (237, (nV q)), (241, (vS (some ⟨C.mG, nextTo (csD ms) j, none⟩) (C.E.memN - nextTo (csD ms) j) (C.E.memN - nextTo (csD ms) j))), (243, (vI r.1)), (250, (vI ((lkp (nmsTo (csF ms) (csF ms).length) r.2).getD 0)))] ?_
 have M319 := M313.then_ hK
 clear hK hv fr aC M313; clear vs
 refine zix ⟨C.mG, nextTo (csD ms) j, none⟩ (C.E.memN - nextTo (csD ms) j) 1 r.1 <| zsw M319 1 ((⟨C.mG, nextTo (csD ms) j, none⟩ : Addr).add ((r.1).toNat * 1)) (nextTo (csD ms) j + (r.1).toNat) (vI ((lkp (nmsTo (csF ms) (csF ms).length) r.2).getD 0)) rfl (add_off _ _ _) (by omega) fun w320 M321 => ?_
 replace M321 := M321.nf
 refine zfe <| zsq ?_
 cases hq2 : lkp (dataTo (csD ms) (csD ms).length) r.2
 refine zkp [(0, (pT C.r 0)), (25, (vS (some ⟨C.mG, nextTo (csD ms) j, none⟩) (C.E.memN - nextTo (csD ms) j) (C.E.memN - nextTo (csD ms) j))), (27, (pT b309 0)), (212, (vS (sM g280) ((csD ms).length) dc)), (213, (vI (((csD ms).length : Nat) : Int))), (214, (nV j)), (235, (vS d.rA d.refs.length d.rc)), (236, (vI ((d.refs.length : Nat) : Int))), (237, (nV q))] ?_
 intro aC fr
 refine zdt 11 (N := 270) (env0 := [(0, (pT C.r 0)), (25, (vS (some ⟨C.mG, nextTo (csD ms) j, none⟩) (C.E.memN - nextTo (csD ms) j) (C.E.memN - nextTo (csD ms) j))), (27, (pT b309 0)), (212, (vS (sM g280) ((csD ms).length) dc)), (213, (vI (((csD ms).length : Nat) : Int))), (214, (nV j)), (235, (vS d.rA d.refs.length d.rc)), (236, (vI ((d.refs.length : Nat) : Int))), (237, (nV q))]) (specAt [.det (pT C.r 0), .det (pT C.r 0), .det (pT C.r 2), .det (.map (some C.dB)), .det (pT b309 1), .det (.string r.2), .det (.tuple #[(vI 0), (.bool false)]), .det (.tuple #[(vI 0), (.bool false)]), .det (vI 0), .det (.bool false), .det (vI 0)]) fr (la (la (la (la (la (la (la (la (la (la (la lz dP) dP) dP) (dL ⟨C.r, 2, none⟩ (.map (some C.dB)) fun w_ hK => (blk_cell ((M321.then_ hK).get 0 rfl) rfl))) dP) (dL ⟨b309, 1, none⟩ (.string r.2) fun w_ hK => (blk_cell ((M321.then_ hK).get 9 rfl) rfl))) (dM (strLaw Try.underlying9) Try.underlying64 r.2 (vI 0) (fun w_ hK => (M321.then_ hK).get 4 rfl) true (hv := by rw [lkp_vK, hq2]; rfl))) dP) dP) dP) dP) ?_
 intro aC w326 vs hK hv fr
 revert aC; refine zkp [(0, (pT C.r 0)), (25, (vS (some ⟨C.mG, nextTo (csD ms) j, none⟩) (C.E.memN - nextTo (csD ms) j) (C.E.memN - nextTo (csD ms) j))), (27, (pT b309 0)), (28, (vI 0)), (212, (vS (sM g280) ((csD ms).length) dc)), (213, (vI (((csD ms).length : Nat) : Int))), (214, (nV j)), (235, (vS d.rA d.refs.length d.rc)), (236, (vI ((d.refs.length : Nat) : Int))), (237, (nV q)), (261, (.bool false))] ?_
 have M327 := M321.then_ hK
 clear hK hv fr aC M321; clear vs
 refine zpn 1 <| zfe <| zsp <| zcF <| zsk <| zrg <| zar ((q : Int) + 1) <| zpn 1 <| zfe ?_
 intro aC fr
 exact ⟨d.refs.length - (q + 1), by omega, q + 1, rfl, fr.kp [0, 25, 212, 213, 214, 235, 236, 237], ((M327.tk 9).cast (by rw [putRefs_snoc hr, refV_not hq2, ← ints_set] <;> rfl)), by omega⟩
 rename_i nn
 refine zkp [(0, (pT C.r 0)), (25, (vS (some ⟨C.mG, nextTo (csD ms) j, none⟩) (C.E.memN - nextTo (csD ms) j) (C.E.memN - nextTo (csD ms) j))), (27, (pT b309 0)), (212, (vS (sM g280) ((csD ms).length) dc)), (213, (vI (((csD ms).length : Nat) : Int))), (214, (nV j)), (235, (vS d.rA d.refs.length d.rc)), (236, (vI ((d.refs.length : Nat) : Int))), (237, (nV q))] ?_
 intro aC fr
 refine zdt 11 (N := 270) (env0 := [(0, (pT C.r 0)), (25, (vS (some ⟨C.mG, nextTo (csD ms) j, none⟩) (C.E.memN - nextTo (csD ms) j) (C.E.memN - nextTo (csD ms) j))), (27, (pT b309 0)), (212, (vS (sM g280) ((csD ms).length) dc)), (213, (vI (((csD ms).length : Nat) : Int))), (214, (nV j)), (235, (vS d.rA d.refs.length d.rc)), (236, (vI ((d.refs.length : Nat) : Int))), (237, (nV q))]) (specAt [.det (pT C.r 0), .det (pT C.r 0), .det (pT C.r 2), .det (.map (some C.dB)), .det (pT b309 1), .det (.string r.2), .det (.tuple #[(vI nn), (.bool true)]), .det (.tuple #[(vI nn), (.bool true)]), .det (vI nn), .det (.bool true), .det (vI nn)]) fr (la (la (la (la (la (la (la (la (la (la (la lz dP) dP) dP) (dL ⟨C.r, 2, none⟩ (.map (some C.dB)) fun w_ hK => (blk_cell ((M321.then_ hK).get 0 rfl) rfl))) dP) (dL ⟨b309, 1, none⟩ (.string r.2) fun w_ hK => (blk_cell ((M321.then_ hK).get 9 rfl) rfl))) (dM (strLaw Try.underlying9) Try.underlying64 r.2 (vI 0) (fun w_ hK => (M321.then_ hK).get 4 rfl) true (hv := by rw [lkp_vK, hq2]; rfl))) dP) dP) dP) dP) ?_
 intro aC w334 vs hK hv fr
 revert aC; refine zkp [(0, (pT C.r 0)), (25, (vS (some ⟨C.mG, nextTo (csD ms) j, none⟩) (C.E.memN - nextTo (csD ms) j) (C.E.memN - nextTo (csD ms) j))), (27, (pT b309 0)), (28, (vI nn)), (212, (vS (sM g280) ((csD ms).length) dc)), (213, (vI (((csD ms).length : Nat) : Int))), (214, (nV j)), (235, (vS d.rA d.refs.length d.rc)), (236, (vI ((d.refs.length : Nat) : Int))), (237, (nV q)), (261, (.bool true))] ?_
 have M335 := M321.then_ hK
 clear hK hv fr aC M321; clear vs
 refine zpn 1 <| zfe <| zsp <| zcT <| zrg <| zpn 2 <| zld ⟨b309, 0, none⟩ (vI r.1) (blk_cell (M335.get 9 rfl) rfl) <| zpn 1 <| zix ⟨C.mG, nextTo (csD ms) j, none⟩ (C.E.memN - nextTo (csD ms) j) 1 r.1 <| zsw M335 1 ((⟨C.mG, nextTo (csD ms) j, none⟩ : Addr).add ((r.1).toNat * 1)) (nextTo (csD ms) j + (r.1).toNat) (vI nn) rfl (add_off _ _ _) (by omega) fun w336 M337 => ?_
 replace M337 := M337.nf
 refine zfe <| zrg <| zar ((q : Int) + 1) <| zpn 1 <| zfe ?_
 intro aC fr
 exact ⟨d.refs.length - (q + 1), by omega, q + 1, rfl, fr.kp [0, 25, 212, 213, 214, 235, 236, 237], ((M337.tk 9).cast (by rw [putRefs_snoc hr, refV_had hq2, ← ints_set, ← ints_set, List.set_set] <;> rfl)), by omega⟩
 refine zex 14 <| zbh <| zrg <| zar ((j : Int) + 1) <| zpn 1 <| zfe ?_
 obtain rfl : q = d.refs.length := by omega
 intro aC fr
 exact ⟨(csD ms).length - (j + 1), by omega, j + 1, rfl, fr.kp [0, 212, 213, 214], ((M299.tk 8).cast (by rw [layTo_succ hd, List.take_length] <;> rfl)), by omega⟩
 refine zex 12 <| zbh <| zsp <| zre <| zo1 (.bool true) ?_
 obtain rfl : j = (csD ms).length := by omega
 have M342 := M275.od [6, 5, 5, 5, 5, 5] 6
 exact ⟨fA, fc, .inl ⟨hfit, rfl, M342⟩⟩
end Go.Proofs.Ytdcgcjibgihbbaa
namespace Go.Proofs.Ytdcgcjibgihbbaa
open Go.Mor
theorem tcatch_p (b6 b7 : Nat) (x6 x7 : Value) (k c : Int) (w : World) (hR : (Res.pk [.blk b6 3 [x6], .blk b7 3 [x7]]).holds w) :
    CallsD Try.prog 52 #[pT b6 0, pT b7 0] (.panicking [{ v := endT k c, recovered := false }]) w (fun e u' w' => (∃ v, e = .returned v) ∧ u' = .panicking [{ v := endT k c, recovered := true }] ∧ Mem ((Res.pk [.blk b6 3 [x6], .blk b7 3 [x7]]).fp) w w' [.blk b6 3 [.int .i64 k], .blk b7 3 [.int .i64 c]]) := by
 refine callsD_of_wpS Try.func52 (c := bodyOf Try.f52) rfl ?_
 intro c0 cs hu
 have fr := frame0 (fn := Try.f52) (N := 14) [pT b6 0, pT b7 0]
 refine WS_gen fr ?_
 clear fr; intro aC fr
 refine WS_seq (by kernel_rfl) ?_
 have hM := (Mem.unpk hR : Mem ((Res.pk [.blk b6 3 [x6], .blk b7 3 [x7]]).fp) w w [.blk b6 3 [x6], .blk b7 3 [x7]])
 refine WS_caught 8 5 #[] 20 fr (recoverD_pan hu) ?hn_ ?_
 case hn_ => intro a w h; obtain ⟨u, ⟨v, h1⟩, _⟩ := h; cases h1
 clear fr aC
 refine zta (.iface 99 (.agg #[(vI k), (vI c)])) 20 99 (.tuple #[(.agg #[(vI k), (vI c)]), (.bool true)]) (ta_yes Try.underlying99 _) <| zpn 3 <| zal hM 99 [(vI 0), (vI 0)] fun b1 w2 hb1 M3 => ?_
 replace M3 := M3.nf
 clear hM
 refine zss M3 2 [(vI k), (vI c)] rfl fun w4 M5 => ?_
 replace M5 := M5.nf
 refine zpn 1 <| zfe ?_
 intro aC fr
 refine WS_of2 ?_
 revert aC
 refine zsp <| zcT <| zkp [(0, (pT b6 0)), (1, (pT b7 0)), (2, (pT b1 0)), (9, (.bool true))] ?_
 intro aC fr
 refine zdj (N := 14) (env0 := [(0, (pT b6 0)), (1, (pT b7 0)), (2, (pT b1 0)), (9, (.bool true))]) (specAt [.det (pT b1 0), .det (vI k), .det (pT b1 1), .det (vI c), .det undef, .det undef]) (fun ls vs w_ => match ls 5 with | true => (Mem (Res.pk [.blk b6 3 [x6], .blk b7 3 [x7]]).fp w w_ [.blk b6 3 [(vI k)], .blk b7 3 [(vI c)], .blk b1 99 [(vI k), (vI c)]]) | false => (match ls 4 with | true => (Mem (Res.pk [.blk b6 3 [x6], .blk b7 3 [x7]]).fp w w_ [.blk b6 3 [(vI k)], .blk b7 3 [x7], .blk b1 99 [(vI k), (vI c)]]) | false => (Mem (Res.pk [.blk b6 3 [x6], .blk b7 3 [x7]]).fp w w_ [.blk b6 3 [x6], .blk b7 3 [x7], .blk b1 99 [(vI k), (vI c)]]))) fr (plain_ok (.det (.det (.det (.det (.det (.det .nil))))))) (M5.then_ (Mem.drew _)) (la (la (la (la (la (la lz (dPJ fun _ _ _ _ h => h)) (dLJ ⟨b1, 0, none⟩ (vI k) (fun _ _ _ _ h => h) ?_)) (dPJ fun _ _ _ _ h => h)) (dLJ ⟨b1, 1, none⟩ (vI c) (fun _ _ _ _ h => h) ?_)) ?_) ?_) ?_
 intro w_ ls vs hJ hi_ hc_ hp
 have f4 : ls 4 = false := notyet hc_ hi_ (n := 6) (by kernel_rfl)
 have f5 : ls 5 = false := notyet hc_ hi_ (n := 6) (by kernel_rfl)
 have hM_ := hJ
 simp only [f4, f5] at hM_
 exact (blk_cell (hM_.get 2 rfl) rfl)
 intro w_ ls vs hJ hi_ hc_ hp
 have f5 : ls 5 = false := notyet hc_ hi_ (n := 6) (by kernel_rfl)
 have hM_ := hJ
 simp only [f5] at hM_
 cases fu : ls 4
 simp only [fu] at hM_
 exact (blk_cell (hM_.get 2 rfl) rfl)
 simp only [fu] at hM_
 exact (blk_cell (hM_.get 2 rfl) rfl)
 intro aa_ w_ ls vs rest_ hJ hi_ hc_ hp hF
 refine okG (g0 := none) ?_
 replace hF : Fr aa_ 14 [(0, (pT b6 0)), (11, (vI k))] := hF.kp [0, 11]
 have f4 : ls 4 = false := hi_
 have f5 : ls 5 = false := notyet hc_ hi_ (n := 6) (by kernel_rfl)
 have hM_ := hJ
 simp only [f4, f5] at hM_
 refine From_store_blk (by kernel_rfl : coreAt _ 0 = some (none, (.store 3 (.tmp 0) (.tmp 11)), 0, none)) hF (by kernel_rfl) (by kernel_rfl) (k' := 1) rfl (b := b6) (off := 0) (t0 := 3) (v := (vI k)) (cs := [x6]) (by kernel_rfl) (by kernel_rfl) (by kernel_rfl) rfl hM_ 0 rfl (by simp) ?_
 intro w2 hm2 _ a2 ea _
 refine From_end (by kernel_rfl) ?_; refine op_doneJ (d := none) (by kernel_rfl) ea rfl ?_
 show match ls 5 with | true => _ | false => (_)
 rw [f5]
 exact hm2
 intro aa_ w_ ls vs rest_ hJ hi_ hc_ hp hF
 refine okG (g0 := none) ?_
 replace hF : Fr aa_ 14 [(1, (pT b7 0)), (13, (vI c))] := hF.kp [1, 13]
 have f4 : ls 4 = true := donebefore hc_ (fun k hk => (hp k hk).1) (n := 6) (by kernel_rfl)
 have f5 : ls 5 = false := hi_
 have hM_ := hJ
 simp only [f4, f5] at hM_
 refine From_store_blk (by kernel_rfl : coreAt _ 0 = some (none, (.store 3 (.tmp 1) (.tmp 13)), 0, none)) hF (by kernel_rfl) (by kernel_rfl) (k' := 1) rfl (b := b7) (off := 0) (t0 := 3) (v := (vI c)) (cs := [x7]) (by kernel_rfl) (by kernel_rfl) (by kernel_rfl) rfl hM_ 1 rfl (by simp) ?_
 intro w2 hm2 _ a2 ea _
 refine From_end (by kernel_rfl) ?_; refine op_doneJ (d := none) (by kernel_rfl) ea rfl ?_
 show _
 exact hm2
 intro aC w10 ls vs hall M11 hv fr
 simp only [show ls 5 = true from hall 5 (by decide)] at M11
 revert aC; refine zkp [] ?_
 clear hall hv fr aC M5; clear vs ls
 intro aC fr
 exact ⟨fr.defers, _, rfl, _, results_none rfl _ _ _, ⟨_, rfl⟩, rfl, M11.tk 2⟩
theorem tcatch_n (b6 b7 : Nat) (x6 x7 : Value) (w : World) (hR : (Res.pk [.blk b6 3 [x6], .blk b7 3 [x7]]).holds w) :
    CallsD Try.prog 52 #[pT b6 0, pT b7 0] (.returning) w (fun e u' w' => (∃ v, e = .returned v) ∧ u' = .returning ∧ Mem ((Res.pk [.blk b6 3 [x6], .blk b7 3 [x7]]).fp) w w' [.blk b6 3 [x6], .blk b7 3 [x7]]) := by
 refine callsD_of_wpS Try.func52 (c := bodyOf Try.f52) rfl ?_
 intro c0 cs hu
 have fr := frame0 (fn := Try.f52) (N := 14) [pT b6 0, pT b7 0]
 refine WS_gen fr ?_
 clear fr; intro aC fr
 refine WS_seq (by kernel_rfl) ?_
 have hM := (Mem.unpk hR : Mem ((Res.pk [.blk b6 3 [x6], .blk b7 3 [x7]]).fp) w w [.blk b6 3 [x6], .blk b7 3 [x7]])
 refine WS_nothing 8 5 #[] 20 fr (recoverD_ret hu) ?hn_ ?_
 case hn_ => intro a w h; obtain ⟨u, ⟨v, h1⟩, _⟩ := h; cases h1
 clear fr aC
 refine zta .nilIface 20 99 (.tuple #[(.agg #[(vI 0), (vI 0)]), (.bool false)]) (ta_nil Try.underlying99 (by kernel_rfl)) <| zpn 3 <| zal hM 99 [(vI 0), (vI 0)] fun b1 w2 hb1 M3 => ?_
 replace M3 := M3.nf
 clear hM
 refine zss M3 2 [(vI 0), (vI 0)] rfl fun w4 M5 => ?_
 replace M5 := M5.nf
 refine zpn 1 <| zfe ?_
 intro aC fr
 refine WS_of2 ?_
 revert aC
 refine zsp <| zcF <| zsk ?_
 intro aC fr
 exact ⟨fr.defers, _, (by rw [← hu]), _, results_none rfl _ _ _, ⟨_, rfl⟩, rfl, M5.tk 2⟩
abbrev tplayN (b6 b7 : Nat) : FN := ⟨33, [{ target := .fn (.func 52) #[pT b6 0, pT b7 0], args := #[] }]⟩
theorem tplay_pan {Φ : Value → World → Prop} {a : Act} {env : Env} {w0 w : World} {S : Nat → Prop} {L : List Res} {b6 b7 : Nat} {x6 x7 : Value} {k c : Int} (hF : Fr a (tplayN b6 b7) env) (h6 : Go.Mor.look env 6 = some (pT b6 0)) (h7 : Go.Mor.look env 7 = some (pT b7 0))
    (hM : Mem S w0 w ([.blk b6 3 [x6], .blk b7 3 [x7]] ++ L)) (hR : ∀ w', Mem S w0 w' L → Φ (.tuple #[.int .i64 k, .int .i64 c]) w') : bodyPostD Try.prog Try.f35 (Ret Φ) (pan (endT k c)) a w := by
  show Leaves Try.prog Try.f35 a.tmps (Ret Φ) a.defers (.panicking [{ v := endT k c, recovered := false }]) w
  rw [hF.defers]
  refine leaves_one (by kernel_rfl) (by intro h; cases h) (tcatch_p b6 b7 x6 x7 k c w (Mem.pk_holds hM)) rfl (fun w' hX => ?_)
  have M2 := Mem.mdk hM hX
  exact ⟨_, results_cell2 rfl _ _ _ (hF.slot _ _ h6) (hF.slot _ _ h7) (by kernel_rfl) (blk_cell (M2.get 0 rfl) rfl) (blk_cell (M2.get 1 rfl) rfl), _, rfl, hR w' M2.drop2⟩
theorem tplay_ret {Φ : Value → World → Prop} {a : Act} {env : Env} {w0 w : World} {S : Nat → Prop} {L : List Res} {b6 b7 : Nat} {k c : Int} (hF : Fr a (tplayN b6 b7) env) (h6 : Go.Mor.look env 6 = some (pT b6 0)) (h7 : Go.Mor.look env 7 = some (pT b7 0))
    (hM : Mem S w0 w ([.blk b6 3 [.int .i64 k], .blk b7 3 [.int .i64 c]] ++ L)) (hR : ∀ w', Mem S w0 w' L → Φ (.tuple #[.int .i64 k, .int .i64 c]) w') : bodyPostD Try.prog Try.f35 (Ret Φ) .ret a w := by
  show Leaves Try.prog Try.f35 a.tmps (Ret Φ) a.defers .returning w
  rw [hF.defers]
  refine leaves_one (by kernel_rfl) (by intro h; cases h) (tcatch_n b6 b7 _ _ w (Mem.pk_holds hM)) rfl (fun w' hX => ?_)
  have M2 := Mem.mdk hM hX
  exact ⟨_, results_cell2 rfl _ _ _ (hF.slot _ _ h6) (hF.slot _ _ h7) (by kernel_rfl) (blk_cell (M2.get 0 rfl) rfl) (blk_cell (M2.get 1 rfl) rfl), _, rfl, hR w' M2.drop2⟩
theorem tlay_d (C : TC) (ms : List TMod) (mA : Option Addr) (mc : Nat) (w : World) (hml : ms.length ≤ 1000) (hfl : (flF ms).length ≤ 1000) (hdl0 : (flD ms).length ≤ 1000) (hWD : ∀ d, d ∈ flD ms → d.WF) (hnF : ∀ f, f ∈ flF ms → f.nm.size ≤ 60) (hm1 : 1 ≤ C.E.memN) (hm2 : C.E.memN ≤ 262144) (hE1 : C.E.tfs = csF ms) (hE2 : C.E.names = nmsTo (csF ms) (csF ms).length) (hE3 : C.E.data = dataTo (csD ms) (csD ms).length) (hR : (Res.pk [tl_ C none 0 0 (vI 0), .row 2 1 (sM C.mG) C.E.memN C.E.memN (ints (List.replicate C.E.memN 0)), .row 5 1 none 0 0 [], .map C.mB (inK .string (vK [])), .map C.dB (inK .string (vK []))]).holds w) (hMs : RO (tlyS C) w (.mods mA ms)) :
    Calls Try.prog 53 #[pT C.r 0, .slice mA ms.length mc] w (Ret fun v w' => ∃ fA fc, v = .bool (decide (nextTo (csD ms) (csD ms).length ≤ C.E.memN)) ∧ Mem (tlyS C) w w' (tunL (C.at_ fA fc) (lyS (lyT C.E.names C.E.data C.E.memN (csD ms)) (nextTo (csD ms) (csD ms).length : Int)) none 0 ++ [.map C.mB (inK .string (vK C.E.names)), .map C.dB (inK .string (vK C.E.data)), .row 45 5 fA (C.E.tfs.length + 1) fc (fnT C.E.tfs C.E.tfs.length)])) := by
  refine (tlay_c C ms mA mc w hml hfl hdl0 hWD hnF hm1 hm2 hR hMs).mono ?_
  rintro e w' ⟨v, rfl, fA, fc, h⟩
  refine ⟨v, rfl, fA, fc, ?_⟩
  rw [← hE2, ← hE3, ← hE1] at h
  rcases h with ⟨h1, h2, h3⟩ | ⟨h1, h2, h3⟩
  · refine ⟨by rw [h2, decide_eq_true h1], ?_⟩
    unfold lyT
    rw [if_pos h1]
    exact h3
  · refine ⟨by rw [h2, decide_eq_false (by omega)], ?_⟩
    unfold lyT
    rw [if_neg (by omega)]
    exact h3
set_option maxHeartbeats 2000000 in
theorem tplay_c (C : TC) (ms : List TMod) (mA : Option Addr) (mc : Nat) (bg : List ByteArray) (gA : Option Addr) (gc : Nat) (w : World) (hC : C.WF) (hE1 : C.E.tfs = csF ms) (hE2 : C.E.names = nmsTo (csF ms) (csF ms).length) (hE3 : C.E.data = dataTo (csD ms) (csD ms).length) (hml : ms.length ≤ 1000) (hfl : (flF ms).length ≤ 1000) (hdl0 : (flD ms).length ≤ 1000) (hWD : ∀ d, d ∈ flD ms → d.WF) (hnF : ∀ f, f ∈ flF ms → f.nm.size ≤ 60) (hm1 : 1 ≤ C.E.memN)
    (hgl : bg.length ≤ 1000000) (hR : (Res.pk [tl_ C none 0 0 (vI 0), .row 2 1 (sM C.mG) C.E.memN C.E.memN (ints (List.replicate C.E.memN 0)), .row 5 1 none 0 0 [], .map C.mB (inK .string (vK [])), .map C.dB (inK .string (vK []))]).holds w) (hMs : RO (tlyS C) w (.mods mA ms)) (hI : RO (tlyS C) w (.rd C.iA (u8s C.E.inp))) (hB : RO (tlyS C) w (.rd gA (bg.map Value.string))) :
    Calls Try.prog 35 #[(pT C.r 0), (vS mA ms.length mc), (vS gA bg.length gc)] w (Ret fun v w' => ∃ (fA : Option Addr) (fc : Nat) (k c : Int) (s : PSt) (oA : Option Addr) (oc : Nat), outS (trunS C.E (csD ms) bg) = (k, c, s) ∧ v = .tuple #[.int .i64 k, .int .i64 c] ∧ Mem (tlyS C) w w' (tunL (C.at_ fA fc) s oA oc ++ [.map C.mB (inK .string (vK C.E.names)), .map C.dB (inK .string (vK C.E.data)), .row 45 5 fA (C.E.tfs.length + 1) fc (fnT C.E.tfs C.E.tfs.length)])) := by
 refine enterD (N := ⟨33, []⟩) (vs := [(pT C.r 0), (vS mA ms.length mc), (vS gA bg.length gc)]) (f := 35) Try.func35 ?_
 have hM := (Mem.unpk hR : Mem ((tlyS C)) w w [tl_ C none 0 0 (vI 0), .row 2 1 (sM C.mG) C.E.memN C.E.memN (ints (List.replicate C.E.memN 0)), .row 5 1 none 0 0 [], .map C.mB (inK .string (vK [])), .map C.dB (inK .string (vK []))])
 refine zsr <| zal hM 3 [(vI 0)] fun b1 w2 hb1 M3 => ?_
 replace M3 := M3.nf
 clear hM
 refine zal M3 3 [(vI 0)] fun b4 w5 hb4 M6 => ?_
 replace M6 := M6.nf
 refine zfe <| zsr <| zpn 1 <| zdf 52 [pT b1 0, pT b4 0] (.tmp 10) #[] 0 <| zfe <| zsq <| zsr <| zpn 2 <| zcl (tlay_d C ms mA mc w5 hml hfl hdl0 hWD hnF hm1 hC.mem hE1 hE2 hE3 (Mem.pk_holds (l := [tl_ C none 0 0 (vI 0), .row 2 1 (sM C.mG) C.E.memN C.E.memN (ints (List.replicate C.E.memN 0)), .row 5 1 none 0 0 [], .map C.mB (inK .string (vK [])), .map C.dB (inK .string (vK []))]) M6) (hMs.pk_at (l := [tl_ C none 0 0 (vI 0), .row 2 1 (sM C.mG) C.E.memN C.E.memN (ints (List.replicate C.E.memN 0)), .row 5 1 none 0 0 [], .map C.mB (inK .string (vK [])), .map C.dB (inK .string (vK []))]) M6)) ?_
 rintro _ w7 ⟨fA, fc, rfl, M8x⟩
 have M8 : Mem (tlyS C) w w7 [.blk C.r 66 [(vS fA (C.E.tfs.length + 1) fc), (.map (some C.mB)), (.map (some C.dB)), (vS (sM C.mG) C.E.memN C.E.memN), (vI ((lyS (lyT C.E.names C.E.data C.E.memN (csD ms)) (nextTo (csD ms) (csD ms).length : Int)).next)), (vS ((inAt C.iA C.ic (lyS (lyT C.E.names C.E.data C.E.memN (csD ms)) (nextTo (csD ms) (csD ms).length : Int)).pos).1) (C.E.inp.length - (lyS (lyT C.E.names C.E.data C.E.memN (csD ms)) (nextTo (csD ms) (csD ms).length : Int)).pos) ((inAt C.iA C.ic (lyS (lyT C.E.names C.E.data C.E.memN (csD ms)) (nextTo (csD ms) (csD ms).length : Int)).pos).2)), (vS none ((lyS (lyT C.E.names C.E.data C.E.memN (csD ms)) (nextTo (csD ms) (csD ms).length : Int)).out.length) 0), (vI C.E.fuel), (vI ((lyS (lyT C.E.names C.E.data C.E.memN (csD ms)) (nextTo (csD ms) (csD ms).length : Int)).steps)), (vI ((lyS (lyT C.E.names C.E.data C.E.memN (csD ms)) (nextTo (csD ms) (csD ms).length : Int)).opened))], .row 2 1 (sM C.mG) C.E.memN C.E.memN (ints (lyS (lyT C.E.names C.E.data C.E.memN (csD ms)) (nextTo (csD ms) (csD ms).length : Int)).mem), .row 5 1 none ((lyS (lyT C.E.names C.E.data C.E.memN (csD ms)) (nextTo (csD ms) (csD ms).length : Int)).out.length) 0 (u8s (lyS (lyT C.E.names C.E.data C.E.memN (csD ms)) (nextTo (csD ms) (csD ms).length : Int)).out), .map C.mB (inK .string (vK C.E.names)), .map C.dB (inK .string (vK C.E.data)), .row 45 5 fA (C.E.tfs.length + 1) fc (fnT C.E.tfs C.E.tfs.length), .blk b1 3 [(vI 0)], .blk b4 3 [(vI 0)]] := M6.mdk M8x
 refine zpn 1 <| zfe <| zcP (!(decide (nextTo (csD ms) (csD ms).length ≤ C.E.memN))) (¬ (nextTo (csD ms) (csD ms).length ≤ C.E.memN)) (by simp only [notT, decide_eq_true_eq]) (fun c9 => ?_) (fun c9 => ?_)
 refine zrg <| zpn 1 <| zce (tstop_c C.r 3 0 w7) (fun _ w2_ ⟨hv_, hx_⟩ a_ hf_ => by subst hv_; exact tplay_pan hf_ rfl rfl (Mem.od (L' := [.blk b1 3 [.int .i64 0], .blk b4 3 [.int .i64 0]] ++ (tunL (C.at_ fA fc) (lyS (lyT C.E.names C.E.data C.E.memN (csD ms)) (nextTo (csD ms) (csD ms).length : Int)) none 0 ++ [.map C.mB (inK .string (vK C.E.names)), .map C.dB (inK .string (vK C.E.data)), .row 45 5 fA (C.E.tfs.length + 1) fc (fnT C.E.tfs C.E.tfs.length)])) (M8.cl hx_) [7, 7] 8 rfl) (fun w_ hX_ => ⟨fA, fc, 3, 0, (lyS (lyT C.E.names C.E.data C.E.memN (csD ms)) (nextTo (csD ms) (csD ms).length : Int)), none, 0, (by rw [trunS_no (by omega)]; rfl), rfl, hX_⟩)) ?_
 rintro _ w10 h_; exact h_.elim
 refine zsk <| zsq <| zsr ?_
 have hfit : nextTo (csD ms) (csD ms).length ≤ C.E.memN := by omega
 have hr0 := congrArg outS (trunS_yes (E := C.E) (l := bg) hfit)
 refine zpn 3 <| zfe <| zbk 0 ?_
 have M12 : Mem (tlyS C) w w7 [.blk C.r 66 [(vS fA (C.E.tfs.length + 1) fc), (.map (some C.mB)), (.map (some C.dB)), (vS (sM C.mG) C.E.memN C.E.memN), (vI ((lyS (lyT C.E.names C.E.data C.E.memN (csD ms)) (nextTo (csD ms) (csD ms).length : Int)).next)), (vS ((inAt C.iA C.ic (lyS (lyT C.E.names C.E.data C.E.memN (csD ms)) (nextTo (csD ms) (csD ms).length : Int)).pos).1) (C.E.inp.length - (lyS (lyT C.E.names C.E.data C.E.memN (csD ms)) (nextTo (csD ms) (csD ms).length : Int)).pos) ((inAt C.iA C.ic (lyS (lyT C.E.names C.E.data C.E.memN (csD ms)) (nextTo (csD ms) (csD ms).length : Int)).pos).2)), (vS none ((lyS (lyT C.E.names C.E.data C.E.memN (csD ms)) (nextTo (csD ms) (csD ms).length : Int)).out.length) 0), (vI C.E.fuel), (vI ((lyS (lyT C.E.names C.E.data C.E.memN (csD ms)) (nextTo (csD ms) (csD ms).length : Int)).steps)), (vI ((lyS (lyT C.E.names C.E.data C.E.memN (csD ms)) (nextTo (csD ms) (csD ms).length : Int)).opened))], .row 2 1 (sM C.mG) C.E.memN C.E.memN (ints (lyS (lyT C.E.names C.E.data C.E.memN (csD ms)) (nextTo (csD ms) (csD ms).length : Int)).mem), .row 5 1 none ((lyS (lyT C.E.names C.E.data C.E.memN (csD ms)) (nextTo (csD ms) (csD ms).length : Int)).out.length) 0 (u8s (lyS (lyT C.E.names C.E.data C.E.memN (csD ms)) (nextTo (csD ms) (csD ms).length : Int)).out), .map C.mB (inK .string (vK C.E.names)), .map C.dB (inK .string (vK C.E.data)), .row 45 5 fA (C.E.tfs.length + 1) fc (fnT C.E.tfs C.E.tfs.length), .blk b1 3 [(vI 0)], .blk b4 3 [(vI 0)]] := M8.cast rfl
 intro aC fr
 refine zlp (fun n_ a_ w_ => ∃ (j : Nat) (sj : PSt) (oAj : Option Addr) (ocj : Nat), n_ = bg.length - j ∧ Fr a_ (tplayN b1 b4) [(0, (pT C.r 0)), (6, (pT b1 0)), (7, (pT b4 0)), (17, (vS gA bg.length gc)), (18, (vI ((bg.length : Nat) : Int))), (19, (nV j))] ∧ Mem (tlyS C) w w_ [.blk C.r 66 [(vS fA (C.E.tfs.length + 1) fc), (.map (some C.mB)), (.map (some C.dB)), (vS (sM C.mG) C.E.memN C.E.memN), (vI sj.next), (vS ((inAt C.iA C.ic sj.pos).1) (C.E.inp.length - sj.pos) ((inAt C.iA C.ic sj.pos).2)), (vS oAj sj.out.length ocj), (vI C.E.fuel), (vI sj.steps), (vI sj.opened)], tm_ C sj, to_ sj oAj ocj, .map C.mB (inK .string (vK C.E.names)), .map C.dB (inK .string (vK C.E.data)), .row 45 5 fA (C.E.tfs.length + 1) fc (fnT C.E.tfs C.E.tfs.length), .blk b1 3 [(vI 0)], .blk b4 3 [(vI 0)]] ∧ (j ≤ bg.length) ∧ (TGood (C.at_ fA fc) sj) ∧ (outS (trunS C.E (csD ms) bg) = outS (playT C.E (C.E.fuel.toNat + 1) (bg.drop j) sj))) (n := _) ⟨0, (lyS (lyT C.E.names C.E.data C.E.memN (csD ms)) (nextTo (csD ms) (csD ms).length : Int)), none, 0, rfl, fr.kp [0, 6, 7, 17, 18, 19], M12, Nat.zero_le _, tlay_good hC hfit fA fc, hr0⟩ ?_
 clear fr aC M12; rintro n aC w15 ⟨j, sj, oAj, ocj, rfl, fr, M16, hj, hGj, hrest⟩
 revert aC
 refine zsp <| zsq <| zcD (((j : Int) : Int) < ((bg.length : Nat) : Int)) (fun c19 => ?_) (fun c19 => ?_)
 refine zsk <| zsq <| zbk 1 <| zsr ?_
 obtain ⟨b, hb⟩ := get_of (l := bg) (i := j) (by omega)
 obtain ⟨ad20, rfl⟩ := rd_some (M16.ro hB) (by simp; omega)
 refine zix ad20 bg.length 1 (j : Int) <| zld ((ad20 : Addr).add (((j : Int)).toNat * 1)) (.string b) (rd_get1 (M16.ro hB) rfl (by simp [hb])) <| zpn 1 <| zfe <| zrg ?_
 have hpa := hrest.trans (congrArg outS (playT_at (E := C.E) (g := (C.E.fuel.toNat + 1)) (s := sj) hb))
 refine zpn 5 <| zld ⟨C.r, 1, none⟩ (.map (some C.mB)) (blk_cell (M16.get 0 rfl) rfl) <| zpn 1 <| zce (tnamei_c C.r C.mB C.E.names b w15 (M16.own_ro 3 rfl)) (fun _ w2_ ⟨hq_, hv_, hx_⟩ a_ hf_ => by subst hv_; exact inB_pan <| inB_pan <| tplay_pan hf_ rfl rfl (Mem.od (L' := [.blk b1 3 [.int .i64 0], .blk b4 3 [.int .i64 0]] ++ (tunL (C.at_ fA fc) sj oAj ocj ++ [.map C.mB (inK .string (vK C.E.names)), .map C.dB (inK .string (vK C.E.data)), .row 45 5 fA (C.E.tfs.length + 1) fc (fnT C.E.tfs C.E.tfs.length)])) (M16.cl hx_) [7, 7] 8 rfl) (fun w_ hX_ => ⟨fA, fc, 5, 0, sj, oAj, ocj, hpa.trans (by rw [lk_no hq_]; rfl), rfl, hX_⟩)) ?_
 rintro _ w21 ⟨n, hq, rfl, M22x⟩
 have M22 := M16.cl M22x
 have hr2 : outS (trunS C.E (csD ms) bg) = outS ((callT C.E (C.E.fuel.toNat + 1) n [] sj).bind fun _ s => playT C.E (C.E.fuel.toNat + 1) (bg.drop (j + 1)) s) := hpa.trans (by rw [lk_yes hq]; rfl)
 have hro : RO (tS (C.at_ fA fc) sj oAj ocj) w21 (C.at_ fA fc).ro := tro_of rfl (RO.pk_own (l := tunL (C.at_ fA fc) sj oAj ocj) M22 2 rfl) (RO.pk_own (l := tunL (C.at_ fA fc) sj oAj ocj) M22 0 rfl) (RO.pk_own (l := tunL (C.at_ fA fc) sj oAj ocj) M22 1 rfl) (hI.pk_at (l := tunL (C.at_ fA fc) sj oAj ocj) M22) (fun f hf r hr => (hMs.mtree (csF_mem (hE1 ▸ hf)) hr).pk_at (l := tunL (C.at_ fA fc) sj oAj ocj) M22)
 refine zce (vs := [(pT C.r 0), (vI n), (vS none 0 0)]) (tcall_all (C.at_ fA fc) (hC.at_ fA fc) (C.E.fuel.toNat + 1) n [] none 0 sj oAj ocj w21 hGj (by have := hGj.s1; have := hC.fuel; show C.E.fuel - sj.steps < _; omega) (Mem.pk_holds (l := tunL (C.at_ fA fc) sj oAj ocj) M22) hro RO.nil_ (by simp)) (fun _ w2_ ⟨k_, c_, s_, oA_, oc_, hg_, hv_, hG_, hx_⟩ a_ hf_ => by subst hv_; exact inB_pan <| inB_pan <| tplay_pan hf_ rfl rfl (Mem.od (L' := [.blk b1 3 [.int .i64 0], .blk b4 3 [.int .i64 0]] ++ (tunL (C.at_ fA fc) s_ oA_ oc_ ++ [.map C.mB (inK .string (vK C.E.names)), .map C.dB (inK .string (vK C.E.data)), .row 45 5 fA (C.E.tfs.length + 1) fc (fnT C.E.tfs C.E.tfs.length)])) (Mem.mdk (l := tunL (C.at_ fA fc) sj oAj ocj) M22 hx_) [7, 7] 8 rfl) (fun w_ hX_ => ⟨fA, fc, k_, c_, s_, oA_, oc_, hr2.trans (outS_bind hg_), rfl, hX_⟩)) ?_
 rintro _ w28 ⟨xx23, s24, oA25, oc26, hgb27, rfl, hGs24, M29x⟩
 have M29 : Mem (tlyS C) w w28 [.blk C.r 66 [(vS fA (C.E.tfs.length + 1) fc), (.map (some C.mB)), (.map (some C.dB)), (vS (sM C.mG) C.E.memN C.E.memN), (vI s24.next), (vS ((inAt C.iA C.ic s24.pos).1) (C.E.inp.length - s24.pos) ((inAt C.iA C.ic s24.pos).2)), (vS oA25 s24.out.length oc26), (vI C.E.fuel), (vI s24.steps), (vI s24.opened)], tm_ C s24, to_ s24 oA25 oc26, .map C.mB (inK .string (vK C.E.names)), .map C.dB (inK .string (vK C.E.data)), .row 45 5 fA (C.E.tfs.length + 1) fc (fnT C.E.tfs C.E.tfs.length), .blk b1 3 [(vI 0)], .blk b4 3 [(vI 0)]] := M22.mdk M29x
 refine zfe <| zrg <| zar ((j : Int) + 1) <| zpn 1 <| zfe ?_
 intro aC fr
 exact ⟨bg.length - (j + 1), by omega, j + 1, s24, oA25, oc26, rfl, fr.kp [0, 6, 7, 17, 18, 19], M29, by omega, hGs24, hr2.trans (outS_next hgb27)⟩
 refine zex 0 <| zbh <| zsr ?_
 have hfin := hrest.trans (congrArg outS (playT_end (E := C.E) (g := (C.E.fuel.toNat + 1)) (s := sj) (by omega : bg.length ≤ j)))
 refine zsb (ho := (by simp)) M16 6 0 (vI 1) rfl fun w32 M33 => ?_
 replace M33 := M33.nf
 refine zsb (ho := (by simp)) M33 7 0 (vI 0) rfl fun w34 M35 => ?_
 replace M35 := M35.nf
 refine zfe <| zre ?_
 intro aC fr
 exact tplay_ret fr rfl rfl (Mem.od (L' := [.blk b1 3 [.int .i64 1], .blk b4 3 [.int .i64 0]] ++ (tunL (C.at_ fA fc) sj oAj ocj ++ [.map C.mB (inK .string (vK C.E.names)), .map C.dB (inK .string (vK C.E.data)), .row 45 5 fA (C.E.tfs.length + 1) fc (fnT C.E.tfs C.E.tfs.length)])) M35 [7, 7] 8 rfl) (fun w_ hX_ => ⟨fA, fc, 1, 0, sj, oAj, ocj, hfin, rfl, hX_⟩)
end Go.Proofs.Ytdcgcjibgihbbaa
namespace Go.Proofs.Ytdcgcjibgihbbaa
open Go.Mor
set_option maxHeartbeats 2000000 in
theorem trun_c (ms : List TMod) (mA : Option Addr) (mc : Nat) (bg : List ByteArray) (gA : Option Addr) (gc : Nat) (mem : Int) (inp : List Int) (iA : Option Addr) (ic : Nat) (fuel : Int) (w : World) (hI : RunInT w ms mA bg gA inp iA ic) (hil : LenOk inp.length) :
    Calls Try.prog 16 #[(vS mA ms.length mc), (vS gA bg.length gc), (vI mem), (vS iA inp.length ic), (vI fuel)] w (Ret fun v w' => ∃ oA oc, v = outV (runTO ms bg mem inp fuel) oA oc ∧ Mem noS w w' [.row 5 1 oA (runTO ms bg mem inp fuel).2.2.1.length oc (u8s (runTO ms bg mem inp fuel).2.2.1)]) := by
 have hI1 := hI.len
 have hI2 := hI.glen
 unfold LenOk at hil
 refine zen 71 [(vS mA ms.length mc), (vS gA bg.length gc), (vI mem), (vS iA inp.length ic), (vI fuel)] Try.func16 ?_
 have hM := Mem.init w
 refine zsr <| zal hM 38 [(vI 0), (vI 0), (vS none 0 0), (vI 0)] fun b1 w2 hb1 M3 => ?_
 replace M3 := M3.nf
 clear hM
 refine zfe <| zsr <| zpn 3 ?_
 obtain ⟨B4, hB4⟩ : ∃ B : Bool, B = decide ((mem : Int) < 1) := ⟨_, rfl⟩
 refine zkp [(0, (vS mA ms.length mc)), (1, (vS gA bg.length gc)), (2, (vI mem)), (3, (vS iA inp.length ic)), (4, (vI fuel)), (10, (pT b1 0)), (19, (.bool (decide ((mem : Int) < 1))))] ?_
 rw [← hB4]
 have iB4 : B4 = true ↔ ((mem : Int) < 1) := by rw [hB4]; simp only [decide_eq_true_eq]
 clear hB4
 intro aC fr
 refine zpk 4 7 [22, 23] fr (news := [(22, (.bool (B4 || decide ((mem : Int) > 262144)))), (23, (.bool (B4 || decide ((mem : Int) > 262144))))]) (by cases B4 <;> kernel_rfl) ?_
 intro aC fr
 obtain ⟨B9, hB9⟩ : ∃ B : Bool, B = (B4 || decide ((mem : Int) > 262144)) := ⟨_, rfl⟩
 revert aC
 refine zkp [(0, (vS mA ms.length mc)), (1, (vS gA bg.length gc)), (2, (vI mem)), (3, (vS iA inp.length ic)), (4, (vI fuel)), (10, (pT b1 0)), (23, (.bool (B4 || decide ((mem : Int) > 262144))))] ?_
 rw [← hB9]
 have iB9 : B9 = true ↔ (((mem : Int) < 1) ∨ ((mem : Int) > 262144)) := by rw [hB9]; simp only [Bool.or_eq_true, decide_eq_true_eq, iB4]
 clear hB9
 intro aC fr
 refine zpk 5 12 [11, 27] fr (news := [(11, (.bool (B9 || decide ((((inp.length : Nat) : Int) : Int) > 4096)))), (27, (.bool (B9 || decide ((((inp.length : Nat) : Int) : Int) > 4096))))]) (by cases B9 <;> kernel_rfl) ?_
 intro aC fr
 revert aC
 refine zfe <| zsq <| zsp <| zbk 0 ?_
 obtain ⟨B14, hB14⟩ : ∃ B : Bool, B = (B9 || decide ((((inp.length : Nat) : Int) : Int) > 4096)) := ⟨_, rfl⟩
 refine zkp [(0, (vS mA ms.length mc)), (1, (vS gA bg.length gc)), (2, (vI mem)), (3, (vS iA inp.length ic)), (4, (vI fuel)), (10, (pT b1 0)), (11, (.bool (B9 || decide ((((inp.length : Nat) : Int) : Int) > 4096)))), (28, (vS mA ms.length mc)), (29, (vI ((ms.length : Nat) : Int))), (30, (vI 0))] ?_
 rw [← hB14]
 have iB14 : B14 = true ↔ ((((mem : Int) < 1) ∨ ((mem : Int) > 262144)) ∨ ((((inp.length : Nat) : Int) : Int) > 4096)) := by rw [hB14]; simp only [Bool.or_eq_true, decide_eq_true_eq, iB9]
 clear hB14
 have hb0 := badT_start (ms := ms) (B := B14) (mem := mem) (inp := inp) (by rw [iB14]; omega)
 refine zkp [(0, (vS mA ms.length mc)), (1, (vS gA bg.length gc)), (2, (vI mem)), (3, (vS iA inp.length ic)), (4, (vI fuel)), (10, (pT b1 0)), (11, (.bool B14)), (28, (vS mA ms.length mc)), (29, (vI ((ms.length : Nat) : Int))), (30, (vI 0))] ?_
 intro aC fr
 refine zlp (fun n_ a_ w_ => ∃ (j : Nat) (Bk : Bool), n_ = ms.length - j ∧ Fr a_ 71 [(0, (vS mA ms.length mc)), (1, (vS gA bg.length gc)), (2, (vI mem)), (3, (vS iA inp.length ic)), (4, (vI fuel)), (10, (pT b1 0)), (11, (.bool Bk)), (28, (vS mA ms.length mc)), (29, (vI ((ms.length : Nat) : Int))), (30, (nV j))] ∧ Mem noS w w_ [.blk b1 38 [(vI 0), (vI 0), (vS none 0 0), (vI 0)]] ∧ (j ≤ ms.length) ∧ (Bk = true ↔ badT ms mem inp j)) (n := _) ⟨0, B14, rfl, fr.kp [0, 1, 2, 3, 4, 10, 11, 28, 29, 30], M3, Nat.zero_le _, hb0⟩ ?_
 clear fr aC M3; rintro n aC w17 ⟨j, Bk, rfl, fr, M18, hj, hbk⟩
 revert aC
 refine zsp <| zsq <| zcD (((j : Int) : Int) < ((ms.length : Nat) : Int)) (fun c21 => ?_) (fun c21 => ?_)
 refine zsk <| zsq <| zbk 1 <| zsr ?_
 obtain ⟨m, hm⟩ := get_of (l := ms) (i := j) (by omega)
 have hmm := List.mem_of_getElem? hm
 obtain ⟨ad22, rfl⟩ := rds_some (M18.ro hI.mods.mcells) (cs := m.cells) (i := j) (gm hm)
 refine zix ad22 ms.length 3 (j : Int) ?_
 refine zls ((ad22 : Addr).add (((j : Int)).toNat * 3)) (MC m) (rds_cells (i := j) (M18.ro hI.mods.mcells) rfl (gm hm)) ?_
 refine zal M18 25 [(.string ⟨#[]⟩), (vS none 0 0), (vS none 0 0)] fun b23 w24 hb23 M25 => ?_
 replace M25 := M25.nf
 refine zss M25 1 (MC m) rfl fun w26 M27 => ?_
 replace M27 := M27.nf
 refine zfe <| zrg <| zpn 2 ?_
 obtain ⟨B28, hB28⟩ : ∃ B : Bool, B = Bk := ⟨_, rfl⟩
 refine zkp [(0, (vS (some ad22) ms.length mc)), (1, (vS gA bg.length gc)), (2, (vI mem)), (3, (vS iA inp.length ic)), (4, (vI fuel)), (10, (pT b1 0)), (13, (pT b23 0)), (28, (vS (some ad22) ms.length mc)), (29, (vI ((ms.length : Nat) : Int))), (30, (nV j)), (35, (.bool Bk))] ?_
 rw [← hB28]
 have iB28 : B28 = true ↔ (Bk = true) := by rw [hB28]
 clear hB28
 cases B28
 have c28 : Bk = false := Bool.eq_false_iff.2 ((fun h => Bool.noConfusion (iB28.2 h) : ¬ (Bk = true)))
 subst c28
 refine zls ⟨b23, 0, none⟩ (MC m) (blk_cells (M27.get 1 rfl)) <| zcl (tvalid_c m w26 ((hI.mods.mod_of hmm).at_ M27) (hI.ins m hmm)) ?_
 rintro _ w29 ⟨rfl, M30x⟩
 have M30 := M27.cl M30x
 refine zpn 3 <| zfe <| zrg <| zar ((j : Int) + 1) <| zpn 1 <| zfe ?_
 intro aC fr
 exact ⟨ms.length - (j + 1), by omega, j + 1, (((validT m) : Int) != 0), rfl, fr.kp [0, 1, 2, 3, 4, 10, 11, 28, 29, 30], (M30.tk 1), by omega, badT_new hbk hm⟩
 have c28 : (Bk = true) := iB28.1 rfl
 subst c28
 refine zpn 5 <| zfe <| zrg <| zar ((j : Int) + 1) <| zpn 1 <| zfe ?_
 intro aC fr
 exact ⟨ms.length - (j + 1), by omega, j + 1, true, rfl, fr.kp [0, 1, 2, 3, 4, 10, 11, 28, 29, 30], (M27.tk 1), by omega, badT_keep hbk⟩
 refine zex 0 <| zbh <| zsq <| zsr ?_
 obtain rfl : j = ms.length := by omega
 refine zpn 1 <| zfe <| zcP Bk (Bk = true) Iff.rfl (fun c35 => ?_) (fun c35 => ?_)
 have hbad : badT ms mem inp ms.length := hbk.1 c35
 refine zsr <| zpn 1 <| zss M18 0 [(vI 5), (vI 0), (vS none 0 0), (vI 0)] rfl fun w36 M37 => ?_
 replace M37 := M37.nf
 refine zfe <| zre ?_
 intro aC fr
 refine outC (ad := ⟨b1, 0, none⟩) (vs := [(vI 5), (vI 0), (vS none 0 0), (vI 0)]) fr rfl (by kernel_rfl) (by kernel_rfl) (blk_cells (M37.get 0 rfl)) ?_
 refine ⟨_, rfl, ?_⟩
 have hMz := M37.cl (Mem.nilrow _ 5 1)
 have M40 := hMz.od [1] 1
 clear hMz
 rw [runT_bad hbad]; exact ⟨none, 0, rfl, M40⟩
 replace c35 : Bk = false := Bool.eq_false_iff.2 c35
 have hbad : ¬ badT ms mem inp ms.length := fun h => by have := hbk.2 h; rw [this] at c35; cases c35
 have hm1 : 1 ≤ mem := by unfold badT at hbad; omega
 have hm2 : mem ≤ 262144 := by unfold badT at hbad; omega
 refine zsk <| zsr <| zmm M18 fun b41 w42 hb41 M43 => ?_
 replace M43 := M43.nf
 have M44 : Mem noS w w42 [.blk b1 38 [(vI 0), (vI 0), (vS none 0 0), (vI 0)], .map b41 (inK .string (vK []))] := M43.cast rfl
 refine zmm M44 fun b45 w46 hb45 M47 => ?_
 replace M47 := M47.nf
 have M48 : Mem noS w w46 [.blk b1 38 [(vI 0), (vI 0), (vS none 0 0), (vI 0)], .map b41 (inK .string (vK [])), .map b45 (inK .string (vK []))] := M47.cast rfl
 refine zpn 1 ?_
 intro aC fr
 refine From_make1 (by kernel_rfl : coreAt _ 3 = some (some 46, (.makeSlice 56 (.tmp 45) (.tmp 45)), 56, none)) fr (by kernel_rfl) (by kernel_rfl) (k' := 4) rfl (e := 2) (bytes := 8) (z := (vI 0)) (n := mem.toNat) (i := mem) (by kernel_rfl) (by kernel_rfl) (by omega) (by kernel_rfl) (by kernel_rfl) rfl (by omega) (by simp only [maxLen]; omega) M48 ?_
 intro b49 w50 hb49 _ M51 _ aC ea fr; clear ea
 replace M51 := M51.nf
 revert aC
 refine zpn 2 <| zmx (some 49) (.tmp 48) (.const (vI 0)) #[3, 3] 3 .i64 fuel 0 <| zmn (some 50) (.tmp 49) (.const (vI 4194304)) #[3, 3] 3 .i64 (max fuel 0) 4194304 <| zpn 1 <| zbx M51 66 (.agg #[(vS none 0 0), (.map (some b41)), (.map (some b45)), (vS (sM b49) mem.toNat mem.toNat), (vI 0), (vS iA inp.length ic), (vS none 0 0), (vI (min (max fuel 0) 4194304)), (vI 0), (vI 0)]) [(vS none 0 0), (.map (some b41)), (.map (some b45)), (vS (sM b49) mem.toNat mem.toNat), (vI 0), (vS iA inp.length ic), (vS none 0 0), (vI (min (max fuel 0) 4194304)), (vI 0), (vI 0)] fun b56 w57 hb56 M58 => ?_
 replace M58 := M58.nf
 refine zpn 1 <| zfe <| zsr ?_
 have M59 := M58.cl (Mem.nilrow _ 5 1)
 have M60 := M59.od [0, 2, 2, 5, 4, 5] 6
 have M61 : Mem noS w w57 [.blk b56 66 [(vS none 0 0), (.map (some b41)), (.map (some b45)), (vS (sM b49) mem.toNat mem.toNat), (vI 0), (vS iA inp.length ic), (vS none 0 0), (vI (min (max fuel 0) 4194304)), (vI 0), (vI 0)], .row 2 1 (sM b49) mem.toNat mem.toNat (ints (List.replicate mem.toNat 0)), .row 5 1 none 0 0 [], .map b41 (inK .string (vK [])), .map b45 (inK .string (vK [])), .blk b1 38 [(vI 0), (vI 0), (vS none 0 0), (vI 0)]] := M60.cast (by rw [mem_ints])
 have hWF := runT_wf (fuel := fuel) hI hbad b56 none 0 b41 b45 b49
 have M62 : Mem noS w w57 [.blk b56 66 [(vS none 0 0), (.map (some b41)), (.map (some b45)), (vS (sM b49) mem.toNat mem.toNat), (vI 0), (vS iA inp.length ic), (vS none 0 0), (vI (min (max fuel 0) 4194304)), (vI 0), (vI 0)], .row 2 1 (sM b49) mem.toNat mem.toNat (ints (List.replicate mem.toNat 0)), .row 5 1 none 0 0 [], .map b41 (inK .string (vK [])), .map b45 (inK .string (vK [])), .blk b1 38 [(vI 0), (vI 0), (vS none 0 0), (vI 0)]] := M61.cast rfl
 refine zpn 3 <| zcl (tplay_c (⟨envT ms mem inp fuel, b56, none, 0, b41, b45, b49, iA, ic⟩ : TC) ms mA mc bg gA gc w57 hWF rfl rfl rfl hI.len hI.nf hI.nd (runT_dats hbad) (runT_names hbad) (by show 1 ≤ mem.toNat; omega) hI.glen (Mem.pk_holds (l := [.blk b56 66 [(vS none 0 0), (.map (some b41)), (.map (some b45)), (vS (sM b49) mem.toNat mem.toNat), (vI 0), (vS ((inAt iA ic 0).1) (inp.length - 0) ((inAt iA ic 0).2)), (vS none 0 0), (vI (min (max fuel 0) 4194304)), (vI 0), (vI 0)], .row 2 1 (sM b49) mem.toNat mem.toNat (ints (List.replicate mem.toNat 0)), .row 5 1 none 0 0 [], .map b41 (inK .string (vK [])), .map b45 (inK .string (vK []))]) M62) (hI.mods.pk_at (l := [.blk b56 66 [(vS none 0 0), (.map (some b41)), (.map (some b45)), (vS (sM b49) mem.toNat mem.toNat), (vI 0), (vS ((inAt iA ic 0).1) (inp.length - 0) ((inAt iA ic 0).2)), (vS none 0 0), (vI (min (max fuel 0) 4194304)), (vI 0), (vI 0)], .row 2 1 (sM b49) mem.toNat mem.toNat (ints (List.replicate mem.toNat 0)), .row 5 1 none 0 0 [], .map b41 (inK .string (vK [])), .map b45 (inK .string (vK []))]) M62) (hI.inr.pk_at (l := [.blk b56 66 [(vS none 0 0), (.map (some b41)), (.map (some b45)), (vS (sM b49) mem.toNat mem.toNat), (vI 0), (vS ((inAt iA ic 0).1) (inp.length - 0) ((inAt iA ic 0).2)), (vS none 0 0), (vI (min (max fuel 0) 4194304)), (vI 0), (vI 0)], .row 2 1 (sM b49) mem.toNat mem.toNat (ints (List.replicate mem.toNat 0)), .row 5 1 none 0 0 [], .map b41 (inK .string (vK [])), .map b45 (inK .string (vK []))]) M62) (hI.bg.pk_at (l := [.blk b56 66 [(vS none 0 0), (.map (some b41)), (.map (some b45)), (vS (sM b49) mem.toNat mem.toNat), (vI 0), (vS ((inAt iA ic 0).1) (inp.length - 0) ((inAt iA ic 0).2)), (vS none 0 0), (vI (min (max fuel 0) 4194304)), (vI 0), (vI 0)], .row 2 1 (sM b49) mem.toNat mem.toNat (ints (List.replicate mem.toNat 0)), .row 5 1 none 0 0 [], .map b41 (inK .string (vK [])), .map b45 (inK .string (vK []))]) M62)) ?_
 rintro _ w70 ⟨fA68, fc69, kk63, cc64, s65, oA66, oc67, hout, rfl, M71x⟩
 have M71 : Mem noS w w70 [.blk b56 66 [(vS fA68 ((csF ms).length + 1) fc69), (.map (some b41)), (.map (some b45)), (vS (sM b49) mem.toNat mem.toNat), (vI s65.next), (vS ((inAt iA ic s65.pos).1) (inp.length - s65.pos) ((inAt iA ic s65.pos).2)), (vS oA66 s65.out.length oc67), (vI (min (max fuel 0) 4194304)), (vI s65.steps), (vI s65.opened)], .row 2 1 (sM b49) mem.toNat mem.toNat (ints s65.mem), to_ s65 oA66 oc67, .map b41 (inK .string (vK (nmsTo (csF ms) (csF ms).length))), .map b45 (inK .string (vK (dataTo (csD ms) (csD ms).length))), .row 45 5 fA68 ((csF ms).length + 1) fc69 (fnT (csF ms) (csF ms).length), .blk b1 38 [(vI 0), (vI 0), (vS none 0 0), (vI 0)]] := M62.mdk M71x
 refine zkp [(10, (pT b1 0)), (14, (pT b56 0)), (57, (.tuple #[(vI kk63), (vI cc64)]))] <| zpn 5 <| zfe <| zsq <| zkp [(10, (pT b1 0)), (14, (pT b56 0)), (15, (vI kk63)), (16, (vI cc64))] ?_
 intro aC fr
 refine zdt 10 (N := 71) (env0 := [(10, (pT b1 0)), (14, (pT b56 0)), (15, (vI kk63)), (16, (vI cc64))]) (specAt [.det (vI kk63), .det (vI cc64), .det (pT b56 0), .det (pT b56 0), .det (pT b56 6), .det (vS oA66 s65.out.length oc67), .det (pT b56 0), .det (pT b56 0), .det (pT b56 8), .det (vI s65.steps)]) fr (la (la (la (la (la (la (la (la (la (la lz dP) dP) dP) dP) dP) (dL ⟨b56, 6, none⟩ (vS oA66 s65.out.length oc67) fun w_ hK => (blk_cell ((M71.then_ hK).get 0 rfl) rfl))) dP) dP) dP) (dL ⟨b56, 8, none⟩ (vI s65.steps) fun w_ hK => (blk_cell ((M71.then_ hK).get 0 rfl) rfl))) ?_
 intro aC w76 vs hK hv fr
 revert aC; refine zkp [(10, (pT b1 0)), (60, (vI kk63)), (61, (vI cc64)), (65, (vS oA66 s65.out.length oc67)), (69, (vI s65.steps))] ?_
 have M77 := M71.then_ hK
 clear hK hv fr aC M71; clear vs
 refine zpn 1 <| zss M77 6 [(vI kk63), (vI cc64), (vS oA66 s65.out.length oc67), (vI s65.steps)] rfl fun w78 M79 => ?_
 replace M79 := M79.nf
 refine zfe <| zre ?_
 intro aC fr
 refine outC (ad := ⟨b1, 0, none⟩) (vs := [(vI kk63), (vI cc64), (vS oA66 s65.out.length oc67), (vI s65.steps)]) fr rfl (by kernel_rfl) (by kernel_rfl) (blk_cells (M79.get 6 rfl)) ?_
 refine ⟨_, rfl, ?_⟩
 have M82 := M79.od [2] 1
 rw [runT_out (k := kk63) (c := cc64) (s := s65) hbad hout]; exact ⟨oA66, oc67, rfl, M82⟩
end Go.Proofs.Ytdcgcjibgihbbaa
