/-
  Texts of the proof, part 12.
-/
import Derived.Test.YtjekgaabcigphaaZE11
import Derived.Test.YtjekgaabcigphaaRows
set_option maxRecDepth 10000
namespace Go.Proofs.Ytjekgaabcigphaa
open Go.Mor
theorem index_c (l : List Int) (k : Int) (A : Option Addr) (c : Nat) (w : World) (hm : l.length ≤ 1000000) (hA : RO noS w (.rd A (ints l))) :
    Calls Try.prog 97 #[(.slice A l.length c), (.int .i64 k)] w (Ret fun v w' => v = .int .i64 (fidx (fun x => x == k) l) ∧ Mem noS w w' []) := by
 refine zen 19 [(.slice A l.length c), (.int .i64 k)] Try.func97 ?_
 have hM := Mem.init w
 refine zsp <| zsq <| zsp <| zbk 0 ?_
 intro aC fr
 refine zlp (fun n_ a_ w_ => ∃ (j : Nat), n_ = l.length - j ∧ Fr a_ 19 [(0, (.slice A l.length c)), (1, (.int .i64 k)), (7, (.int .i64 ((l.length : Nat) : Int))), (8, (nV j))] ∧ Mem noS w w_ [] ∧ (j ≤ l.length) ∧ ((l.take j).any (fun x => x == k) = false)) (n := _) ⟨0, rfl, fr.kp [0, 1, 7, 8], hM, by omega, by simp⟩ ?_
 clear fr aC hM; rintro n aC w3 ⟨j, rfl, fr, M4, hj, hn⟩
 revert aC
 refine zsr <| zcm (decide ((j : Int) < ((l.length : Nat) : Int))) fun B7 hB7 => ?_
 refine zfe <| zsq ?_
 cases B7
 have c7 : ¬ ((j : Int) < ((l.length : Nat) : Int)) := of_decide_eq_false hB7.symm
 refine zcF <| zex 0 <| zbh <| zsp <| zre <| zo1 (.int .i64 (-1)) ?_
 exact ⟨by rw [fidx_miss hn (by omega)], M4⟩
 have c7 : (j : Int) < ((l.length : Nat) : Int) := of_decide_eq_true hB7.symm
 refine zcT <| zsk <| zsq <| zbk 1 <| zsp <| zsr <| zpn 3 ?_
 obtain ⟨ad8, rfl⟩ := rd_ints_some (M4.ro hA) (by omega)
 refine zix ad8 l.length 1 (j : Int) <| zld ((ad8 : Addr).add (((j : Int)).toNat * 1)) (.int .i64 (l.getD (j : Int).toNat 0)) (rd_int (M4.ro hA) rfl (by omega) (by omega)) <| zcm (k == (l.getD (j : Int).toNat 0)) fun Bhit hBhit => ?_
 refine zfe ?_
 cases Bhit
 have chit : ¬ (k = (l.getD (j : Int).toNat 0)) := zne hBhit
 refine zcF <| zsk <| zrg <| zar ((j : Int) + 1) <| zpn 1 <| zfe ?_
 intro aC fr
 exact ⟨l.length - (j + 1), by omega, j + 1, rfl, fr.kp [0, 1, 7, 8], M4, by omega, any_next hn (by simpa using fun h : _ = k => chit h.symm) (by omega)⟩
 have chit : k = (l.getD (j : Int).toNat 0) := beq_iff_eq.1 hBhit.symm
 refine zcT <| zsp <| zre <| zbr <| zbr <| zo1 (nV j) ?_
 exact ⟨by rw [fidx_hit hn (by simpa using chit.symm) (by omega)], M4⟩
theorem tdel_c (q : Nat) (nm wk pa va : Value) (A : Option Addr) (c : Nat) (bs : List SB) (t : Int) (w : World) (_hm : bs.length ≤ 1000000) (hq : RO noS w (.blk q 24 [nm, wk, pa, va, .slice A bs.length c])) :
    Calls Try.prog 78 #[(.int .i64 t), (pT q 0)] w (Ret fun v w' => v = .bool (!(inR bs.length t)) ∧ Mem noS w w' []) := by
 refine zen 13 [(.int .i64 t), (pT q 0)] Try.func78 ?_
 have hM := Mem.init w
 refine zsp <| zsr <| zpn 1 <| zcm (decide (t < 0)) fun Blo hBlo => ?_
 refine zpn 1 ?_
 cases Blo
 have clo : ¬ (t < 0) := of_decide_eq_false hBlo.symm
 refine zpn 2 <| zld ⟨q, 4, none⟩ (.slice A bs.length c) (blk_cell (hM.ro hq) rfl) <| zpn 1 <| zcm (decide (t ≥ ((bs.length : Nat) : Int))) fun Bhi hBhi => ?_
 refine zpn 2 <| zfe <| zre <| zo1 (.bool Bhi) ?_
 exact ⟨by rw [hBhi, inR_hi (by omega)], hM⟩
 have clo : t < 0 := of_decide_eq_true hBlo.symm
 refine zpn 7 <| zfe <| zre <| zo1 (.bool true) ?_
 exact ⟨by rw [inR_no (by omega)]; rfl, hM⟩
theorem indexf_c (l : List Int) (B : Option Addr) (d : Nat) (q : Nat) (nm wk pa va : Value) (A : Option Addr) (c : Nat) (bs : List SB) (w : World) (hll : l.length ≤ 1000000) (hl : RO noS w (.rd B (ints l))) (hm : bs.length ≤ 1000000) (hq : RO noS w (.blk q 24 [nm, wk, pa, va, .slice A bs.length c])) :
    Calls Try.prog 90 #[(.slice B l.length d), (.func (.func 78) #[] #[(pT q 0)])] w (Ret fun v w' => v = .int .i64 (fidx (fun x => !(inR bs.length x)) l) ∧ Mem noS w w' []) := by
 refine zen 19 [(.slice B l.length d), (.func (.func 78) #[] #[(pT q 0)])] Try.func90 ?_
 have hM := Mem.init w
 refine zsp <| zsq <| zsp <| zbk 0 ?_
 intro aC fr
 refine zlp (fun n_ a_ w_ => ∃ (j : Nat), n_ = l.length - j ∧ Fr a_ 19 [(0, (.slice B l.length d)), (1, (.func (.func 78) #[] #[(pT q 0)])), (7, (.int .i64 ((l.length : Nat) : Int))), (8, (nV j))] ∧ Mem noS w w_ [] ∧ (j ≤ l.length) ∧ ((l.take j).any (fun x => !(inR bs.length x)) = false)) (n := _) ⟨0, rfl, fr.kp [0, 1, 7, 8], hM, by omega, by simp⟩ ?_
 clear fr aC hM; rintro n aC w3 ⟨j, rfl, fr, M4, hj, hn⟩
 revert aC
 refine zsr <| zcm (decide ((j : Int) < ((l.length : Nat) : Int))) fun B7 hB7 => ?_
 refine zfe <| zsq ?_
 cases B7
 have c7 : ¬ ((j : Int) < ((l.length : Nat) : Int)) := of_decide_eq_false hB7.symm
 refine zcF <| zex 0 <| zbh <| zsp <| zre <| zo1 (.int .i64 (-1)) ?_
 exact ⟨by rw [fidx_miss hn (by omega)], M4⟩
 have c7 : (j : Int) < ((l.length : Nat) : Int) := of_decide_eq_true hB7.symm
 refine zcT <| zsk <| zsq <| zbk 1 <| zsp <| zsr <| zpn 3 ?_
 obtain ⟨ad8, rfl⟩ := rd_ints_some (M4.ro hl) (by omega)
 refine zix ad8 l.length 1 (j : Int) <| zld ((ad8 : Addr).add (((j : Int)).toNat * 1)) (.int .i64 (l.getD (j : Int).toNat 0)) (rd_int (M4.ro hl) rfl (by omega) (by omega)) <| zcl (tdel_c q nm wk pa va A c bs (l.getD (j : Int).toNat 0) w3 hm (hq.at_ M4)) ?_
 rintro _ w9 ⟨rfl, M10x⟩
 have M10 := M4.cl M10x
 obtain ⟨Bhit, hBhit⟩ : ∃ B, B = !(inR bs.length (l.getD (j : Int).toNat 0)) := ⟨_, rfl⟩
 refine zkp [(0, (.slice (some ad8) l.length d)), (1, (.func (.func 78) #[] #[(pT q 0)])), (5, (nV j)), (7, (.int .i64 ((l.length : Nat) : Int))), (8, (nV j)), (11, (.func (.func 78) #[] #[(pT q 0)])), (15, (.int .i64 (l.getD (j : Int).toNat 0))), (16, (.bool (!(inR bs.length (l.getD (j : Int).toNat 0)))))] ?_
 rw [← hBhit]
 refine zfe ?_
 cases Bhit
 have chit : (!(inR bs.length (l.getD (j : Int).toNat 0))) = false := hBhit.symm
 refine zcF <| zsk <| zrg <| zar ((j : Int) + 1) <| zpn 1 <| zfe ?_
 intro aC fr
 exact ⟨l.length - (j + 1), by omega, j + 1, rfl, fr.kp [0, 1, 7, 8], M10, by omega, any_next hn chit (by omega)⟩
 have chit : (!(inR bs.length (l.getD (j : Int).toNat 0))) = true := hBhit.symm
 refine zcT <| zsp <| zre <| zbr <| zbr <| zo1 (nV j) ?_
 exact ⟨by rw [fidx_hit hn chit (by omega)], M10⟩
theorem deletef_c (l : List Int) (B : Option Addr) (d : Nat) (q : Nat) (nm wk pa va : Value) (A : Option Addr) (c : Nat) (bs : List SB) (w : World) (hll : l.length ≤ 1000000) (hl : (Res.row 3 1 B l.length d (ints l)).holds w) (hm : bs.length ≤ 1000000) (hq : RO (Res.row 3 1 B l.length d (ints l)).fp w (.blk q 24 [nm, wk, pa, va, .slice A bs.length c])) :
    Calls Try.prog 77 #[(.slice B l.length d), (.func (.func 78) #[] #[(pT q 0)])] w (Ret fun v w' => ∃ B' d', v = .slice B' (l.filter (fun x => !((fun x => !(inR bs.length x)) x))).length d' ∧ Mem (Res.row 3 1 B l.length d (ints l)).fp w w' [.row 3 1 B' (l.filter (fun x => !((fun x => !(inR bs.length x)) x))).length d' (ints (l.filter (fun x => !((fun x => !(inR bs.length x)) x))))]) := by
 refine zen 42 [(.slice B l.length d), (.func (.func 78) #[] #[(pT q 0)])] Try.func77 ?_
 have hM := Mem.initS hl
 refine zsp <| zsr <| zpn 2 <| zcl (indexf_c l B d q nm wk pa va A c bs w hll (RO.row_rd (hM.own_ro 0 rfl)) hm (hq.at_ hM)) ?_
 rintro _ w1 ⟨rfl, M2x⟩
 have M2 := hM.cl M2x
 clear M2x hM
 refine zpn 1 <| zfe <| zsq <| zsr <| zpn 1 <| zcm ((fidx (fun x => !(inR bs.length x)) l) == (-1)) fun Bnone hBnone => ?_
 refine zfe ?_
 cases Bnone
 have cnone : ¬ ((fidx (fun x => !(inR bs.length x)) l) = (-1)) := zne hBnone
 refine zcF <| zsk <| zsq <| zsr <| zpn 1 <| zar (h1 := (by have := fidx_lt (fun x => !(inR bs.length x)) l; omega)) (h2 := (by have := fidx_lt (fun x => !(inR bs.length x)) l; omega)) ((fidx (fun x => !(inR bs.length x)) l) + 1) ?_
 refine zpn 1 <| zfe <| zbk 0 ?_
 obtain ⟨i0, hi0, hil, hk0⟩ := kept_start cnone
 refine zkp [(0, (.slice B l.length d)), (1, (.func (.func 78) #[] #[(pT q 0)])), (5, (.int .i64 (fidx (fun x => !(inR bs.length x)) l))), (6, (.int .i64 ((fidx (fun x => !(inR bs.length x)) l) + 1)))] ?_
 intro aC fr
 rw [hi0] at fr
 obtain ⟨g0, hg0⟩ := row_some (M2.get 0 rfl) (show 0 < l.length by omega)
 subst hg0
 have hle := row_le (M2.get 0 rfl)
 have hlen0 : (kept (fun x => !(inR bs.length x)) l (i0 + 1)).length = i0 := by rw [hk0]; simp; omega
 have hc1 : ((i0 + 1 : Nat) : Int) = (i0 : Int) + 1 := by omega
 replace fr : Fr aC 42 [(0, .slice (sM g0) l.length d), (1, ((.func (.func 78) #[] #[(pT q 0)]))), (5, (.int .i64 ((kept (fun x => !(inR bs.length x)) l (i0 + 1)).length : Int))), (6, (.int .i64 ((i0 + 1 : Nat) : Int)))] := by rw [hlen0]; exact fr.keep (keep := [0, 1, 5, 6]) (by kernel_rfl)
 refine zlp (fun n_ a_ w_ => ∃ (j : Nat) (m : List Int), n_ = l.length - j ∧ Fr a_ 42 [(0, (.slice (sM g0) l.length d)), (1, (.func (.func 78) #[] #[(pT q 0)])), (5, (.int .i64 ((kept (fun x => !(inR bs.length x)) l j).length : Int))), (6, (nV j))] ∧ Mem ((Res.row 3 1 (sM g0) l.length d (ints l)).fp) w w_ [.row 3 1 (sM g0) l.length d (ints m)] ∧ (j ≤ l.length) ∧ (Half l m (kept (fun x => !(inR bs.length x)) l j) j)) (n := _) ⟨i0 + 1, l, rfl, fr.kp [0, 1, 5, 6], M2, by omega, by rw [hk0]; exact half_start hil⟩ ?_
 clear fr aC M2; rintro n aC w5 ⟨j, m, rfl, fr, M6, hj, hh⟩
 revert aC
 refine zsq <| zsr <| zpn 3 <| zcm (decide ((j : Int) < ((l.length : Nat) : Int))) fun B9 hB9 => ?_
 refine zfe ?_
 cases B9
 have c9 : ¬ ((j : Int) < ((l.length : Nat) : Int)) := of_decide_eq_false hB9.symm
 refine zcF <| zex 0 <| zbh <| zsr <| zpn 2 ?_
 intro aC fr
 have hjl : j = l.length := by omega
 have hkl := hh.2.2.2
 refine From_sliceLo (by kernel_rfl : coreAt _ 2 = some (some 38, (.slice 44 (.tmp 36) (some (.tmp 37)) none none), 44, none)) fr (by kernel_rfl) (by kernel_rfl) (k' := 3) rfl (A := (sM g0)) (n := l.length) (cap := d) (e := 3) (size := 1) (kd := .i64) (i := ((kept (fun x => !(inR bs.length x)) l j).length : Int)) (kept (fun x => !(inR bs.length x)) l j).length (by kernel_rfl) (by kernel_rfl) rfl (by kernel_rfl) (by kernel_rfl) (by omega) ?_
 intro aC ea fr; clear ea
 rw [if_neg (show ¬ (d = (kept (fun x => !(inR bs.length x)) l j).length) by omega)] at fr
 refine From_clear (by kernel_rfl : coreAt _ 3 = some (none, (.call { callee := (.builtin .clear), args := #[(.tmp 38)], argTypes := #[44] }), 0, none)) fr (by kernel_rfl) (by kernel_rfl) (k' := 4) rfl (e := 3) (z := .int .i64 0) (by kernel_rfl) (by kernel_rfl) rfl (ad := ⟨g0, 0, none⟩) (off := (kept (fun x => !(inR bs.length x)) l j).length * 1) (m := l.length - (kept (fun x => !(inR bs.length x)) l j).length) (cap' := d - (kept (fun x => !(inR bs.length x)) l j).length) (n := l.length) (cap := d) (xs := ints m) (by kernel_rfl) M6 0 rfl (by omega) ?_
 intro w14 M15 _ aC ea fr; clear ea
 replace M15 := M15.nf
 revert aC
 refine zfe <| zsr <| zpn 2 ?_
 intro aC fr
 refine From_sliceHi (by kernel_rfl : coreAt _ 2 = some (some 41, (.slice 44 (.tmp 39) none (some (.tmp 40)) none), 44, none)) fr (by kernel_rfl) (by kernel_rfl) (k' := 3) rfl (A := (sM g0)) (n := l.length) (cap := d) (e := 3) (size := 1) (kd := .i64) (i := ((kept (fun x => !(inR bs.length x)) l j).length : Int)) (kept (fun x => !(inR bs.length x)) l j).length (by kernel_rfl) (by kernel_rfl) rfl (by kernel_rfl) (by kernel_rfl) (by omega) ?_
 intro aC ea fr; clear ea
 revert aC
 refine zpn 1 <| zfe <| zre <| zo1 (.slice (sM g0) ((kept (fun x => !(inR bs.length x)) l j).length) d) ?_
 have hm2 := M15.take_row 0 rfl (kept (fun x => !(inR bs.length x)) l j).length (by omega)
 refine ⟨some ⟨g0, 0, none⟩, d, by rw [← kept_all (p := (fun x => !(inR bs.length x))) (show l.length ≤ j by omega)], hm2.cast ?_⟩
 rw [← kept_all (p := (fun x => !(inR bs.length x))) (show l.length ≤ j by omega)]
 show [_] = _; rw [cleared hh.2.1]
 have c9 : (j : Int) < ((l.length : Nat) : Int) := of_decide_eq_true hB9.symm
 refine zcT <| zsk <| zsq <| zbk 1 <| zsr <| zpn 2 <| zix ⟨g0, 0, none⟩ l.length 1 (j : Int) <| zld ((⟨g0, 0, none⟩ : Addr).add (((j : Int)).toNat * 1)) (.int .i64 (l.getD (j : Int).toNat 0)) (by rw [← half_get hh]; exact rd_int (row_rd (M6.get 0 rfl)) rfl (by omega) (by have := hh.1; omega)) <| zpn 1 <| zfe ?_
 refine zsr <| zpn 2 <| zcl (tdel_c q nm wk pa va A c bs (l.getD (j : Int).toNat 0) w5 hm (hq.at_ M6)) ?_
 rintro _ w22 ⟨rfl, M23x⟩
 have M23 := M6.cl M23x
 obtain ⟨Bdel, hBdel⟩ : ∃ B, B = !(inR bs.length (l.getD (j : Int).toNat 0)) := ⟨_, rfl⟩
 refine zkp [(0, (.slice (sM g0) l.length d)), (1, (.func (.func 78) #[] #[(pT q 0)])), (5, (.int .i64 ((kept (fun x => !(inR bs.length x)) l j).length : Int))), (6, (nV j)), (7, (.int .i64 (l.getD (j : Int).toNat 0))), (26, (.func (.func 78) #[] #[(pT q 0)])), (27, (.int .i64 (l.getD (j : Int).toNat 0))), (28, (.bool (!(inR bs.length (l.getD (j : Int).toNat 0)))))] ?_
 rw [← hBdel]
 refine zpn 1 <| zfe ?_
 cases Bdel
 have cdel : (!(inR bs.length (l.getD (j : Int).toNat 0))) = false := hBdel.symm
 refine zcT <| zsr <| zpn 3 <| zix (h0 := (by omega)) (h1 := (by have := hh.2.2.2; omega)) ⟨g0, 0, none⟩ l.length 1 ((kept (fun x => !(inR bs.length x)) l j).length : Int) ?_
 refine zsw M23 0 ((⟨g0, 0, none⟩ : Addr).add ((((kept (fun x => !(inR bs.length x)) l j).length : Int)).toNat * 1)) ((((kept (fun x => !(inR bs.length x)) l j).length : Int)).toNat * 1) (.int .i64 (l.getD (j : Int).toNat 0)) rfl rfl (by have := hh.2.2.2; omega) fun w24 M25 => ?_
 replace M25 := M25.nf
 refine zfe <| zrg <| zpn 1 <| zar (h2 := (by have := hh.2.2.2; omega)) (((kept (fun x => !(inR bs.length x)) l j).length : Int) + 1) ?_
 refine zpn 1 <| zfe <| zrg <| zpn 1 <| zar ((j : Int) + 1) <| zpn 1 <| zfe ?_
 intro aC fr
 have hks := kept_yes (p := (fun x => !(inR bs.length x))) (show j < l.length by omega) cdel
 replace fr : Fr aC 42 [(0, .slice (sM g0) l.length d), (1, ((.func (.func 78) #[] #[(pT q 0)]))), (5, (.int .i64 ((kept (fun x => !(inR bs.length x)) l (j + 1)).length : Int))), (6, (.int .i64 ((j : Int) + 1)))] := by rw [hks, List.length_append]; exact fr.keep (keep := [0, 1, 5, 6]) (by kernel_rfl)
 exact ⟨l.length - (j + 1), by omega, j + 1, m.set (kept (fun x => !(inR bs.length x)) l j).length (l.getD (j : Int).toNat 0), rfl, fr.kp [0, 1, 5, 6], (M25.cast (by rw [ints_set, Int.toNat_natCast, Nat.mul_one])), by omega, by rw [hks]; exact half_yes hh (by omega) _⟩
 have cdel : (!(inR bs.length (l.getD (j : Int).toNat 0))) = true := hBdel.symm
 refine zcF <| zsk <| zrg <| zpn 1 <| zar ((j : Int) + 1) <| zpn 1 <| zfe ?_
 intro aC fr
 have hks := kept_no (p := (fun x => !(inR bs.length x))) (show j < l.length by omega) cdel
 replace fr : Fr aC 42 [(0, .slice (sM g0) l.length d), (1, ((.func (.func 78) #[] #[(pT q 0)]))), (5, (.int .i64 ((kept (fun x => !(inR bs.length x)) l (j + 1)).length : Int))), (6, (.int .i64 ((j : Int) + 1)))] := by rw [hks]; exact fr.keep (keep := [0, 1, 5, 6]) (by kernel_rfl)
 exact ⟨l.length - (j + 1), by omega, j + 1, m, rfl, fr.kp [0, 1, 5, 6], M23, by omega, by rw [hks]; exact half_no hh⟩
 have cnone : (fidx (fun x => !(inR bs.length x)) l) = (-1) := beq_iff_eq.1 hBnone.symm
 refine zcT <| zsp <| zre <| zo1 (.slice B l.length d) ?_
 exact ⟨B, d, by rw [any_filter cnone], M2.cast (by rw [any_filter cnone])⟩
theorem targets_c (nm wk pa va : Value) (A : Option Addr) (c : Nat) (bs : List SB) (b : Int) (w : World) (hm : bs.length ≤ 1000000) (hA : RO noS w (.blocks A bs)) :
    Calls Try.prog 51 #[(.agg #[nm, wk, pa, va, (.slice A bs.length c)]), (.int .i64 b)] w (Ret fun v w' => ∃ A' c', v = .slice A' (tg bs b).length c' ∧ Mem noS w w' [.row 3 1 A' (tg bs b).length c' (ints (tg bs b))]) := by
 refine zen 45 [(.agg #[nm, wk, pa, va, (.slice A bs.length c)]), (.int .i64 b)] Try.func51 ?_
 have hM := Mem.init w
 refine zsr <| zbx hM 24 (.agg #[nm, wk, pa, va, (.slice A bs.length c)]) [nm, wk, pa, va, (.slice A bs.length c)] fun b1 w2 hb1 M3 => ?_
 replace M3 := M3.nf
 clear hM
 refine zpn 1 <| zfe <| zsq <| zsr <| zpn 1 <| zcm (decide (b < 0)) fun Blo hBlo => ?_
 refine zpn 1 ?_
 cases Blo
 have clo : ¬ (b < 0) := of_decide_eq_false hBlo.symm
 refine zpn 2 <| zld ⟨b1, 4, none⟩ (.slice A bs.length c) (blk_cell (M3.get 0 rfl) rfl) <| zpn 1 <| zcm (decide (b ≥ ((bs.length : Nat) : Int))) fun Bhi hBhi => ?_
 refine zpn 1 <| zfe ?_
 cases Bhi
 have chi : ¬ (b ≥ ((bs.length : Nat) : Int)) := of_decide_eq_false hBhi.symm
 refine zcF <| zsk <| zsr ?_
 obtain ⟨x, hx⟩ := get_lt (l := bs) (i := b) (by omega) (by omega)
 refine zpn 1 <| zld ⟨b1, 4, none⟩ (.slice A bs.length c) (blk_cell (M3.get 0 rfl) rfl) <| zpn 1 ?_
 obtain ⟨ad4, rfl⟩ := blocks_some (M3.ro hA) hx
 refine zix ad4 bs.length 6 b <| zls ((ad4 : Addr).add ((b).toNat * 6)) [(.slice x.pA x.pn x.pc), (.slice x.iA x.ik x.ic), (.int .i64 x.e), (.int .i64 x.v), (.int .i64 x.a), (.int .i64 x.b)] (blocks_get (M3.ro hA) rfl hx) <| zal M3 43 [(.slice none 0 0), (.slice none 0 0), (.int .i64 0), (.int .i64 0), (.int .i64 0), (.int .i64 0)] fun b5 w6 hb5 M7 => ?_
 replace M7 := M7.nf
 refine zss M7 1 [(.slice x.pA x.pn x.pc), (.slice x.iA x.ik x.ic), (.int .i64 x.e), (.int .i64 x.v), (.int .i64 x.a), (.int .i64 x.b)] rfl fun w8 M9 => ?_
 replace M9 := M9.nf
 refine zkp [(2, (pT b1 0)), (5, (pT b5 0))] <| zfe <| zsp <| zsq <| zsr <| zpn 1 <| zld ⟨b5, 2, none⟩ (.int .i64 x.e) (blk_cell (M9.get 1 rfl) rfl) <| zfe <| zbk 0 <| zsr <| zcm (x.e == 0) fun Be0 hBe0 => ?_
 refine zpn 1 <| zfe ?_
 cases Be0
 have ce0 : ¬ (x.e = 0) := zne hBe0
 refine zcF <| zsr <| zcm (x.e == 1) fun Be1 hBe1 => ?_
 refine zpn 1 <| zfe ?_
 cases Be1
 have ce1 : ¬ (x.e = 1) := zne hBe1
 refine zcF <| zsk <| zsr <| zpn 2 ?_
 have M10 : Mem noS w w8 [.blk b1 24 [nm, wk, pa, va, (.slice (some ad4) bs.length c)], .blk b5 43 [(.slice x.pA x.pn x.pc), (.slice x.iA x.ik x.ic), (.int .i64 x.e), (.int .i64 x.v), (.int .i64 x.a), (.int .i64 x.b)], .row 3 1 none 0 0 []] := M9.call (Mem.nilrow _ 3 1)
 refine zcl (vs := #[(.slice none 0 0), (.func (.func 78) #[] #[(pT b1 0)])]) (deletef_c [] none 0 b1 nm wk pa va _ c bs w8 (by simp) (M10.get 2 rfl) hm (M10.own_but 0 2 rfl rfl (by decide))) ?_
 rintro _ w13 ⟨A11, c12, rfl, M14x⟩
 have M14 := M10.md 2 rfl M14x
 refine zpn 1 <| zfe <| zre <| zo1 (.slice A11 (([].filter (fun x => !((fun x => !(inR bs.length x)) x))).length) c12) ?_
 exact row_ret (M14.pick [false, false, true] rfl) (by rw [tg_in (by omega) hx]; exact tgx_none ce0 ce1) rfl
 have ce1 : x.e = 1 := beq_iff_eq.1 hBe1.symm
 refine zcT <| zsr <| zpn 1 <| zld ⟨b5, 4, none⟩ (.int .i64 x.a) (blk_cell (M9.get 1 rfl) rfl) <| zpn 1 <| zld ⟨b5, 5, none⟩ (.int .i64 x.b) (blk_cell (M9.get 1 rfl) rfl) ?_
 intro aC fr
 refine zBs 34 44 2 #[(0, (.tmp 31)), (1, (.tmp 33))] 44 fr (e := 3) (size := 1) (zs := [(.int .i64 0)]) (vs := [(0, (.int .i64 x.a)), (1, (.int .i64 x.b))]) (cs := [(.int .i64 x.a), (.int .i64 x.b)]) M9 ?_
 intro b15 w16 hb15 _ M17 _ aC ea fr; clear ea
 replace M17 := M17.nf
 revert aC
 refine zpn 1 <| zfe <| zsr <| zpn 1 <| zld ⟨b5, 4, none⟩ (.int .i64 x.a) (blk_cell (M17.get 1 rfl) rfl) <| zpn 1 <| zld ⟨b5, 5, none⟩ (.int .i64 x.b) (blk_cell (M17.get 1 rfl) rfl) <| zkp [(2, (pT b1 0)), (6, (.slice (sM b15) 2 2)), (36, (.int .i64 x.a)), (38, (.int .i64 x.b))] <| zcm (x.a == x.b) fun Bab hBab => ?_
 refine zfe ?_
 cases Bab
 have cab : ¬ (x.a = x.b) := zne hBab
 refine zcF <| zsk <| zsr <| zpn 2 <| zcl (vs := #[(.slice (sM b15) 2 2), (.func (.func 78) #[] #[(pT b1 0)])]) (deletef_c [x.a, x.b] (sM b15) 2 b1 nm wk pa va _ c bs w16 (by simp) (M17.get 2 rfl) hm (M17.own_but 0 2 rfl rfl (by decide))) ?_
 rintro _ w24 ⟨A22, c23, rfl, M25x⟩
 have M25 := M17.md 2 rfl M25x
 refine zpn 1 <| zfe <| zre <| zo1 (.slice A22 (([x.a, x.b].filter (fun x => !((fun x => !(inR bs.length x)) x))).length) c23) ?_
 exact row_ret (M25.pick [false, false, true] rfl) (by rw [tg_in (by omega) hx]; exact tgx_two (by omega) (by omega)) rfl
 have cab : x.a = x.b := beq_iff_eq.1 hBab.symm
 refine zcT <| zrg <| zpn 1 ?_
 intro aC fr
 refine From_sliceHi (by kernel_rfl : coreAt _ 1 = some (some 41, (.slice 44 (.tmp 40) none (some (.const (.int .i64 1))) none), 44, none)) fr (by kernel_rfl) (by kernel_rfl) (k' := 2) rfl (A := (sM b15)) (n := 2) (cap := 2) (e := 3) (size := 1) (kd := .i64) (i := 1) 1 (by kernel_rfl) (by kernel_rfl) rfl (by kernel_rfl) (by kernel_rfl) (by decide) ?_
 intro aC ea fr; clear ea
 have M30 : Mem noS w w16 [.blk b1 24 [nm, wk, pa, va, (.slice (some ad4) bs.length c)], .blk b5 43 [(.slice x.pA x.pn x.pc), (.slice x.iA x.ik x.ic), (.int .i64 x.e), (.int .i64 x.v), (.int .i64 x.a), (.int .i64 x.b)], .row 3 1 (sM b15) 1 2 [.int .i64 x.a]] := M17.take_row 2 rfl 1 (by decide)
 revert aC
 refine zpn 1 <| zfe <| zsr <| zpn 2 <| zcl (vs := #[(.slice (sM b15) 1 2), (.func (.func 78) #[] #[(pT b1 0)])]) (deletef_c [x.a] (sM b15) 2 b1 nm wk pa va _ c bs w16 (by simp) (M30.get 2 rfl) hm (M30.own_but 0 2 rfl rfl (by decide))) ?_
 rintro _ w33 ⟨A31, c32, rfl, M34x⟩
 have M34 := M30.md 2 rfl M34x
 refine zpn 1 <| zfe <| zre <| zo1 (.slice A31 (([x.a].filter (fun x => !((fun x => !(inR bs.length x)) x))).length) c32) ?_
 exact row_ret (M34.pick [false, false, true] rfl) (by rw [tg_in (by omega) hx]; exact tgx_one (by omega)) rfl
 have ce0 : x.e = 0 := beq_iff_eq.1 hBe0.symm
 refine zcT <| zrg <| zpn 1 <| zld ⟨b5, 4, none⟩ (.int .i64 x.a) (blk_cell (M9.get 1 rfl) rfl) ?_
 intro aC fr
 refine zBs 27 44 1 #[(0, (.tmp 26))] 44 fr (e := 3) (size := 1) (zs := [(.int .i64 0)]) (vs := [(0, (.int .i64 x.a))]) (cs := [(.int .i64 x.a)]) M9 ?_
 intro b35 w36 hb35 _ M37 _ aC ea fr; clear ea
 replace M37 := M37.nf
 revert aC
 refine zpn 1 <| zfe <| zsr <| zpn 2 <| zcl (vs := #[(.slice (sM b35) 1 1), (.func (.func 78) #[] #[(pT b1 0)])]) (deletef_c [x.a] (sM b35) 1 b1 nm wk pa va _ c bs w36 (by simp) (M37.get 2 rfl) hm (M37.own_but 0 2 rfl rfl (by decide))) ?_
 rintro _ w44 ⟨A42, c43, rfl, M45x⟩
 have M45 := M37.md 2 rfl M45x
 refine zpn 1 <| zfe <| zre <| zo1 (.slice A42 (([x.a].filter (fun x => !((fun x => !(inR bs.length x)) x))).length) c43) ?_
 exact row_ret (M45.pick [false, false, true] rfl) (by rw [tg_in (by omega) hx]; exact tgx_one (by omega)) rfl
 have chi : b ≥ ((bs.length : Nat) : Int) := of_decide_eq_true hBhi.symm
 refine zcT <| zsp <| zre <| zo1 (.slice none 0 0) ?_
 exact nil_ret (M3.pick [false] rfl) (tg_out (by omega))
 have clo : b < 0 := of_decide_eq_true hBlo.symm
 refine zpn 6 <| zfe <| zcT <| zsp <| zre <| zo1 (.slice none 0 0) ?_
 exact nil_ret (M3.pick [false] rfl) (tg_out (by omega))
end Go.Proofs.Ytjekgaabcigphaa
namespace Go.Proofs.Ytjekgaabcigphaa
open Go.Mor
theorem newbits_c (n : Nat) (w : World) (hn : n ≤ 1000000) :
    Calls Try.prog 52 #[(nV n)] w (Ret fun v w' => ∃ g, v = .slice (sM g) ((n + 63) / 64) ((n + 63) / 64) ∧ Mem noS w w' [.row 137 1 (sM g) ((n + 63) / 64) ((n + 63) / 64) (u64s (List.replicate ((n + 63) / 64) 0))]) := by
 refine zen 8 [(nV n)] Try.func52 ?_
 have hM := Mem.init w
 refine zsp <| zsr <| zpn 1 <| zar ((n : Int) + 64) <| zar (((n : Int) + 64) - 1) ?_
 intro aC fr
 refine From_binI (by kernel_rfl : coreAt _ 3 = some (some 6, (.binOp .quo 3 (.tmp 5) (.const (.int .i64 64)) 3), 3, none)) fr (by kernel_rfl) (by kernel_rfl) (k' := 4) rfl (kd := .i64) (kd' := .i64) (i := (n : Int) + 64 - 1) (j := 64) (z := .int .i64 ((((n + 63) / 64) : Nat) : Int)) (by kernel_rfl) (by kernel_rfl) (fun w => by have h := bin_quoN (P := Try.prog) (t := 3) (i := n + 63) 64 (by omega) (by decide) w; rw [show ((n + 63 : Nat) : Int) = (n : Int) + 64 - 1 by omega] at h; exact h) ?_
 intro aC ea fr; clear ea
 refine zMk 7 97 (.tmp 6) (.tmp 6) 97 fr (e := 137) (bytes := 8) (z := (.int .u64 0)) (n := ((n + 63) / 64)) (i := ((((n + 63) / 64) : Nat) : Int)) (by omega) (by simp only [maxLen]; omega) hM ?_
 intro b5 w6 hb5 _ M7 _ aC ea fr; clear ea
 replace M7 := M7.nf
 clear hM
 revert aC
 refine zpn 1 <| zfe <| zre <| zo1 (.slice (sM b5) ((n + 63) / 64) ((n + 63) / 64)) ?_
 exact ⟨b5, rfl, M7.cast (by simp [u64s])⟩
theorem put_c (ws : List Nat) (n i : Nat) (A : Option Addr) (c : Nat) (w : World) (hfit : Fit ws) (hi0 : i ≤ 1000000) (hn : n = ws.length) (hi : i / 64 < ws.length) (hrow : (Res.row 137 1 A n c (u64s ws)).holds w) :
    Calls Try.prog 53 #[(.slice A n c), (nV i)] w (Ret fun v w' => v = .tuple #[] ∧ Mem (Res.row 137 1 A n c (u64s ws)).fp w w' [.row 137 1 A n c (u64s (putw ws i))]) := by
 subst hn
 refine zen 14 [(.slice A ws.length c), (nV i)] Try.func53 ?_
 have hM := Mem.initS hrow
 obtain ⟨g0, hg0⟩ := row_some (hM.get 0 rfl) (show 0 < ws.length by omega)
 subst hg0
 refine zkp [(0, (.slice (sM g0) ws.length c)), (1, (nV i))] ?_
 intro aC fr
 refine zdj (N := 14) (env0 := [(0, (.slice (sM g0) ws.length c)), (1, (nV i))]) (specAt [.det (.slice (sM g0) ws.length c), .det (nV i), .det (.int .i64 ((i / 64 : Nat) : Int)), .det (.pointer (some ((⟨g0, 0, none⟩ : Addr).add ((((i / 64 : Nat) : Int)).toNat * 1)))), .det (.int .u64 ((ws.getD (i / 64) 0 : Nat) : Int)), .det (nV i), .det (.int .i64 ((i % 64 : Nat) : Int)), .det (.int .u64 ((2 ^ (i % 64) : Nat) : Int)), .det (.int .u64 ((ws.getD (i / 64) 0 ||| 2 ^ (i % 64) : Nat) : Int)), .det (.pointer (some ((⟨g0, 0, none⟩ : Addr).add ((((i / 64 : Nat) : Int)).toNat * 1)))), .det undef]) (fun ls vs w_ => match ls 10 with | true => (Mem (Res.row 137 1 (sM g0) ws.length c (u64s ws)).fp w w_ [.row 137 1 (sM g0) ws.length c (u64s (putw ws i))]) | false => (Mem (Res.row 137 1 (sM g0) ws.length c (u64s ws)).fp w w_ [.row 137 1 (sM g0) ws.length c (u64s ws)])) fr (plain_ok (.det (.det (.det (.det (.det (.det (.det (.det (.det (.det (.det .nil)))))))))))) (hM.then_ (Mem.drew _)) (la (la (la (la (la (la (la (la (la (la (la lz (dPJ fun _ _ _ _ h => h)) (dPJ fun _ _ _ _ h => h)) ?_) (dIJ ⟨g0, 0, none⟩ ws.length 1 ((i / 64 : Nat) : Int) fun _ _ _ _ h => h)) (dLJ ((⟨g0, 0, none⟩ : Addr).add ((((i / 64 : Nat) : Int)).toNat * 1)) (.int .u64 ((ws.getD (i / 64) 0 : Nat) : Int)) (fun _ _ _ _ h => h) ?_)) (dPJ fun _ _ _ _ h => h)) ?_) ?_) ?_) (dIJ ⟨g0, 0, none⟩ ws.length 1 ((i / 64 : Nat) : Int) fun _ _ _ _ h => h)) ?_) ?_
 intro aa_ w_ ls vs rest_ hJ hi_ hc_ hp hF
 refine okG (g0 := none) ?_
 replace hF : Fr aa_ 14 [(5, (nV i))] := hF.kp [5]
 refine From_binI (by kernel_rfl : coreAt _ 0 = some (some 6, (.binOp .quo 3 (.tmp 5) (.const (.int .i64 64)) 3), 3, none)) hF (by kernel_rfl) (by kernel_rfl) (k' := 1) rfl (kd := .i64) (kd' := .i64) (i := (i : Int)) (j := 64) (z := .int .i64 ((i / 64 : Nat) : Int)) (by kernel_rfl) (by kernel_rfl) (fun w => bin_quoN 64 (by omega) (by decide) w) ?_
 intro a2 ea _
 refine From_end (by kernel_rfl) ?_; exact op_doneJ (d := some 6) (by kernel_rfl) ea rfl hJ
 intro w_ ls vs hJ hi_ hc_ hp
 have f10 : ls 10 = false := notyet hc_ hi_ (n := 11) (by kernel_rfl)
 have hM_ := hJ
 simp only [f10] at hM_
 exact (rd_get1 (row_rd (hM_.get 0 rfl)) rfl (u64s_get (by omega)))
 intro aa_ w_ ls vs rest_ hJ hi_ hc_ hp hF
 refine okG (g0 := none) ?_
 replace hF : Fr aa_ 14 [(9, (nV i))] := hF.kp [9]
 refine From_binI (by kernel_rfl : coreAt _ 0 = some (some 10, (.binOp .rem 3 (.tmp 9) (.const (.int .i64 64)) 3), 3, none)) hF (by kernel_rfl) (by kernel_rfl) (k' := 1) rfl (kd := .i64) (kd' := .i64) (i := (i : Int)) (j := 64) (z := .int .i64 ((i % 64 : Nat) : Int)) (by kernel_rfl) (by kernel_rfl) (fun w => bin_remN 64 (by decide) w) ?_
 intro a2 ea _
 refine From_end (by kernel_rfl) ?_; exact op_doneJ (d := some 10) (by kernel_rfl) ea rfl hJ
 intro aa_ w_ ls vs rest_ hJ hi_ hc_ hp hF
 refine okG (g0 := none) ?_
 replace hF : Fr aa_ 14 [(10, (.int .i64 ((i % 64 : Nat) : Int)))] := hF.kp [10]
 refine From_binI (by kernel_rfl : coreAt _ 0 = some (some 11, (.binOp .shl 137 (.const (.int .u64 1)) (.tmp 10) 3), 137, none)) hF (by kernel_rfl) (by kernel_rfl) (k' := 1) rfl (kd := .u64) (kd' := .i64) (i := 1) (j := ((i % 64 : Nat) : Int)) (z := .int .u64 ((2 ^ (i % 64) : Nat) : Int)) (by kernel_rfl) (by kernel_rfl) (fun w => bin_shl (Nat.mod_lt _ (by decide)) w) ?_
 intro a2 ea _
 refine From_end (by kernel_rfl) ?_; exact op_doneJ (d := some 11) (by kernel_rfl) ea rfl hJ
 intro aa_ w_ ls vs rest_ hJ hi_ hc_ hp hF
 refine okG (g0 := none) ?_
 replace hF : Fr aa_ 14 [(8, (.int .u64 ((ws.getD (i / 64) 0 : Nat) : Int))), (11, (.int .u64 ((2 ^ (i % 64) : Nat) : Int)))] := hF.kp [8, 11]
 refine From_binI (by kernel_rfl : coreAt _ 0 = some (some 12, (.binOp .or 137 (.tmp 8) (.tmp 11) 137), 137, none)) hF (by kernel_rfl) (by kernel_rfl) (k' := 1) rfl (kd := .u64) (kd' := .u64) (i := ((ws.getD (i / 64) 0 : Nat) : Int)) (j := ((2 ^ (i % 64) : Nat) : Int)) (z := .int .u64 ((ws.getD (i / 64) 0 ||| 2 ^ (i % 64) : Nat) : Int)) (by kernel_rfl) (by kernel_rfl) (fun w => bin_or (hfit.get _) (two_pow_le (Nat.mod_lt _ (by decide))) w) ?_
 intro a2 ea _
 refine From_end (by kernel_rfl) ?_; exact op_doneJ (d := some 12) (by kernel_rfl) ea rfl hJ
 intro aa_ w_ ls vs rest_ hJ hi_ hc_ hp hF
 refine okG (g0 := none) ?_
 replace hF : Fr aa_ 14 [(12, (.int .u64 ((ws.getD (i / 64) 0 ||| 2 ^ (i % 64) : Nat) : Int))), (13, (.pointer (some ((⟨g0, 0, none⟩ : Addr).add ((((i / 64 : Nat) : Int)).toNat * 1)))))] := hF.kp [12, 13]
 have f10 : ls 10 = false := hi_
 have hM_ := hJ
 simp only [f10] at hM_
 refine From_store_row (by kernel_rfl : coreAt _ 0 = some (none, (.store 137 (.tmp 13) (.tmp 12)), 0, none)) hF (by kernel_rfl) (by kernel_rfl) (k' := 1) rfl (ad := (⟨g0, 0, none⟩ : Addr)) (j := ((((i / 64 : Nat) : Int)).toNat * 1)) (e := 137) (size := 1) (n := ws.length) (cap := c) (v := (.int .u64 ((ws.getD (i / 64) 0 ||| 2 ^ (i % 64) : Nat) : Int))) (xs := (u64s ws)) (ad' := ((⟨g0, 0, none⟩ : Addr).add ((((i / 64 : Nat) : Int)).toNat * 1))) (by kernel_rfl) rfl (by kernel_rfl) (by kernel_rfl) rfl hM_ 0 rfl (by omega) ?_
 intro w2 hm2 _ a2 ea _
 refine From_end (by kernel_rfl) ?_; refine op_doneJ (d := none) (by kernel_rfl) ea rfl ?_
 show _
 exact hm2.cast (by show [Res.row _ _ _ _ _ _] = _; rw [putw, u64s_set, Int.toNat_natCast, Nat.mul_one])
 intro aC w5 ls vs hall M6 hv fr
 simp only [show ls 10 = true from hall 10 (by decide)] at M6
 revert aC; refine zkp [] ?_
 clear hall hv fr aC hM; clear vs ls
 refine zo0 ?_
 exact ⟨rfl, M6⟩
theorem hasb_c (ws : List Nat) (n i : Nat) (A : Option Addr) (c : Nat) (w : World) (hfit : Fit ws) (hi0 : i ≤ 1000000) (hn : n = ws.length) (hi : i / 64 < ws.length) (hA : RO noS w (.rd A (u64s ws))) :
    Calls Try.prog 54 #[(.slice A n c), (nV i)] w (Ret fun v w' => v = .bool (tb ws i) ∧ Mem noS w w' []) := by
 subst hn
 refine zen 15 [(.slice A ws.length c), (nV i)] Try.func54 ?_
 have hM := Mem.init w
 refine zsp <| zsr <| zpn 2 ?_
 intro aC fr
 refine From_binI (by kernel_rfl : coreAt _ 2 = some (some 7, (.binOp .quo 3 (.tmp 6) (.const (.int .i64 64)) 3), 3, none)) fr (by kernel_rfl) (by kernel_rfl) (k' := 3) rfl (kd := .i64) (kd' := .i64) (i := (i : Int)) (j := 64) (z := .int .i64 ((i / 64 : Nat) : Int)) (by kernel_rfl) (by kernel_rfl) (fun w => bin_quoN 64 (by omega) (by decide) w) ?_
 intro aC ea fr; clear ea
 obtain ⟨ad5, rfl⟩ := rd_some (hM.ro hA) (by rw [u64s_len]; omega)
 revert aC
 refine zix ad5 ws.length 1 ((i / 64 : Nat) : Int) <| zld ((ad5 : Addr).add ((((i / 64 : Nat) : Int)).toNat * 1)) (.int .u64 ((ws.getD (i / 64) 0 : Nat) : Int)) (rd_get1 (hM.ro hA) rfl (u64s_get (by omega))) <| zpn 1 ?_
 intro aC fr
 refine From_binI (by kernel_rfl : coreAt _ 6 = some (some 11, (.binOp .rem 3 (.tmp 10) (.const (.int .i64 64)) 3), 3, none)) fr (by kernel_rfl) (by kernel_rfl) (k' := 7) rfl (kd := .i64) (kd' := .i64) (i := (i : Int)) (j := 64) (z := .int .i64 ((i % 64 : Nat) : Int)) (by kernel_rfl) (by kernel_rfl) (fun w => bin_remN 64 (by decide) w) ?_
 intro aC ea fr; clear ea
 refine From_binI (by kernel_rfl : coreAt _ 7 = some (some 12, (.binOp .shr 137 (.tmp 9) (.tmp 11) 3), 137, none)) fr (by kernel_rfl) (by kernel_rfl) (k' := 8) rfl (kd := .u64) (kd' := .i64) (i := ((ws.getD (i / 64) 0 : Nat) : Int)) (j := ((i % 64 : Nat) : Int)) (z := .int .u64 ((ws.getD (i / 64) 0 / 2 ^ (i % 64) : Nat) : Int)) (by kernel_rfl) (by kernel_rfl) (fun w => bin_shr (Nat.mod_lt _ (by decide)) w) ?_
 intro aC ea fr; clear ea
 refine From_binI (by kernel_rfl : coreAt _ 8 = some (some 13, (.binOp .and 137 (.tmp 12) (.const (.int .u64 1)) 137), 137, none)) fr (by kernel_rfl) (by kernel_rfl) (k' := 9) rfl (kd := .u64) (kd' := .u64) (i := ((ws.getD (i / 64) 0 / 2 ^ (i % 64) : Nat) : Int)) (j := 1) (z := .int .u64 ((ws.getD (i / 64) 0 / 2 ^ (i % 64) &&& 1 : Nat) : Int)) (by kernel_rfl) (by kernel_rfl) (fun w => bin_and1 (Nat.lt_of_le_of_lt (Nat.div_le_self _ _) (hfit.get _)) w) ?_
 intro aC ea fr; clear ea
 revert aC
 refine zcm (((ws.getD (i / 64) 0 / 2 ^ (i % 64) &&& 1 : Nat) : Int) == 1) fun Bh hBh => ?_
 refine zpn 1 <| zfe <| zre <| zo1 (.bool Bh) ?_
 exact ⟨by rw [hBh, bit_of]; rfl, hM⟩
theorem reverse_c (l : List Int) (A : Option Addr) (c : Nat) (w : World) (hm : l.length ≤ 1000000) (hrow : (Res.row 3 1 A l.length c (ints l)).holds w) :
    Calls Try.prog 55 #[(.slice A l.length c)] w (Ret fun v w' => v = .tuple #[] ∧ Mem (Res.row 3 1 A l.length c (ints l)).fp w w' [.row 3 1 A l.length c (ints l.reverse)]) := by
 refine zen 28 [(.slice A l.length c)] Try.func55 ?_
 have hM := Mem.initS hrow
 refine zsr <| zpn 2 <| zar (((l.length : Nat) : Int) - 1) <| zpn 2 <| zfe <| zbk 0 ?_
 intro aC fr
 replace fr : Fr aC 28 [(0, .slice A l.length c), (2, .int .i64 ((0 : Nat) : Int)), (3, .int .i64 ((l.length : Int) - 1 - ((0 : Nat) : Int)))] := by rw [show ((l.length : Int) - 1 - ((0 : Nat) : Int)) = (l.length : Int) - 1 by omega]; exact fr.keep (keep := [0, 2, 3]) (by kernel_rfl)
 refine zlp (fun n_ a_ w_ => ∃ (k : Nat) (m : List Int), n_ = l.length - k ∧ Fr a_ 28 [(0, (.slice A l.length c)), (2, (nV k)), (3, (.int .i64 ((l.length : Int) - 1 - (k : Int))))] ∧ Mem (Res.row 3 1 A l.length c (ints l)).fp w w_ [.row 3 1 A l.length c (ints m)] ∧ (2 * k ≤ l.length) ∧ (Swapped l m k)) (n := _) ⟨0, l, rfl, fr.kp [0, 2, 3], hM, by omega, swapped_start l⟩ ?_
 clear fr aC hM; rintro n aC w3 ⟨k, m, rfl, fr, M4, hk, hs⟩
 revert aC
 refine zsq <| zsr <| zpn 2 <| zcm (decide ((k : Int) < ((l.length : Int) - 1 - (k : Int)))) fun Blt hBlt => ?_
 refine zfe ?_
 cases Blt
 have clt : ¬ ((k : Int) < ((l.length : Int) - 1 - (k : Int))) := of_decide_eq_false hBlt.symm
 refine zcF <| zex 0 <| zbh <| zo0 ?_
 exact ⟨rfl, M4.cast (by rw [swapped_end hs (by omega)])⟩
 have clt : (k : Int) < ((l.length : Int) - 1 - (k : Int)) := of_decide_eq_true hBlt.symm
 refine zcT <| zsk <| zsq <| zbk 1 ?_
 obtain ⟨q, hq⟩ : ∃ q : Nat, ((l.length : Int) - 1 - (k : Int)) = (q : Int) := ⟨l.length - 1 - k, by omega⟩
 refine zkp [(0, (.slice A l.length c)), (2, (nV k)), (3, (.int .i64 ((l.length : Int) - 1 - (k : Int)))), (9, (.bool true))] ?_
 intro aC fr
 rw [hq] at fr clt; have hml : m.length = l.length := hs.1
 obtain ⟨g0, hg0⟩ := row_some (M4.get 0 rfl) (show 0 < l.length by omega)
 subst hg0
 revert aC
 refine zkp [(0, (.slice (sM g0) l.length c)), (2, (nV k)), (3, (nV q)), (9, (.bool true))] ?_
 intro aC fr
 refine zdj (N := 28) (env0 := [(0, (.slice (sM g0) l.length c)), (2, (nV k)), (3, (nV q)), (9, (.bool true))]) (specAt [.det (.slice (sM g0) l.length c), .det (nV k), .det (.slice (sM g0) l.length c), .det (nV q), .det (.slice (sM g0) l.length c), .det (nV q), .det (.pointer (some ((⟨g0, 0, none⟩ : Addr).add (((q : Int)).toNat * 1)))), .det (.int .i64 (m.getD (q : Int).toNat 0)), .det (.slice (sM g0) l.length c), .det (nV k), .det (.pointer (some ((⟨g0, 0, none⟩ : Addr).add (((k : Int)).toNat * 1)))), .det (.int .i64 (m.getD (k : Int).toNat 0)), .det (.pointer (some ((⟨g0, 0, none⟩ : Addr).add (((k : Int)).toNat * 1)))), .det undef, .det (.pointer (some ((⟨g0, 0, none⟩ : Addr).add (((q : Int)).toNat * 1)))), .det undef]) (fun ls vs w_ => match ls 15 with | true => (Mem (Res.row 3 1 (sM g0) l.length c (ints l)).fp w w_ [.row 3 1 (sM g0) l.length c (((ints m).set (((k : Int)).toNat * 1) (.int .i64 (m.getD (q : Int).toNat 0))).set (((q : Int)).toNat * 1) (.int .i64 (m.getD (k : Int).toNat 0)))]) | false => (match ls 13 with | true => (Mem (Res.row 3 1 (sM g0) l.length c (ints l)).fp w w_ [.row 3 1 (sM g0) l.length c ((ints m).set (((k : Int)).toNat * 1) (.int .i64 (m.getD (q : Int).toNat 0)))]) | false => (Mem (Res.row 3 1 (sM g0) l.length c (ints l)).fp w w_ [.row 3 1 (sM g0) l.length c (ints m)]))) fr (plain_ok (.det (.det (.det (.det (.det (.det (.det (.det (.det (.det (.det (.det (.det (.det (.det (.det .nil))))))))))))))))) (M4.then_ (Mem.drew _)) (la (la (la (la (la (la (la (la (la (la (la (la (la (la (la (la lz (dPJ fun _ _ _ _ h => h)) (dPJ fun _ _ _ _ h => h)) (dPJ fun _ _ _ _ h => h)) (dPJ fun _ _ _ _ h => h)) (dPJ fun _ _ _ _ h => h)) (dPJ fun _ _ _ _ h => h)) (dIJ ⟨g0, 0, none⟩ l.length 1 (q : Int) fun _ _ _ _ h => h)) (dLJ ((⟨g0, 0, none⟩ : Addr).add (((q : Int)).toNat * 1)) (.int .i64 (m.getD (q : Int).toNat 0)) (fun _ _ _ _ h => h) ?_)) (dPJ fun _ _ _ _ h => h)) (dPJ fun _ _ _ _ h => h)) (dIJ ⟨g0, 0, none⟩ l.length 1 (k : Int) fun _ _ _ _ h => h)) (dLJ ((⟨g0, 0, none⟩ : Addr).add (((k : Int)).toNat * 1)) (.int .i64 (m.getD (k : Int).toNat 0)) (fun _ _ _ _ h => h) ?_)) (dIJ ⟨g0, 0, none⟩ l.length 1 (k : Int) fun _ _ _ _ h => h)) ?_) (dIJ ⟨g0, 0, none⟩ l.length 1 (q : Int) fun _ _ _ _ h => h)) ?_) ?_
 intro w_ ls vs hJ hi_ hc_ hp
 have f13 : ls 13 = false := notyet hc_ hi_ (n := 16) (by kernel_rfl)
 have f15 : ls 15 = false := notyet hc_ hi_ (n := 16) (by kernel_rfl)
 have hM_ := hJ
 simp only [f13, f15] at hM_
 exact (rd_int (row_rd (hM_.get 0 rfl)) rfl (by omega) (by omega))
 intro w_ ls vs hJ hi_ hc_ hp
 have f13 : ls 13 = false := notyet hc_ hi_ (n := 16) (by kernel_rfl)
 have f15 : ls 15 = false := notyet hc_ hi_ (n := 16) (by kernel_rfl)
 have hM_ := hJ
 simp only [f13, f15] at hM_
 exact (rd_int (row_rd (hM_.get 0 rfl)) rfl (by omega) (by omega))
 intro aa_ w_ ls vs rest_ hJ hi_ hc_ hp hF
 refine okG (g0 := none) ?_
 replace hF : Fr aa_ 28 [(21, (.int .i64 (m.getD (q : Int).toNat 0))), (26, (.pointer (some ((⟨g0, 0, none⟩ : Addr).add (((k : Int)).toNat * 1)))))] := hF.kp [21, 26]
 have f13 : ls 13 = false := hi_
 have f15 : ls 15 = false := notyet hc_ hi_ (n := 16) (by kernel_rfl)
 have hM_ := hJ
 simp only [f13, f15] at hM_
 refine From_store_row (by kernel_rfl : coreAt _ 0 = some (none, (.store 3 (.tmp 26) (.tmp 21)), 0, none)) hF (by kernel_rfl) (by kernel_rfl) (k' := 1) rfl (ad := (⟨g0, 0, none⟩ : Addr)) (j := (((k : Int)).toNat * 1)) (e := 3) (size := 1) (n := l.length) (cap := c) (v := (.int .i64 (m.getD (q : Int).toNat 0))) (xs := (ints m)) (ad' := ((⟨g0, 0, none⟩ : Addr).add (((k : Int)).toNat * 1))) (by kernel_rfl) rfl (by kernel_rfl) (by kernel_rfl) rfl hM_ 0 rfl (by omega) ?_
 intro w2 hm2 _ a2 ea _
 refine From_end (by kernel_rfl) ?_; refine op_doneJ (d := none) (by kernel_rfl) ea rfl ?_
 show match ls 15 with | true => _ | false => (_)
 rw [f15]
 exact hm2
 intro aa_ w_ ls vs rest_ hJ hi_ hc_ hp hF
 refine okG (g0 := none) ?_
 replace hF : Fr aa_ 28 [(25, (.int .i64 (m.getD (k : Int).toNat 0))), (27, (.pointer (some ((⟨g0, 0, none⟩ : Addr).add (((q : Int)).toNat * 1)))))] := hF.kp [25, 27]
 have f13 : ls 13 = true := donebefore hc_ (fun k hk => (hp k hk).1) (n := 16) (by kernel_rfl)
 have f15 : ls 15 = false := hi_
 have hM_ := hJ
 simp only [f13, f15] at hM_
 refine From_store_row (by kernel_rfl : coreAt _ 0 = some (none, (.store 3 (.tmp 27) (.tmp 25)), 0, none)) hF (by kernel_rfl) (by kernel_rfl) (k' := 1) rfl (ad := (⟨g0, 0, none⟩ : Addr)) (j := (((q : Int)).toNat * 1)) (e := 3) (size := 1) (n := l.length) (cap := c) (v := (.int .i64 (m.getD (k : Int).toNat 0))) (xs := ((ints m).set (((k : Int)).toNat * 1) (.int .i64 (m.getD (q : Int).toNat 0)))) (ad' := ((⟨g0, 0, none⟩ : Addr).add (((q : Int)).toNat * 1))) (by kernel_rfl) rfl (by kernel_rfl) (by kernel_rfl) rfl hM_ 0 rfl (by omega) ?_
 intro w2 hm2 _ a2 ea _
 refine From_end (by kernel_rfl) ?_; refine op_doneJ (d := none) (by kernel_rfl) ea rfl ?_
 show _
 exact hm2
 intro aC w13 ls vs hall M14 hv fr
 simp only [show ls 15 = true from hall 15 (by decide)] at M14
 revert aC; refine zkp [(0, (.slice (sM g0) l.length c)), (2, (nV k)), (3, (nV q))] ?_
 clear hall hv fr aC M4; clear vs ls
 refine zrg <| zpn 1 <| zar ((k : Int) + 1) <| zpn 1 <| zar ((q : Int) - 1) <| zpn 2 <| zfe ?_
 intro aC fr
 replace fr : Fr aC 28 [(0, .slice (sM g0) l.length c), (2, .int .i64 ((k + 1 : Nat) : Int)), (3, .int .i64 ((l.length : Int) - 1 - ((k + 1 : Nat) : Int)))] := by rw [show ((l.length : Int) - 1 - ((k + 1 : Nat) : Int)) = (q : Int) - 1 by omega]; exact fr.keep (keep := [0, 2, 3]) (by kernel_rfl)
 exact ⟨l.length - (k + 1), by omega, k + 1, (m.set k (m.getD q 0)).set q (m.getD k 0), rfl, fr.kp [0, 2, 3], (M14.cast (by rw [ints_set, ints_set]; simp only [Int.toNat_natCast, Nat.mul_one])), by omega, swapped_next hs (by omega)⟩
end Go.Proofs.Ytjekgaabcigphaa
namespace Go.Proofs.Ytjekgaabcigphaa
open Go.Mor
theorem order_c (nm wk pa va : Value) (A : Option Addr) (c : Nat) (bs : List SB) (w : World) (hm : bs.length ≤ 1000000) (hA : RO noS w (.blocks A bs)) :
    Calls Try.prog 21 #[(.agg #[nm, wk, pa, va, (.slice A bs.length c)])] w (Ret fun v w' => ∃ A' c', v = .slice A' (orderL bs).length c' ∧ Mem noS w w' [.row 3 1 A' (orderL bs).length c' (ints (orderL bs))]) := by
 refine zen 83 [(.agg #[nm, wk, pa, va, (.slice A bs.length c)])] Try.func21 ?_
 have hM := Mem.init w
 refine zsr <| zbx hM 24 (.agg #[nm, wk, pa, va, (.slice A bs.length c)]) [nm, wk, pa, va, (.slice A bs.length c)] fun b1 w2 hb1 M3 => ?_
 replace M3 := M3.nf
 clear hM
 refine zpn 1 <| zfe <| zsq <| zsr <| zpn 1 <| zld ⟨b1, 4, none⟩ (.slice A bs.length c) (blk_cell (M3.get 0 rfl) rfl) <| zpn 1 <| zcm (((bs.length : Nat) : Int) == 0) fun Bz hBz => ?_
 refine zfe ?_
 cases Bz
 have cz : ¬ (((bs.length : Nat) : Int) = 0) := zne hBz
 refine zcF <| zsk <| zsr <| zpn 1 <| zld ⟨b1, 4, none⟩ (.slice A bs.length c) (blk_cell (M3.get 0 rfl) rfl) <| zpn 1 <| zcl (newbits_c bs.length w2 (by omega)) ?_
 rintro _ w5 ⟨g4, rfl, M6x⟩
 have M6 := M3.cl M6x
 refine zpn 1 <| zfe <| zsr <| zpn 1 <| zcl (vs := #[(.slice (sM g4) ((bs.length + 63) / 64) ((bs.length + 63) / 64)), (.int .i64 0)]) (put_c (List.replicate ((bs.length + 63) / 64) 0) ((bs.length + 63) / 64) 0 (sM g4) ((bs.length + 63) / 64) w5 (Fit.zero _) (by omega) (by simp) (by simp; omega) (M6.get 1 rfl)) ?_
 rintro _ w7 ⟨rfl, M8x⟩
 have M8 := M6.md 1 rfl M8x
 refine zfe <| zsp <| zsr <| zpn 1 ?_
 intro aC fr
 refine zBs 20 102 1 #[(0, (.tmp 19))] 102 fr (e := 101) (size := 2) (zs := [(.int .i64 0), (.int .i64 0)]) (vs := [(0, (.agg #[(.int .i64 0), (.int .i64 0)]))]) (cs := [(.int .i64 0), (.int .i64 0)]) M8 ?_
 intro b9 w10 hb9 _ M11 _ aC ea fr; clear ea
 replace M11 := M11.nf
 revert aC
 refine zpn 1 <| zfe <| zsq <| zbk 0 ?_
 obtain ⟨s0, hk0, hl0⟩ := left_kids bs
 intro aC fr
 refine zlp (fun n_ a_ w_ => ∃ (ws : List Nat) (S : Int → Bool) (way : List (Int × Nat)) (A3 : Option Addr) (c3 : Nat) (A2 : Option Addr) (n2 : Nat) (c2 : Nat) (o : List Int), n_ = 4 * unmet bs.length S + wsum (tg bs) way ∧ Fr a_ 83 [(1, (pT b1 0)), (3, (.slice (sM g4) ((bs.length + 63) / 64) ((bs.length + 63) / 64))), (4, (.slice A2 n2 c2)), (5, (.slice A3 way.length c3))] ∧ Mem noS w w_ [.blk b1 24 [nm, wk, pa, va, (.slice A bs.length c)], .row 137 1 (sM g4) ((bs.length + 63) / 64) ((bs.length + 63) / 64) (u64s ws), .row 101 2 A3 way.length c3 (stkC way), .row 3 1 A2 n2 c2 (ints o)] ∧ (Met bs.length ws S) ∧ (Fin_ (tg bs) way (S, o) (leftL bs)) ∧ (WayOk (tg bs) way) ∧ (o.length + way.length + unmet bs.length S ≤ bs.length) ∧ (n2 = o.length)) (n := _) ⟨putw (List.replicate ((bs.length + 63) / 64) 0) 0, addS (fun _ => false) 0, [(0, 0)], (sM b9), 1, none, 0, 0, [], rfl, fr.kp [1, 3, 4, 5], (M11.call (Mem.nilrow _ 3 1)), (Met.start bs.length).put (by omega), ⟨s0, hk0, hl0⟩, way_one _ _, by have := unmet_add (n := bs.length) (S := fun _ => false) (t := 0) (by omega) (by omega) rfl; have := unmet_le bs.length (fun _ => false); simp only [List.length_cons, List.length_nil]; omega, rfl⟩ ?_
 clear fr aC M11; rintro n aC w18 ⟨ws, S, way, A3, c3, A2, n2, c2, o, rfl, fr, M19, hmet, hfin, hway, hcnt, hn2⟩
 revert aC
 refine zsq <| zsr <| zpn 2 <| zcm (decide (((way.length : Nat) : Int) > 0)) fun Bw hBw => ?_
 refine zfe ?_
 cases Bw
 have cw : ¬ (((way.length : Nat) : Int) > 0) := of_decide_eq_false hBw.symm
 refine zcF <| zex 0 <| zbh <| zsr ?_
 obtain rfl : way = [] := by cases way with | nil => rfl | cons p r => simp at cw
 have hol : o = leftL bs := hfin
 simp only [List.length_nil] at hcnt
 subst hn2
 refine zpn 1 <| zcl (reverse_c o A2 c2 w18 (by omega) (M19.get 3 rfl)) ?_
 rintro _ w22 ⟨rfl, M23x⟩
 have M23 := M19.md 3 rfl M23x
 refine zfe <| zsp <| zre <| zo1 (.slice A2 o.length c2) ?_
 exact row_ret (M23.pick [false, false, false, true] rfl) (by unfold orderL; rw [if_neg (by omega), hol]) (by simp)
 have cw : ((way.length : Nat) : Int) > 0 := of_decide_eq_true hBw.symm
 refine zcT <| zsk <| zbk 1 <| zsr ?_
 obtain ⟨b, k, rest, rfl⟩ : ∃ b k rest, way = (b, k) :: rest := by
   cases way with
   | nil => simp at cw
   | cons p rest => exact ⟨p.1, p.2, rest, rfl⟩
 have hkl := hway _ (List.mem_cons_self ..)
 simp only at hkl
 have hlw : ((b, k) :: rest).length = rest.length + 1 := rfl
 have hcnt2 := hcnt
 simp only [List.length_cons] at hcnt2
 have hsz := row_le (M19.get 2 rfl)
 obtain ⟨g3, rfl⟩ := row_some (M19.get 2 rfl) (Nat.succ_pos _)
 refine zpn 3 ?_
 intro aC fr
 refine From_arith (by kernel_rfl : coreAt _ 3 = some (some 27, (.binOp .sub 3 (.tmp 26) (.const (.int .i64 1)) 3), 3, none)) fr (by kernel_rfl) (by kernel_rfl) (k' := 4) rfl (i := ((((b, k) :: rest).length : Nat) : Int)) (j := 1) (z := ((rest.length : Nat) : Int)) (by kernel_rfl) (by kernel_rfl) (congrArg some (by rw [hlw]; omega)) (by omega) (by omega) ?_
 intro aC ea fr; clear ea
 revert aC
 refine zix ⟨g3, 0, none⟩ (((b, k) :: rest).length) 2 ((rest.length : Nat) : Int) <| zpn 1 <| zfe <| zsq <| zkp [(1, (pT b1 0)), (3, (.slice (sM g4) ((bs.length + 63) / 64) ((bs.length + 63) / 64))), (4, (.slice A2 n2 c2)), (5, (.slice (sM g3) (((b, k) :: rest).length) c3)), (6, (.pointer (some ((⟨g3, 0, none⟩ : Addr).add ((((rest.length : Nat) : Int)).toNat * 2)))))] ?_
 intro aC fr
 refine zdj (N := 83) (env0 := [(1, (pT b1 0)), (3, (.slice (sM g4) ((bs.length + 63) / 64) ((bs.length + 63) / 64))), (4, (.slice A2 n2 c2)), (5, (.slice (sM g3) (((b, k) :: rest).length) c3)), (6, (.pointer (some ((⟨g3, 0, none⟩ : Addr).add ((((rest.length : Nat) : Int)).toNat * 2)))))]) (specAt [.det (.agg #[nm, wk, pa, va, (.slice A bs.length c)]), .det (.pointer (some ((⟨g3, 0, none⟩ : Addr).add ((((rest.length : Nat) : Int)).toNat * 2)))), .det (.pointer (some ((⟨g3, 0, none⟩ : Addr).add ((((rest.length : Nat) : Int)).toNat * 2)))), .det (.pointer (some ((⟨g3, 0, none⟩ : Addr).add ((((rest.length : Nat) : Int)).toNat * 2)))), .det (.int .i64 b), Spec.free, Spec.free]) (fun ls vs w_ => match ls 6 with | true => (∃ (A28 : Option Addr) (c29 : Nat), vs 6 = (.slice A28 ((tg bs b).length) c29) ∧ Mem noS w w_ [.blk b1 24 [nm, wk, pa, va, (.slice A bs.length c)], .row 137 1 (sM g4) ((bs.length + 63) / 64) ((bs.length + 63) / 64) (u64s ws), .row 101 2 (sM g3) (((b, k) :: rest).length) c3 (stkC ((b, k) :: rest)), .row 3 1 A2 n2 c2 (ints o), .row 3 1 A28 ((tg bs b).length) c29 (ints (tg bs b))]) | false => (match ls 5 with | true => (∃ (A28 : Option Addr) (c29 : Nat), vs 5 = (.slice A28 ((tg bs b).length) c29) ∧ Mem noS w w_ [.blk b1 24 [nm, wk, pa, va, (.slice A bs.length c)], .row 137 1 (sM g4) ((bs.length + 63) / 64) ((bs.length + 63) / 64) (u64s ws), .row 101 2 (sM g3) (((b, k) :: rest).length) c3 (stkC ((b, k) :: rest)), .row 3 1 A2 n2 c2 (ints o), .row 3 1 A28 ((tg bs b).length) c29 (ints (tg bs b))]) | false => (Mem noS w w_ [.blk b1 24 [nm, wk, pa, va, (.slice A bs.length c)], .row 137 1 (sM g4) ((bs.length + 63) / 64) ((bs.length + 63) / 64) (u64s ws), .row 101 2 (sM g3) (((b, k) :: rest).length) c3 (stkC ((b, k) :: rest)), .row 3 1 A2 n2 c2 (ints o)]))) fr (plain_ok (.det (.det (.det (.det (.det (.free (.free .nil)))))))) (M19.then_ (Mem.drew _)) (la (la (la (la (la (la (la lz ?_) (dPJ fun _ _ _ _ h => h)) (dPJ fun _ _ _ _ h => h)) (dPJ fun _ _ _ _ h => h)) (dLJ ((⟨g3, 0, none⟩ : Addr).add ((((rest.length : Nat) : Int)).toNat * 2)) (.int .i64 b) (fun _ _ _ _ h => h) ?_)) ?_) ?_) ?_
 intro aa_ w_ ls vs rest_ hJ hi_ hc_ hp hF
 refine okG (g0 := none) ?_
 replace hF : Fr aa_ 83 [(1, (pT b1 0))] := hF.kp [1]
 have f5 : ls 5 = false := notyet hc_ hi_ (n := 7) (by kernel_rfl)
 have f6 : ls 6 = false := notyet hc_ hi_ (n := 7) (by kernel_rfl)
 have hM_ := hJ
 simp only [f5, f6] at hM_
 refine From_loadS (by kernel_rfl : coreAt _ 0 = some (some 29, (.load 24 (.tmp 1)), 24, none)) hF (by kernel_rfl) (by kernel_rfl) (k' := 1) rfl (ad := ⟨b1, 0, none⟩) (vs := [nm, wk, pa, va, (.slice A bs.length c)]) (by kernel_rfl) (by kernel_rfl) (blk_cells (hM_.get 0 rfl)) ?_
 intro a2 ea _
 refine From_end (by kernel_rfl) ?_; exact op_doneJ (d := some 29) (by kernel_rfl) ea rfl hJ
 intro w_ ls vs hJ hi_ hc_ hp
 have f5 : ls 5 = false := notyet hc_ hi_ (n := 7) (by kernel_rfl)
 have f6 : ls 6 = false := notyet hc_ hi_ (n := 7) (by kernel_rfl)
 have hM_ := hJ
 simp only [f5, f6] at hM_
 exact (by rw [Int.toNat_natCast]; exact rd_get (row_rd (hM_.get 2 rfl)) rfl stk_top.1)
 intro aa_ w_ ls vs rest_ hJ hi_ hc_ hp hF
 refine okG (g0 := none) ?_
 replace hF : Fr aa_ 83 [(29, (.agg #[nm, wk, pa, va, (.slice A bs.length c)])), (33, (.int .i64 b))] := hF.kp [29, 33]
 have f5 : ls 5 = false := hi_
 have f6 : ls 6 = false := notyet hc_ hi_ (n := 7) (by kernel_rfl)
 have hM_ := hJ
 simp only [f5, f6] at hM_
 refine From_call (by kernel_rfl : coreAt _ 0 = some (some 34, (.call { callee := (.value (.func 51)), args := #[(.tmp 29), (.tmp 33)], argTypes := #[24, 3] }), 44, none)) hF (by kernel_rfl) (by kernel_rfl) (k' := 1) rfl (f := 51) (vs := [(.agg #[nm, wk, pa, va, (.slice A bs.length c)]), (.int .i64 b)]) (cap := []) (by kernel_rfl) (by kernel_rfl) (by kernel_rfl) (targets_c _ _ _ _ A c bs b w_ hm (hA.at_ hM_)) ?_
 rintro _ w2 ⟨A28p, c29p, rfl, hm2⟩ a2 ea _
 have hm3 := hM_.call hm2
 refine From_end (by kernel_rfl) ?_; refine op_doneJ (d := some 34) (by kernel_rfl) ea trivial ?_
 show match ls 6 with | true => _ | false => (∃ (A28 : Option Addr) (c29 : Nat), _)
 rw [f6]
 exact ⟨A28p, c29p, rfl, hm3⟩
 intro aa_ w_ ls vs rest_ hJ hi_ hc_ hp hF
 refine okG (g0 := none) ?_
 replace hF : Fr aa_ 83 [(34, vs 5)] := hF.kp [34]
 have f5 : ls 5 = true := donebefore hc_ (fun k hk => (hp k hk).1) (n := 7) (by kernel_rfl)
 have f6 : ls 6 = false := hi_
 have hM_ := hJ
 simp only [f5, f6] at hM_
 obtain ⟨A28p, c29p, e_, hm2⟩ := hM_
 rw [e_] at hF
 refine From_pure1 (by kernel_rfl : coreAt _ 0 = some (some 7, (.assign (.tmp 34)), 44, none)) hF (by kernel_rfl) (by kernel_rfl) (k' := 1) rfl (v := (.slice A28p ((tg bs b).length) c29p)) (by kernel_rfl) ?_
 intro a2 ea _
 refine From_end (by kernel_rfl) ?_; refine op_doneJ (d := some 7) (by kernel_rfl) ea trivial ?_
 show ∃ (A28 : Option Addr) (c29 : Nat), _
 exact ⟨A28p, c29p, rfl, hm2⟩
 intro aC w34 ls vs hall M35 hv fr
 simp only [show ls 6 = true from hall 6 (by decide)] at M35
 revert aC; refine zkp [(1, (pT b1 0)), (3, (.slice (sM g4) ((bs.length + 63) / 64) ((bs.length + 63) / 64))), (4, (.slice A2 n2 c2)), (5, (.slice (sM g3) (((b, k) :: rest).length) c3)), (6, (.pointer (some ((⟨g3, 0, none⟩ : Addr).add ((((rest.length : Nat) : Int)).toNat * 2))))), (7, vs 6)] ?_
 obtain ⟨A28, c29, e_, M35⟩ := M35
 rw [e_]; clear e_
 clear hall hv fr aC M19; clear vs ls
 refine zsq <| zsr <| zpn 3 <| zld (((⟨g3, 0, none⟩ : Addr).add ((((rest.length : Nat) : Int)).toNat * 2)).add 1) (nV k) (by rw [Int.toNat_natCast, add_add]; exact rd_get (row_rd (M35.get 2 rfl)) rfl stk_top.2) <| zpn 2 <| zcm ((k : Int) == (((tg bs b).length : Nat) : Int)) fun Bl hBl => ?_
 refine zfe ?_
 cases Bl
 have cl : ¬ ((k : Int) = (((tg bs b).length : Nat) : Int)) := zne hBl
 refine zcF <| zsk <| zsr ?_
 obtain ⟨ti, hti, htn⟩ := tg_at (bs := bs) (b := b) (k := k) (by omega)
 refine zpn 4 <| zld (((⟨g3, 0, none⟩ : Addr).add ((((rest.length : Nat) : Int)).toNat * 2)).add 1) (nV k) (by rw [Int.toNat_natCast, add_add]; exact rd_get (row_rd (M35.get 2 rfl)) rfl stk_top.2) ?_
 obtain ⟨g37, rfl⟩ := row_some (M35.get 4 rfl) (by omega)
 refine zix (h1 := (by omega)) ⟨g37, 0, none⟩ ((tg bs b).length) 1 (k : Int) <| zld ((⟨g37, 0, none⟩ : Addr).add (((k : Int)).toNat * 1)) (nV ti) (rd_at (row_rd (M35.get 4 rfl)) rfl hti) <| zpn 1 <| zfe <| zsr <| zpn 3 <| zld (((⟨g3, 0, none⟩ : Addr).add ((((rest.length : Nat) : Int)).toNat * 2)).add 1) (nV k) (by rw [Int.toNat_natCast, add_add]; exact rd_get (row_rd (M35.get 2 rfl)) rfl stk_top.2) <| zar (h2 := (by have := tg_len bs b; omega)) ((k : Int) + 1) <| zpn 2 <| zsw M35 2 (((⟨g3, 0, none⟩ : Addr).add ((((rest.length : Nat) : Int)).toNat * 2)).add 1) (rest.length * 2 + 1) (.int .i64 ((k : Int) + 1)) rfl (by rw [Int.toNat_natCast, add_add]) (by rw [hlw]; omega) fun w38 M39 => ?_
 replace M39 := M39.nf
 refine zfe <| zsr ?_
 have M40 : Mem noS w w38 [.blk b1 24 [nm, wk, pa, va, (.slice A bs.length c)], .row 137 1 (sM g4) ((bs.length + 63) / 64) ((bs.length + 63) / 64) (u64s ws), .row 101 2 (sM g3) (((b, k + 1) :: rest).length) c3 (stkC ((b, k + 1) :: rest)), .row 3 1 A2 n2 c2 (ints o), .row 3 1 (sM g37) ((tg bs b).length) c29 (ints (tg bs b))] := M39.cast (by rw [stk_inc]; rfl)
 refine zpn 2 <| zcl (hasb_c ws ((bs.length + 63) / 64) ti (sM g4) ((bs.length + 63) / 64) w38 hmet.fit (by omega) hmet.len.symm (hmet.idx htn) (RO.row_rd (M40.own_ro 1 rfl))) ?_
 rintro _ w41 ⟨rfl, M42x⟩
 have M42 := M40.cl M42x
 obtain ⟨Bm, hBm⟩ : ∃ B, B = tb ws ti := ⟨_, rfl⟩
 refine zkp [(1, (pT b1 0)), (3, (.slice (sM g4) ((bs.length + 63) / 64) ((bs.length + 63) / 64))), (4, (.slice A2 n2 c2)), (5, (.slice (sM g3) (((b, k + 1) :: rest).length) c3)), (8, (nV ti)), (68, (.slice (sM g4) ((bs.length + 63) / 64) ((bs.length + 63) / 64))), (69, (nV ti)), (70, (.bool (tb ws ti)))] ?_
 rw [← hBm]
 refine zpn 1 <| zfe ?_
 cases Bm
 have cm : (tb ws ti) = false := hBm.symm
 have hSt : S (ti : Int) = false := by rw [← hmet.bits ti htn]; exact cm
 refine zcT <| zsr <| zpn 2 <| zcl (put_c ws ((bs.length + 63) / 64) ti (sM g4) ((bs.length + 63) / 64) w41 hmet.fit (by omega) hmet.len.symm (hmet.idx htn) (M42.get 1 rfl)) ?_
 rintro _ w43 ⟨rfl, M44x⟩
 have M44 := M42.md 1 rfl M44x
 refine zfe <| zrg <| zpn 3 ?_
 intro aC fr
 refine zBs 78 102 1 #[(0, (.tmp 77))] 102 fr (e := 101) (size := 2) (zs := [(.int .i64 0), (.int .i64 0)]) (vs := [(0, (.agg #[(nV ti), (.int .i64 0)]))]) (cs := [(nV ti), (.int .i64 0)]) M44 ?_
 intro b45 w46 hb45 _ M47 _ aC ea fr; clear ea
 replace M47 := M47.nf
 refine zAp 79 (.tmp 75) (.tmp 78) 102 102 fr (e := 101) (size := 2) (bytes := 16) (z := (.agg #[(.int .i64 0), (.int .i64 0)])) (A := (sM g3)) (B := (sM b45)) (n := (((b, k + 1) :: rest).length)) (cap := c3) (m := 1) (cap' := 1) (xs := (stkC ((b, k + 1) :: rest))) (news := [(nV ti), (.int .i64 0)]) M47 2 rfl (row_rd (M47.get 5 rfl)) rfl (by simp [Value.oneCell']) (by simp only [List.length_cons]; omega) (by simp only [maxLen, List.length_cons]; omega) ?_
 intro A52 c53 w54 M55 _ aC ea fr; clear ea
 replace M55 := M55.nf
 have M58 := M55.od [4, 4, 4, 4, 4] 5
 revert aC
 refine zpn 1 <| zfe ?_
 intro aC fr
 exact ⟨4 * unmet bs.length (addS S (ti : Int)) + wsum (tg bs) (((ti : Int), 0) :: (b, k + 1) :: rest), by have := tg_len bs (ti : Int); have := unmet_add (n := bs.length) (S := S) (t := (ti : Int)) (by omega) (by omega) hSt; simp only [wsum]; omega, putw ws ti, addS S (ti : Int), ((ti : Int), 0) :: (b, k + 1) :: rest, A52, c53, A2, n2, c2, o, rfl, fr.kp [1, 3, 4, 5], ((M58.pick [true, true, true, true, false] rfl).cast (by rw [stkC_cons ((ti : Int), 0)]; rfl)), hmet.put htn, fin_push hfin hti hSt, way_push hway (by omega), by have := unmet_add (n := bs.length) (S := S) (t := (ti : Int)) (by omega) (by omega) hSt; simp only [List.length_cons] at hcnt ⊢; omega, hn2⟩
 have cm : (tb ws ti) = true := hBm.symm
 have hSt : S (ti : Int) = true := by rw [← hmet.bits ti htn]; exact cm
 refine zcF <| zsk ?_
 intro aC fr
 exact ⟨4 * unmet bs.length S + wsum (tg bs) ((b, k + 1) :: rest), by simp only [wsum]; omega, ws, S, (b, k + 1) :: rest, (sM g3), c3, A2, n2, c2, o, rfl, fr.kp [1, 3, 4, 5], (M42.pick [true, true, true, true, false] rfl), hmet, fin_skip hfin hti hSt, way_inc hway (by omega), by simp only [List.length_cons] at hcnt ⊢; omega, hn2⟩
 have cl : (k : Int) = (((tg bs b).length : Nat) : Int) := beq_iff_eq.1 hBl.symm
 refine zcT <| zsr <| zpn 4 <| zld ((⟨g3, 0, none⟩ : Addr).add ((((rest.length : Nat) : Int)).toNat * 2)) (.int .i64 b) (by rw [Int.toNat_natCast]; exact rd_get (row_rd (M35.get 2 rfl)) rfl stk_top.1) ?_
 intro aC fr
 refine zBs 47 44 1 #[(0, (.tmp 46))] 44 fr (e := 3) (size := 1) (zs := [(.int .i64 0)]) (vs := [(0, (.int .i64 b))]) (cs := [(.int .i64 b)]) M35 ?_
 intro b63 w64 hb63 _ M65 _ aC ea fr; clear ea
 replace M65 := M65.nf
 refine zAp 48 (.tmp 42) (.tmp 47) 44 44 fr (e := 3) (size := 1) (bytes := 8) (z := (.int .i64 0)) (A := A2) (B := (sM b63)) (n := n2) (cap := c2) (m := 1) (cap' := 1) (xs := (ints o)) (news := [(.int .i64 b)]) M65 3 rfl (row_rd (M65.get 5 rfl)) rfl (by simp [Value.oneCell']) (by omega) (by simp only [maxLen]; omega) ?_
 intro A70 c71 w72 M73 _ aC ea fr; clear ea
 replace M73 := M73.nf
 have M76 := M73.od [4, 4, 4, 4, 4] 5
 revert aC
 refine zpn 1 <| zfe <| zsr <| zpn 3 ?_
 intro aC fr
 refine From_arith (by kernel_rfl : coreAt _ 3 = some (some 52, (.binOp .sub 3 (.tmp 51) (.const (.int .i64 1)) 3), 3, none)) fr (by kernel_rfl) (by kernel_rfl) (k' := 4) rfl (i := ((((b, k) :: rest).length : Nat) : Int)) (j := 1) (z := ((rest.length : Nat) : Int)) (by kernel_rfl) (by kernel_rfl) (congrArg some (by rw [hlw]; omega)) (by omega) (by omega) ?_
 intro aC ea fr; clear ea
 refine From_sliceHi (by kernel_rfl : coreAt _ 4 = some (some 53, (.slice 102 (.tmp 49) none (some (.tmp 52)) none), 102, none)) fr (by kernel_rfl) (by kernel_rfl) (k' := 5) rfl (A := (sM g3)) (n := ((b, k) :: rest).length) (cap := c3) (e := 101) (size := 2) (kd := .i64) (i := ((rest.length : Nat) : Int)) rest.length (by kernel_rfl) (by kernel_rfl) rfl (by kernel_rfl) (by kernel_rfl) (by omega) ?_
 intro aC ea fr; clear ea
 have M83 : Mem noS w w72 [.blk b1 24 [nm, wk, pa, va, (.slice A bs.length c)], .row 137 1 (sM g4) ((bs.length + 63) / 64) ((bs.length + 63) / 64) (u64s ws), .row 101 2 (sM g3) rest.length c3 (stkC rest), .row 3 1 A70 (n2 + 1) c71 ((ints o) ++ [(.int .i64 b)]), .row 3 1 A28 ((tg bs b).length) c29 (ints (tg bs b))] := (M76.take_row 2 rfl rest.length (by omega)).cast (by rw [stk_pop]; rfl)
 revert aC
 refine zpn 1 <| zfe <| zex 1 <| zbh ?_
 intro aC fr
 exact ⟨4 * unmet bs.length S + wsum (tg bs) rest, by simp only [wsum]; omega, ws, S, rest, (sM g3), c3, A70, (n2 + 1), c71, o ++ [b], rfl, fr.kp [1, 3, 4, 5], ((M83.pick [true, true, true, true, false] rfl).cast (by rw [ints_append]; rfl)), hmet, fin_pop hfin (by omega), fun p hp => hway p (List.mem_cons_of_mem _ hp), by simp only [List.length_append, List.length_cons, List.length_nil] at hcnt ⊢; omega, by simp only [List.length_append, List.length_cons, List.length_nil]; omega⟩
 have cz : ((bs.length : Nat) : Int) = 0 := beq_iff_eq.1 hBz.symm
 refine zcT <| zsp <| zre <| zo1 (.slice none 0 0) ?_
 exact nil_ret (M3.pick [false] rfl) (by unfold orderL; rw [if_pos (by omega)])
end Go.Proofs.Ytjekgaabcigphaa
namespace Go.Proofs.Ytjekgaabcigphaa
open Go.Mor
end Go.Proofs.Ytjekgaabcigphaa
namespace Go.Proofs.Ytjekgaabcigphaa
open Go.Mor
end Go.Proofs.Ytjekgaabcigphaa
namespace Go.Proofs.Ytjekgaabcigphaa
open Go.Mor
theorem all_c (nm wk pa va : Value) (A : Option Addr) (c : Nat) (bs : List SB) (w : World) (hm : bs.length ≤ 1000000) (hA : RO noS w (.blocks A bs)) :
    Calls Try.prog 19 #[(.agg #[nm, wk, pa, va, (.slice A bs.length c)])] w (Ret fun v w' => ∃ A' c' rows, v = .slice A' bs.length c' ∧ FamOf (Value.int .i64) rows (allL bs) ∧ Mem noS w w' [.fam 3 rows, .row 44 1 A' bs.length c' (slv rows)]) := by
 refine zen 38 [(.agg #[nm, wk, pa, va, (.slice A bs.length c)])] Try.func19 ?_
 have hM := Mem.init w
 refine zsr <| zbx hM 24 (.agg #[nm, wk, pa, va, (.slice A bs.length c)]) [nm, wk, pa, va, (.slice A bs.length c)] fun b1 w2 hb1 M3 => ?_
 replace M3 := M3.nf
 clear hM
 refine zpn 1 <| zfe <| zsr <| zpn 1 <| zld ⟨b1, 4, none⟩ (.slice A bs.length c) (blk_cell (M3.get 0 rfl) rfl) <| zpn 1 ?_
 intro aC fr
 refine zMk 10 52 (.tmp 9) (.tmp 9) 52 fr (e := 44) (bytes := 24) (z := (.slice none 0 0)) (n := bs.length) (i := ((bs.length : Nat) : Int)) (by omega) (by simp only [maxLen]; omega) M3 ?_
 intro b4 w5 hb4 _ M6 _ aC ea fr; clear ea
 replace M6 := M6.nf
 revert aC
 refine zpn 1 <| zfe <| zsq <| zsr <| zpn 1 <| zld ⟨b1, 4, none⟩ (.slice A bs.length c) (blk_cell (M6.get 0 rfl) rfl) <| zpn 2 <| zfe <| zbk 0 ?_
 have M11 := M6.od [1, 1] 2
 have hal := allL_len bs
 intro aC fr
 refine zlp (fun n_ a_ w_ => ∃ (i : Nat) (rows : List RowV), n_ = bs.length - i ∧ Fr a_ 38 [(1, (pT b1 0)), (3, (.slice (sM b4) bs.length bs.length)), (13, (.int .i64 ((bs.length : Nat) : Int))), (14, (nV i))] ∧ Mem noS w w_ [.fam 3 rows, .blk b1 24 [nm, wk, pa, va, (.slice A bs.length c)], .row 44 1 (sM b4) bs.length bs.length (slv rows)] ∧ (i ≤ bs.length) ∧ (FamOf (Value.int .i64) rows (allTo bs i))) (n := _) ⟨0, List.replicate bs.length nilV, rfl, fr.kp [1, 3, 13, 14], (((M11.call (Mem.nilfam _ 3 bs.length)).front 2 rfl).cast (by simp [slv, nilV])), by omega, by rw [all_start]; exact FamOf.nils _⟩ ?_
 clear fr aC M11; rintro n aC w14 ⟨i, rows, rfl, fr, M15, hi, hf⟩
 revert aC
 refine zsr <| zcm (decide ((i : Int) < ((bs.length : Nat) : Int))) fun Bi hBi => ?_
 refine zfe <| zsq ?_
 cases Bi
 have ci : ¬ ((i : Int) < ((bs.length : Nat) : Int)) := of_decide_eq_false hBi.symm
 refine zcF <| zex 0 <| zbh <| zsp <| zre <| zo1 (.slice (sM b4) bs.length bs.length) ?_
 obtain rfl : i = bs.length := by omega
 rw [all_end] at hf
 have M18 := M15.od [2, 1] 2
 exact ⟨_, _, rows, rfl, hf, M18⟩
 have ci : (i : Int) < ((bs.length : Nat) : Int) := of_decide_eq_true hBi.symm
 refine zcT <| zsk <| zsq <| zbk 1 <| zsp <| zsr <| zls ⟨b1, 0, none⟩ [nm, wk, pa, va, (.slice A bs.length c)] (blk_cells (M15.get 1 rfl)) <| zpn 1 <| zcl (vs := #[(.agg #[nm, wk, pa, va, (.slice A bs.length c)]), (nV i)]) (targets_c _ _ _ _ A c bs (i : Int) w14 hm (hA.at_ M15)) ?_
 rintro _ w21 ⟨A19, c20, rfl, M22x⟩
 have M22 := M15.cl M22x
 refine zpn 2 <| zfe <| zbk 2 ?_
 have htl := tg_len bs (i : Int)
 intro aC fr
 refine zlp (fun n_ a_ w_ => ∃ (k : Nat) (rows3 : List RowV), n_ = (tg bs (i : Int)).length - k ∧ Fr a_ 38 [(1, (pT b1 0)), (3, (.slice (sM b4) bs.length bs.length)), (4, (nV i)), (13, (.int .i64 ((bs.length : Nat) : Int))), (14, (nV i)), (19, (.slice A19 ((tg bs (i : Int)).length) c20)), (20, (.int .i64 (((tg bs (i : Int)).length : Nat) : Int))), (21, (nV k))] ∧ Mem noS w w_ [.fam 3 rows3, .blk b1 24 [nm, wk, pa, va, (.slice A bs.length c)], .row 44 1 (sM b4) bs.length bs.length (slv rows3), .row 3 1 A19 ((tg bs (i : Int)).length) c20 (ints (tg bs (i : Int)))] ∧ (k ≤ (tg bs (i : Int)).length) ∧ (FamOf (Value.int .i64) rows3 (allMid bs i k))) (n := _) ⟨0, rows, rfl, fr.kp [1, 3, 4, 13, 14, 19, 20, 21], M22, by omega, by rw [all_mid]; exact hf⟩ ?_
 clear fr aC M22; rintro n aC w25 ⟨k, rows3, rfl, fr, M26, hk, hf3⟩
 revert aC
 refine zsr <| zcm (decide ((k : Int) < (((tg bs (i : Int)).length : Nat) : Int))) fun Bk hBk => ?_
 refine zfe <| zsq ?_
 cases Bk
 have ck : ¬ ((k : Int) < (((tg bs (i : Int)).length : Nat) : Int)) := of_decide_eq_false hBk.symm
 refine zcF <| zex 2 <| zbh <| zrg <| zar ((i : Int) + 1) <| zpn 1 <| zfe ?_
 intro aC fr
 exact ⟨bs.length - (i + 1), by omega, i + 1, rows3, rfl, fr.kp [1, 3, 13, 14], (M26.pick [true, true, true, false] rfl), by omega, by rw [← all_next (k := k) (by omega)]; exact hf3⟩
 have ck : (k : Int) < (((tg bs (i : Int)).length : Nat) : Int) := of_decide_eq_true hBk.symm
 refine zcT <| zsk <| zsq <| zbk 3 <| zsr ?_
 obtain ⟨ti, hti, htn⟩ := tg_at (bs := bs) (b := (i : Int)) (k := k) (by omega)
 obtain ⟨At, ct, hrt⟩ := hf3.get (mid_get hti htn)
 have hsl := srcsTo_len bs (ti : Int) i
 obtain ⟨g32, rfl⟩ := row_some (M26.get 3 rfl) (by omega)
 refine zix ⟨g32, 0, none⟩ ((tg bs (i : Int)).length) 1 (k : Int) <| zld ((⟨g32, 0, none⟩ : Addr).add (((k : Int)).toNat * 1)) (nV ti) (rd_at (row_rd (M26.get 3 rfl)) rfl hti) <| zpn 1 <| zfe <| zrg <| zpn 4 <| zix ⟨b4, 0, none⟩ bs.length 1 (ti : Int) <| zld ((⟨b4, 0, none⟩ : Addr).add (((ti : Int)).toNat * 1)) (.slice At ((srcsTo bs (ti : Int) i).length) ct) (rd_get1 (row_rd (M26.get 2 rfl)) rfl (slv_get hrt)) ?_
 have M33 : Mem noS w w25 [.fam 3 (rows3.set ti nilV), .row 3 1 At ((srcsTo bs (ti : Int) i).length) ct (ints (srcsTo bs (ti : Int) i)), .blk b1 24 [nm, wk, pa, va, (.slice A bs.length c)], .row 44 1 (sM b4) bs.length bs.length (slv rows3), .row 3 1 (sM g32) ((tg bs (i : Int)).length) c20 (ints (tg bs (i : Int)))] := M26.focus ti hrt
 refine zpn 1 ?_
 intro aC fr
 refine zBs 32 44 1 #[(0, (.tmp 31))] 44 fr (e := 3) (size := 1) (zs := [(.int .i64 0)]) (vs := [(0, (nV i))]) (cs := [(nV i)]) M33 ?_
 intro b34 w35 hb34 _ M36 _ aC ea fr; clear ea
 replace M36 := M36.nf
 refine zAp 33 (.tmp 30) (.tmp 32) 44 44 fr (e := 3) (size := 1) (bytes := 8) (z := (.int .i64 0)) (A := At) (B := (sM b34)) (n := ((srcsTo bs (ti : Int) i).length)) (cap := ct) (m := 1) (cap' := 1) (xs := (ints (srcsTo bs (ti : Int) i))) (news := [(nV i)]) M36 1 rfl (row_rd (M36.get 5 rfl)) rfl (by simp [Value.oneCell']) (by omega) (by simp only [maxLen]; omega) ?_
 intro A41 c42 w43 M44 _ aC ea fr; clear ea
 replace M44 := M44.nf
 have M47 := M44.od [4, 4, 4, 4, 4] 5
 revert aC
 refine zix ⟨b4, 0, none⟩ bs.length 1 (ti : Int) <| zsw M47 3 ((⟨b4, 0, none⟩ : Addr).add (((ti : Int)).toNat * 1)) (((ti : Int)).toNat * 1) (.slice A41 (((srcsTo bs (ti : Int) i).length) + 1) c42) rfl rfl (by omega) fun w48 M49 => ?_
 replace M49 := M49.nf
 refine zfe <| zrg ?_
 have M50 := M49.od [4, 4, 4, 4, 4] 5
 have hrl : ti < rows3.length := (List.getElem?_eq_some_iff.1 hrt).1
 have M51 : Mem noS w w48 [.fam 3 ((rows3.set ti nilV).set ti ⟨A41, ((srcsTo bs (ti : Int) i).length) + 1, c42, (ints (srcsTo bs (ti : Int) i)) ++ [(nV i)]⟩), .blk b1 24 [nm, wk, pa, va, (.slice A bs.length c)], .row 44 1 (sM b4) bs.length bs.length ((slv rows3).set (((ti : Int)).toNat * 1) (.slice A41 (((srcsTo bs (ti : Int) i).length) + 1) c42)), .row 3 1 (sM g32) ((tg bs (i : Int)).length) c20 (ints (tg bs (i : Int)))] := M50.unfocus ti (List.getElem?_set_self hrl)
 have M52 : Mem noS w w48 [.fam 3 (rows3.set ti ⟨A41, ((srcsTo bs (ti : Int) i).length) + 1, c42, (ints (srcsTo bs (ti : Int) i)) ++ [(nV i)]⟩), .blk b1 24 [nm, wk, pa, va, (.slice A bs.length c)], .row 44 1 (sM b4) bs.length bs.length (slv (rows3.set ti ⟨A41, ((srcsTo bs (ti : Int) i).length) + 1, c42, (ints (srcsTo bs (ti : Int) i)) ++ [(nV i)]⟩)), .row 3 1 (sM g32) ((tg bs (i : Int)).length) c20 (ints (tg bs (i : Int)))] := M51.cast (by rw [set_twice, slv_set]; simp only [Int.toNat_natCast, Nat.mul_one])
 refine zar ((k : Int) + 1) <| zpn 1 <| zfe ?_
 intro aC fr
 exact ⟨(tg bs (i : Int)).length - (k + 1), by omega, k + 1, (rows3.set ti ⟨A41, ((srcsTo bs (ti : Int) i).length) + 1, c42, (ints (srcsTo bs (ti : Int) i)) ++ [(nV i)]⟩), rfl, fr.kp [1, 3, 4, 13, 14, 19, 20, 21], M52, by omega, by rw [← mid_set hti htn]; exact hf3.set (by simp) (by rw [List.map_append]; rfl)⟩
end Go.Proofs.Ytjekgaabcigphaa
namespace Go.Proofs.Ytjekgaabcigphaa
open Go.Mor
theorem meet_c (g5 g6 : Nat) (ada adb : Addr) (n ca cb : Nat) (atl ab : List Int) (T : Int → List Int) (pl up : Int → Int) (xa xb : Int) (w : World) (_hm : n ≤ 1000000) (h5 : RO noS w (.blk g5 44 [.slice (some ada) n ca])) (h6 : RO noS w (.blk g6 44 [.slice (some adb) n cb])) (hA : RO noS w (.rd (some ada) (ints atl))) (hB : RO noS w (.rd (some adb) (ints ab))) (hmk : Mok T pl up n atl ab) (hxa : Prc pl up xa) (hxb : Prc pl up xb) :
    Calls Try.prog 82 #[(.int .i64 xa), (.int .i64 xb), (pT g5 0), (pT g6 0)] w (Ret fun v w' => ∃ c : Int, v = .int .i64 c ∧ Climb pl up xa xb c ∧ Mem noS w w' []) := by
 refine zen 37 [(.int .i64 xa), (.int .i64 xb), (pT g5 0), (pT g6 0)] Try.func82 ?_
 have hM := Mem.init w
 refine zsp <| zsq <| zbk 0 ?_
 intro aC fr
 refine zlp (fun n_ a_ w_ => ∃ (a1 : Int) (b1 : Int), n_ = (pl a1 + pl b1).toNat ∧ Fr a_ 37 [(0, (.int .i64 a1)), (1, (.int .i64 b1)), (2, (pT g5 0)), (3, (pT g6 0))] ∧ Mem noS w w_ [] ∧ (Prc pl up a1) ∧ (Prc pl up b1) ∧ (∀ c, Climb pl up a1 b1 c → Climb pl up xa xb c)) (n := _) ⟨xa, xb, rfl, fr.kp [0, 1, 2, 3], hM, hxa, hxb, fun _ h => h⟩ ?_
 clear fr aC hM; rintro n aC w3 ⟨a1, b1, rfl, fr, M4, ha1, hb1, hc1⟩
 revert aC
 refine zsq <| zsr <| zpn 2 <| zcm (a1 != b1) fun Bne hBne => ?_
 refine zfe ?_
 cases Bne
 have cne : ¬ (a1 ≠ b1) := znn hBne
 refine zcF <| zex 0 <| zbh <| zsp <| zre <| zo1 (.int .i64 a1) ?_
 obtain rfl : a1 = b1 := by omega
 exact ⟨_, rfl, hc1 _ (.done _), M4⟩
 have cne : a1 ≠ b1 := bne_iff_ne.1 hBne.symm
 refine zcT <| zsk <| zbk 1 <| zsq <| zbk 2 ?_
 intro aC fr
 refine zlp (fun n_ a_ w_ => ∃ (a2 : Int), n_ = (pl a2).toNat ∧ Fr a_ 37 [(0, (.int .i64 a2)), (1, (.int .i64 b1)), (2, (pT g5 0)), (3, (pT g6 0))] ∧ Mem noS w w_ [] ∧ (Prc pl up a2) ∧ (∀ c, Climb pl up a2 b1 c → Climb pl up a1 b1 c) ∧ (a2 = a1 ∨ pl a2 < pl a1)) (n := _) ⟨a1, rfl, fr.kp [0, 1, 2, 3], M4, ha1, fun _ h => h, .inl rfl⟩ ?_
 clear fr aC M4; rintro n aC w9 ⟨a2, rfl, fr, M10, ha2, hc2, hd2⟩
 revert aC
 refine zsq <| zsq ?_
 obtain ⟨Bgt, hBgt⟩ : ∃ B : Bool, B = decide ((pl a2) > (pl b1)) := ⟨_, rfl⟩
 refine zkp [(0, (.int .i64 a2)), (1, (.int .i64 b1)), (2, (pT g5 0)), (3, (pT g6 0))] ?_
 intro aC fr
 refine zdr (N := 37) (env0 := [(0, (.int .i64 a2)), (1, (.int .i64 b1)), (2, (pT g5 0)), (3, (pT g6 0))]) (specAt [.det (.slice (some ada) n ca), .det (.int .i64 a2), .det (.pointer (some ((ada : Addr).add ((a2).toNat * 1)))), .det (.int .i64 (pl a2)), .det (.slice (some ada) n ca), .det (.int .i64 b1), .det (.pointer (some ((ada : Addr).add ((b1).toNat * 1)))), .det (.int .i64 (pl b1)), .det (.bool Bgt)]) fr (la (la (la (la (la (la (la (la (la lz (dL ⟨g5, 0, none⟩ (.slice (some ada) n ca) fun w_ hK => (blk_cell ((M10.then_ hK).ro h5) rfl))) dP) (dI (h0 := (hmk.rng a2 ha2.1).1) (h1 := (hmk.rng a2 ha2.1).2) ada n 1 a2)) (dL ((ada : Addr).add ((a2).toNat * 1)) (.int .i64 (pl a2)) fun w_ hK => (rd_get1 ((M10.then_ hK).ro hA) rfl (hmk.at0 ha2)))) (dL ⟨g5, 0, none⟩ (.slice (some ada) n ca) fun w_ hK => (blk_cell ((M10.then_ hK).ro h5) rfl))) dP) (dI (h0 := (hmk.rng b1 hb1.1).1) (h1 := (hmk.rng b1 hb1.1).2) ada n 1 b1)) (dL ((ada : Addr).add ((b1).toNat * 1)) (.int .i64 (pl b1)) fun w_ hK => (rd_get1 ((M10.then_ hK).ro hA) rfl (hmk.at0 hb1)))) (dC (decide ((pl a2) > (pl b1))) hBgt)) ?_
 intro aC w17 vs hK hv fr
 revert aC; refine zkp [(0, (.int .i64 a2)), (1, (.int .i64 b1)), (2, (pT g5 0)), (3, (pT g6 0)), (18, (.bool Bgt))] ?_
 have M18 := M10.then_ hK
 clear hK hv fr aC M10; clear vs
 cases Bgt
 have cgt : ¬ ((pl a2) > (pl b1)) := of_decide_eq_false hBgt.symm
 refine zcF <| zex 2 <| zbh <| zbk 4 ?_
 intro aC fr
 refine zlp (fun n_ a_ w_ => ∃ (b2 : Int), n_ = (pl b2).toNat ∧ Fr a_ 37 [(0, (.int .i64 a2)), (1, (.int .i64 b2)), (2, (pT g5 0)), (3, (pT g6 0))] ∧ Mem noS w w_ [] ∧ (Prc pl up b2) ∧ (∀ c, Climb pl up a2 b2 c → Climb pl up a2 b1 c) ∧ (b2 = b1 ∨ pl b2 < pl b1)) (n := _) ⟨b1, rfl, fr.kp [0, 1, 2, 3], M18, hb1, fun _ h => h, .inl rfl⟩ ?_
 clear fr aC M18; rintro n aC w21 ⟨b2, rfl, fr, M22, hb2, hc3, hd3⟩
 revert aC
 refine zsq <| zsq ?_
 obtain ⟨Bgu, hBgu⟩ : ∃ B : Bool, B = decide ((pl b2) > (pl a2)) := ⟨_, rfl⟩
 refine zkp [(0, (.int .i64 a2)), (1, (.int .i64 b2)), (2, (pT g5 0)), (3, (pT g6 0))] ?_
 intro aC fr
 refine zdr (N := 37) (env0 := [(0, (.int .i64 a2)), (1, (.int .i64 b2)), (2, (pT g5 0)), (3, (pT g6 0))]) (specAt [.det (.slice (some ada) n ca), .det (.int .i64 b2), .det (.pointer (some ((ada : Addr).add ((b2).toNat * 1)))), .det (.int .i64 (pl b2)), .det (.slice (some ada) n ca), .det (.int .i64 a2), .det (.pointer (some ((ada : Addr).add ((a2).toNat * 1)))), .det (.int .i64 (pl a2)), .det (.bool Bgu)]) fr (la (la (la (la (la (la (la (la (la lz (dL ⟨g5, 0, none⟩ (.slice (some ada) n ca) fun w_ hK => (blk_cell ((M22.then_ hK).ro h5) rfl))) dP) (dI (h0 := (hmk.rng b2 hb2.1).1) (h1 := (hmk.rng b2 hb2.1).2) ada n 1 b2)) (dL ((ada : Addr).add ((b2).toNat * 1)) (.int .i64 (pl b2)) fun w_ hK => (rd_get1 ((M22.then_ hK).ro hA) rfl (hmk.at0 hb2)))) (dL ⟨g5, 0, none⟩ (.slice (some ada) n ca) fun w_ hK => (blk_cell ((M22.then_ hK).ro h5) rfl))) dP) (dI (h0 := (hmk.rng a2 ha2.1).1) (h1 := (hmk.rng a2 ha2.1).2) ada n 1 a2)) (dL ((ada : Addr).add ((a2).toNat * 1)) (.int .i64 (pl a2)) fun w_ hK => (rd_get1 ((M22.then_ hK).ro hA) rfl (hmk.at0 ha2)))) (dC (decide ((pl b2) > (pl a2))) hBgu)) ?_
 intro aC w29 vs hK hv fr
 revert aC; refine zkp [(0, (.int .i64 a2)), (1, (.int .i64 b2)), (2, (pT g5 0)), (3, (pT g6 0)), (31, (.bool Bgu))] ?_
 have M30 := M22.then_ hK
 clear hK hv fr aC M22; clear vs
 cases Bgu
 have cgu : ¬ ((pl b2) > (pl a2)) := of_decide_eq_false hBgu.symm
 refine zcF <| zex 4 <| zbh ?_
 intro aC fr
 exact ⟨(pl a2 + pl b2).toNat, meet_dec hmk ha1 ha2 hb2 cne hd2 hd3 cgt cgu, a2, b2, rfl, fr.kp [0, 1, 2, 3], M30, ha2, hb2, fun c h => hc1 c (hc2 c (hc3 c h))⟩
 have cgu : (pl b2) > (pl a2) := of_decide_eq_true hBgu.symm
 refine zcT <| zsk <| zbk 5 <| zrg <| zld ⟨g6, 0, none⟩ (.slice (some adb) n cb) (blk_cell (M30.ro h6) rfl) <| zpn 1 <| zix (h0 := (hmk.rng b2 hb2.1).1) (h1 := (hmk.rng b2 hb2.1).2) adb n 1 b2 <| zld ((adb : Addr).add ((b2).toNat * 1)) (.int .i64 (up b2)) (rd_get1 (M30.ro hB) rfl (hmk.up0 hb2)) <| zpn 1 <| zfe ?_
 have hne := hmk.ne0 ha2 cgu
 obtain ⟨hl1, hl2⟩ := hmk.ok.low b2 hb2 hne
 have hl0 := hl1.1
 intro aC fr
 exact ⟨(pl (up b2)).toNat, by omega, up b2, rfl, fr.kp [0, 1, 2, 3], M30, hl1, fun c h => hc3 c (.right cgu h), .inr (by rcases hd3 with hd3 | hd3 <;> (try subst hd3) <;> omega)⟩
 have cgt : (pl a2) > (pl b1) := of_decide_eq_true hBgt.symm
 refine zcT <| zsk <| zbk 3 <| zrg <| zld ⟨g6, 0, none⟩ (.slice (some adb) n cb) (blk_cell (M18.ro h6) rfl) <| zpn 1 <| zix (h0 := (hmk.rng a2 ha2.1).1) (h1 := (hmk.rng a2 ha2.1).2) adb n 1 a2 <| zld ((adb : Addr).add ((a2).toNat * 1)) (.int .i64 (up a2)) (rd_get1 (M18.ro hB) rfl (hmk.up0 ha2)) <| zpn 1 <| zfe ?_
 have hne := hmk.ne0 hb1 cgt
 obtain ⟨hl1, hl2⟩ := hmk.ok.low a2 ha2 hne
 have hl0 := hl1.1
 intro aC fr
 exact ⟨(pl (up a2)).toNat, by omega, up a2, rfl, fr.kp [0, 1, 2, 3], M18, hl1, fun c h => hc2 c (.left cgt h), .inr (by rcases hd2 with hd2 | hd2 <;> (try subst hd2) <;> omega)⟩
end Go.Proofs.Ytjekgaabcigphaa
namespace Go.Proofs.Ytjekgaabcigphaa
open Go.Mor
theorem tree_c (nm wk pa va : Value) (A : Option Addr) (c : Nat) (bs : List SB) (w : World) (hm : bs.length ≤ 1000000) (hA : RO noS w (.blocks A bs)) :
    Calls Try.prog 61 #[(.agg #[nm, wk, pa, va, (.slice A bs.length c)])] w (Ret fun v w' => ∃ A1 c1 A2 c2, v = .tuple #[.slice A1 bs.length c1, .slice A2 bs.length c2] ∧ FinUp bs ∧ Mem noS w w' [.row 3 1 A1 bs.length c1 (ints (raboveL bs)), .row 3 1 A2 bs.length c2 (ints (atL bs))]) := by
 refine zen 112 [(.agg #[nm, wk, pa, va, (.slice A bs.length c)])] Try.func61 ?_
 have hM := Mem.init w
 refine zsr <| zbx hM 24 (.agg #[nm, wk, pa, va, (.slice A bs.length c)]) [nm, wk, pa, va, (.slice A bs.length c)] fun b1 w2 hb1 M3 => ?_
 replace M3 := M3.nf
 clear hM
 refine zpn 2 <| zfe <| zsr <| zls ⟨b1, 0, none⟩ [nm, wk, pa, va, (.slice A bs.length c)] (blk_cells (M3.get 0 rfl)) <| zcl (vs := #[(.agg #[nm, wk, pa, va, (.slice A bs.length c)])]) (order_c _ _ _ _ A c bs w2 hm (hA.at_ M3)) ?_
 rintro _ w6 ⟨A4, c5, rfl, M7x⟩
 have M7 := M3.cl M7x
 refine zpn 1 <| zfe <| zsr <| zpn 1 <| zld ⟨b1, 4, none⟩ (.slice A bs.length c) (blk_cell (M7.get 0 rfl) rfl) <| zpn 1 ?_
 intro aC fr
 refine zMk 23 44 (.tmp 22) (.tmp 22) 44 fr (e := 3) (bytes := 8) (z := (.int .i64 0)) (n := bs.length) (i := ((bs.length : Nat) : Int)) (by omega) (by simp only [maxLen]; omega) M7 ?_
 intro b8 w9 hb8 _ M10 _ aC ea fr; clear ea
 replace M10 := M10.nf
 revert aC
 refine zal M10 44 [(.slice none 0 0)] fun b15 w16 hb15 M17 => ?_
 replace M17 := M17.nf
 refine zsb M17 3 0 (.slice (sM b8) bs.length bs.length) rfl fun w18 M19 => ?_
 replace M19 := M19.nf
 refine zfe <| zsr <| zpn 1 <| zld ⟨b1, 4, none⟩ (.slice A bs.length c) (blk_cell (M19.get 0 rfl) rfl) <| zpn 1 ?_
 intro aC fr
 refine zMk 27 44 (.tmp 26) (.tmp 26) 44 fr (e := 3) (bytes := 8) (z := (.int .i64 0)) (n := bs.length) (i := ((bs.length : Nat) : Int)) (by omega) (by simp only [maxLen]; omega) M19 ?_
 intro b20 w21 hb20 _ M22 _ aC ea fr; clear ea
 replace M22 := M22.nf
 revert aC
 refine zal M22 44 [(.slice none 0 0)] fun b27 w28 hb27 M29 => ?_
 replace M29 := M29.nf
 refine zkp [(1, (pT b1 0)), (4, (.slice A4 ((orderL bs).length) c5)), (5, (pT b15 0)), (6, (pT b27 0)), (27, (.slice (sM b20) bs.length bs.length))] <| zsb M29 5 0 (.slice (sM b20) bs.length bs.length) rfl fun w30 M31 => ?_
 replace M31 := M31.nf
 refine zfe <| zsq <| zsr <| zld ⟨b15, 0, none⟩ (.slice (sM b8) bs.length bs.length) (blk_cell (M31.get 3 rfl) rfl) <| zpn 2 <| zfe <| zbk 0 ?_
 intro aC fr
 refine zlp (fun n_ a_ w_ => ∃ (i : Nat) (m1 : List Int) (m2 : List Int), n_ = bs.length - i ∧ Fr a_ 112 [(1, (pT b1 0)), (4, (.slice A4 ((orderL bs).length) c5)), (5, (pT b15 0)), (6, (pT b27 0)), (29, (.int .i64 ((bs.length : Nat) : Int))), (30, (nV i))] ∧ Mem noS w w_ [.blk b1 24 [nm, wk, pa, va, (.slice A bs.length c)], .row 3 1 A4 ((orderL bs).length) c5 (ints (orderL bs)), .row 3 1 (sM b8) bs.length bs.length (ints m1), .blk b15 44 [(.slice (sM b8) bs.length bs.length)], .row 3 1 (sM b20) bs.length bs.length (ints m2), .blk b27 44 [(.slice (sM b20) bs.length bs.length)]] ∧ (i ≤ bs.length) ∧ (IntsOf bs.length m1 (fillF i)) ∧ (IntsOf bs.length m2 (fillF i))) (n := _) ⟨0, List.replicate bs.length 0, List.replicate bs.length 0, rfl, fr.kp [1, 4, 5, 6, 29, 30], (M31.cast (by simp [ints])), by omega, fill_start _, fill_start _⟩ ?_
 clear fr aC M31; rintro n aC w34 ⟨i, m1, m2, rfl, fr, M35, hi, h1, h2⟩
 revert aC
 refine zsr <| zcm (decide ((i : Int) < ((bs.length : Nat) : Int))) fun Bi hBi => ?_
 refine zfe <| zsq ?_
 cases Bi
 have ci : ¬ ((i : Int) < ((bs.length : Nat) : Int)) := of_decide_eq_false hBi.symm
 refine zcF <| zex 0 <| zbh <| zsq <| zsp <| zbk 2 ?_
 have hol := orderL_len bs
 intro aC fr
 refine zlp (fun n_ a_ w_ => ∃ (k : Nat) (m3 : List Int), n_ = (orderL bs).length - k ∧ Fr a_ 112 [(1, (pT b1 0)), (4, (.slice A4 ((orderL bs).length) c5)), (5, (pT b15 0)), (6, (pT b27 0)), (40, (.slice A4 ((orderL bs).length) c5)), (41, (.int .i64 (((orderL bs).length : Nat) : Int))), (42, (nV k))] ∧ Mem noS w w_ [.blk b1 24 [nm, wk, pa, va, (.slice A bs.length c)], .row 3 1 A4 ((orderL bs).length) c5 (ints (orderL bs)), .row 3 1 (sM b8) bs.length bs.length (ints m3), .blk b15 44 [(.slice (sM b8) bs.length bs.length)], .row 3 1 (sM b20) bs.length bs.length (ints m2), .blk b27 44 [(.slice (sM b20) bs.length bs.length)]] ∧ (k ≤ (orderL bs).length) ∧ (IntsOf bs.length m3 (plc ((orderL bs).take k)))) (n := _) ⟨0, m1, rfl, fr.kp [1, 4, 5, 6, 40, 41, 42], M35, by omega, places_start bs (fill_end h1 (by omega))⟩ ?_
 clear fr aC M35; rintro n aC w40 ⟨k, m3, rfl, fr, M41, hk, h3⟩
 revert aC
 refine zsr <| zcm (decide ((k : Int) < (((orderL bs).length : Nat) : Int))) fun Bk hBk => ?_
 refine zfe <| zsq ?_
 cases Bk
 have ck : ¬ ((k : Int) < (((orderL bs).length : Nat) : Int)) := of_decide_eq_false hBk.symm
 refine zcF <| zex 2 <| zbh <| zsr ?_
 have hat := places_end h3 (by omega)
 have hab0 := fill_end h2 (by omega)
 refine zls ⟨b1, 0, none⟩ [nm, wk, pa, va, (.slice A bs.length c)] (blk_cells (M41.get 0 rfl)) <| zcl (vs := #[(.agg #[nm, wk, pa, va, (.slice A bs.length c)])]) (all_c _ _ _ _ A c bs w40 hm (hA.at_ M41)) ?_
 rintro _ w47 ⟨A44, c45, rows46, rfl, hfrows46, M48x⟩
 have M48 := M41.cl M48x
 refine zpn 1 <| zfe <| zsp <| zsq <| zsp <| zbk 4 ?_
 intro aC fr
 refine zlp (fun n_ a_ w_ => ∃ (k : Nat) (ab : List Int) (up : Int → Int) (Bt : Bool), n_ = bs.length + 3 - k ∧ Fr a_ 112 [(4, (.slice A4 ((orderL bs).length) c5)), (5, (pT b15 0)), (6, (pT b27 0)), (10, (.slice A44 bs.length c45)), (11, (.func (.func 82) #[] #[(pT b15 0), (pT b27 0)])), (12, (.bool Bt))] ∧ Mem noS w w_ [.blk b1 24 [nm, wk, pa, va, (.slice A bs.length c)], .row 3 1 A4 ((orderL bs).length) c5 (ints (orderL bs)), .row 3 1 (sM b8) bs.length bs.length (ints m3), .blk b15 44 [(.slice (sM b8) bs.length bs.length)], .row 3 1 (sM b20) bs.length bs.length (ints ab), .blk b27 44 [(.slice (sM b20) bs.length bs.length)], .fam 3 rows46, .row 44 1 A44 bs.length c45 (slv rows46)] ∧ (IntsOf bs.length ab up) ∧ (0 < bs.length → Rnd (tg bs) (plB bs) up k 0) ∧ (Bt = false → 1 ≤ k ∧ ∃ j, Stl (tg bs) (plB bs) up j ∧ ∀ x, plB bs x ≤ j) ∧ (Bt = true → k ≤ bs.length + 2)) (n := _) ⟨0, m2, fun _ => -1, true, rfl, fr.kp [4, 5, 6, 10, 11, 12], M48, hab0, fun h => Rnd.start (plB_plc h), fun h => Bool.noConfusion h, fun _ => by omega⟩ ?_
 clear fr aC M48; rintro n aC w51 ⟨k, ab, up, Bt, rfl, fr, M52, habs, hhd, hstl, hlim⟩
 revert aC
 refine zsq <| zsp ?_
 cases Bt
 refine zcF <| zex 4 <| zbh <| zsq ?_
 obtain ⟨hk1, jj, hs1, hs2⟩ := hstl rfl
 have hfin := fin_up hhd hk1 hs1 hs2 habs
 obtain rfl := ab_end hhd hk1 hs1 hs2 habs
 obtain rfl := hat.ext (atL_of bs)
 refine zkp [(4, (.slice A4 ((orderL bs).length) c5)), (5, (pT b15 0)), (6, (pT b27 0)), (10, (.slice A44 bs.length c45)), (11, (.func (.func 82) #[] #[(pT b15 0), (pT b27 0)])), (55, (.bool false))] ?_
 intro aC fr
 refine zdr (N := 112) (env0 := [(4, (.slice A4 ((orderL bs).length) c5)), (5, (pT b15 0)), (6, (pT b27 0)), (10, (.slice A44 bs.length c45)), (11, (.func (.func 82) #[] #[(pT b15 0), (pT b27 0)])), (55, (.bool false))]) (specAt [.det (.slice (sM b20) bs.length bs.length), .det (.slice (sM b8) bs.length bs.length), .det (.slice (sM b20) bs.length bs.length), .det (.slice (sM b8) bs.length bs.length)]) fr (la (la (la (la lz (dL ⟨b27, 0, none⟩ (.slice (sM b20) bs.length bs.length) fun w_ hK => (blk_cell ((M52.then_ hK).get 5 rfl) rfl))) (dL ⟨b15, 0, none⟩ (.slice (sM b8) bs.length bs.length) fun w_ hK => (blk_cell ((M52.then_ hK).get 3 rfl) rfl))) dP) dP) ?_
 intro aC w59 vs hK hv fr
 revert aC; refine zkp [(2, (.slice (sM b20) bs.length bs.length)), (3, (.slice (sM b8) bs.length bs.length))] ?_
 have M60 := M52.then_ hK
 clear hK hv fr aC M52; clear vs
 refine zre <| zo2 (.slice (sM b20) bs.length bs.length) (.slice (sM b8) bs.length bs.length) ?_
 have M61 := M60.od [2, 4] 2
 exact ⟨_, _, _, _, rfl, hfin, M61⟩
 refine zcT <| zsk <| zbk 5 <| zsp <| zsr <| zpn 3 ?_
 intro aC fr
 obtain ⟨m0, hm0⟩ : ∃ m0 : Nat, m0 = min 1 (orderL bs).length := ⟨_, rfl⟩
 refine From_min (by kernel_rfl : coreAt _ 3 = some (some 59, (.call { callee := (.builtin .min), args := #[(.const (.int .i64 1)), (.tmp 58)], argTypes := #[3, 3] }), 3, none)) fr (by kernel_rfl) (by kernel_rfl) (k' := 4) rfl (kd := .i64) (i := 1) (j := (((orderL bs).length : Nat) : Int)) (by kernel_rfl) (by kernel_rfl) (m0 : Int) (by split <;> omega) ?_
 intro aC ea fr; clear ea
 refine From_sliceLo (by kernel_rfl : coreAt _ 4 = some (some 60, (.slice 44 (.tmp 56) (some (.tmp 59)) none none), 44, none)) fr (by kernel_rfl) (by kernel_rfl) (k' := 5) rfl (A := A4) (n := (orderL bs).length) (cap := c5) (e := 3) (size := 1) (kd := .i64) (i := (m0 : Int)) m0 (by kernel_rfl) (by kernel_rfl) rfl (by kernel_rfl) (by kernel_rfl) (by omega) ?_
 intro aC ea fr; clear ea
 obtain ⟨A60, hA60⟩ : ∃ A60, A60 = (if c5 = m0 then A4 else A4.map (fun y => y.add (m0 * 1))) := ⟨_, rfl⟩
 revert aC
 refine zkp [(4, (.slice A4 ((orderL bs).length) c5)), (5, (pT b15 0)), (6, (pT b27 0)), (10, (.slice A44 bs.length c45)), (11, (.func (.func 82) #[] #[(pT b15 0), (pT b27 0)])), (12, (.bool false)), (60, (.slice (if c5 = m0 then A4 else A4.map (fun y => y.add (m0 * 1))) ((orderL bs).length - m0) (c5 - m0)))] ?_
 intro aC fr
 rw [← hA60] at fr
 revert aC
 refine zpn 2 <| zfe <| zbk 6 ?_
 intro aC fr
 refine zlp (fun n_ a_ w_ => ∃ (j : Nat) (ab2 : List Int) (up2 : Int → Int) (Bt2 : Bool), n_ = (orderL bs).length - m0 - j ∧ Fr a_ 112 [(4, (.slice A4 ((orderL bs).length) c5)), (5, (pT b15 0)), (6, (pT b27 0)), (10, (.slice A44 bs.length c45)), (11, (.func (.func 82) #[] #[(pT b15 0), (pT b27 0)])), (12, (.bool Bt2)), (60, (.slice A60 ((orderL bs).length - m0) (c5 - m0))), (61, (.int .i64 ((((orderL bs).length - m0) : Nat) : Int))), (62, (nV j))] ∧ Mem noS w w_ [.blk b1 24 [nm, wk, pa, va, (.slice A bs.length c)], .row 3 1 A4 ((orderL bs).length) c5 (ints (orderL bs)), .row 3 1 (sM b8) bs.length bs.length (ints m3), .blk b15 44 [(.slice (sM b8) bs.length bs.length)], .row 3 1 (sM b20) bs.length bs.length (ints ab2), .blk b27 44 [(.slice (sM b20) bs.length bs.length)], .fam 3 rows46, .row 44 1 A44 bs.length c45 (slv rows46)] ∧ (j ≤ (orderL bs).length - m0) ∧ (IntsOf bs.length ab2 up2) ∧ (0 < bs.length → Rnd (tg bs) (plB bs) up2 k (j : Int)) ∧ (Bt2 = false → Stl (tg bs) (plB bs) up2 (j : Int)) ∧ (bs.length + 2 ≤ k → Bt2 = false)) (n := _) ⟨0, ab, up, false, rfl, fr.kp [4, 5, 6, 10, 11, 12, 60, 61, 62], M52, by omega, habs, hhd, fun _ => Stl.start, fun _ => rfl⟩ ?_
 clear fr aC M52; rintro n aC w72 ⟨j, ab2, up2, Bt2, rfl, fr, M73, hj, habs2, hrd, hst, hfu⟩
 revert aC
 refine zsr <| zcm (decide ((j : Int) < ((((orderL bs).length - m0) : Nat) : Int))) fun Bj hBj => ?_
 refine zfe <| zsq ?_
 cases Bj
 have cj : ¬ ((j : Int) < ((((orderL bs).length - m0) : Nat) : Int)) := of_decide_eq_false hBj.symm
 refine zcF <| zex 6 <| zbh ?_
 intro aC fr
 exact ⟨bs.length + 3 - (k + 1), by have := hlim rfl; omega, k + 1, ab2, up2, Bt2, rfl, fr.kp [4, 5, 6, 10, 11, 12], M73, habs2, fun h => (hrd h).turn (plB_plc h) (fun x => by have := plB_lt bs x; omega), fun h => ⟨by omega, _, hst h, fun x => by have := plB_lt bs x; omega⟩, fun h => lim_next hfu h⟩
 have cj : (j : Int) < ((((orderL bs).length - m0) : Nat) : Int) := of_decide_eq_true hBj.symm
 refine zcT <| zsk <| zsq <| zbk 7 <| zsr ?_
 obtain ⟨go, rfl⟩ := row_some (M73.get 1 rfl) (by omega)
 have hco := row_le (M73.get 1 rfl)
 obtain rfl : A60 = some ((⟨go, 0, none⟩ : Addr).add (1 * 1)) := by rw [hA60, if_neg (by omega), show m0 = 1 by omega]; rfl
 obtain ⟨bi, hbj, hbn, hpb⟩ := ord_drop (bs := bs) (j := j) (by omega)
 have hn0 : 0 < bs.length := by omega
 have hP := plB_plc hn0
 have hrd0 := hrd hn0
 have hb0 : (bi : Int) ≠ 0 := by intro e; rw [e, hP.zero] at hpb; omega
 have hrg : ∀ x, 0 ≤ plB bs x → 0 ≤ x := fun x hx => (plB_rng hn0 hx).1
 obtain ⟨Ab, cb, hrb⟩ := hfrows46.get (allL_get hbn)
 have hsl : (srcs bs (bi : Int)).length ≤ bs.length := srcsTo_len bs _ _
 have hmk : Mok (tg bs) (plB bs) up2 bs.length m3 ab2 := ⟨hP, hrd0.ok, fun x hx => plB_rng hn0 hx, hat, habs2⟩
 refine zix ((⟨go, 0, none⟩ : Addr).add (1 * 1)) ((orderL bs).length - m0) 1 (j : Int) <| zld ((((⟨go, 0, none⟩ : Addr).add (1 * 1)) : Addr).add (((j : Int)).toNat * 1)) (nV bi) (rd_at (rd_tail (row_rd (M73.get 1 rfl))) rfl hbj) <| zpn 1 <| zfe <| zsp <| zsq <| zsr <| zpn 2 ?_
 obtain ⟨g79, rfl⟩ := row_some (M73.get 7 rfl) (by omega)
 refine zix ⟨g79, 0, none⟩ bs.length 1 (bi : Int) <| zld ((⟨g79, 0, none⟩ : Addr).add (((bi : Int)).toNat * 1)) (.slice Ab ((srcs bs (bi : Int)).length) cb) (rd_get1 (row_rd (M73.get 7 rfl)) rfl (slv_get hrb)) <| zpn 2 <| zfe <| zbk 8 ?_
 intro aC fr
 refine zlp (fun n_ a_ w_ => ∃ (q : Nat) (to : Int), n_ = (srcs bs (bi : Int)).length - q ∧ Fr a_ 112 [(4, (.slice (sM go) ((orderL bs).length) c5)), (5, (pT b15 0)), (6, (pT b27 0)), (10, (.slice (sM g79) bs.length c45)), (11, (.func (.func 82) #[] #[(pT b15 0), (pT b27 0)])), (12, (.bool Bt2)), (14, (nV bi)), (15, (.int .i64 to)), (60, (.slice (some ((⟨go, 0, none⟩ : Addr).add (1 * 1))) ((orderL bs).length - m0) (c5 - m0))), (61, (.int .i64 ((((orderL bs).length - m0) : Nat) : Int))), (62, (nV j)), (69, (.slice Ab ((srcs bs (bi : Int)).length) cb)), (70, (.int .i64 (((srcs bs (bi : Int)).length : Nat) : Int))), (71, (nV q))] ∧ Mem noS w w_ [.blk b1 24 [nm, wk, pa, va, (.slice A bs.length c)], .row 3 1 (sM go) ((orderL bs).length) c5 (ints (orderL bs)), .row 3 1 (sM b8) bs.length bs.length (ints m3), .blk b15 44 [(.slice (sM b8) bs.length bs.length)], .row 3 1 (sM b20) bs.length bs.length (ints ab2), .blk b27 44 [(.slice (sM b20) bs.length bs.length)], .fam 3 rows46, .row 44 1 (sM g79) bs.length c45 (slv rows46)] ∧ (q ≤ (srcs bs (bi : Int)).length) ∧ (Fold (tg bs) (plB bs) up2 ((srcs bs (bi : Int)).take q) to)) (n := _) ⟨0, -1, rfl, fr.kp [4, 5, 6, 10, 11, 12, 14, 15, 60, 61, 62, 69, 70, 71], M73, by omega, Fold.start⟩ ?_
 clear fr aC M73; rintro n aC w82 ⟨q, to, rfl, fr, M83, hq, hfd⟩
 revert aC
 refine zsr <| zcm (decide ((q : Int) < (((srcs bs (bi : Int)).length : Nat) : Int))) fun Bq hBq => ?_
 refine zfe <| zsq ?_
 cases Bq
 have cq : ¬ ((q : Int) < (((srcs bs (bi : Int)).length : Nat) : Int)) := of_decide_eq_false hBq.symm
 refine zcF <| zex 8 <| zbh <| zsr ?_
 rw [List.take_of_length_le (by omega)] at hfd
 obtain ⟨k1, k2, k3, k4, k5, k6⟩ := hrd0.step hP hrg (by omega) hpb (src_iff hn0) hfd
 refine zld ⟨b27, 0, none⟩ (.slice (sM b20) bs.length bs.length) (blk_cell (M83.get 5 rfl) rfl) <| zpn 1 <| zix ⟨b20, 0, none⟩ bs.length 1 (bi : Int) <| zld ((⟨b20, 0, none⟩ : Addr).add (((bi : Int)).toNat * 1)) (.int .i64 (up2 (bi : Int))) (rd_get1 (row_rd (M83.get 4 rfl)) rfl (habs2.at_ (by omega) (by omega))) <| zpn 1 <| zcm ((up2 (bi : Int)) != to) fun Bch hBch => ?_
 refine zfe ?_
 cases Bch
 have cch : ¬ ((up2 (bi : Int)) ≠ to) := znn hBch
 have k7 : Rnd (tg bs) (plB bs) up2 k ((j + 1 : Nat) : Int) := by have := k6; rw [show to = up2 (bi : Int) by omega, upd_same] at this; exact this
 refine zcF <| zsk <| zrg <| zar ((j : Int) + 1) <| zpn 1 <| zfe ?_
 intro aC fr
 exact ⟨(orderL bs).length - m0 - (j + 1), by omega, j + 1, ab2, up2, Bt2, rfl, fr.kp [4, 5, 6, 10, 11, 12, 60, 61, 62], M83, by omega, habs2, fun _ => k7, fun h => (hst h).next hP hpb (hrd0.keep hpb k1 (by omega) k4), hfu⟩
 have cch : (up2 (bi : Int)) ≠ to := bne_iff_ne.1 hBch.symm
 refine zcT <| zsr <| zld ⟨b27, 0, none⟩ (.slice (sM b20) bs.length bs.length) (blk_cell (M83.get 5 rfl) rfl) <| zpn 2 <| zix ⟨b20, 0, none⟩ bs.length 1 (bi : Int) <| zsw M83 4 ((⟨b20, 0, none⟩ : Addr).add (((bi : Int)).toNat * 1)) (((bi : Int)).toNat * 1) (.int .i64 to) rfl rfl (by omega) fun w88 M89 => ?_
 replace M89 := M89.nf
 refine zfe <| zrp <| zrg <| zar ((j : Int) + 1) <| zpn 1 <| zfe ?_
 intro aC fr
 exact ⟨(orderL bs).length - m0 - (j + 1), by omega, j + 1, ab2.set bi to, updI up2 (bi : Int) to, true, rfl, fr.kp [4, 5, 6, 10, 11, 12, 60, 61, 62], (M89.cast (by rw [ints_set]; simp only [Int.toNat_natCast, Nat.mul_one])), by omega, habs2.set hbn upd_at (fun q _ hne => upd_ne (by omega)), fun _ => k6, fun h => Bool.noConfusion h, fun h => absurd (hrd0.full hP (fun x hx => reach_rng hn0 hx) h (by omega) hb0 k2 k3 k4 k5) cch⟩
 have cq : (q : Int) < (((srcs bs (bi : Int)).length : Nat) : Int) := of_decide_eq_true hBq.symm
 refine zcT <| zsk <| zsq <| zbk 9 <| zsr ?_
 obtain ⟨si, hsi, hsn⟩ := srcs_at (bs := bs) (b := (bi : Int)) (q := q) (by omega)
 obtain ⟨ad92, rfl⟩ := rd_some (fam_rd (M83.get 6 rfl) hrb) (by simp; omega)
 refine zix ad92 ((srcs bs (bi : Int)).length) 1 (q : Int) <| zld ((ad92 : Addr).add (((q : Int)).toNat * 1)) (nV si) (rd_at (fam_rd (M83.get 6 rfl) hrb) rfl hsi) <| zpn 1 <| zfe <| zsq <| zsr <| zld ⟨b15, 0, none⟩ (.slice (sM b8) bs.length bs.length) (blk_cell (M83.get 3 rfl) rfl) <| zpn 1 <| zix ⟨b8, 0, none⟩ bs.length 1 (si : Int) <| zld ((⟨b8, 0, none⟩ : Addr).add (((si : Int)).toNat * 1)) (.int .i64 (plB bs (si : Int))) (rd_get1 (row_rd (M83.get 2 rfl)) rfl (hat.at_ (by omega) (by omega))) <| zcm (decide ((plB bs (si : Int)) < 0)) fun Bpl hBpl => ?_
 refine zpn 1 ?_
 cases Bpl
 have cpl : ¬ ((plB bs (si : Int)) < 0) := of_decide_eq_false hBpl.symm
 refine zpn 1 <| zcm ((si : Int) != 0) fun Bs0 hBs0 => ?_
 refine zpn 1 ?_
 cases Bs0
 have cs0 : ¬ ((si : Int) ≠ 0) := znn hBs0
 have hpr : Prc (plB bs) up2 (si : Int) := ⟨by omega, .inl (by omega)⟩
 refine zpn 7 <| zfe <| zcF <| zsk <| zsr <| zpn 1 <| zcm (decide (to < 0)) fun Bto hBto => ?_
 refine zkp [(4, (.slice (sM go) ((orderL bs).length) c5)), (5, (pT b15 0)), (6, (pT b27 0)), (10, (.slice (sM g79) bs.length c45)), (11, (.func (.func 82) #[] #[(pT b15 0), (pT b27 0)])), (12, (.bool Bt2)), (14, (nV bi)), (15, (.int .i64 to)), (17, (nV si)), (60, (.slice (some ((⟨go, 0, none⟩ : Addr).add (1 * 1))) ((orderL bs).length - m0) (c5 - m0))), (61, (.int .i64 ((((orderL bs).length - m0) : Nat) : Int))), (62, (nV j)), (69, (.slice (some ad92) ((srcs bs (bi : Int)).length) cb)), (70, (.int .i64 (((srcs bs (bi : Int)).length : Nat) : Int))), (71, (nV q)), (92, (.bool Bto))] <| zfe ?_
 cases Bto
 have cto : ¬ (to < 0) := of_decide_eq_false hBto.symm
 refine zcF <| zrg <| zpn 3 <| zcl (meet_c b15 b27 ⟨b8, 0, none⟩ ⟨b20, 0, none⟩ bs.length bs.length bs.length m3 ab2 (tg bs) (plB bs) up2 to (si : Int) w82 hm (M83.own_ro 3 rfl) (M83.own_ro 5 rfl) (RO.row_rd (M83.own_ro 2 rfl)) (RO.row_rd (M83.own_ro 4 rfl)) hmk (hfd.prc (by omega)) hpr) ?_
 rintro _ w93 ⟨cm, rfl, hcl, M94x⟩
 have M94 := M83.cl M94x
 refine zpn 1 <| zfe <| zrg <| zar ((q : Int) + 1) <| zpn 1 <| zfe ?_
 intro aC fr
 exact ⟨(srcs bs (bi : Int)).length - (q + 1), by omega, q + 1, cm, rfl, fr.kp [4, 5, 6, 10, 11, 12, 14, 15, 60, 61, 62, 69, 70, 71], M94, by omega, by rw [take_snoc hsi]; exact hfd.meet hP hrd0.ok (by omega) hpr hcl⟩
 have cto : to < 0 := of_decide_eq_true hBto.symm
 refine zcT <| zrp <| zrg <| zar ((q : Int) + 1) <| zpn 1 <| zfe ?_
 intro aC fr
 exact ⟨(srcs bs (bi : Int)).length - (q + 1), by omega, q + 1, (si : Int), rfl, fr.kp [4, 5, 6, 10, 11, 12, 14, 15, 60, 61, 62, 69, 70, 71], M83, by omega, by rw [take_snoc hsi]; exact hfd.first cto hrg hpr⟩
 have cs0 : (si : Int) ≠ 0 := bne_iff_ne.1 hBs0.symm
 refine zld ⟨b27, 0, none⟩ (.slice (sM b20) bs.length bs.length) (blk_cell (M83.get 5 rfl) rfl) <| zpn 1 <| zix ⟨b20, 0, none⟩ bs.length 1 (si : Int) <| zld ((⟨b20, 0, none⟩ : Addr).add (((si : Int)).toNat * 1)) (.int .i64 (up2 (si : Int))) (rd_get1 (row_rd (M83.get 4 rfl)) rfl (habs2.at_ (by omega) (by omega))) <| zkp [(4, (.slice (sM go) ((orderL bs).length) c5)), (5, (pT b15 0)), (6, (pT b27 0)), (10, (.slice (sM g79) bs.length c45)), (11, (.func (.func 82) #[] #[(pT b15 0), (pT b27 0)])), (12, (.bool Bt2)), (14, (nV bi)), (15, (.int .i64 to)), (17, (nV si)), (60, (.slice (some ((⟨go, 0, none⟩ : Addr).add (1 * 1))) ((orderL bs).length - m0) (c5 - m0))), (61, (.int .i64 ((((orderL bs).length - m0) : Nat) : Int))), (62, (nV j)), (69, (.slice (some ad92) ((srcs bs (bi : Int)).length) cb)), (70, (.int .i64 (((srcs bs (bi : Int)).length : Nat) : Int))), (71, (nV q)), (80, (.bool false)), (83, (.bool true)), (87, (.int .i64 (up2 (si : Int))))] <| zcm (decide ((up2 (si : Int)) < 0)) fun Bup hBup => ?_
 refine zpn 2 <| zfe ?_
 cases Bup
 have cup : ¬ ((up2 (si : Int)) < 0) := of_decide_eq_false hBup.symm
 have hpr : Prc (plB bs) up2 (si : Int) := ⟨by omega, .inr (by omega)⟩
 refine zcF <| zsk <| zsr <| zpn 1 <| zcm (decide (to < 0)) fun Bto hBto => ?_
 refine zfe ?_
 cases Bto
 have cto : ¬ (to < 0) := of_decide_eq_false hBto.symm
 refine zcF <| zrg <| zpn 3 <| zcl (meet_c b15 b27 ⟨b8, 0, none⟩ ⟨b20, 0, none⟩ bs.length bs.length bs.length m3 ab2 (tg bs) (plB bs) up2 to (si : Int) w82 hm (M83.own_ro 3 rfl) (M83.own_ro 5 rfl) (RO.row_rd (M83.own_ro 2 rfl)) (RO.row_rd (M83.own_ro 4 rfl)) hmk (hfd.prc (by omega)) hpr) ?_
 rintro _ w99 ⟨cm, rfl, hcl, M100x⟩
 have M100 := M83.cl M100x
 refine zpn 1 <| zfe <| zrg <| zar ((q : Int) + 1) <| zpn 1 <| zfe ?_
 intro aC fr
 exact ⟨(srcs bs (bi : Int)).length - (q + 1), by omega, q + 1, cm, rfl, fr.kp [4, 5, 6, 10, 11, 12, 14, 15, 60, 61, 62, 69, 70, 71], M100, by omega, by rw [take_snoc hsi]; exact hfd.meet hP hrd0.ok (by omega) hpr hcl⟩
 have cto : to < 0 := of_decide_eq_true hBto.symm
 refine zcT <| zrp <| zrg <| zar ((q : Int) + 1) <| zpn 1 <| zfe ?_
 intro aC fr
 exact ⟨(srcs bs (bi : Int)).length - (q + 1), by omega, q + 1, (si : Int), rfl, fr.kp [4, 5, 6, 10, 11, 12, 14, 15, 60, 61, 62, 69, 70, 71], M83, by omega, by rw [take_snoc hsi]; exact hfd.first cto hrg hpr⟩
 have cup : (up2 (si : Int)) < 0 := of_decide_eq_true hBup.symm
 have hnp : ¬ Prc (plB bs) up2 (si : Int) := fun h => h.2.elim cs0 (fun h => by omega)
 refine zcT <| zex 9 <| zbh <| zrg <| zar ((q : Int) + 1) <| zpn 1 <| zfe ?_
 intro aC fr
 exact ⟨(srcs bs (bi : Int)).length - (q + 1), by omega, q + 1, to, rfl, fr.kp [4, 5, 6, 10, 11, 12, 14, 15, 60, 61, 62, 69, 70, 71], M83, by omega, by rw [take_snoc hsi]; exact hfd.skip hnp⟩
 have cpl : (plB bs (si : Int)) < 0 := of_decide_eq_true hBpl.symm
 have hnp : ¬ Prc (plB bs) up2 (si : Int) := fun h => by have := h.1; omega
 refine zpn 10 <| zfe <| zcT <| zex 9 <| zbh <| zrg <| zar ((q : Int) + 1) <| zpn 1 <| zfe ?_
 intro aC fr
 exact ⟨(srcs bs (bi : Int)).length - (q + 1), by omega, q + 1, to, rfl, fr.kp [4, 5, 6, 10, 11, 12, 14, 15, 60, 61, 62, 69, 70, 71], M83, by omega, by rw [take_snoc hsi]; exact hfd.skip hnp⟩
 have ck : (k : Int) < (((orderL bs).length : Nat) : Int) := of_decide_eq_true hBk.symm
 refine zcT <| zsk <| zsq <| zbk 3 <| zsr ?_
 obtain ⟨bi, hbk, hbn, hpb⟩ := ord_get (bs := bs) (k := k) (by omega)
 refine zpn 1 ?_
 obtain ⟨g110, rfl⟩ := row_some (M41.get 1 rfl) (by omega)
 refine zix ⟨g110, 0, none⟩ ((orderL bs).length) 1 (k : Int) <| zld ((⟨g110, 0, none⟩ : Addr).add (((k : Int)).toNat * 1)) (nV bi) (rd_at (row_rd (M41.get 1 rfl)) rfl hbk) <| zpn 2 <| zfe <| zrg <| zld ⟨b15, 0, none⟩ (.slice (sM b8) bs.length bs.length) (blk_cell (M41.get 3 rfl) rfl) <| zpn 2 <| zix ⟨b8, 0, none⟩ bs.length 1 (bi : Int) <| zsw M41 2 ((⟨b8, 0, none⟩ : Addr).add (((bi : Int)).toNat * 1)) (((bi : Int)).toNat * 1) (nV k) rfl rfl (by omega) fun w111 M112 => ?_
 replace M112 := M112.nf
 refine zfe <| zrg <| zar ((k : Int) + 1) <| zpn 1 <| zfe ?_
 intro aC fr
 exact ⟨(orderL bs).length - (k + 1), by omega, k + 1, m3.set bi (k : Int), rfl, fr.kp [1, 4, 5, 6, 40, 41, 42], (M112.cast (by rw [ints_set]; simp only [Int.toNat_natCast, Nat.mul_one])), by omega, places_next h3 hbk hbn⟩
 have ci : (i : Int) < ((bs.length : Nat) : Int) := of_decide_eq_true hBi.symm
 refine zcT <| zsk <| zsq <| zbk 1 <| zsp <| zkp [(1, (pT b1 0)), (4, (.slice A4 ((orderL bs).length) c5)), (5, (pT b15 0)), (6, (pT b27 0)), (7, (nV i)), (29, (.int .i64 ((bs.length : Nat) : Int))), (30, (nV i))] ?_
 intro aC fr
 refine zdj (N := 112) (env0 := [(1, (pT b1 0)), (4, (.slice A4 ((orderL bs).length) c5)), (5, (pT b15 0)), (6, (pT b27 0)), (7, (nV i)), (29, (.int .i64 ((bs.length : Nat) : Int))), (30, (nV i))]) (specAt [.det (.slice (sM b8) bs.length bs.length), .det (nV i), .det (.slice (sM b20) bs.length bs.length), .det (nV i), .det (.pointer (some ((⟨b8, 0, none⟩ : Addr).add (((i : Int)).toNat * 1)))), .det undef, .det (.pointer (some ((⟨b20, 0, none⟩ : Addr).add (((i : Int)).toNat * 1)))), .det undef]) (fun ls vs w_ => match ls 7 with | true => (Mem noS w w_ [.blk b1 24 [nm, wk, pa, va, (.slice A bs.length c)], .row 3 1 A4 ((orderL bs).length) c5 (ints (orderL bs)), .row 3 1 (sM b8) bs.length bs.length ((ints m1).set (((i : Int)).toNat * 1) (.int .i64 (-1))), .blk b15 44 [(.slice (sM b8) bs.length bs.length)], .row 3 1 (sM b20) bs.length bs.length ((ints m2).set (((i : Int)).toNat * 1) (.int .i64 (-1))), .blk b27 44 [(.slice (sM b20) bs.length bs.length)]]) | false => (match ls 5 with | true => (Mem noS w w_ [.blk b1 24 [nm, wk, pa, va, (.slice A bs.length c)], .row 3 1 A4 ((orderL bs).length) c5 (ints (orderL bs)), .row 3 1 (sM b8) bs.length bs.length ((ints m1).set (((i : Int)).toNat * 1) (.int .i64 (-1))), .blk b15 44 [(.slice (sM b8) bs.length bs.length)], .row 3 1 (sM b20) bs.length bs.length (ints m2), .blk b27 44 [(.slice (sM b20) bs.length bs.length)]]) | false => (Mem noS w w_ [.blk b1 24 [nm, wk, pa, va, (.slice A bs.length c)], .row 3 1 A4 ((orderL bs).length) c5 (ints (orderL bs)), .row 3 1 (sM b8) bs.length bs.length (ints m1), .blk b15 44 [(.slice (sM b8) bs.length bs.length)], .row 3 1 (sM b20) bs.length bs.length (ints m2), .blk b27 44 [(.slice (sM b20) bs.length bs.length)]]))) fr (plain_ok (.det (.det (.det (.det (.det (.det (.det (.det .nil))))))))) (M35.then_ (Mem.drew _)) (la (la (la (la (la (la (la (la lz (dLJ ⟨b15, 0, none⟩ (.slice (sM b8) bs.length bs.length) (fun _ _ _ _ h => h) ?_)) (dPJ fun _ _ _ _ h => h)) (dLJ ⟨b27, 0, none⟩ (.slice (sM b20) bs.length bs.length) (fun _ _ _ _ h => h) ?_)) (dPJ fun _ _ _ _ h => h)) (dIJ ⟨b8, 0, none⟩ bs.length 1 (i : Int) fun _ _ _ _ h => h)) ?_) (dIJ ⟨b20, 0, none⟩ bs.length 1 (i : Int) fun _ _ _ _ h => h)) ?_) ?_
 intro w_ ls vs hJ hi_ hc_ hp
 have f5 : ls 5 = false := notyet hc_ hi_ (n := 8) (by kernel_rfl)
 have f7 : ls 7 = false := notyet hc_ hi_ (n := 8) (by kernel_rfl)
 have hM_ := hJ
 simp only [f5, f7] at hM_
 exact (blk_cell (hM_.get 3 rfl) rfl)
 intro w_ ls vs hJ hi_ hc_ hp
 have f7 : ls 7 = false := notyet hc_ hi_ (n := 8) (by kernel_rfl)
 have hM_ := hJ
 simp only [f7] at hM_
 cases fu : ls 5
 simp only [fu] at hM_
 exact (blk_cell (hM_.get 5 rfl) rfl)
 simp only [fu] at hM_
 exact (blk_cell (hM_.get 5 rfl) rfl)
 intro aa_ w_ ls vs rest_ hJ hi_ hc_ hp hF
 refine okG (g0 := none) ?_
 replace hF : Fr aa_ 112 [(37, (.pointer (some ((⟨b8, 0, none⟩ : Addr).add (((i : Int)).toNat * 1)))))] := hF.kp [37]
 have f5 : ls 5 = false := hi_
 have f7 : ls 7 = false := notyet hc_ hi_ (n := 8) (by kernel_rfl)
 have hM_ := hJ
 simp only [f5, f7] at hM_
 refine From_store_row (by kernel_rfl : coreAt _ 0 = some (none, (.store 3 (.tmp 37) (.const (.int .i64 (-1)))), 0, none)) hF (by kernel_rfl) (by kernel_rfl) (k' := 1) rfl (ad := (⟨b8, 0, none⟩ : Addr)) (j := (((i : Int)).toNat * 1)) (e := 3) (size := 1) (n := bs.length) (cap := bs.length) (v := (.int .i64 (-1))) (xs := (ints m1)) (ad' := ((⟨b8, 0, none⟩ : Addr).add (((i : Int)).toNat * 1))) (by kernel_rfl) rfl (by kernel_rfl) (by kernel_rfl) rfl hM_ 2 rfl (by omega) ?_
 intro w2 hm2 _ a2 ea _
 refine From_end (by kernel_rfl) ?_; refine op_doneJ (d := none) (by kernel_rfl) ea rfl ?_
 show match ls 7 with | true => _ | false => (_)
 rw [f7]
 exact hm2
 intro aa_ w_ ls vs rest_ hJ hi_ hc_ hp hF
 refine okG (g0 := none) ?_
 replace hF : Fr aa_ 112 [(38, (.pointer (some ((⟨b20, 0, none⟩ : Addr).add (((i : Int)).toNat * 1)))))] := hF.kp [38]
 have f5 : ls 5 = true := donebefore hc_ (fun k hk => (hp k hk).1) (n := 8) (by kernel_rfl)
 have f7 : ls 7 = false := hi_
 have hM_ := hJ
 simp only [f5, f7] at hM_
 refine From_store_row (by kernel_rfl : coreAt _ 0 = some (none, (.store 3 (.tmp 38) (.const (.int .i64 (-1)))), 0, none)) hF (by kernel_rfl) (by kernel_rfl) (k' := 1) rfl (ad := (⟨b20, 0, none⟩ : Addr)) (j := (((i : Int)).toNat * 1)) (e := 3) (size := 1) (n := bs.length) (cap := bs.length) (v := (.int .i64 (-1))) (xs := (ints m2)) (ad' := ((⟨b20, 0, none⟩ : Addr).add (((i : Int)).toNat * 1))) (by kernel_rfl) rfl (by kernel_rfl) (by kernel_rfl) rfl hM_ 4 rfl (by omega) ?_
 intro w2 hm2 _ a2 ea _
 refine From_end (by kernel_rfl) ?_; refine op_doneJ (d := none) (by kernel_rfl) ea rfl ?_
 show _
 exact hm2
 intro aC w119 ls vs hall M120 hv fr
 simp only [show ls 7 = true from hall 7 (by decide)] at M120
 revert aC; refine zkp [(1, (pT b1 0)), (4, (.slice A4 ((orderL bs).length) c5)), (5, (pT b15 0)), (6, (pT b27 0)), (29, (.int .i64 ((bs.length : Nat) : Int))), (30, (nV i))] ?_
 clear hall hv fr aC M35; clear vs ls
 refine zrg <| zar ((i : Int) + 1) <| zpn 1 <| zfe ?_
 intro aC fr
 exact ⟨bs.length - (i + 1), by omega, i + 1, m1.set i (-1), m2.set i (-1), rfl, fr.kp [1, 4, 5, 6, 29, 30], (M120.cast (by rw [ints_set, ints_set]; simp only [Int.toNat_natCast, Nat.mul_one])), by omega, fill_next h1 (by omega), fill_next h2 (by omega)⟩
end Go.Proofs.Ytjekgaabcigphaa
namespace Go.Proofs.Ytjekgaabcigphaa
open Go.Mor
theorem truth_t (w : World) :
    Calls Try.prog 93 #[(.bool true)] w (Ret fun v w' => v = .int .i64 1 ∧ Mem noS w w' []) := by
 refine zen 4 [(.bool true)] Try.func93 ?_
 have hM := Mem.init w
 refine zsp <| zsq <| zsp <| zcT <| zsp <| zre <| zo1 (.int .i64 1) ?_
 exact ⟨rfl, hM⟩
theorem truth_f (w : World) :
    Calls Try.prog 93 #[(.bool false)] w (Ret fun v w' => v = .int .i64 0 ∧ Mem noS w w' []) := by
 refine zen 4 [(.bool false)] Try.func93 ?_
 have hM := Mem.init w
 refine zsp <| zsq <| zsp <| zcF <| zsk <| zsp <| zre <| zo1 (.int .i64 0) ?_
 exact ⟨rfl, hM⟩
theorem truthR_c (b : Bool) (w : World) : Calls Try.prog 93 #[.bool b] w (Ret fun v w' => v = .int .i64 (truthI b) ∧ Mem noS w w' []) := by
  cases b
  · exact truth_f w
  · exact truth_t w
theorem shift_c (b : Int) (w : World) :
    Calls Try.prog 92 #[(.int .i64 b)] w (Ret fun v w' => v = .int .u64 (shN b) ∧ Mem noS w w' []) := by
 refine zen 6 [(.int .i64 b)] Try.func92 ?_
 have hM := Mem.init w
 refine zsp <| zsr <| zpn 1 <| zcv (hz := rfl) b .u64 (IntKind.u64.wrap b) <| zbi .u64 (shN b) 63 <| zpn 1 <| zfe <| zre <| zo1 (.int .u64 (shN b)) ?_
 exact ⟨rfl, hM⟩
theorem shN_nn (b : Int) : 0 ≤ shN b := by
  unfold shN
  have h : ∀ i : Int, 0 ≤ IntKind.u64.wrap i := fun i => by
    unfold IntKind.wrap
    simp [IntKind.signed, IntKind.bits]
    omega
  exact h _
theorem quotient_c (op a b : Int) (w : World) :
    Calls Try.prog 91 #[(.int .i64 op), (.int .i64 a), (.int .i64 b)] w (Ret fun v w' => v = .tuple #[.int .i64 (quoS op a b).1, .int .i64 (quoS op a b).2] ∧ Mem noS w w' []) := by
 refine zen 32 [(.int .i64 op), (.int .i64 a), (.int .i64 b)] Try.func91 ?_
 have hM := Mem.init w
 refine zsp <| zsq <| zbk 0 <| zsp <| zcP ((b : Int) == 0) ((b : Int) = 0) (by simp only [beq_iff_eq]) (fun c1 => ?_) (fun c1 => ?_)
 refine zsp <| zre <| zbr <| zo2 (.int .i64 0) (.int .i64 3) ?_
 refine ⟨?_, hM⟩
 have e_ : quoS op a b = (0, 3) := by
   first | exact quo_1 (by omega) | exact quo_2 (by omega) (by omega) | exact quo_3 (by omega) (by omega) | exact quo_4 (by omega) (by omega) (by omega) | exact quo_5 (by omega) (by omega) (by omega)
 rw [e_]
 refine zsr <| zpn 3 ?_
 obtain ⟨B2, hB2⟩ : ∃ B : Bool, B = ((b : Int) == (-1)) := ⟨_, rfl⟩
 refine zkp [(0, (.int .i64 op)), (1, (.int .i64 a)), (2, (.int .i64 b)), (14, (.bool ((b : Int) == (-1))))] ?_
 rw [← hB2]
 have iB2 : B2 = true ↔ ((b : Int) = (-1)) := by rw [hB2]; simp only [beq_iff_eq]
 clear hB2
 intro aC fr
 refine zpk 4 7 [11, 17] fr (news := [(11, (.bool (B2 && ((op : Int) == 4)))), (17, (.bool (B2 && ((op : Int) == 4))))]) (by cases B2 <;> kernel_rfl) ?_
 intro aC fr
 revert aC
 refine zfe <| zcP (B2 && ((op : Int) == 4)) (((b : Int) = (-1)) ∧ ((op : Int) = 4)) (by simp only [Bool.and_eq_true, beq_iff_eq, iB2]) (fun c7 => ?_) (fun c7 => ?_)
 refine zsr <| zpn 1 <| zui .neg a .i64 (IntKind.i64.wrap (0 - a)) <| zpn 2 <| zfe <| zre <| zbr <| zo2 (.int .i64 (IntKind.i64.wrap (0 - a))) (.int .i64 0) ?_
 refine ⟨?_, hM⟩
 have e_ : quoS op a b = ((IntKind.i64.wrap (0 - a)), 0) := by
   first | exact quo_1 (by omega) | exact quo_2 (by omega) (by omega) | exact quo_3 (by omega) (by omega) | exact quo_4 (by omega) (by omega) (by omega) | exact quo_5 (by omega) (by omega) (by omega)
 rw [e_]
 refine zsp <| zcP ((b : Int) == (-1)) ((b : Int) = (-1)) (by simp only [beq_iff_eq]) (fun c8 => ?_) (fun c8 => ?_)
 refine zsp <| zre <| zbr <| zo2 (.int .i64 0) (.int .i64 0) ?_
 refine ⟨?_, hM⟩
 have e_ : quoS op a b = (0, 0) := by
   first | exact quo_1 (by omega) | exact quo_2 (by omega) (by omega) | exact quo_3 (by omega) (by omega) | exact quo_4 (by omega) (by omega) (by omega) | exact quo_5 (by omega) (by omega) (by omega)
 rw [e_]
 refine zsp <| zcP ((op : Int) == 4) ((op : Int) = 4) (by simp only [beq_iff_eq]) (fun c9 => ?_) (fun c9 => ?_)
 refine zsr <| zpn 2 <| zbd .i64 (IntKind.i64.wrap (a.tdiv b)) b (by assumption) <| zpn 2 <| zfe <| zre <| zbr <| zo2 (.int .i64 (IntKind.i64.wrap (a.tdiv b))) (.int .i64 0) ?_
 refine ⟨?_, hM⟩
 have e_ : quoS op a b = ((IntKind.i64.wrap (a.tdiv b)), 0) := by
   first | exact quo_1 (by omega) | exact quo_2 (by omega) (by omega) | exact quo_3 (by omega) (by omega) | exact quo_4 (by omega) (by omega) (by omega) | exact quo_5 (by omega) (by omega) (by omega)
 rw [e_]
 refine zsk <| zsr <| zpn 2 <| zbd .i64 (a.tmod b) b (by assumption) <| zpn 2 <| zfe <| zre <| zo2 (.int .i64 (a.tmod b)) (.int .i64 0) ?_
 refine ⟨?_, hM⟩
 have e_ : quoS op a b = ((a.tmod b), 0) := by
   first | exact quo_1 (by omega) | exact quo_2 (by omega) (by omega) | exact quo_3 (by omega) (by omega) | exact quo_4 (by omega) (by omega) (by omega) | exact quo_5 (by omega) (by omega) (by omega)
 rw [e_]
set_option maxHeartbeats 2000000 in
theorem bin_c (op a b : Int) (w : World) :
    Calls Try.prog 80 #[(.int .i64 op), (.int .i64 a), (.int .i64 b)] w (Ret fun v w' => v = .tuple #[.int .i64 (binS op a b).1, .int .i64 (binS op a b).2] ∧ Mem noS w w' []) := by
 refine zen 96 [(.int .i64 op), (.int .i64 a), (.int .i64 b)] Try.func80 ?_
 have hM := Mem.init w
 refine zsp <| zsq <| zsp <| zbk 0 <| zsp <| zcP ((op : Int) == 1) ((op : Int) = 1) (by simp only [beq_iff_eq]) (fun c1 => ?_) (fun c1 => ?_)
 refine zsr <| zpn 2 <| zbi .i64 (IntKind.i64.wrap (a + b)) b <| zpn 2 <| zfe <| zre <| zbr <| zo2 (.int .i64 (IntKind.i64.wrap (a + b))) (.int .i64 0) ?_
 refine ⟨?_, hM⟩
 have e_ : binS op a b = ((IntKind.i64.wrap (a + b)), 0) := by
   first | exact bo1 | exact bo2 | exact bo3 | exact bo6 | exact bo7 | exact bo8 | exact bo9 | exact bo10 | exact bo11 | exact bo12 | exact bo13 | exact bo14 | exact bo15 | exact bo16 | exact bin_45 (by omega) | exact bin_out (by omega)
 rw [e_]
 refine zsp <| zcP ((op : Int) == 2) ((op : Int) = 2) (by simp only [beq_iff_eq]) (fun c2 => ?_) (fun c2 => ?_)
 refine zsr <| zpn 2 <| zbi .i64 (IntKind.i64.wrap (a - b)) b <| zpn 2 <| zfe <| zre <| zbr <| zo2 (.int .i64 (IntKind.i64.wrap (a - b))) (.int .i64 0) ?_
 refine ⟨?_, hM⟩
 have e_ : binS op a b = ((IntKind.i64.wrap (a - b)), 0) := by
   first | exact bo1 | exact bo2 | exact bo3 | exact bo6 | exact bo7 | exact bo8 | exact bo9 | exact bo10 | exact bo11 | exact bo12 | exact bo13 | exact bo14 | exact bo15 | exact bo16 | exact bin_45 (by omega) | exact bin_out (by omega)
 rw [e_]
 refine zsp <| zcP ((op : Int) == 3) ((op : Int) = 3) (by simp only [beq_iff_eq]) (fun c3 => ?_) (fun c3 => ?_)
 refine zsr <| zpn 2 <| zbi .i64 (IntKind.i64.wrap (a * b)) b <| zpn 2 <| zfe <| zre <| zbr <| zo2 (.int .i64 (IntKind.i64.wrap (a * b))) (.int .i64 0) ?_
 refine ⟨?_, hM⟩
 have e_ : binS op a b = ((IntKind.i64.wrap (a * b)), 0) := by
   first | exact bo1 | exact bo2 | exact bo3 | exact bo6 | exact bo7 | exact bo8 | exact bo9 | exact bo10 | exact bo11 | exact bo12 | exact bo13 | exact bo14 | exact bo15 | exact bo16 | exact bin_45 (by omega) | exact bin_out (by omega)
 rw [e_]
 refine zsq <| zsp ?_
 obtain ⟨B4, hB4⟩ : ∃ B : Bool, B = ((op : Int) == 4) := ⟨_, rfl⟩
 refine zkp [(0, (.int .i64 op)), (1, (.int .i64 a)), (2, (.int .i64 b)), (8, (.int .i64 op)), (24, (.bool ((op : Int) == 4)))] ?_
 rw [← hB4]
 have iB4 : B4 = true ↔ ((op : Int) = 4) := by rw [hB4]; simp only [beq_iff_eq]
 clear hB4
 cases B4
 have c4 : ¬ ((op : Int) = 4) := (fun h => Bool.noConfusion (iB4.2 h) : ¬ ((op : Int) = 4))
 refine zcF <| zrp <| zcP ((op : Int) == 5) ((op : Int) = 5) (by simp only [beq_iff_eq]) (fun c5 => ?_) (fun c5 => ?_)
 refine zsr <| zpn 3 <| zcl (quotient_c op a b w) ?_
 rintro _ w6 ⟨rfl, M7x⟩
 have M7 := hM.cl M7x
 clear M7x hM
 refine zpn 4 <| zfe <| zre <| zbr <| zo2 (.int .i64 ((quoS op a b).1)) (.int .i64 ((quoS op a b).2)) ?_
 refine ⟨?_, M7⟩
 have e_ : binS op a b = ((quoS op a b).1, (quoS op a b).2) := by
   first | exact bo1 | exact bo2 | exact bo3 | exact bo6 | exact bo7 | exact bo8 | exact bo9 | exact bo10 | exact bo11 | exact bo12 | exact bo13 | exact bo14 | exact bo15 | exact bo16 | exact bin_45 (by omega) | exact bin_out (by omega)
 rw [e_]
 refine zsp <| zcP ((op : Int) == 6) ((op : Int) = 6) (by simp only [beq_iff_eq]) (fun c8 => ?_) (fun c8 => ?_)
 refine zsr <| zpn 2 <| zbi .i64 (bAnd a b) b <| zpn 2 <| zfe <| zre <| zbr <| zo2 (.int .i64 (bAnd a b)) (.int .i64 0) ?_
 refine ⟨?_, hM⟩
 have e_ : binS op a b = ((bAnd a b), 0) := by
   first | exact bo1 | exact bo2 | exact bo3 | exact bo6 | exact bo7 | exact bo8 | exact bo9 | exact bo10 | exact bo11 | exact bo12 | exact bo13 | exact bo14 | exact bo15 | exact bo16 | exact bin_45 (by omega) | exact bin_out (by omega)
 rw [e_]
 refine zsp <| zcP ((op : Int) == 7) ((op : Int) = 7) (by simp only [beq_iff_eq]) (fun c9 => ?_) (fun c9 => ?_)
 refine zsr <| zpn 2 <| zbi .i64 (bOr a b) b <| zpn 2 <| zfe <| zre <| zbr <| zo2 (.int .i64 (bOr a b)) (.int .i64 0) ?_
 refine ⟨?_, hM⟩
 have e_ : binS op a b = ((bOr a b), 0) := by
   first | exact bo1 | exact bo2 | exact bo3 | exact bo6 | exact bo7 | exact bo8 | exact bo9 | exact bo10 | exact bo11 | exact bo12 | exact bo13 | exact bo14 | exact bo15 | exact bo16 | exact bin_45 (by omega) | exact bin_out (by omega)
 rw [e_]
 refine zsp <| zcP ((op : Int) == 8) ((op : Int) = 8) (by simp only [beq_iff_eq]) (fun c10 => ?_) (fun c10 => ?_)
 refine zsr <| zpn 2 <| zbi .i64 (bXor a b) b <| zpn 2 <| zfe <| zre <| zbr <| zo2 (.int .i64 (bXor a b)) (.int .i64 0) ?_
 refine ⟨?_, hM⟩
 have e_ : binS op a b = ((bXor a b), 0) := by
   first | exact bo1 | exact bo2 | exact bo3 | exact bo6 | exact bo7 | exact bo8 | exact bo9 | exact bo10 | exact bo11 | exact bo12 | exact bo13 | exact bo14 | exact bo15 | exact bo16 | exact bin_45 (by omega) | exact bin_out (by omega)
 rw [e_]
 refine zsp <| zcP ((op : Int) == 9) ((op : Int) = 9) (by simp only [beq_iff_eq]) (fun c11 => ?_) (fun c11 => ?_)
 refine zsr <| zpn 2 <| zcl (shift_c b w) ?_
 rintro _ w12 ⟨rfl, M13x⟩
 have M13 := hM.cl M13x
 clear M13x hM
 refine zbs .i64 .u64 (shlI a (shN b)) (shN b) (shN_nn b) <| zpn 2 <| zfe <| zre <| zbr <| zo2 (.int .i64 (shlI a (shN b))) (.int .i64 0) ?_
 refine ⟨?_, M13⟩
 have e_ : binS op a b = ((shlI a (shN b)), 0) := by
   first | exact bo1 | exact bo2 | exact bo3 | exact bo6 | exact bo7 | exact bo8 | exact bo9 | exact bo10 | exact bo11 | exact bo12 | exact bo13 | exact bo14 | exact bo15 | exact bo16 | exact bin_45 (by omega) | exact bin_out (by omega)
 rw [e_]
 refine zsp <| zcP ((op : Int) == 10) ((op : Int) = 10) (by simp only [beq_iff_eq]) (fun c14 => ?_) (fun c14 => ?_)
 refine zsr <| zpn 2 <| zcl (shift_c b w) ?_
 rintro _ w15 ⟨rfl, M16x⟩
 have M16 := hM.cl M16x
 clear M16x hM
 refine zbs .i64 .u64 (shrI a (shN b)) (shN b) (shN_nn b) <| zpn 2 <| zfe <| zre <| zbr <| zo2 (.int .i64 (shrI a (shN b))) (.int .i64 0) ?_
 refine ⟨?_, M16⟩
 have e_ : binS op a b = ((shrI a (shN b)), 0) := by
   first | exact bo1 | exact bo2 | exact bo3 | exact bo6 | exact bo7 | exact bo8 | exact bo9 | exact bo10 | exact bo11 | exact bo12 | exact bo13 | exact bo14 | exact bo15 | exact bo16 | exact bin_45 (by omega) | exact bin_out (by omega)
 rw [e_]
 refine zsp <| zcP ((op : Int) == 11) ((op : Int) = 11) (by simp only [beq_iff_eq]) (fun c17 => ?_) (fun c17 => ?_)
 refine zsr <| zpn 3 <| zcl (truthR_c ((a : Int) == b) w) ?_
 rintro _ w18 ⟨rfl, M19x⟩
 have M19 := hM.cl M19x
 clear M19x hM
 refine zpn 2 <| zfe <| zre <| zbr <| zo2 (.int .i64 (truthI ((a : Int) == b))) (.int .i64 0) ?_
 refine ⟨?_, M19⟩
 have e_ : binS op a b = (truthI ((a : Int) == b), 0) := by
   first | exact bo1 | exact bo2 | exact bo3 | exact bo6 | exact bo7 | exact bo8 | exact bo9 | exact bo10 | exact bo11 | exact bo12 | exact bo13 | exact bo14 | exact bo15 | exact bo16 | exact bin_45 (by omega) | exact bin_out (by omega)
 rw [e_]
 refine zsp <| zcP ((op : Int) == 12) ((op : Int) = 12) (by simp only [beq_iff_eq]) (fun c20 => ?_) (fun c20 => ?_)
 refine zsr <| zpn 3 <| zcl (truthR_c ((a : Int) != b) w) ?_
 rintro _ w21 ⟨rfl, M22x⟩
 have M22 := hM.cl M22x
 clear M22x hM
 refine zpn 2 <| zfe <| zre <| zbr <| zo2 (.int .i64 (truthI ((a : Int) != b))) (.int .i64 0) ?_
 refine ⟨?_, M22⟩
 have e_ : binS op a b = (truthI ((a : Int) != b), 0) := by
   first | exact bo1 | exact bo2 | exact bo3 | exact bo6 | exact bo7 | exact bo8 | exact bo9 | exact bo10 | exact bo11 | exact bo12 | exact bo13 | exact bo14 | exact bo15 | exact bo16 | exact bin_45 (by omega) | exact bin_out (by omega)
 rw [e_]
 refine zsp <| zcP ((op : Int) == 13) ((op : Int) = 13) (by simp only [beq_iff_eq]) (fun c23 => ?_) (fun c23 => ?_)
 refine zsr <| zpn 3 <| zcl (truthR_c (decide ((a : Int) < b)) w) ?_
 rintro _ w24 ⟨rfl, M25x⟩
 have M25 := hM.cl M25x
 clear M25x hM
 refine zpn 2 <| zfe <| zre <| zbr <| zo2 (.int .i64 (truthI (decide ((a : Int) < b)))) (.int .i64 0) ?_
 refine ⟨?_, M25⟩
 have e_ : binS op a b = (truthI (decide ((a : Int) < b)), 0) := by
   first | exact bo1 | exact bo2 | exact bo3 | exact bo6 | exact bo7 | exact bo8 | exact bo9 | exact bo10 | exact bo11 | exact bo12 | exact bo13 | exact bo14 | exact bo15 | exact bo16 | exact bin_45 (by omega) | exact bin_out (by omega)
 rw [e_]
 refine zsp <| zcP ((op : Int) == 14) ((op : Int) = 14) (by simp only [beq_iff_eq]) (fun c26 => ?_) (fun c26 => ?_)
 refine zsr <| zpn 3 <| zcl (truthR_c (decide ((a : Int) ≤ b)) w) ?_
 rintro _ w27 ⟨rfl, M28x⟩
 have M28 := hM.cl M28x
 clear M28x hM
 refine zkp [(83, (.int .i64 (truthI (decide ((a : Int) ≤ b)))))] <| zpn 2 <| zfe <| zre <| zbr <| zo2 (.int .i64 (truthI (decide ((a : Int) ≤ b)))) (.int .i64 0) ?_
 refine ⟨?_, M28⟩
 have e_ : binS op a b = (truthI (decide ((a : Int) ≤ b)), 0) := by
   first | exact bo1 | exact bo2 | exact bo3 | exact bo6 | exact bo7 | exact bo8 | exact bo9 | exact bo10 | exact bo11 | exact bo12 | exact bo13 | exact bo14 | exact bo15 | exact bo16 | exact bin_45 (by omega) | exact bin_out (by omega)
 rw [e_]
 refine zsp <| zcP ((op : Int) == 15) ((op : Int) = 15) (by simp only [beq_iff_eq]) (fun c29 => ?_) (fun c29 => ?_)
 refine zsr <| zpn 3 <| zcl (truthR_c (decide ((a : Int) > b)) w) ?_
 rintro _ w30 ⟨rfl, M31x⟩
 have M31 := hM.cl M31x
 clear M31x hM
 refine zkp [(89, (.int .i64 (truthI (decide ((a : Int) > b)))))] <| zpn 2 <| zfe <| zre <| zbr <| zo2 (.int .i64 (truthI (decide ((a : Int) > b)))) (.int .i64 0) ?_
 refine ⟨?_, M31⟩
 have e_ : binS op a b = (truthI (decide ((a : Int) > b)), 0) := by
   first | exact bo1 | exact bo2 | exact bo3 | exact bo6 | exact bo7 | exact bo8 | exact bo9 | exact bo10 | exact bo11 | exact bo12 | exact bo13 | exact bo14 | exact bo15 | exact bo16 | exact bin_45 (by omega) | exact bin_out (by omega)
 rw [e_]
 refine zsp <| zcP ((op : Int) == 16) ((op : Int) = 16) (by simp only [beq_iff_eq]) (fun c32 => ?_) (fun c32 => ?_)
 refine zsr <| zpn 3 <| zcl (truthR_c (decide ((a : Int) ≥ b)) w) ?_
 rintro _ w33 ⟨rfl, M34x⟩
 have M34 := hM.cl M34x
 clear M34x hM
 refine zkp [(95, (.int .i64 (truthI (decide ((a : Int) ≥ b)))))] <| zpn 2 <| zfe <| zre <| zbr <| zo2 (.int .i64 (truthI (decide ((a : Int) ≥ b)))) (.int .i64 0) ?_
 refine ⟨?_, M34⟩
 have e_ : binS op a b = (truthI (decide ((a : Int) ≥ b)), 0) := by
   first | exact bo1 | exact bo2 | exact bo3 | exact bo6 | exact bo7 | exact bo8 | exact bo9 | exact bo10 | exact bo11 | exact bo12 | exact bo13 | exact bo14 | exact bo15 | exact bo16 | exact bin_45 (by omega) | exact bin_out (by omega)
 rw [e_]
 refine zsk <| zsp <| zre <| zo2 (.int .i64 0) (.int .i64 (-1)) ?_
 refine ⟨?_, hM⟩
 have e_ : binS op a b = (0, (-1)) := by
   first | exact bo1 | exact bo2 | exact bo3 | exact bo6 | exact bo7 | exact bo8 | exact bo9 | exact bo10 | exact bo11 | exact bo12 | exact bo13 | exact bo14 | exact bo15 | exact bo16 | exact bin_45 (by omega) | exact bin_out (by omega)
 rw [e_]
 have c4 : ((op : Int) = 4) := iB4.1 rfl
 refine zcT <| zsk <| zcT <| zsr <| zpn 3 <| zcl (quotient_c op a b w) ?_
 rintro _ w35 ⟨rfl, M36x⟩
 have M36 := hM.cl M36x
 clear M36x hM
 refine zpn 4 <| zfe <| zre <| zbr <| zo2 (.int .i64 ((quoS op a b).1)) (.int .i64 ((quoS op a b).2)) ?_
 refine ⟨?_, M36⟩
 have e_ : binS op a b = ((quoS op a b).1, (quoS op a b).2) := by
   first | exact bo1 | exact bo2 | exact bo3 | exact bo6 | exact bo7 | exact bo8 | exact bo9 | exact bo10 | exact bo11 | exact bo12 | exact bo13 | exact bo14 | exact bo15 | exact bo16 | exact bin_45 (by omega) | exact bin_out (by omega)
 rw [e_]
theorem un_c (op a : Int) (w : World) :
    Calls Try.prog 81 #[(.int .i64 op), (.int .i64 a)] w (Ret fun v w' => v = .tuple #[.int .i64 (unS op a).1, .int .i64 (unS op a).2] ∧ Mem noS w w' []) := by
 refine zen 20 [(.int .i64 op), (.int .i64 a)] Try.func81 ?_
 have hM := Mem.init w
 refine zsp <| zsq <| zsp <| zbk 0 <| zsp <| zcP ((op : Int) == 1) ((op : Int) = 1) (by simp only [beq_iff_eq]) (fun c1 => ?_) (fun c1 => ?_)
 refine zsr <| zpn 1 <| zui .neg a .i64 (IntKind.i64.wrap (0 - a)) <| zpn 2 <| zfe <| zre <| zbr <| zo2 (.int .i64 (IntKind.i64.wrap (0 - a))) (.int .i64 0) ?_
 refine ⟨?_, hM⟩
 have e_ : unS op a = ((IntKind.i64.wrap (0 - a)), 0) := by
   first | exact uo1 | exact uo2 | exact uo3 | exact un_no (by assumption) (by assumption) (by assumption)
 rw [e_]
 refine zsp <| zcP ((op : Int) == 2) ((op : Int) = 2) (by simp only [beq_iff_eq]) (fun c2 => ?_) (fun c2 => ?_)
 refine zsr <| zpn 1 <| zui .xor a .i64 (bXor (-1) a) <| zpn 2 <| zfe <| zre <| zbr <| zo2 (.int .i64 (bXor (-1) a)) (.int .i64 0) ?_
 refine ⟨?_, hM⟩
 have e_ : unS op a = ((bXor (-1) a), 0) := by
   first | exact uo1 | exact uo2 | exact uo3 | exact un_no (by assumption) (by assumption) (by assumption)
 rw [e_]
 refine zsp <| zcP ((op : Int) == 3) ((op : Int) = 3) (by simp only [beq_iff_eq]) (fun c3 => ?_) (fun c3 => ?_)
 refine zsr <| zpn 2 <| zcl (truthR_c ((a : Int) == 0) w) ?_
 rintro _ w4 ⟨rfl, M5x⟩
 have M5 := hM.cl M5x
 clear M5x hM
 refine zpn 2 <| zfe <| zre <| zbr <| zo2 (.int .i64 (truthI ((a : Int) == 0))) (.int .i64 0) ?_
 refine ⟨?_, M5⟩
 have e_ : unS op a = (truthI ((a : Int) == 0), 0) := by
   first | exact uo1 | exact uo2 | exact uo3 | exact un_no (by assumption) (by assumption) (by assumption)
 rw [e_]
 refine zsk <| zsp <| zre <| zo2 (.int .i64 0) (.int .i64 (-1)) ?_
 refine ⟨?_, hM⟩
 have e_ : unS op a = (0, (-1)) := by
   first | exact uo1 | exact uo2 | exact uo3 | exact un_no (by assumption) (by assumption) (by assumption)
 rw [e_]
end Go.Proofs.Ytjekgaabcigphaa
namespace Go.Proofs.Ytjekgaabcigphaa
open Go.Mor
theorem stop_c (r : Nat) (k c : Int) (w : World) :
    Calls Try.prog 74 #[(pT r 0), (.int .i64 k), (.int .i64 c)] w (REnds (fun _ _ => False) (fun v w' => v = endV k c ∧ Mem noS w w' [])) := by
 refine xen 10 [(pT r 0), (.int .i64 k), (.int .i64 c)] Try.func74 ?_
 have hM := Mem.init w
 refine zrg <| zpn 4 <| zpa 133 (.agg #[(.int .i64 k), (.int .i64 c)]) ?_
 exact fun a_ hf_ => xpp hf_ ⟨rfl, hM⟩
theorem fault_t (r : Nat) (w : World) :
    Calls Try.prog 72 #[(pT r 0), (.bool true)] w (REnds (fun _ _ => False) (fun v w' => v = endV 5 0 ∧ Mem noS w w' [])) := by
 refine xen 7 [(pT r 0), (.bool true)] Try.func72 ?_
 have hM := Mem.init w
 refine zsp <| zcT <| zrg <| zpn 1 <| zce (stop_c r 5 0 w) (fun _ w2_ ⟨hv_, hx_⟩ a_ hf_ => by subst hv_; exact xpp hf_ (⟨rfl, (hM.cl hx_)⟩)) ?_
 rintro _ w1 h_; exact h_.elim
theorem fault_f (r : Nat) (w : World) :
    Calls Try.prog 72 #[(pT r 0), (.bool false)] w (REnds (fun v w' => v = .tuple #[] ∧ Mem noS w w' []) (fun _ _ => False)) := by
 refine xen 7 [(pT r 0), (.bool false)] Try.func72 ?_
 have hM := Mem.init w
 refine zsp <| zcF <| zsk <| xo0 ?_
 exact ⟨rfl, hM⟩
theorem fault_c (r : Nat) (b : Bool) (w : World) : Calls Try.prog 72 #[pT r 0, .bool b] w (REnds (fun v w' => b = false ∧ v = .tuple #[] ∧ Mem noS w w' []) (fun v w' => b = true ∧ v = endV 5 0 ∧ Mem noS w w' [])) := by
  cases b
  · exact REnds.weak (fault_f r w) (fun v w' h => ⟨rfl, h⟩) (fun _ _ h => h.elim)
  · exact REnds.weak (fault_t r w) (fun _ _ h => h.elim) (fun v w' h => ⟨rfl, h⟩)
end Go.Proofs.Ytjekgaabcigphaa
namespace Go.Proofs.Ytjekgaabcigphaa
open Go.Mor
theorem step_c (C : RC) (s : PSt) (oA : Option Addr) (oc : Nat) (w : World) (hC : C.WF) (hG : RGood C s) (hR : (Res.pk (runL C s oA oc)).holds w)  :
    RCalls Try.prog C s oA oc w 98 [(pT C.r 0)] unitV (stepS C.E s) := by
 have g1 := hG.s1
 have g2 := hG.s2
 have g3 := hC.fuel
 refine xen 20 [(pT C.r 0)] Try.func98 ?_
 have hM := Mem.unpk hR
 refine zsq <| zsq ?_
 obtain ⟨B1, hB1⟩ : ∃ B : Bool, B = (s.steps == C.E.fuel) := ⟨_, rfl⟩
 refine zkp [(0, (pT C.r 0))] ?_
 intro aC fr
 refine zdr (N := 20) (env0 := [(0, (pT C.r 0))]) (specAt [.det (pT C.r 0), .det (pT C.r 0), .det (pT C.r 9), .det (.int .i64 s.steps), .det (pT C.r 0), .det (pT C.r 0), .det (pT C.r 8), .det (.int .i64 C.E.fuel), .det (.bool B1)]) fr (la (la (la (la (la (la (la (la (la lz dP) dP) dP) (dL ⟨C.r, 9, none⟩ (.int .i64 s.steps) fun w_ hK => (blk_cell ((hM.then_ hK).get 0 rfl) rfl))) dP) dP) dP) (dL ⟨C.r, 8, none⟩ (.int .i64 C.E.fuel) fun w_ hK => (blk_cell ((hM.then_ hK).get 0 rfl) rfl))) (dC (s.steps == C.E.fuel) hB1)) ?_
 intro aC w6 vs hK hv fr
 revert aC; refine zkp [(0, (pT C.r 0)), (10, (.bool B1))] ?_
 have M7 := hM.then_ hK
 clear hK hv fr aC hM; clear vs
 have iB1 : B1 = true ↔ ((s.steps : Int) = C.E.fuel) := by rw [hB1]; simp only [beq_iff_eq]
 clear hB1
 refine zcP B1 ((s.steps : Int) = C.E.fuel) iB1 (fun c8 => ?_) (fun c8 => ?_)
 refine zrg <| zpn 1 <| zce (stop_c C.r 0 0 w6) (fun _ w2_ ⟨hv_, hx_⟩ a_ hf_ => by subst hv_; exact xpp hf_ (⟨_, _, s, oA, oc, step_no (by omega), rfl, hG, (M7.cl hx_)⟩)) ?_
 rintro _ w9 h_; exact h_.elim
 refine zsk <| zrg <| zpn 3 <| zld ⟨C.r, 9, none⟩ (.int .i64 s.steps) (blk_cell (M7.get 0 rfl) rfl) <| zar (s.steps + 1) <| zpn 2 <| zsb (ho := (by simp)) M7 0 9 (.int .i64 (s.steps + 1)) rfl fun w11 M12 => ?_
 replace M12 := M12.nf
 refine zfe <| xo0 ?_
 exact ⟨(), { s with steps := s.steps + 1 }, oA, oc, step_yes (by omega), rfl, hG.step (by omega), M12⟩
theorem at_c (C : RC) (s : PSt) (oA : Option Addr) (oc : Nat) (w : World) (n : Int) (hG : RGood C s) (hRb : RO noS w (.blk C.r 89 (rcells C s oA oc))) :
    Calls Try.prog 71 #[(pT C.r 0), (.int .i64 n)] w (REnds (fun v w' => (1 ≤ n ∧ n < s.next) ∧ v = .pointer (some ((⟨C.mG, 0, none⟩ : Addr).add (n.toNat * 1))) ∧ Mem noS w w' []) (fun v w' => (n < 1 ∨ n ≥ s.next) ∧ v = endV 5 0 ∧ Mem noS w w' [])) := by
 have g1 := hG.n2
 refine xen 23 [(pT C.r 0), (.int .i64 n)] Try.func71 ?_
 have hM := Mem.init w
 refine zsp <| zsr <| zpn 4 ?_
 obtain ⟨B1, hB1⟩ : ∃ B : Bool, B = decide ((n : Int) < 1) := ⟨_, rfl⟩
 refine zkp [(0, (pT C.r 0)), (1, (.int .i64 n)), (5, (pT C.r 0)), (8, (.bool (decide ((n : Int) < 1))))] ?_
 rw [← hB1]
 have iB1 : B1 = true ↔ ((n : Int) < 1) := by rw [hB1]; simp only [decide_eq_true_eq]
 clear hB1
 intro aC fr
 refine zpk 4 8 [9, 12] fr (news := [(9, (cond (!B1) (.int .i64 n) undef)), (12, (cond (!B1) (pT C.r 5) undef))]) (by cases B1 <;> kernel_rfl) ?_
 intro aC fr
 refine From_either (B := (!B1)) (d := (some 13)) (.int .i64 s.next) fr (by cases B1 <;> kernel_rfl) (fun hB hh => ?_) ?_
 cases B1 <;> first | (exact absurd hB (by decide)) | skip
 have c1 : ¬ ((n : Int) < 1) := (fun h => Bool.noConfusion (iB1.2 h) : ¬ ((n : Int) < 1))
 exact From_ld (some 13) ⟨C.r, 5, none⟩ fr (by kernel_rfl) (.int .i64 s.next) (blk_cell (hM.ro hRb) rfl) hh
 intro aC fr
 refine zpk 2 11 [15] fr (news := [(15, (.bool (B1 || decide ((n : Int) ≥ s.next))))]) (by cases B1 <;> kernel_rfl) ?_
 intro aC fr
 obtain ⟨B10, hB10⟩ : ∃ B : Bool, B = (B1 || decide ((n : Int) ≥ s.next)) := ⟨_, rfl⟩
 revert aC
 refine zkp [(0, (pT C.r 0)), (1, (.int .i64 n)), (5, (pT C.r 0)), (15, (.bool (B1 || decide ((n : Int) ≥ s.next))))] ?_
 rw [← hB10]
 have iB10 : B10 = true ↔ (((n : Int) < 1) ∨ ((n : Int) ≥ s.next)) := by rw [hB10]; simp only [Bool.or_eq_true, decide_eq_true_eq, iB1]
 clear hB10
 refine zkp [(0, (pT C.r 0)), (1, (.int .i64 n)), (5, (pT C.r 0)), (15, (.bool B10))] <| zce (fault_c C.r B10 w) (fun _ w2_ ⟨hb_, hv_, hx_⟩ a_ hf_ => by subst hv_; have cf11 : (((n : Int) < 1) ∨ ((n : Int) ≥ s.next)) := iB10.1 hb_; exact xpp hf_ (⟨cf11, rfl, (hM.cl hx_)⟩)) ?_
 rintro _ w12 ⟨hb_, rfl, M13x⟩
 have M13 := hM.cl M13x
 clear M13x hM
 have cf11 : ¬ (((n : Int) < 1) ∨ ((n : Int) ≥ s.next)) := fun h_ => Bool.noConfusion ((iB10.2 h_).symm.trans hb_)
 clear hb_
 refine zfe <| zsr <| zpn 3 <| zld ⟨C.r, 4, none⟩ (.slice (sM C.mG) C.E.memN C.E.memN) (blk_cell (M13.ro hRb) rfl) <| zpn 1 <| zix ⟨C.mG, 0, none⟩ C.E.memN 1 n <| zpn 1 <| zfe <| zre <| xo1 (.pointer (some ((⟨C.mG, 0, none⟩ : Addr).add ((n).toNat * 1)))) ?_
 exact ⟨by omega, rfl, M13⟩
end Go.Proofs.Ytjekgaabcigphaa
namespace Go.Proofs.Ytjekgaabcigphaa
open Go.Mor
theorem number_c (C : RC) (s : PSt) (oA : Option Addr) (oc : Nat) (w : World) (hC : C.WF) (hG : RGood C s) (hR : (Res.pk (runL C s oA oc)).holds w) (call : Int → List Int → PSt → Got Int) (i : FIns) (l : List Int) (aA : Option Addr) (ac : Nat) (hl : RO (rS C s oA oc) w (.rd aA (ints l))) (hop : i.op = 1) :
    RCalls Try.prog C s oA oc w 35 [(pT C.r 0), (iG i), (.slice aA l.length ac)] intV (instS C.E call i l s) := by
 have g2 := hG.n2
 have g3 := hG.n1
 have g4 := hG.mem
 have g5 := hC.mem
 refine xen 9 [(pT C.r 0), (iG i), (.slice aA l.length ac)] Try.func35 ?_
 have hM := Mem.unpk hR
 refine zsr <| zbx hM 46 (iG i) (iV i) fun b1 w2 hb1 M3 => ?_
 replace M3 := M3.nf
 clear hM
 refine zpn 1 <| zfe <| zsr <| zpn 1 <| zld ⟨b1, 2, none⟩ (.int .i64 i.n) (blk_cell (M3.get 3 rfl) rfl) <| zpn 1 <| zfe <| zre <| xo1 (.int .i64 i.n) ?_
 exact ⟨i.n, s, oA, oc, inst_1 hop, rfl, hG, M3.tk 3⟩
theorem copied_c (C : RC) (s : PSt) (oA : Option Addr) (oc : Nat) (w : World) (hC : C.WF) (hG : RGood C s) (hR : (Res.pk (runL C s oA oc)).holds w) (call : Int → List Int → PSt → Got Int) (i : FIns) (l : List Int) (aA : Option Addr) (ac : Nat) (hl : RO (rS C s oA oc) w (.rd aA (ints l))) (hop : i.op = 12) (hlen : l.length = 1) :
    RCalls Try.prog C s oA oc w 46 [(pT C.r 0), (iG i), (.slice aA l.length ac)] intV (instS C.E call i l s) := by
 have g2 := hG.n2
 have g3 := hG.n1
 have g4 := hG.mem
 have g5 := hC.mem
 refine xen 10 [(pT C.r 0), (iG i), (.slice aA l.length ac)] Try.func46 ?_
 have hM := Mem.unpk hR
 refine zsr <| zbx hM 46 (iG i) (iV i) fun b1 w2 hb1 M3 => ?_
 replace M3 := M3.nf
 clear hM
 refine zpn 1 <| zfe <| zsr <| zpn 1 ?_
 obtain ⟨ad4, rfl⟩ := rd_ints_some (M3.ro hl) (by omega)
 refine zix ad4 l.length 1 0 <| zld ((ad4 : Addr).add ((0 : Int).toNat * 1)) (.int .i64 (a0 l)) (rd_int (M3.ro hl) rfl (by omega) (by omega)) <| zpn 1 <| zfe <| zre <| xo1 (.int .i64 (a0 l)) ?_
 exact ⟨a0 l, s, oA, oc, inst_12 hop, rfl, hG, M3.tk 3⟩
theorem load_c (C : RC) (s : PSt) (oA : Option Addr) (oc : Nat) (w : World) (hC : C.WF) (hG : RGood C s) (hR : (Res.pk (runL C s oA oc)).holds w) (call : Int → List Int → PSt → Got Int) (i : FIns) (l : List Int) (aA : Option Addr) (ac : Nat) (hl : RO (rS C s oA oc) w (.rd aA (ints l))) (hop : i.op = 2) (hlen : l.length = 1) :
    RCalls Try.prog C s oA oc w 36 [(pT C.r 0), (iG i), (.slice aA l.length ac)] intV (instS C.E call i l s) := by
 have g2 := hG.n2
 have g3 := hG.n1
 have g4 := hG.mem
 have g5 := hC.mem
 refine xen 17 [(pT C.r 0), (iG i), (.slice aA l.length ac)] Try.func36 ?_
 have hM := Mem.unpk hR
 refine zsr <| zbx hM 46 (iG i) (iV i) fun b1 w2 hb1 M3 => ?_
 replace M3 := M3.nf
 clear hM
 refine zpn 1 <| zfe <| zsq ?_
 obtain ⟨ad4, rfl⟩ := rd_ints_some (M3.ro hl) (by omega)
 refine zkp [(0, (pT C.r 0)), (2, (.slice (some ad4) l.length ac)), (4, (pT b1 0))] ?_
 intro aC fr
 refine zdt 7 (N := 17) (env0 := [(0, (pT C.r 0)), (2, (.slice (some ad4) l.length ac)), (4, (pT b1 0))]) (specAt [.det (pT C.r 0), .det (.slice (some ad4) l.length ac), .det (.pointer (some ((ad4 : Addr).add ((0 : Int).toNat * 1)))), .det (.int .i64 (a0 l)), .det (pT b1 2), .det (.int .i64 i.n), .det (.int .i64 (IntKind.i64.wrap (a0 l + i.n)))]) fr (la (la (la (la (la (la (la lz dP) dP) (dI ad4 l.length 1 0)) (dL ((ad4 : Addr).add ((0 : Int).toNat * 1)) (.int .i64 (a0 l)) fun w_ hK => (rd_int ((M3.then_ hK).ro hl) rfl (by omega) (by omega)))) dP) (dL ⟨b1, 2, none⟩ (.int .i64 i.n) fun w_ hK => (blk_cell ((M3.then_ hK).get 3 rfl) rfl))) (dB .i64 (IntKind.i64.wrap (a0 l + i.n)) i.n)) ?_
 intro aC w9 vs hK hv fr
 revert aC; refine zkp [(7, (pT C.r 0)), (13, (.int .i64 (IntKind.i64.wrap (a0 l + i.n))))] ?_
 have M10 := M3.then_ hK
 clear hK hv fr aC M3; clear vs
 refine zce (at_c C s oA oc w9 (IntKind.i64.wrap (a0 l + i.n)) hG (M10.own_ro 0 rfl)) (fun _ w2_ ⟨hr_, hv_, hx_⟩ a_ hf_ => by subst hv_; exact xpp hf_ (⟨_, _, s, oA, oc, by rw [inst_2 hop, at_no (by omega)]; rfl, rfl, hG, (M10.cl hx_).tk 3⟩)) ?_
 rintro _ w12 ⟨cr11, rfl, M13x⟩
 have M13 := M10.cl M13x
 refine zpn 1 <| zld ((⟨C.mG, 0, none⟩ : Addr).add (((IntKind.i64.wrap (a0 l + i.n))).toNat * 1)) (.int .i64 (s.mem.getD ((IntKind.i64.wrap (a0 l + i.n))).toNat 0)) (rd_int (row_rd (M13.get 1 rfl)) rfl (by omega) (by omega)) <| zpn 1 <| zfe <| zre <| xo1 (.int .i64 (s.mem.getD ((IntKind.i64.wrap (a0 l + i.n))).toNat 0)) ?_
 exact ⟨_, s, oA, oc, by rw [inst_2 hop, at_yes (by omega)]; rfl, rfl, hG, M13.tk 3⟩
theorem check_c (C : RC) (s : PSt) (oA : Option Addr) (oc : Nat) (w : World) (hC : C.WF) (hG : RGood C s) (hR : (Res.pk (runL C s oA oc)).holds w) (call : Int → List Int → PSt → Got Int) (i : FIns) (l : List Int) (aA : Option Addr) (ac : Nat) (hl : RO (rS C s oA oc) w (.rd aA (ints l))) (hop : i.op = 11) (hlen : l.length = 1) :
    RCalls Try.prog C s oA oc w 45 [(pT C.r 0), (iG i), (.slice aA l.length ac)] intV (instS C.E call i l s) := by
 have g2 := hG.n2
 have g3 := hG.n1
 have g4 := hG.mem
 have g5 := hC.mem
 refine xen 15 [(pT C.r 0), (iG i), (.slice aA l.length ac)] Try.func45 ?_
 have hM := Mem.unpk hR
 refine zsr <| zbx hM 46 (iG i) (iV i) fun b1 w2 hb1 M3 => ?_
 replace M3 := M3.nf
 clear hM
 refine zpn 1 <| zfe <| zsq <| zsr <| zpn 1 ?_
 obtain ⟨ad4, rfl⟩ := rd_ints_some (M3.ro hl) (by omega)
 refine zix ad4 l.length 1 0 <| zld ((ad4 : Addr).add ((0 : Int).toNat * 1)) (.int .i64 (a0 l)) (rd_int (M3.ro hl) rfl (by omega) (by omega)) <| zpn 1 <| zfe <| zcP ((a0 l : Int) == 0) ((a0 l : Int) = 0) (by simp only [beq_iff_eq]) (fun c5 => ?_) (fun c5 => ?_)
 refine zrg <| zpn 2 <| zld ⟨b1, 2, none⟩ (.int .i64 i.n) (blk_cell (M3.get 3 rfl) rfl) <| zce (stop_c C.r 2 i.n w2) (fun _ w2_ ⟨hv_, hx_⟩ a_ hf_ => by subst hv_; exact xpp hf_ (⟨_, _, s, oA, oc, by rw [inst_11 hop, if_pos (by omega)], rfl, hG, (M3.cl hx_).tk 3⟩)) ?_
 rintro _ w6 h_; exact h_.elim
 refine zsk <| zsp <| zre <| xo1 (.int .i64 0) ?_
 exact ⟨0, s, oA, oc, by rw [inst_11 hop, if_neg (by omega)], rfl, hG, M3.tk 3⟩
end Go.Proofs.Ytjekgaabcigphaa
namespace Go.Proofs.Ytjekgaabcigphaa
open Go.Mor
theorem store_c (C : RC) (s : PSt) (oA : Option Addr) (oc : Nat) (w : World) (hC : C.WF) (hG : RGood C s) (hR : (Res.pk (runL C s oA oc)).holds w) (call : Int → List Int → PSt → Got Int) (i : FIns) (l : List Int) (aA : Option Addr) (ac : Nat) (hl : RO (rS C s oA oc) w (.rd aA (ints l))) (hop : i.op = 3) (hlen : l.length = 2) :
    RCalls Try.prog C s oA oc w 37 [(pT C.r 0), (iG i), (.slice aA l.length ac)] intV (instS C.E call i l s) := by
 have g2 := hG.n2
 have g3 := hG.n1
 have g4 := hG.mem
 have g5 := hC.mem
 refine xen 19 [(pT C.r 0), (iG i), (.slice aA l.length ac)] Try.func37 ?_
 have hM := Mem.unpk hR
 refine zsr <| zbx hM 46 (iG i) (iV i) fun b1 w2 hb1 M3 => ?_
 replace M3 := M3.nf
 clear hM
 refine zpn 1 <| zfe <| zsq ?_
 by_cases cr : ((IntKind.i64.wrap (a0 l + i.n)) < 1 ∨ (IntKind.i64.wrap (a0 l + i.n)) ≥ s.next)
 obtain ⟨ad4, rfl⟩ := rd_ints_some (M3.ro hl) (by omega)
 refine zkp [(0, (pT C.r 0)), (2, (.slice (some ad4) l.length ac)), (4, (pT b1 0))] ?_
 intro aC fr
 refine zdt 11 (N := 19) (env0 := [(0, (pT C.r 0)), (2, (.slice (some ad4) l.length ac)), (4, (pT b1 0))]) (specAt [.det (pT C.r 0), .det (.slice (some ad4) l.length ac), .det (.pointer (some ((ad4 : Addr).add ((0 : Int).toNat * 1)))), .det (.int .i64 (a0 l)), .det (pT b1 2), .det (.int .i64 i.n), .det (.int .i64 (IntKind.i64.wrap (a0 l + i.n))), Spec.never, .det (.slice (some ad4) l.length ac), .det (.pointer (some ((ad4 : Addr).add ((1 : Int).toNat * 1)))), .det (.int .i64 (a1 l))]) fr (la (la (la (la (la (la (la (la (la (la (la lz dP) dP) (dI ad4 l.length 1 0)) (dL ((ad4 : Addr).add ((0 : Int).toNat * 1)) (.int .i64 (a0 l)) fun w_ hK => (rd_int ((M3.then_ hK).ro hl) rfl (by omega) (by omega)))) dP) (dL ⟨b1, 2, none⟩ (.int .i64 i.n) fun w_ hK => (blk_cell ((M3.then_ hK).get 3 rfl) rfl))) (dB .i64 (IntKind.i64.wrap (a0 l + i.n)) i.n)) (dF (vs := [pT C.r 0, .int .i64 (IntKind.i64.wrap (a0 l + i.n))]) (Ψ := fun v w' => v = endV 5 0 ∧ Mem (rS C s oA oc) w w' [.blk C.r 89 (rcells C s oA oc), .row 2 1 (sM C.mG) C.E.memN C.E.memN (ints s.mem), .row 5 1 oA s.out.length oc (u8s s.out), .blk b1 46 (iV i)]) (fun w_ hK => REnds.weak (at_c C s oA oc w_ (IntKind.i64.wrap (a0 l + i.n)) hG ((M3.then_ hK).own_ro 0 rfl)) (fun v w2 h => absurd h.1 (by omega)) (fun v w2 h => ⟨h.2.1, (M3.then_ hK).cl h.2.2⟩)) (fun v w2 h a hd => by obtain ⟨rfl, h⟩ := h; exact xpd hd ⟨_, _, s, oA, oc, by rw [inst_3 hop, at_no (by omega)]; rfl, rfl, hG, h.tk 3⟩))) dP) (dI ad4 l.length 1 1)) (dL ((ad4 : Addr).add ((1 : Int).toNat * 1)) (.int .i64 (a1 l)) fun w_ hK => (rd_int ((M3.then_ hK).ro hl) rfl (by omega) (by omega)))) ?_
 intro aC w9 vs hK hv fr
 exact (hv 7 (by decide)).elim
 obtain ⟨ad11, rfl⟩ := rd_ints_some (M3.ro hl) (by omega)
 refine zkp [(0, (pT C.r 0)), (2, (.slice (some ad11) l.length ac)), (4, (pT b1 0))] ?_
 intro aC fr
 refine zdt 11 (N := 19) (env0 := [(0, (pT C.r 0)), (2, (.slice (some ad11) l.length ac)), (4, (pT b1 0))]) (specAt [.det (pT C.r 0), .det (.slice (some ad11) l.length ac), .det (.pointer (some ((ad11 : Addr).add ((0 : Int).toNat * 1)))), .det (.int .i64 (a0 l)), .det (pT b1 2), .det (.int .i64 i.n), .det (.int .i64 (IntKind.i64.wrap (a0 l + i.n))), .det (.pointer (some ((⟨C.mG, 0, none⟩ : Addr).add (((IntKind.i64.wrap (a0 l + i.n))).toNat * 1)))), .det (.slice (some ad11) l.length ac), .det (.pointer (some ((ad11 : Addr).add ((1 : Int).toNat * 1)))), .det (.int .i64 (a1 l))]) fr (la (la (la (la (la (la (la (la (la (la (la lz dP) dP) (dI ad11 l.length 1 0)) (dL ((ad11 : Addr).add ((0 : Int).toNat * 1)) (.int .i64 (a0 l)) fun w_ hK => (rd_int ((M3.then_ hK).ro hl) rfl (by omega) (by omega)))) dP) (dL ⟨b1, 2, none⟩ (.int .i64 i.n) fun w_ hK => (blk_cell ((M3.then_ hK).get 3 rfl) rfl))) (dB .i64 (IntKind.i64.wrap (a0 l + i.n)) i.n)) (dE (vs := [pT C.r 0, .int .i64 (IntKind.i64.wrap (a0 l + i.n))]) (u := (.pointer (some ((⟨C.mG, 0, none⟩ : Addr).add (((IntKind.i64.wrap (a0 l + i.n))).toNat * 1))))) (Ψ := fun v w' => ((IntKind.i64.wrap (a0 l + i.n)) < 1 ∨ (IntKind.i64.wrap (a0 l + i.n)) ≥ s.next) ∧ v = endV 5 0 ∧ Mem noS w' w' []) (fun w_ hK => REnds.weak (at_c C s oA oc w_ (IntKind.i64.wrap (a0 l + i.n)) hG ((M3.then_ hK).own_ro 0 rfl)) (fun v w2 h => ⟨h.2.1, h.2.2⟩) (fun v w2 h => ⟨h.1, h.2.1, Mem.init w2⟩)) (fun v w2 h => absurd h.1 cr) rfl)) dP) (dI ad11 l.length 1 1)) (dL ((ad11 : Addr).add ((1 : Int).toNat * 1)) (.int .i64 (a1 l)) fun w_ hK => (rd_int ((M3.then_ hK).ro hl) rfl (by omega) (by omega)))) ?_
 intro aC w16 vs hK hv fr
 revert aC; refine zkp [(14, (.pointer (some ((⟨C.mG, 0, none⟩ : Addr).add (((IntKind.i64.wrap (a0 l + i.n))).toNat * 1))))), (17, (.int .i64 (a1 l)))] ?_
 have M17 := M3.then_ hK
 clear hK hv fr aC M3; clear vs
 refine zpn 1 <| zsw M17 1 ((⟨C.mG, 0, none⟩ : Addr).add (((IntKind.i64.wrap (a0 l + i.n))).toNat * 1)) (((IntKind.i64.wrap (a0 l + i.n))).toNat * 1) (.int .i64 (a1 l)) rfl rfl (by omega) fun w18 M19 => ?_
 replace M19 := M19.nf
 refine zfe <| zsp <| zre <| xo1 (.int .i64 0) ?_
 have hs_ : (ints s.mem).set (((IntKind.i64.wrap (a0 l + i.n))).toNat * 1) (.int .i64 (a1 l)) = ints (s.mem.set ((IntKind.i64.wrap (a0 l + i.n))).toNat (a1 l)) := by rw [Nat.mul_one]; simp [ints, List.map_set]
 have M20 : Mem (rS C s oA oc) w w18 [.blk C.r 89 (rcells C s oA oc), .row 2 1 (sM C.mG) C.E.memN C.E.memN (ints (s.mem.set ((IntKind.i64.wrap (a0 l + i.n))).toNat (a1 l))), .row 5 1 oA s.out.length oc (u8s s.out), .blk b1 46 (iV i)] := M19.cast (by rw [hs_])
 exact ⟨_, { s with mem := s.mem.set ((IntKind.i64.wrap (a0 l + i.n))).toNat (a1 l) }, oA, oc, by rw [inst_3 hop, at_yes (by omega)]; rfl, rfl, hG.set _ _, M20.tk 3⟩
theorem words_c (C : RC) (s : PSt) (oA : Option Addr) (oc : Nat) (w : World) (hC : C.WF) (hG : RGood C s) (hR : (Res.pk (runL C s oA oc)).holds w) (hA : RO (rS C s oA oc) w C.ro) (call : Int → List Int → PSt → Got Int) (i : FIns) (l : List Int) (aA : Option Addr) (ac : Nat) (hl : RO (rS C s oA oc) w (.rd aA (ints l))) (hop : i.op = 6) :
    RCalls Try.prog C s oA oc w 40 [(pT C.r 0), (iG i), (.slice aA l.length ac)] intV (instS C.E call i l s) := by
 have g2 := hG.n2
 have g3 := hG.n1
 have g4 := hG.mem
 have g5 := hC.mem
 refine xen 24 [(pT C.r 0), (iG i), (.slice aA l.length ac)] Try.func40 ?_
 have hM := Mem.unpk hR
 refine zsr <| zbx hM 46 (iG i) (iV i) fun b1 w2 hb1 M3 => ?_
 replace M3 := M3.nf
 clear hM
 refine zpn 1 <| zfe <| zsq ?_
 cases hq : lkp C.E.data i.name
 refine zkp [(0, (pT C.r 0)), (4, (pT b1 0))] ?_
 intro aC fr
 refine zdt 11 (N := 24) (env0 := [(0, (pT C.r 0)), (4, (pT b1 0))]) (specAt [.det (pT C.r 0), .det (pT C.r 0), .det (pT C.r 3), .det (.map (some C.dB)), .det (pT b1 3), .det (.string i.name), .det (.tuple #[(.int .i64 0), (.bool false)]), .det (.tuple #[(.int .i64 0), (.bool false)]), .det (.int .i64 0), .det (.bool false), .det (.int .i64 0)]) fr (la (la (la (la (la (la (la (la (la (la (la lz dP) dP) dP) (dL ⟨C.r, 3, none⟩ (.map (some C.dB)) fun w_ hK => (blk_cell ((M3.then_ hK).get 0 rfl) rfl))) dP) (dL ⟨b1, 3, none⟩ (.string i.name) fun w_ hK => (blk_cell ((M3.then_ hK).get 3 rfl) rfl))) (dM (strLaw Try.underlying9) Try.underlying85 i.name (.int .i64 0) (fun w_ hK => (M3.then_ hK).ro hA.rdata) true (hv := by rw [lkp_vK, hq]; rfl))) dP) dP) dP) dP) ?_
 intro aC w8 vs hK hv fr
 revert aC; refine zkp [(0, (pT C.r 0)), (7, (.int .i64 0)), (18, (.bool false))] ?_
 have M9 := M3.then_ hK
 clear hK hv fr aC M3; clear vs
 refine zpn 1 <| zfe <| zsr <| zpn 3 <| zce (fault_t C.r w8) (fun _ w2_ ⟨hv_, hx_⟩ a_ hf_ => by subst hv_; exact xpp hf_ (⟨_, _, s, oA, oc, by rw [inst_6 hop, hq], rfl, hG, (M9.cl hx_).tk 3⟩)) ?_
 rintro _ w10 h_; exact h_.elim
 rename_i nn
 refine zkp [(0, (pT C.r 0)), (4, (pT b1 0))] ?_
 intro aC fr
 refine zdt 11 (N := 24) (env0 := [(0, (pT C.r 0)), (4, (pT b1 0))]) (specAt [.det (pT C.r 0), .det (pT C.r 0), .det (pT C.r 3), .det (.map (some C.dB)), .det (pT b1 3), .det (.string i.name), .det (.tuple #[(.int .i64 nn), (.bool true)]), .det (.tuple #[(.int .i64 nn), (.bool true)]), .det (.int .i64 nn), .det (.bool true), .det (.int .i64 nn)]) fr (la (la (la (la (la (la (la (la (la (la (la lz dP) dP) dP) (dL ⟨C.r, 3, none⟩ (.map (some C.dB)) fun w_ hK => (blk_cell ((M3.then_ hK).get 0 rfl) rfl))) dP) (dL ⟨b1, 3, none⟩ (.string i.name) fun w_ hK => (blk_cell ((M3.then_ hK).get 3 rfl) rfl))) (dM (strLaw Try.underlying9) Try.underlying85 i.name (.int .i64 0) (fun w_ hK => (M3.then_ hK).ro hA.rdata) true (hv := by rw [lkp_vK, hq]; rfl))) dP) dP) dP) dP) ?_
 intro aC w16 vs hK hv fr
 revert aC; refine zkp [(0, (pT C.r 0)), (7, (.int .i64 nn)), (18, (.bool true))] ?_
 have M17 := M3.then_ hK
 clear hK hv fr aC M3; clear vs
 refine zpn 1 <| zfe <| zsr <| zpn 3 <| zce (fault_f C.r w16) (fun _ _ h_ => h_.elim) ?_
 rintro _ w18 ⟨rfl, M19x⟩
 have M19 := M17.cl M19x
 refine zfe <| zsp <| zre <| xo1 (.int .i64 nn) ?_
 exact ⟨nn, s, oA, oc, by rw [inst_6 hop, hq], rfl, hG, M19.tk 3⟩
theorem fcode_c (C : RC) (s : PSt) (oA : Option Addr) (oc : Nat) (w : World) (hC : C.WF) (hG : RGood C s) (hR : (Res.pk (runL C s oA oc)).holds w) (hA : RO (rS C s oA oc) w C.ro) (call : Int → List Int → PSt → Got Int) (i : FIns) (l : List Int) (aA : Option Addr) (ac : Nat) (hl : RO (rS C s oA oc) w (.rd aA (ints l))) (hop : i.op = 7) :
    RCalls Try.prog C s oA oc w 41 [(pT C.r 0), (iG i), (.slice aA l.length ac)] intV (instS C.E call i l s) := by
 have g2 := hG.n2
 have g3 := hG.n1
 have g4 := hG.mem
 have g5 := hC.mem
 refine xen 24 [(pT C.r 0), (iG i), (.slice aA l.length ac)] Try.func41 ?_
 have hM := Mem.unpk hR
 refine zsr <| zbx hM 46 (iG i) (iV i) fun b1 w2 hb1 M3 => ?_
 replace M3 := M3.nf
 clear hM
 refine zpn 1 <| zfe <| zsq ?_
 cases hq : lkp C.E.names i.name
 refine zkp [(0, (pT C.r 0)), (4, (pT b1 0))] ?_
 intro aC fr
 refine zdt 11 (N := 24) (env0 := [(0, (pT C.r 0)), (4, (pT b1 0))]) (specAt [.det (pT C.r 0), .det (pT C.r 0), .det (pT C.r 2), .det (.map (some C.mB)), .det (pT b1 3), .det (.string i.name), .det (.tuple #[(.int .i64 0), (.bool false)]), .det (.tuple #[(.int .i64 0), (.bool false)]), .det (.int .i64 0), .det (.bool false), .det (.int .i64 0)]) fr (la (la (la (la (la (la (la (la (la (la (la lz dP) dP) dP) (dL ⟨C.r, 2, none⟩ (.map (some C.mB)) fun w_ hK => (blk_cell ((M3.then_ hK).get 0 rfl) rfl))) dP) (dL ⟨b1, 3, none⟩ (.string i.name) fun w_ hK => (blk_cell ((M3.then_ hK).get 3 rfl) rfl))) (dM (strLaw Try.underlying9) Try.underlying84 i.name (.int .i64 0) (fun w_ hK => (M3.then_ hK).ro hA.rnames) true (hv := by rw [lkp_vK, hq]; rfl))) dP) dP) dP) dP) ?_
 intro aC w8 vs hK hv fr
 revert aC; refine zkp [(0, (pT C.r 0)), (7, (.int .i64 0)), (18, (.bool false))] ?_
 have M9 := M3.then_ hK
 clear hK hv fr aC M3; clear vs
 refine zpn 1 <| zfe <| zsr <| zpn 3 <| zce (fault_t C.r w8) (fun _ w2_ ⟨hv_, hx_⟩ a_ hf_ => by subst hv_; exact xpp hf_ (⟨_, _, s, oA, oc, by rw [inst_7 hop, hq], rfl, hG, (M9.cl hx_).tk 3⟩)) ?_
 rintro _ w10 h_; exact h_.elim
 rename_i nn
 refine zkp [(0, (pT C.r 0)), (4, (pT b1 0))] ?_
 intro aC fr
 refine zdt 11 (N := 24) (env0 := [(0, (pT C.r 0)), (4, (pT b1 0))]) (specAt [.det (pT C.r 0), .det (pT C.r 0), .det (pT C.r 2), .det (.map (some C.mB)), .det (pT b1 3), .det (.string i.name), .det (.tuple #[(.int .i64 nn), (.bool true)]), .det (.tuple #[(.int .i64 nn), (.bool true)]), .det (.int .i64 nn), .det (.bool true), .det (.int .i64 nn)]) fr (la (la (la (la (la (la (la (la (la (la (la lz dP) dP) dP) (dL ⟨C.r, 2, none⟩ (.map (some C.mB)) fun w_ hK => (blk_cell ((M3.then_ hK).get 0 rfl) rfl))) dP) (dL ⟨b1, 3, none⟩ (.string i.name) fun w_ hK => (blk_cell ((M3.then_ hK).get 3 rfl) rfl))) (dM (strLaw Try.underlying9) Try.underlying84 i.name (.int .i64 0) (fun w_ hK => (M3.then_ hK).ro hA.rnames) true (hv := by rw [lkp_vK, hq]; rfl))) dP) dP) dP) dP) ?_
 intro aC w16 vs hK hv fr
 revert aC; refine zkp [(0, (pT C.r 0)), (7, (.int .i64 nn)), (18, (.bool true))] ?_
 have M17 := M3.then_ hK
 clear hK hv fr aC M3; clear vs
 refine zpn 1 <| zfe <| zsr <| zpn 3 <| zce (fault_f C.r w16) (fun _ _ h_ => h_.elim) ?_
 rintro _ w18 ⟨rfl, M19x⟩
 have M19 := M17.cl M19x
 refine zfe <| zsp <| zre <| xo1 (.int .i64 nn) ?_
 exact ⟨nn, s, oA, oc, by rw [inst_7 hop, hq], rfl, hG, M19.tk 3⟩
theorem call_c (C : RC) (s : PSt) (oA : Option Addr) (oc : Nat) (w : World) (hC : C.WF) (hG : RGood C s) (hR : (Res.pk (runL C s oA oc)).holds w) (hA : RO (rS C s oA oc) w C.ro) (call : Int → List Int → PSt → Got Int) (i : FIns) (l : List Int) (aA : Option Addr) (ac : Nat) (hl : RO (rS C s oA oc) w (.rd aA (ints l))) (hop : i.op = 4)(b : Int) (hcall : CallOk Try.prog C 73 call b) (hb : C.E.fuel - s.steps < b) (hlen : l.length ≤ 17)  :
    RCalls Try.prog C s oA oc w 38 [(pT C.r 0), (iG i), (.slice aA l.length ac)] intV (instS C.E call i l s) := by
 have g2 := hG.n2
 have g3 := hG.n1
 have g4 := hG.mem
 have g5 := hC.mem
 refine xen 27 [(pT C.r 0), (iG i), (.slice aA l.length ac)] Try.func38 ?_
 have hM := Mem.unpk hR
 refine zsr <| zbx hM 46 (iG i) (iV i) fun b1 w2 hb1 M3 => ?_
 replace M3 := M3.nf
 clear hM
 refine zpn 1 <| zfe <| zsq ?_
 cases hq : lkp C.E.names i.name
 refine zkp [(0, (pT C.r 0)), (2, (.slice aA l.length ac)), (4, (pT b1 0))] ?_
 intro aC fr
 refine zdt 11 (N := 27) (env0 := [(0, (pT C.r 0)), (2, (.slice aA l.length ac)), (4, (pT b1 0))]) (specAt [.det (pT C.r 0), .det (pT C.r 0), .det (pT C.r 2), .det (.map (some C.mB)), .det (pT b1 3), .det (.string i.name), .det (.tuple #[(.int .i64 0), (.bool false)]), .det (.tuple #[(.int .i64 0), (.bool false)]), .det (.int .i64 0), .det (.bool false), .det (.int .i64 0)]) fr (la (la (la (la (la (la (la (la (la (la (la lz dP) dP) dP) (dL ⟨C.r, 2, none⟩ (.map (some C.mB)) fun w_ hK => (blk_cell ((M3.then_ hK).get 0 rfl) rfl))) dP) (dL ⟨b1, 3, none⟩ (.string i.name) fun w_ hK => (blk_cell ((M3.then_ hK).get 3 rfl) rfl))) (dM (strLaw Try.underlying9) Try.underlying84 i.name (.int .i64 0) (fun w_ hK => (M3.then_ hK).ro hA.rnames) true (hv := by rw [lkp_vK, hq]; rfl))) dP) dP) dP) dP) ?_
 intro aC w8 vs hK hv fr
 revert aC; refine zkp [(0, (pT C.r 0)), (2, (.slice aA l.length ac)), (7, (.int .i64 0)), (18, (.bool false))] ?_
 have M9 := M3.then_ hK
 clear hK hv fr aC M3; clear vs
 refine zpn 1 <| zfe <| zsr <| zpn 3 <| zce (fault_t C.r w8) (fun _ w2_ ⟨hv_, hx_⟩ a_ hf_ => by subst hv_; exact xpp hf_ (⟨_, _, s, oA, oc, by rw [inst_4 hop, hq], rfl, hG, (M9.cl hx_).tk 3⟩)) ?_
 rintro _ w10 h_; exact h_.elim
 rename_i nn
 refine zkp [(0, (pT C.r 0)), (2, (.slice aA l.length ac)), (4, (pT b1 0))] ?_
 intro aC fr
 refine zdt 11 (N := 27) (env0 := [(0, (pT C.r 0)), (2, (.slice aA l.length ac)), (4, (pT b1 0))]) (specAt [.det (pT C.r 0), .det (pT C.r 0), .det (pT C.r 2), .det (.map (some C.mB)), .det (pT b1 3), .det (.string i.name), .det (.tuple #[(.int .i64 nn), (.bool true)]), .det (.tuple #[(.int .i64 nn), (.bool true)]), .det (.int .i64 nn), .det (.bool true), .det (.int .i64 nn)]) fr (la (la (la (la (la (la (la (la (la (la (la lz dP) dP) dP) (dL ⟨C.r, 2, none⟩ (.map (some C.mB)) fun w_ hK => (blk_cell ((M3.then_ hK).get 0 rfl) rfl))) dP) (dL ⟨b1, 3, none⟩ (.string i.name) fun w_ hK => (blk_cell ((M3.then_ hK).get 3 rfl) rfl))) (dM (strLaw Try.underlying9) Try.underlying84 i.name (.int .i64 0) (fun w_ hK => (M3.then_ hK).ro hA.rnames) true (hv := by rw [lkp_vK, hq]; rfl))) dP) dP) dP) dP) ?_
 intro aC w16 vs hK hv fr
 revert aC; refine zkp [(0, (pT C.r 0)), (2, (.slice aA l.length ac)), (7, (.int .i64 nn)), (18, (.bool true))] ?_
 have M17 := M3.then_ hK
 clear hK hv fr aC M3; clear vs
 refine zpn 1 <| zfe <| zsr <| zpn 3 <| zce (fault_f C.r w16) (fun _ _ h_ => h_.elim) ?_
 rintro _ w18 ⟨rfl, M19x⟩
 have M19 := M17.cl M19x
 refine zfe <| zsr <| zpn 3 <| zce (hcall nn l aA ac s oA oc w18 hG hb (Mem.pk_holds (l := runL C s oA oc) M19) (hA.pk_at (l := runL C s oA oc) M19) (hl.pk_at (l := runL C s oA oc) M19) (by omega)) (fun _ w2_ ⟨k_, c_, s_, oA_, oc_, hg_, hv_, hG_, hx_⟩ a_ hf_ => by subst hv_; exact xpp hf_ ⟨k_, c_, s_, oA_, oc_, by rw [inst_4 hop, hq]; exact hg_, rfl, hG_, Mem.tk (Mem.mdk (l := runL C s oA oc) M19 hx_) 3⟩) ?_
 rintro _ w25 ⟨x20, s21, oA22, oc23, hg24, rfl, hGs21, M26x⟩
 have M26 : Mem (rS C s oA oc) w w25 [.blk C.r 89 (rcells C s21 oA22 oc23), .row 2 1 (sM C.mG) C.E.memN C.E.memN (ints s21.mem), .row 5 1 oA22 s21.out.length oc23 (u8s s21.out), .blk b1 46 (iV i)] := M19.mdk M26x
 refine zpn 1 <| zfe <| zre <| xo1 (.int .i64 x20) ?_
 exact ⟨x20, s21, oA22, oc23, by rw [inst_4 hop, hq]; exact hg24, rfl, hGs21, M26.tk 3⟩
end Go.Proofs.Ytjekgaabcigphaa
namespace Go.Mor
open Go.RowKit
def slE (P : Program) (c : Code) (N : FN) (env : Env) (k : Nat) : Option (Option Nat × Option Addr × Nat × Nat × Int × Nat) := match coreAt c k with
  | some (d, .slice t x (some y) none none, _, g) => match guardE c g env, okd d N, ev env x, ev env y, P.underlying t with
    | some true, true, some (.slice A n cap), some (.int _ i), some (.slice e) => match (P.info? e).map (·.size) with
      | some size => some (d, A, n, cap, i, size)
      | none => none
    | _, _, _, _, _ => none
  | _ => none
theorem sl_spec {P : Program} {c : Code} {N : FN} {env : Env} {k : Nat} {d : Option Nat} {A : Option Addr} {n cap size : Nat} {i : Int} (h : slE P c N env k = some (d, A, n, cap, i, size)) :
    ∃ t x y ty g e kd, coreAt c k = some (d, .slice t x (some y) none none, ty, g) ∧ guardE c g env = some true ∧ okd d N = true ∧ ev env x = some (.slice A n cap) ∧ ev env y = some (.int kd i) ∧ P.underlying t = some (.slice e) ∧ (P.info? e).map (·.size) = some size := by
  unfold slE at h
  split at h
  · rename_i h0
    split at h
    · rename_i h1 h2 h3 h4 h5
      split at h
      · rename_i h6
        simp only [Option.some.injEq, Prod.mk.injEq] at h
        obtain ⟨rfl, rfl, rfl, rfl, rfl, rfl⟩ := h
        exact ⟨_, _, _, _, _, _, _, h0, h1, h2, h3, h4, h5, h6⟩
      · cases h
    · cases h
  · cases h
abbrev cutV (A : Option Addr) (n cap m size : Nat) : Value := .slice (if cap = m then A else A.map (·.add (m * size))) (n - m) (cap - m)
section
variable {P : Program} {c : Code} {K : Act → World → Prop} {Q : Exit → Act → World → Prop} {w w0 : World} {S : Nat → Prop} {L : List Res} {k : Nat} {N : FN} {env : Env}
theorem zsl {A : Option Addr} {n cap size : Nat} (m : Nat) (hm : m ≤ n) (h : ∀ a, Fr a N (putE env (dstAt c k) (cutV A n cap m size)) → From P c K Q (k + 1) a w) (hk : slE P c N env k = some (dstAt c k, A, n, cap, (m : Int), size)) : ∀ a, Fr a N env → From P c K Q k a w := fun a hF => by
  obtain ⟨t, x, y, ty, g, e, kd, h0, h1, h2, h3, h4, h5, h6⟩ := sl_spec hk
  exact From_sliceLo h0 hF h1 h2 rfl m h3 h4 rfl h5 h6 hm (fun a' _ => h a')
end
section
variable {P : Program} {c : Code} {Q : Exit → Act → World → Prop} {N : FN} {i : Nat} {env0 : Env} {wr : World} {sp : Nat → Spec}
theorem dSl (A : Option Addr) (n cap size m : Nat) (hm : m ≤ n) (hv : sp i = .det (cutV A n cap m size) := by rfl) (hg : ∀ vs, gtE c i (predE c i sp vs env0) = some true := by intro _; kernel_rfl)
    (hk : ∀ us, slE P (one c i) N (predE c i sp us env0) 0 = some (dstAt c i, A, n, cap, (m : Int), size) := by intro _; kernel_rfl) (he : coreAt (one c i) 1 = none := by kernel_rfl) : OpOK P c Q N env0 wr sp i := by
  refine op_of hg (fun w vs hK hp a hF => ?_)
  obtain ⟨t, x, y, ty, g, e, kd, h0, h1, h2, h3, h4, h5, h6⟩ := sl_spec (hk vs)
  exact From_sliceLo h0 hF h1 h2 rfl m h3 h4 rfl h5 h6 hm (fun a' ea _ => From_end he ⟨_, ea, Kp.refl w, by rw [hv]; rfl⟩)
end
theorem rd_cut {w : World} {A : Option Addr} {v : Value} {vs : List Value} {cap : Nat} (h : (Res.rd A (v :: vs)).holds w) (hc : vs.length + 1 ≤ cap) : (Res.rd (if cap = 1 then A else A.map (·.add (1 * 1))) vs).holds w := by
  intro j u hj
  have hjl := (List.getElem?_eq_some_iff.1 hj).1
  obtain ⟨a, hA, hcell⟩ := h (j + 1) u (by simpa using hj)
  rw [if_neg (by omega), hA]
  refine ⟨_, rfl, ?_⟩
  rw [addr_add]
  rwa [show 1 * 1 + j = j + 1 by omega]
theorem RO.rd_cut {S : Nat → Prop} {w : World} {A : Option Addr} {v : Value} {vs : List Value} {cap : Nat} (h : RO S w (.rd A (v :: vs))) (hc : vs.length + 1 ≤ cap) : RO S w (.rd (if cap = 1 then A else A.map (·.add (1 * 1))) vs) := by
  refine ⟨Mor.rd_cut h.1 hc, fun g hg => h.2 g ?_⟩
  obtain ⟨hne, a, ha, hb⟩ := hg
  refine ⟨by simp, ?_⟩
  split at ha
  · exact ⟨a, ha, hb⟩
  · cases A with
    | none => cases ha
    | some a0 =>
      injection ha with ha
      subst ha
      exact ⟨a0, rfl, by rw [← hb, block_add]⟩
end Go.Mor
namespace Go.Mor
open Go.RowKit
def shE (P : Program) (c : Code) (N : FN) (env : Env) (k : Nat) : Option (Option Nat × Nat × Int × Nat) := match coreAt c k with
  | some (d, .slice t x none (some y) none, _, g) => match guardE c g env, okd d N, ev env x, ev env y, P.underlying t with
    | some true, true, some (.pointer (some ⟨b, 0, none⟩)), some (.int _ i), some (.array n e) => match (P.info? e).map (·.size) with
      | some _ => some (d, b, i, n)
      | none => none
    | _, _, _, _, _ => none
  | _ => none
section
variable {P : Program} {c : Code} {K : Act → World → Prop} {Q : Exit → Act → World → Prop} {w : World} {k : Nat} {N : FN} {env : Env}
theorem zsh {b n : Nat} (m : Nat) (hm : m ≤ n) (h : ∀ a, Fr a N (putE env (dstAt c k) (.slice (some ⟨b, 0, none⟩) m n)) → From P c K Q (k + 1) a w) (hk : shE P c N env k = some (dstAt c k, b, (m : Int), n)) : ∀ a, Fr a N env → From P c K Q k a w := fun a hF => by
  unfold shE at hk
  split at hk
  · rename_i h0
    split at hk
    · rename_i h1 h2 h3 h4 h5
      split at hk
      · rename_i sz h6
        simp only [Option.some.injEq, Prod.mk.injEq] at hk
        obtain ⟨rfl, rfl, rfl, rfl⟩ := hk
        refine From_same h0 hF h1 h2 rfl (fun o ho => ?_) (fun a' _ => h a') (v := .slice (some ⟨_, 0, none⟩) m _)
        unfold execOp
        rw [ho]
        obtain ⟨inf, hi, _⟩ := Option.map_eq_some_iff.1 h6
        simp [Instr.sliceAt, Instr.sliceBounds, Instr.sliceBound, asIntOf, run_underlying h5, hF.ev h3, hF.ev h4, Instr.sureAddr, sizeOf, typeInfo, hi, Addr.add, hm]
      · cases hk
    · cases hk
  · cases hk
end
end Go.Mor
namespace Go.Mor
theorem inB_pan {id : Nat} {K : Act → World → Prop} {Q : Exit → Act → World → Prop} {a : Act} {w : World} {v : Value} (h : Q (pan v) a w) : inB id K Q (pan v) a w := h
end Go.Mor
namespace Go.Proofs.Ytjekgaabcigphaa
open Go.Mor
theorem callAt_c (C : RC) (s : PSt) (oA : Option Addr) (oc : Nat) (w : World) (hC : C.WF) (hG : RGood C s) (hR : (Res.pk (runL C s oA oc)).holds w) (hA : RO (rS C s oA oc) w C.ro) (call : Int → List Int → PSt → Got Int) (i : FIns) (x0 : Int) (l1 : List Int) (aA : Option Addr) (ac : Nat) (hl : RO (rS C s oA oc) w (.rd aA (ints (x0 :: l1)))) (hop : i.op = 5) (hac : l1.length + 1 ≤ ac) (hlen : l1.length ≤ 16) (b : Int) (hcall : CallOk Try.prog C 73 call b) (hb : C.E.fuel - s.steps < b)  :
    RCalls Try.prog C s oA oc w 39 [(pT C.r 0), (iG i), (.slice aA (l1.length + 1) ac)] intV (instS C.E call i (x0 :: l1) s) := by
 refine xen 14 [(pT C.r 0), (iG i), (.slice aA (l1.length + 1) ac)] Try.func39 ?_
 have hM := Mem.unpk hR
 refine zsr <| zbx hM 46 (iG i) (iV i) fun b1 w2 hb1 M3 => ?_
 replace M3 := M3.nf
 clear hM
 refine zpn 1 <| zfe <| zsq ?_
 obtain ⟨ad4, rfl⟩ := rd_ints_some (M3.ro hl) (by simp)
 refine zkp [(0, (pT C.r 0)), (2, (.slice (some ad4) (l1.length + 1) ac))] ?_
 intro aC fr
 refine zdt 6 (N := 14) (env0 := [(0, (pT C.r 0)), (2, (.slice (some ad4) (l1.length + 1) ac))]) (specAt [.det (pT C.r 0), .det (.slice (some ad4) (l1.length + 1) ac), .det (.pointer (some ((ad4 : Addr).add ((0 : Int).toNat * 1)))), .det (.int .i64 x0), .det (.slice (some ad4) (l1.length + 1) ac), .det (cutV (some ad4) (l1.length + 1) ac 1 1)]) fr (la (la (la (la (la (la lz dP) dP) (dI ad4 (l1.length + 1) 1 0)) (dL ((ad4 : Addr).add ((0 : Int).toNat * 1)) (.int .i64 x0) fun w_ hK => (rd_int ((M3.then_ hK).ro hl) rfl (by omega) (by simp)))) dP) (dSl (some ad4) (l1.length + 1) ac 1 1 (by omega))) ?_
 intro aC w9 vs hK hv fr
 revert aC; refine zkp [(7, (pT C.r 0)), (10, (.int .i64 x0)), (12, (.slice (if ac = 1 then (some ad4) else Option.map (·.add (1 * 1)) (some ad4)) l1.length (ac - 1)))] ?_
 have M10 := M3.then_ hK
 clear hK hv fr aC M3; clear vs
 refine zce (hcall x0 l1 (if ac = 1 then (some ad4) else Option.map (·.add (1 * 1)) (some ad4)) (ac - 1) s oA oc w9 hG hb (Mem.pk_holds (l := runL C s oA oc) M10) (hA.pk_at (l := runL C s oA oc) M10) (RO.rd_cut (vs := ints l1) hl (by rw [ints_len]; exact hac) |>.pk_at (l := runL C s oA oc) M10) (by omega)) (fun _ w2_ ⟨k_, c_, s_, oA_, oc_, hg_, hv_, hG_, hx_⟩ a_ hf_ => by subst hv_; exact xpp hf_ ⟨k_, c_, s_, oA_, oc_, by rw [inst_5 hop]; exact hg_, rfl, hG_, Mem.tk (Mem.mdk (l := runL C s oA oc) M10 hx_) 3⟩) ?_
 rintro _ w16 ⟨x11, s12, oA13, oc14, hg15, rfl, hGs12, M17x⟩
 have M17 : Mem (rS C s oA oc) w w16 [.blk C.r 89 (rcells C s12 oA13 oc14), .row 2 1 (sM C.mG) C.E.memN C.E.memN (ints s12.mem), .row 5 1 oA13 s12.out.length oc14 (u8s s12.out), .blk b1 46 (iV i)] := M10.mdk M17x
 refine zpn 1 <| zfe <| zre <| xo1 (.int .i64 x11) ?_
 exact ⟨x11, s12, oA13, oc14, by rw [inst_5 hop]; exact hg15, rfl, hGs12, M17.tk 3⟩
theorem alloc_c (C : RC) (s : PSt) (oA : Option Addr) (oc : Nat) (w : World) (hC : C.WF) (hG : RGood C s) (hR : (Res.pk (runL C s oA oc)).holds w) (call : Int → List Int → PSt → Got Int) (i : FIns) (l : List Int) (aA : Option Addr) (ac : Nat) (hl : RO (rS C s oA oc) w (.rd aA (ints l))) (hop : i.op = 8) (hlen : l.length = 1) :
    RCalls Try.prog C s oA oc w 42 [(pT C.r 0), (iG i), (.slice aA l.length ac)] intV (instS C.E call i l s) := by
 have g2 := hG.n2
 have g3 := hG.n1
 have g4 := hG.mem
 have g5 := hC.mem
 refine xen 45 [(pT C.r 0), (iG i), (.slice aA l.length ac)] Try.func42 ?_
 have hM := Mem.unpk hR
 refine zsr <| zbx hM 46 (iG i) (iV i) fun b1 w2 hb1 M3 => ?_
 replace M3 := M3.nf
 clear hM
 refine zpn 1 <| zfe <| zsr <| zpn 2 ?_
 obtain ⟨ad4, rfl⟩ := rd_ints_some (M3.ro hl) (by omega)
 refine zix ad4 l.length 1 0 <| zld ((ad4 : Addr).add ((0 : Int).toNat * 1)) (.int .i64 (a0 l)) (rd_int (M3.ro hl) rfl (by omega) (by omega)) <| zpn 1 ?_
 obtain ⟨B5, hB5⟩ : ∃ B : Bool, B = decide ((a0 l : Int) < 0) := ⟨_, rfl⟩
 refine zkp [(0, (pT C.r 0)), (2, (.slice (some ad4) l.length ac)), (8, (pT C.r 0)), (12, (.bool (decide ((a0 l : Int) < 0))))] ?_
 rw [← hB5]
 have iB5 : B5 = true ↔ ((a0 l : Int) < 0) := by rw [hB5]; simp only [decide_eq_true_eq]
 clear hB5
 refine zkp [(0, (pT C.r 0)), (2, (.slice (some ad4) l.length ac)), (8, (pT C.r 0)), (12, (.bool B5))] <| zce (fault_c C.r B5 w2) (fun _ w2_ ⟨hb_, hv_, hx_⟩ a_ hf_ => by subst hv_; have cf6 : ((a0 l : Int) < 0) := iB5.1 hb_; exact xpp hf_ (⟨_, _, s, oA, oc, by rw [inst_8 hop, if_pos (by omega)], rfl, hG, (M3.cl hx_).tk 3⟩)) ?_
 rintro _ w7 ⟨hb_, rfl, M8x⟩
 have M8 := M3.cl M8x
 have cf6 : ¬ ((a0 l : Int) < 0) := fun h_ => Bool.noConfusion ((iB5.2 h_).symm.trans hb_)
 clear hb_
 refine zfe <| zsq <| zsq ?_
 obtain ⟨B9, hB9⟩ : ∃ B : Bool, B = decide ((a0 l) > (((C.E.memN : Nat) : Int) - s.next)) := ⟨_, rfl⟩
 refine zkp [(0, (pT C.r 0)), (2, (.slice (some ad4) l.length ac))] ?_
 intro aC fr
 refine zdr (N := 45) (env0 := [(0, (pT C.r 0)), (2, (.slice (some ad4) l.length ac))]) (specAt [.det (.slice (some ad4) l.length ac), .det (.pointer (some ((ad4 : Addr).add ((0 : Int).toNat * 1)))), .det (.int .i64 (a0 l)), .det (pT C.r 0), .det (pT C.r 0), .det (pT C.r 4), .det (.slice (sM C.mG) C.E.memN C.E.memN), .det (.int .i64 ((C.E.memN : Nat) : Int)), .det (pT C.r 0), .det (pT C.r 0), .det (pT C.r 5), .det (.int .i64 s.next), .det (.int .i64 (((C.E.memN : Nat) : Int) - s.next)), .det (.bool B9)]) fr (la (la (la (la (la (la (la (la (la (la (la (la (la (la lz dP) (dI ad4 l.length 1 0)) (dL ((ad4 : Addr).add ((0 : Int).toNat * 1)) (.int .i64 (a0 l)) fun w_ hK => (rd_int ((M8.then_ hK).ro hl) rfl (by omega) (by omega)))) dP) dP) dP) (dL ⟨C.r, 4, none⟩ (.slice (sM C.mG) C.E.memN C.E.memN) fun w_ hK => (blk_cell ((M8.then_ hK).get 0 rfl) rfl))) dP) dP) dP) dP) (dL ⟨C.r, 5, none⟩ (.int .i64 s.next) fun w_ hK => (blk_cell ((M8.then_ hK).get 0 rfl) rfl))) (dA (((C.E.memN : Nat) : Int) - s.next))) (dC (decide ((a0 l) > (((C.E.memN : Nat) : Int) - s.next))) hB9)) ?_
 intro aC w14 vs hK hv fr
 revert aC; refine zkp [(0, (pT C.r 0)), (2, (.slice (some ad4) l.length ac)), (27, (.bool B9))] ?_
 have M15 := M8.then_ hK
 clear hK hv fr aC M8; clear vs
 have iB9 : B9 = true ↔ (((a0 l) : Int) > (((C.E.memN : Nat) : Int) - s.next)) := by rw [hB9]; simp only [decide_eq_true_eq]
 clear hB9
 refine zcP B9 (((a0 l) : Int) > (((C.E.memN : Nat) : Int) - s.next)) iB9 (fun c16 => ?_) (fun c16 => ?_)
 refine zrg <| zpn 1 <| zce (stop_c C.r 3 0 w14) (fun _ w2_ ⟨hv_, hx_⟩ a_ hf_ => by subst hv_; exact xpp hf_ (⟨_, _, s, oA, oc, by rw [inst_8 hop, if_neg (by omega), if_pos (by omega)], rfl, hG, (M15.cl hx_).tk 3⟩)) ?_
 rintro _ w17 h_; exact h_.elim
 refine zsk <| zsr <| zpn 3 <| zld ⟨C.r, 5, none⟩ (.int .i64 s.next) (blk_cell (M15.get 0 rfl) rfl) <| zpn 1 <| zfe <| zsq <| zkp [(0, (pT C.r 0)), (2, (.slice (some ad4) l.length ac)), (7, (.int .i64 s.next))] ?_
 intro aC fr
 refine zdt 7 (N := 45) (env0 := [(0, (pT C.r 0)), (2, (.slice (some ad4) l.length ac)), (7, (.int .i64 s.next))]) (specAt [.det (pT C.r 0), .det (pT C.r 0), .det (pT C.r 5), .det (.int .i64 s.next), .det (.slice (some ad4) l.length ac), .det (.pointer (some ((ad4 : Addr).add ((0 : Int).toNat * 1)))), .det (.int .i64 (a0 l))]) fr (la (la (la (la (la (la (la lz dP) dP) dP) (dL ⟨C.r, 5, none⟩ (.int .i64 s.next) fun w_ hK => (blk_cell ((M15.then_ hK).get 0 rfl) rfl))) dP) (dI ad4 l.length 1 0)) (dL ((ad4 : Addr).add ((0 : Int).toNat * 1)) (.int .i64 (a0 l)) fun w_ hK => (rd_int ((M15.then_ hK).ro hl) rfl (by omega) (by omega)))) ?_
 intro aC w23 vs hK hv fr
 revert aC; refine zkp [(7, (.int .i64 s.next)), (34, (pT C.r 0)), (37, (.int .i64 s.next)), (40, (.int .i64 (a0 l)))] ?_
 have M24 := M15.then_ hK
 clear hK hv fr aC M15; clear vs
 refine zar (s.next + (a0 l)) <| zpn 2 <| zsb (ho := (by simp)) M24 0 5 (.int .i64 (s.next + (a0 l))) rfl fun w25 M26 => ?_
 replace M26 := M26.nf
 refine zfe <| zsp <| zre <| xo1 (.int .i64 s.next) ?_
 exact ⟨s.next, { s with next := s.next + a0 l }, oA, oc, by rw [inst_8 hop, if_neg (by omega), if_neg (by omega)], rfl, hG.take (by omega) (by omega), M26.tk 3⟩
theorem read_c (C : RC) (s : PSt) (oA : Option Addr) (oc : Nat) (w : World) (hC : C.WF) (hG : RGood C s) (hR : (Res.pk (runL C s oA oc)).holds w) (hA : RO (rS C s oA oc) w C.ro) (call : Int → List Int → PSt → Got Int) (i : FIns) (l : List Int) (aA : Option Addr) (ac : Nat) (hl : RO (rS C s oA oc) w (.rd aA (ints l))) (hop : i.op = 9) (hlen : l.length = 0) :
    RCalls Try.prog C s oA oc w 43 [(pT C.r 0), (iG i), (.slice aA l.length ac)] intV (instS C.E call i l s) := by
 have g6 := hG.pos
 have g2 := hG.n2
 have g3 := hG.n1
 have g4 := hG.mem
 have g5 := hC.mem
 refine xen 30 [(pT C.r 0), (iG i), (.slice aA l.length ac)] Try.func43 ?_
 have hM := Mem.unpk hR
 refine zsr <| zbx hM 46 (iG i) (iV i) fun b1 w2 hb1 M3 => ?_
 replace M3 := M3.nf
 clear hM
 refine zpn 1 <| zfe <| zsq <| zsr <| zpn 3 <| zld ⟨C.r, 6, none⟩ (.slice ((inAt C.iA C.ic s.pos).1) (C.E.inp.length - s.pos) ((inAt C.iA C.ic s.pos).2)) (blk_cell (M3.get 0 rfl) rfl) <| zpn 2 <| zfe <| zcP (((((C.E.inp.length - s.pos) : Nat) : Int) : Int) == 0) (((((C.E.inp.length - s.pos) : Nat) : Int) : Int) = 0) (by simp only [beq_iff_eq]) (fun c4 => ?_) (fun c4 => ?_)
 refine zsp <| zre <| xo1 (.int .i64 (-1)) ?_
 exact ⟨(-1), s, oA, oc, by rw [inst_9 hop, if_neg (by omega)], rfl, hG, M3.tk 3⟩
 refine zsk <| zsr <| zpn 3 <| zld ⟨C.r, 6, none⟩ (.slice ((inAt C.iA C.ic s.pos).1) (C.E.inp.length - s.pos) ((inAt C.iA C.ic s.pos).2)) (blk_cell (M3.get 0 rfl) rfl) ?_
 obtain ⟨ad5, had6⟩ := in_some (p := s.pos) (M3.ro hA.rin) (by omega) hC.ic
 intro aC fr
 refine From_ixA (some 18) ((inAt C.iA C.ic s.pos).1) ad5 (C.E.inp.length - s.pos) 1 0 fr (by kernel_rfl) had6 (by omega) (by omega) ?_
 intro aC fr
 revert aC
 refine zld ((ad5 : Addr).add ((0 : Int).toNat * 1)) (.int .u8 (C.E.inp.getD s.pos 0)) (in_cell (p := s.pos) (M3.ro hA.rin) (by omega) hC.ic had6) <| zpn 1 <| zfe <| zsr <| zpn 4 <| zld ⟨C.r, 6, none⟩ (.slice ((inAt C.iA C.ic s.pos).1) (C.E.inp.length - s.pos) ((inAt C.iA C.ic s.pos).2)) (blk_cell (M3.get 0 rfl) rfl) <| zkp [(7, (.int .u8 (C.E.inp.getD s.pos 0))), (20, (pT C.r 0)), (24, (.slice ((inAt C.iA C.ic s.pos).1) (C.E.inp.length - s.pos) ((inAt C.iA C.ic s.pos).2)))] <| zsl (A := (inAt C.iA C.ic s.pos).1) (n := C.E.inp.length - s.pos) (cap := (inAt C.iA C.ic s.pos).2) (size := 1) (hk := by kernel_rfl) 1 (by omega) <| zpn 2 <| zsb (ho := (by simp)) M3 0 6 (.slice ((inAt C.iA C.ic (s.pos + 1)).1) (C.E.inp.length - (s.pos + 1)) ((inAt C.iA C.ic (s.pos + 1)).2)) rfl fun w11 M12 => ?_
 replace M12 := M12.nf
 refine zfe <| zsr <| zpn 1 <| zcv (hz := (IntWalk.i64_in _ (by have := byte_in hC (p := s.pos); omega))) (C.E.inp.getD s.pos 0) .i64 (C.E.inp.getD s.pos 0) <| zpn 1 <| zfe <| zre <| xo1 (.int .i64 (C.E.inp.getD s.pos 0)) ?_
 exact ⟨_, { s with pos := s.pos + 1 }, oA, oc, by rw [inst_9 hop, if_pos (by omega)], rfl, hG.read (by omega), M12.tk 3⟩
end Go.Proofs.Ytjekgaabcigphaa
namespace Go.Proofs.Ytjekgaabcigphaa
open Go.Mor
theorem write_c (C : RC) (s : PSt) (oA : Option Addr) (oc : Nat) (w : World) (hC : C.WF) (hG : RGood C s) (hR : (Res.pk (runL C s oA oc)).holds w) (call : Int → List Int → PSt → Got Int) (i : FIns) (l : List Int) (aA : Option Addr) (ac : Nat) (hl : RO (rS C s oA oc) w (.rd aA (ints l))) (hop : i.op = 10) (hlen : l.length = 1) :
    RCalls Try.prog C s oA oc w 44 [(pT C.r 0), (iG i), (.slice aA l.length ac)] intV (instS C.E call i l s) := by
 have g6 := hG.out
 have g2 := hG.n2
 have g3 := hG.n1
 have g4 := hG.mem
 have g5 := hC.mem
 refine xen 26 [(pT C.r 0), (iG i), (.slice aA l.length ac)] Try.func44 ?_
 have hM := Mem.unpk hR
 refine zsr <| zbx hM 46 (iG i) (iV i) fun b1 w2 hb1 M3 => ?_
 replace M3 := M3.nf
 clear hM
 refine zpn 1 <| zfe <| zsq <| zsr <| zpn 3 <| zld ⟨C.r, 7, none⟩ (.slice oA s.out.length oc) (blk_cell (M3.get 0 rfl) rfl) <| zpn 2 <| zfe <| zcD ((((s.out.length : Nat) : Int) : Int) < 4096) (fun c4 => ?_) (fun c4 => ?_)
 obtain ⟨ad5, rfl⟩ := rd_ints_some (M3.ro hl) (by omega)
 refine zkp [(0, (pT C.r 0)), (2, (.slice (some ad5) l.length ac))] ?_
 intro aC fr
 refine zdj (N := 26) (env0 := [(0, (pT C.r 0)), (2, (.slice (some ad5) l.length ac))]) (specAt [.det (pT C.r 0), .det (pT C.r 0), .det (pT C.r 0), .det (pT C.r 7), .det (.slice oA s.out.length oc), .det (.slice (some ad5) l.length ac), .det (.pointer (some ((ad5 : Addr).add ((0 : Int).toNat * 1)))), .det (.int .i64 (a0 l)), .det (.int .u8 (IntKind.u8.wrap (a0 l))), Spec.free, Spec.free, .det (pT C.r 0), .det (pT C.r 7), .det undef]) (fun ls vs w_ => match ls 13 with | true => (∃ (g6 : Nat) (A7 : Option Addr) (c8 : Nat), vs 9 = (.slice (sM g6) 1 1) ∧ vs 10 = (.slice A7 (s.out.length + 1) c8) ∧ Mem (rS C s oA oc) w w_ [.blk C.r 89 [(.slice C.fA (C.E.fns.length + 1) C.fc), (.slice C.sA (C.E.fns.length + 1) C.sc), (.map (some C.mB)), (.map (some C.dB)), (.slice (sM C.mG) C.E.memN C.E.memN), (.int .i64 s.next), (.slice ((inAt C.iA C.ic s.pos).1) (C.E.inp.length - s.pos) ((inAt C.iA C.ic s.pos).2)), (.slice A7 (s.out.length + 1) c8), (.int .i64 C.E.fuel), (.int .i64 s.steps), (.int .i64 s.opened), (.slice (some C.oP) 13 13)], .row 2 1 (sM C.mG) C.E.memN C.E.memN (ints s.mem), .row 5 1 A7 (s.out.length + 1) c8 ((u8s s.out) ++ [(.int .u8 (IntKind.u8.wrap (a0 l)))]), .blk b1 46 (iV i), .row 5 1 (sM g6) 1 1 [(.int .u8 (IntKind.u8.wrap (a0 l)))]]) | false => (match ls 10 with | true => (∃ (g6 : Nat) (A7 : Option Addr) (c8 : Nat), vs 9 = (.slice (sM g6) 1 1) ∧ vs 10 = (.slice A7 (s.out.length + 1) c8) ∧ Mem (rS C s oA oc) w w_ [.blk C.r 89 (rcells C s oA oc), .row 2 1 (sM C.mG) C.E.memN C.E.memN (ints s.mem), .row 5 1 A7 (s.out.length + 1) c8 ((u8s s.out) ++ [(.int .u8 (IntKind.u8.wrap (a0 l)))]), .blk b1 46 (iV i), .row 5 1 (sM g6) 1 1 [(.int .u8 (IntKind.u8.wrap (a0 l)))]]) | false => (match ls 9 with | true => (∃ (g6 : Nat), vs 9 = (.slice (sM g6) 1 1) ∧ Mem (rS C s oA oc) w w_ [.blk C.r 89 (rcells C s oA oc), .row 2 1 (sM C.mG) C.E.memN C.E.memN (ints s.mem), .row 5 1 oA s.out.length oc (u8s s.out), .blk b1 46 (iV i), .row 5 1 (sM g6) 1 1 [(.int .u8 (IntKind.u8.wrap (a0 l)))]]) | false => (Mem (rS C s oA oc) w w_ [.blk C.r 89 (rcells C s oA oc), .row 2 1 (sM C.mG) C.E.memN C.E.memN (ints s.mem), .row 5 1 oA s.out.length oc (u8s s.out), .blk b1 46 (iV i)])))) fr (plain_ok (.det (.det (.det (.det (.det (.det (.det (.det (.det (.free (.free (.det (.det (.det .nil))))))))))))))) (M3.then_ (Mem.drew _)) (la (la (la (la (la (la (la (la (la (la (la (la (la (la lz (dPJ fun _ _ _ _ h => h)) (dPJ fun _ _ _ _ h => h)) (dPJ fun _ _ _ _ h => h)) (dPJ fun _ _ _ _ h => h)) (dLJ ⟨C.r, 7, none⟩ (.slice oA s.out.length oc) (fun _ _ _ _ h => h) ?_)) (dPJ fun _ _ _ _ h => h)) (dIJ ad5 l.length 1 0 fun _ _ _ _ h => h)) (dLJ ((ad5 : Addr).add ((0 : Int).toNat * 1)) (.int .i64 (a0 l)) (fun _ _ _ _ h => h) ?_)) ?_) ?_) ?_) (dPJ fun _ _ _ _ h => h)) (dPJ fun _ _ _ _ h => h)) ?_) ?_
 intro w_ ls vs hJ hi_ hc_ hp
 have f10 : ls 10 = false := notyet hc_ hi_ (n := 14) (by kernel_rfl)
 have f13 : ls 13 = false := notyet hc_ hi_ (n := 14) (by kernel_rfl)
 have hM_ := hJ
 simp only [f10, f13] at hM_
 cases fu : ls 9
 simp only [fu] at hM_
 exact (blk_cell (hM_.get 0 rfl) rfl)
 simp only [fu] at hM_
 obtain ⟨_, _, hM_⟩ := hM_
 exact (blk_cell (hM_.get 0 rfl) rfl)
 intro w_ ls vs hJ hi_ hc_ hp
 have f9 : ls 9 = false := notyet hc_ hi_ (n := 14) (by kernel_rfl)
 have f10 : ls 10 = false := notyet hc_ hi_ (n := 14) (by kernel_rfl)
 have f13 : ls 13 = false := notyet hc_ hi_ (n := 14) (by kernel_rfl)
 have hM_ := hJ
 simp only [f9, f10, f13] at hM_
 exact (rd_int (hM_.ro hl) rfl (by omega) (by omega))
 intro aa_ w_ ls vs rest_ hJ hi_ hc_ hp hF
 refine okG (g0 := none) ?_
 replace hF : Fr aa_ 26 [(20, (.int .i64 (a0 l)))] := hF.kp [20]
 refine From_conv (by kernel_rfl : coreAt _ 0 = some (some 21, (.convert 2 5 (.tmp 20)), 5, none)) hF (by kernel_rfl) (by kernel_rfl) (k' := 1) rfl (kd := .i64) (kd' := .u8) (i := a0 l) (z := IntKind.u8.wrap (a0 l)) (by kernel_rfl) Try.underlying2 Try.underlying5 rfl ?_
 intro a2 ea _
 refine From_end (by kernel_rfl) ?_; exact op_doneJ (d := some 21) (by kernel_rfl) ea rfl hJ
 intro aa_ w_ ls vs rest_ hJ hi_ hc_ hp hF
 refine okG (g0 := none) ?_
 replace hF : Fr aa_ 26 [(21, (.int .u8 (IntKind.u8.wrap (a0 l))))] := hF.kp [21]
 have f9 : ls 9 = false := hi_
 have f10 : ls 10 = false := notyet hc_ hi_ (n := 14) (by kernel_rfl)
 have f13 : ls 13 = false := notyet hc_ hi_ (n := 14) (by kernel_rfl)
 have hM_ := hJ
 simp only [f9, f10, f13] at hM_
 refine zBs 22 33 1 #[(0, (.tmp 21))] 33 hF (e := 5) (size := 1) (zs := [(.int .u8 0)]) (vs := [(0, (.int .u8 (IntKind.u8.wrap (a0 l))))]) (cs := [(.int .u8 (IntKind.u8.wrap (a0 l)))]) hM_ ?_
 intro g6p w2 _ _ hm2 _ a2 ea _
 refine From_end (by kernel_rfl) ?_; refine op_doneJ (d := some 22) (by kernel_rfl) ea trivial ?_
 show match ls 13 with | true => _ | false => (match ls 10 with | true => _ | false => (∃ (g6 : Nat), _))
 rw [f13, f10]
 exact ⟨g6p, rfl, hm2⟩
 intro aa_ w_ ls vs rest_ hJ hi_ hc_ hp hF
 refine okG (g0 := none) ?_
 replace hF : Fr aa_ 26 [(17, (.slice oA s.out.length oc)), (22, vs 9)] := hF.kp [17, 22]
 have f9 : ls 9 = true := donebefore hc_ (fun k hk => (hp k hk).1) (n := 14) (by kernel_rfl)
 have f10 : ls 10 = false := hi_
 have f13 : ls 13 = false := notyet hc_ hi_ (n := 14) (by kernel_rfl)
 have hM_ := hJ
 simp only [f9, f10, f13] at hM_
 obtain ⟨g6p, e9_, hM_⟩ := hM_
 try rw [e9_] at hF
 refine zAp 23 (.tmp 17) (.tmp 22) 33 33 hF (e := 5) (size := 1) (bytes := 1) (z := (.int .u8 0)) (A := oA) (B := (sM g6p)) (n := s.out.length) (cap := oc) (m := 1) (cap' := 1) (xs := (u8s s.out)) (news := [(.int .u8 (IntKind.u8.wrap (a0 l)))]) hM_ 2 rfl (row_rd (hM_.get 4 rfl)) rfl (by simp [Value.oneCell']) (by have g7 := hG.out; omega) (by have g7 := hG.out; simp only [maxLen]; omega) ?_
 intro A7p c8p w2 hm2 _ a2 ea _
 refine From_end (by kernel_rfl) ?_; refine op_doneJ (d := some 23) (by kernel_rfl) ea trivial ?_
 show match ls 13 with | true => _ | false => (∃ (g6 : Nat) (A7 : Option Addr) (c8 : Nat), _)
 rw [f13]
 exact ⟨g6p, A7p, c8p, e9_, rfl, hm2⟩
 intro aa_ w_ ls vs rest_ hJ hi_ hc_ hp hF
 refine okG (g0 := none) ?_
 replace hF : Fr aa_ 26 [(23, vs 10), (25, (pT C.r 7))] := hF.kp [23, 25]
 have f9 : ls 9 = true := donebefore hc_ (fun k hk => (hp k hk).1) (n := 14) (by kernel_rfl)
 have f10 : ls 10 = true := donebefore hc_ (fun k hk => (hp k hk).1) (n := 14) (by kernel_rfl)
 have f13 : ls 13 = false := hi_
 have hM_ := hJ
 simp only [f9, f10, f13] at hM_
 obtain ⟨g6p, A7p, c8p, e9_, e10_, hM_⟩ := hM_
 try rw [e9_] at hF
 try rw [e10_] at hF
 refine From_store_blk (by kernel_rfl : coreAt _ 0 = some (none, (.store 33 (.tmp 25) (.tmp 23)), 0, none)) hF (by kernel_rfl) (by kernel_rfl) (k' := 1) rfl (b := C.r) (off := 7) (t0 := 89) (v := (.slice A7p (s.out.length + 1) c8p)) (cs := [(.slice C.fA (C.E.fns.length + 1) C.fc), (.slice C.sA (C.E.fns.length + 1) C.sc), (.map (some C.mB)), (.map (some C.dB)), (.slice (sM C.mG) C.E.memN C.E.memN), (.int .i64 s.next), (.slice ((inAt C.iA C.ic s.pos).1) (C.E.inp.length - s.pos) ((inAt C.iA C.ic s.pos).2)), (.slice oA s.out.length oc), (.int .i64 C.E.fuel), (.int .i64 s.steps), (.int .i64 s.opened), (.slice (some C.oP) 13 13)]) (by kernel_rfl) (by kernel_rfl) (by kernel_rfl) rfl hM_ 0 rfl (by simp) ?_
 intro w2 hm2 _ a2 ea _
 refine From_end (by kernel_rfl) ?_; refine op_doneJ (d := none) (by kernel_rfl) ea rfl ?_
 show ∃ (g6 : Nat) (A7 : Option Addr) (c8 : Nat), _
 exact ⟨g6p, A7p, c8p, e9_, e10_, hm2⟩
 intro aC w13 ls vs hall M14 hv fr
 simp only [show ls 13 = true from hall 13 (by decide)] at M14
 revert aC; refine zkp [] ?_
 obtain ⟨g6, A7, c8, e9_, e10_, M14⟩ := M14
 try rw [e9_]
 try rw [e10_]
 clear e9_ e10_
 clear hall hv fr aC M3; clear vs ls
 refine zsp <| zre <| xo1 (.int .i64 0) ?_
 have ho_ : u8s s.out ++ [.int .u8 (IntKind.u8.wrap (a0 l))] = u8s (s.out ++ [IntKind.u8.wrap (a0 l)]) := by rw [u8s_append]; rfl
 have hn_ : (s.out ++ [IntKind.u8.wrap (a0 l)]).length = s.out.length + 1 := by simp
 have hM_ := M14.tk 3
 have M15 : Mem (rS C s oA oc) w w13 [.blk C.r 89 [(.slice C.fA (C.E.fns.length + 1) C.fc), (.slice C.sA (C.E.fns.length + 1) C.sc), (.map (some C.mB)), (.map (some C.dB)), (.slice (sM C.mG) C.E.memN C.E.memN), (.int .i64 s.next), (.slice ((inAt C.iA C.ic s.pos).1) (C.E.inp.length - s.pos) ((inAt C.iA C.ic s.pos).2)), (.slice A7 ((s.out ++ [IntKind.u8.wrap (a0 l)]).length) c8), (.int .i64 C.E.fuel), (.int .i64 s.steps), (.int .i64 s.opened), (.slice (some C.oP) 13 13)], .row 2 1 (sM C.mG) C.E.memN C.E.memN (ints s.mem), .row 5 1 A7 ((s.out ++ [IntKind.u8.wrap (a0 l)]).length) c8 (u8s (s.out ++ [IntKind.u8.wrap (a0 l)]))] := hM_.cast (by rw [hn_, ← ho_]; rfl)
 clear hM_
 exact ⟨0, { s with out := s.out ++ [IntKind.u8.wrap (a0 l)] }, A7, c8, by rw [inst_10 hop, if_pos (by omega)], rfl, hG.write (by omega) _, M15⟩
 refine zsk <| zsp <| zre <| xo1 (.int .i64 0) ?_
 exact ⟨0, s, oA, oc, by rw [inst_10 hop, if_neg (by omega)], rfl, hG, M3.tk 3⟩
end Go.Proofs.Ytjekgaabcigphaa
namespace Go.Proofs.Ytjekgaabcigphaa
open Go.Mor
theorem does_g (C : RC) (s : PSt) (oA : Option Addr) (oc : Nat) (w : World) (hC : C.WF) (hG : RGood C s) (hR : (Res.pk (runL C s oA oc)).holds w) (hA : RO (rS C s oA oc) w C.ro) (i : FIns) (l : List Int) (aA : Option Addr) (ac : Nat) (hl : RO (rS C s oA oc) w (.rd aA (ints l))) (got : Got Int) (fk kk : Nat) (hop : i.op = (kk : Int)) (hkk : kk < 13) (hfk : (opsV C.r)[kk]? = some (.func (.func fk) #[pT C.r 0] #[])) (hok : callOk Try.prog fk = true) (hcal : ∀ w1, (Res.pk (runL C s oA oc)).holds w1 → RO (rS C s oA oc) w1 C.ro → RO (rS C s oA oc) w1 (.rd aA (ints l)) → RCalls Try.prog C s oA oc w1 fk [pT C.r 0, iG i, .slice aA l.length ac] intV got) :
    RCalls Try.prog C s oA oc w 99 [(pT C.r 0), (iG i), (.slice aA l.length ac)] intV (got) := by
 refine xen 63 [(pT C.r 0), (iG i), (.slice aA l.length ac)] Try.func99 ?_
 have hM := Mem.unpk hR
 refine zsr <| zbx hM 46 (iG i) (iV i) fun b1 w2 hb1 M3 => ?_
 replace M3 := M3.nf
 clear hM
 refine zpn 1 <| zfe <| zsq <| zsq ?_
 obtain ⟨B4, hB4⟩ : ∃ B : Bool, B = decide (i.op < 13) := ⟨_, rfl⟩
 refine zkp [(0, (pT C.r 0)), (2, (.slice aA l.length ac)), (4, (pT b1 0))] ?_
 intro aC fr
 refine zdr (N := 63) (env0 := [(0, (pT C.r 0)), (2, (.slice aA l.length ac)), (4, (pT b1 0))]) (specAt [.det (pT b1 0), .det (.int .i64 i.op), .det (pT C.r 0), .det (pT C.r 0), .det (pT C.r 11), .det (.slice (some C.oP) 13 13), .det (.int .i64 13), .det (.bool B4)]) fr (la (la (la (la (la (la (la (la lz dP) (dL ⟨b1, 0, none⟩ (.int .i64 i.op) fun w_ hK => (blk_cell ((M3.then_ hK).get 3 rfl) rfl))) dP) dP) dP) (dL ⟨C.r, 11, none⟩ (.slice (some C.oP) 13 13) fun w_ hK => (blk_cell ((M3.then_ hK).get 0 rfl) rfl))) dP) (dC (decide (i.op < 13)) hB4)) ?_
 intro aC w9 vs hK hv fr
 revert aC; refine zkp [(0, (pT C.r 0)), (2, (.slice aA l.length ac)), (4, (pT b1 0)), (18, (.bool B4))] ?_
 have M10 := M3.then_ hK
 clear hK hv fr aC M3; clear vs
 have iB4 : B4 = true ↔ ((i.op : Int) < 13) := by rw [hB4]; simp only [decide_eq_true_eq]
 clear hB4
 refine zcP B4 ((i.op : Int) < 13) iB4 (fun c11 => ?_) (fun c11 => ?_)
 refine zsq <| zkp [(0, (pT C.r 0)), (2, (.slice aA l.length ac)), (4, (pT b1 0))] ?_
 intro aC fr
 refine zdt 10 (N := 63) (env0 := [(0, (pT C.r 0)), (2, (.slice aA l.length ac)), (4, (pT b1 0))]) (specAt [.det (pT C.r 0), .det (pT C.r 0), .det (pT C.r 11), .det (.slice (some C.oP) 13 13), .det (pT b1 0), .det (.int .i64 i.op), .det (.pointer (some ((C.oP : Addr).add ((i.op).toNat * 1)))), .det (.func (.func fk) #[(pT C.r 0)] #[]), .det (iG i), .det (.slice aA l.length ac)]) fr (la (la (la (la (la (la (la (la (la (la lz dP) dP) dP) (dL ⟨C.r, 11, none⟩ (.slice (some C.oP) 13 13) fun w_ hK => (blk_cell ((M10.then_ hK).get 0 rfl) rfl))) dP) (dL ⟨b1, 0, none⟩ (.int .i64 i.op) fun w_ hK => (blk_cell ((M10.then_ hK).get 3 rfl) rfl))) (dI C.oP 13 1 i.op)) (dL ((C.oP : Addr).add ((i.op).toNat * 1)) (.func (.func fk) #[(pT C.r 0)] #[]) fun w_ hK => (by rw [hop]; exact rd_get1 ((M10.then_ hK).ro hA.rops) rfl (j := kk) hfk))) (dS ⟨b1, 0, none⟩ (iV i) fun w_ hK => (blk_cells ((M10.then_ hK).get 3 rfl)))) dP) ?_
 intro aC w16 vs hK hv fr
 revert aC; refine zkp [(26, (.func (.func fk) #[(pT C.r 0)] #[])), (27, (iG i)), (28, (.slice aA l.length ac))] ?_
 have M17 := M10.then_ hK
 clear hK hv fr aC M10; clear vs
 refine zcev hok (hcal w16 (Mem.pk_holds (l := runL C s oA oc) M17) (hA.pk_at (l := runL C s oA oc) M17) (hl.pk_at (l := runL C s oA oc) M17)) (fun _ w2_ ⟨k_, c_, s_, oA_, oc_, hg_, hv_, hG_, hx_⟩ a_ hf_ => by subst hv_; exact xpp hf_ ⟨k_, c_, s_, oA_, oc_, hg_, rfl, hG_, Mem.tk (Mem.mdk (l := runL C s oA oc) M17 hx_) 3⟩) ?_
 rintro _ w23 ⟨x18, s19, oA20, oc21, hg22, rfl, hGs19, M24x⟩
 have M24 : Mem (rS C s oA oc) w w23 [.blk C.r 89 (rcells C s19 oA20 oc21), .row 2 1 (sM C.mG) C.E.memN C.E.memN (ints s19.mem), .row 5 1 oA20 s19.out.length oc21 (u8s s19.out), .blk b1 46 (iV i)] := M17.mdk M24x
 refine zpn 1 <| zfe <| zre <| xo1 (.int .i64 x18) ?_
 exact ⟨x18, s19, oA20, oc21, hg22, rfl, hGs19, M24.tk 3⟩
 exact absurd hop (by omega)
end Go.Proofs.Ytjekgaabcigphaa
namespace Go.Proofs.Ytjekgaabcigphaa
open Go.Mor
theorem does_un (C : RC) (s : PSt) (oA : Option Addr) (oc : Nat) (w : World) (hC : C.WF) (hG : RGood C s) (hR : (Res.pk (runL C s oA oc)).holds w) (hA : RO (rS C s oA oc) w C.ro) (call : Int → List Int → PSt → Got Int) (i : FIns) (l : List Int) (aA : Option Addr) (ac : Nat) (hl : RO (rS C s oA oc) w (.rd aA (ints l))) (hop : 41 ≤ i.op ∧ i.op ≤ 43) (hlen : l.length = 1) :
    RCalls Try.prog C s oA oc w 99 [(pT C.r 0), (iG i), (.slice aA l.length ac)] intV (instS C.E call i l s) := by
 refine xen 63 [(pT C.r 0), (iG i), (.slice aA l.length ac)] Try.func99 ?_
 have hM := Mem.unpk hR
 refine zsr <| zbx hM 46 (iG i) (iV i) fun b1 w2 hb1 M3 => ?_
 replace M3 := M3.nf
 clear hM
 refine zpn 1 <| zfe <| zsq <| zsq ?_
 obtain ⟨B4, hB4⟩ : ∃ B : Bool, B = decide (i.op < 13) := ⟨_, rfl⟩
 refine zkp [(0, (pT C.r 0)), (2, (.slice aA l.length ac)), (4, (pT b1 0))] ?_
 intro aC fr
 refine zdr (N := 63) (env0 := [(0, (pT C.r 0)), (2, (.slice aA l.length ac)), (4, (pT b1 0))]) (specAt [.det (pT b1 0), .det (.int .i64 i.op), .det (pT C.r 0), .det (pT C.r 0), .det (pT C.r 11), .det (.slice (some C.oP) 13 13), .det (.int .i64 13), .det (.bool B4)]) fr (la (la (la (la (la (la (la (la lz dP) (dL ⟨b1, 0, none⟩ (.int .i64 i.op) fun w_ hK => (blk_cell ((M3.then_ hK).get 3 rfl) rfl))) dP) dP) dP) (dL ⟨C.r, 11, none⟩ (.slice (some C.oP) 13 13) fun w_ hK => (blk_cell ((M3.then_ hK).get 0 rfl) rfl))) dP) (dC (decide (i.op < 13)) hB4)) ?_
 intro aC w9 vs hK hv fr
 revert aC; refine zkp [(0, (pT C.r 0)), (2, (.slice aA l.length ac)), (4, (pT b1 0)), (18, (.bool B4))] ?_
 have M10 := M3.then_ hK
 clear hK hv fr aC M3; clear vs
 have iB4 : B4 = true ↔ ((i.op : Int) < 13) := by rw [hB4]; simp only [decide_eq_true_eq]
 clear hB4
 refine zcP B4 ((i.op : Int) < 13) iB4 (fun c11 => ?_) (fun c11 => ?_)
 exact absurd hop (by omega)
 refine zsk <| zsq <| zsr <| zpn 1 <| zld ⟨b1, 0, none⟩ (.int .i64 i.op) (blk_cell (M10.get 3 rfl) rfl) <| zpn 1 <| zfe <| zcD ((i.op : Int) ≥ 40) (fun c12 => ?_) (fun c12 => ?_)
 refine zsq ?_
 obtain ⟨ad13, rfl⟩ := rd_ints_some (M10.ro hl) (by omega)
 refine zkp [(0, (pT C.r 0)), (2, (.slice (some ad13) l.length ac)), (4, (pT b1 0))] ?_
 intro aC fr
 refine zdt 11 (N := 63) (env0 := [(0, (pT C.r 0)), (2, (.slice (some ad13) l.length ac)), (4, (pT b1 0))]) (specAt [.det (pT b1 0), .det (.int .i64 i.op), .det (.int .i64 (i.op - 40)), .det (.slice (some ad13) l.length ac), .det (.pointer (some ((ad13 : Addr).add ((0 : Int).toNat * 1)))), .det (.int .i64 (a0 l)), .det (.tuple #[(.int .i64 ((unS (i.op - 40) (a0 l)).1)), (.int .i64 ((unS (i.op - 40) (a0 l)).2))]), .det (.tuple #[(.int .i64 ((unS (i.op - 40) (a0 l)).1)), (.int .i64 ((unS (i.op - 40) (a0 l)).2))]), .det (.int .i64 ((unS (i.op - 40) (a0 l)).1)), .det (.int .i64 ((unS (i.op - 40) (a0 l)).2)), .det (.int .i64 ((unS (i.op - 40) (a0 l)).1))]) fr (la (la (la (la (la (la (la (la (la (la (la lz dP) (dL ⟨b1, 0, none⟩ (.int .i64 i.op) fun w_ hK => (blk_cell ((M10.then_ hK).get 3 rfl) rfl))) (dA (i.op - 40))) dP) (dI ad13 l.length 1 0)) (dL ((ad13 : Addr).add ((0 : Int).toNat * 1)) (.int .i64 (a0 l)) fun w_ hK => (rd_int ((M10.then_ hK).ro hl) rfl (by omega) (by omega)))) (dD (vs := #[.int .i64 (i.op - 40), .int .i64 (a0 l)]) (fun w_ hK => un_c _ _ w_) rfl)) dP) dP) dP) dP) ?_
 intro aC w18 vs hK hv fr
 revert aC; refine zkp [(7, (.int .i64 ((unS (i.op - 40) (a0 l)).1))), (42, (.int .i64 ((unS (i.op - 40) (a0 l)).2)))] ?_
 have M19 := M10.then_ hK
 clear hK hv fr aC M10; clear vs
 refine zpn 1 <| zfe <| zsp <| zre <| xo1 (.int .i64 ((unS (i.op - 40) (a0 l)).1)) ?_
 exact ⟨_, s, oA, oc, inst_un (by omega), rfl, hG, M19.tk 3⟩
 exact absurd hop (by omega)
theorem does_bin (C : RC) (s : PSt) (oA : Option Addr) (oc : Nat) (w : World) (hC : C.WF) (hG : RGood C s) (hR : (Res.pk (runL C s oA oc)).holds w) (hA : RO (rS C s oA oc) w C.ro) (call : Int → List Int → PSt → Got Int) (i : FIns) (l : List Int) (aA : Option Addr) (ac : Nat) (hl : RO (rS C s oA oc) w (.rd aA (ints l))) (hop : 17 ≤ i.op ∧ i.op ≤ 32) (hlen : l.length = 2) :
    RCalls Try.prog C s oA oc w 99 [(pT C.r 0), (iG i), (.slice aA l.length ac)] intV (instS C.E call i l s) := by
 refine xen 63 [(pT C.r 0), (iG i), (.slice aA l.length ac)] Try.func99 ?_
 have hM := Mem.unpk hR
 refine zsr <| zbx hM 46 (iG i) (iV i) fun b1 w2 hb1 M3 => ?_
 replace M3 := M3.nf
 clear hM
 refine zpn 1 <| zfe <| zsq <| zsq ?_
 obtain ⟨B4, hB4⟩ : ∃ B : Bool, B = decide (i.op < 13) := ⟨_, rfl⟩
 refine zkp [(0, (pT C.r 0)), (2, (.slice aA l.length ac)), (4, (pT b1 0))] ?_
 intro aC fr
 refine zdr (N := 63) (env0 := [(0, (pT C.r 0)), (2, (.slice aA l.length ac)), (4, (pT b1 0))]) (specAt [.det (pT b1 0), .det (.int .i64 i.op), .det (pT C.r 0), .det (pT C.r 0), .det (pT C.r 11), .det (.slice (some C.oP) 13 13), .det (.int .i64 13), .det (.bool B4)]) fr (la (la (la (la (la (la (la (la lz dP) (dL ⟨b1, 0, none⟩ (.int .i64 i.op) fun w_ hK => (blk_cell ((M3.then_ hK).get 3 rfl) rfl))) dP) dP) dP) (dL ⟨C.r, 11, none⟩ (.slice (some C.oP) 13 13) fun w_ hK => (blk_cell ((M3.then_ hK).get 0 rfl) rfl))) dP) (dC (decide (i.op < 13)) hB4)) ?_
 intro aC w9 vs hK hv fr
 revert aC; refine zkp [(0, (pT C.r 0)), (2, (.slice aA l.length ac)), (4, (pT b1 0)), (18, (.bool B4))] ?_
 have M10 := M3.then_ hK
 clear hK hv fr aC M3; clear vs
 have iB4 : B4 = true ↔ ((i.op : Int) < 13) := by rw [hB4]; simp only [decide_eq_true_eq]
 clear hB4
 refine zcP B4 ((i.op : Int) < 13) iB4 (fun c11 => ?_) (fun c11 => ?_)
 exact absurd hop (by omega)
 refine zsk <| zsq <| zsr <| zpn 1 <| zld ⟨b1, 0, none⟩ (.int .i64 i.op) (blk_cell (M10.get 3 rfl) rfl) <| zpn 1 <| zfe <| zcD ((i.op : Int) ≥ 40) (fun c12 => ?_) (fun c12 => ?_)
 exact absurd hop (by omega)
 refine zsk <| zsq ?_
 obtain ⟨ad13, rfl⟩ := rd_ints_some (M10.ro hl) (by omega)
 refine zkp [(0, (pT C.r 0)), (2, (.slice (some ad13) l.length ac)), (4, (pT b1 0))] ?_
 intro aC fr
 refine zdt 14 (N := 63) (env0 := [(0, (pT C.r 0)), (2, (.slice (some ad13) l.length ac)), (4, (pT b1 0))]) (specAt [.det (pT b1 0), .det (.int .i64 i.op), .det (.int .i64 (i.op - 16)), .det (.slice (some ad13) l.length ac), .det (.pointer (some ((ad13 : Addr).add ((0 : Int).toNat * 1)))), .det (.int .i64 (a0 l)), .det (.slice (some ad13) l.length ac), .det (.pointer (some ((ad13 : Addr).add ((1 : Int).toNat * 1)))), .det (.int .i64 (a1 l)), .det (.tuple #[(.int .i64 ((binS (i.op - 16) (a0 l) (a1 l)).1)), (.int .i64 ((binS (i.op - 16) (a0 l) (a1 l)).2))]), .det (.tuple #[(.int .i64 ((binS (i.op - 16) (a0 l) (a1 l)).1)), (.int .i64 ((binS (i.op - 16) (a0 l) (a1 l)).2))]), .det (.int .i64 ((binS (i.op - 16) (a0 l) (a1 l)).1)), .det (.int .i64 ((binS (i.op - 16) (a0 l) (a1 l)).2)), .det (.int .i64 ((binS (i.op - 16) (a0 l) (a1 l)).1))]) fr (la (la (la (la (la (la (la (la (la (la (la (la (la (la lz dP) (dL ⟨b1, 0, none⟩ (.int .i64 i.op) fun w_ hK => (blk_cell ((M10.then_ hK).get 3 rfl) rfl))) (dA (i.op - 16))) dP) (dI ad13 l.length 1 0)) (dL ((ad13 : Addr).add ((0 : Int).toNat * 1)) (.int .i64 (a0 l)) fun w_ hK => (rd_int ((M10.then_ hK).ro hl) rfl (by omega) (by omega)))) dP) (dI ad13 l.length 1 1)) (dL ((ad13 : Addr).add ((1 : Int).toNat * 1)) (.int .i64 (a1 l)) fun w_ hK => (rd_int ((M10.then_ hK).ro hl) rfl (by omega) (by omega)))) (dD (vs := #[.int .i64 (i.op - 16), .int .i64 (a0 l), .int .i64 (a1 l)]) (fun w_ hK => bin_c _ _ _ w_) rfl)) dP) dP) dP) dP) ?_
 intro aC w18 vs hK hv fr
 revert aC; refine zkp [(0, (pT C.r 0)), (9, (.int .i64 ((binS (i.op - 16) (a0 l) (a1 l)).1))), (56, (.int .i64 ((binS (i.op - 16) (a0 l) (a1 l)).2)))] ?_
 have M19 := M10.then_ hK
 clear hK hv fr aC M10; clear vs
 refine zpn 1 <| zfe <| zsq <| zsp <| zcP (((binS (i.op - 16) (a0 l) (a1 l)).2 : Int) != 0) (((binS (i.op - 16) (a0 l) (a1 l)).2 : Int) ≠ 0) (by simp only [bne_iff_ne]) (fun c20 => ?_) (fun c20 => ?_)
 refine zrg <| zpn 2 <| zce (stop_c C.r 2 ((binS (i.op - 16) (a0 l) (a1 l)).2) w18) (fun _ w2_ ⟨hv_, hx_⟩ a_ hf_ => by subst hv_; exact xpp hf_ (⟨_, _, s, oA, oc, by rw [inst_bin (by omega) (by omega), if_neg (by omega)], rfl, hG, (M19.cl hx_).tk 3⟩)) ?_
 rintro _ w21 h_; exact h_.elim
 refine zsk <| zsp <| zre <| xo1 (.int .i64 ((binS (i.op - 16) (a0 l) (a1 l)).1)) ?_
 exact ⟨_, s, oA, oc, by rw [inst_bin (by omega) (by omega), if_pos (by omega)], rfl, hG, M19.tk 3⟩
end Go.Proofs.Ytjekgaabcigphaa
namespace Go.Proofs.Ytjekgaabcigphaa
open Go.Mor
theorem does_m (C : RC) (s : PSt) (oA : Option Addr) (oc : Nat) (w : World) (hC : C.WF) (hG : RGood C s) (hR : (Res.pk (runL C s oA oc)).holds w) (hA : RO (rS C s oA oc) w C.ro) (call : Int → List Int → PSt → Got Int) (i : FIns) (l : List Int) (aA : Option Addr) (ac : Nat)
    (hl : RO (rS C s oA oc) w (.rd aA (ints l))) (hs : shapeQ i) (hlen : l.length = i.args.length) (hac : l.length ≤ ac) (b : Int) (hcall : CallOk Try.prog C 73 call b) (hb : C.E.fuel - s.steps < b) :
    RCalls Try.prog C s oA oc w 99 [pT C.r 0, .agg #[.int .i64 i.op, .int .i64 i.dst, .int .i64 i.n, .string i.name, .slice i.A i.args.length i.c], .slice aA l.length ac] intV (instS C.E call i l s) := by
  rcases hs.2 with h | h | h | h | h | h | h | h | h | h | h
  · exact does_g C s oA oc w hC hG hR hA i l aA ac hl _ 35 1 h.1 (by decide) rfl (by kernel_rfl) (fun w1 m ha hw => number_c C s oA oc w1 hC hG m call i l aA ac hw h.1)
  · exact does_g C s oA oc w hC hG hR hA i l aA ac hl _ 36 2 h.1 (by decide) rfl (by kernel_rfl) (fun w1 m ha hw => load_c C s oA oc w1 hC hG m call i l aA ac hw h.1 (by omega))
  · exact does_g C s oA oc w hC hG hR hA i l aA ac hl _ 37 3 h.1 (by decide) rfl (by kernel_rfl) (fun w1 m ha hw => store_c C s oA oc w1 hC hG m call i l aA ac hw h.1 (by omega))
  · exact does_g C s oA oc w hC hG hR hA i l aA ac hl _ 38 4 h.1 (by decide) rfl (by kernel_rfl) (fun w1 m ha hw => call_c C s oA oc w1 hC hG m ha call i l aA ac hw h.1 b hcall hb (by omega))
  · cases l with
    | nil => simp only [List.length_nil] at hlen; omega
    | cons x0 l1 =>
      simp only [List.length_cons] at hlen hac
      exact does_g C s oA oc w hC hG hR hA i (x0 :: l1) aA ac hl _ 39 5 h.1 (by decide) rfl (by kernel_rfl) (fun w1 m ha hw => callAt_c C s oA oc w1 hC hG m ha call i x0 l1 aA ac hw h.1 hac (by omega) b hcall hb)
  · rcases h.1 with h1 | h1
    · exact does_g C s oA oc w hC hG hR hA i l aA ac hl _ 40 6 h1 (by decide) rfl (by kernel_rfl) (fun w1 m ha hw => words_c C s oA oc w1 hC hG m ha call i l aA ac hw h1)
    · exact does_g C s oA oc w hC hG hR hA i l aA ac hl _ 41 7 h1 (by decide) rfl (by kernel_rfl) (fun w1 m ha hw => fcode_c C s oA oc w1 hC hG m ha call i l aA ac hw h1)
  · rcases h.1 with h1 | h1 | h1
    · exact does_g C s oA oc w hC hG hR hA i l aA ac hl _ 42 8 h1 (by decide) rfl (by kernel_rfl) (fun w1 m ha hw => alloc_c C s oA oc w1 hC hG m call i l aA ac hw h1 (by omega))
    · exact does_g C s oA oc w hC hG hR hA i l aA ac hl _ 44 10 h1 (by decide) rfl (by kernel_rfl) (fun w1 m ha hw => write_c C s oA oc w1 hC hG m call i l aA ac hw h1 (by omega))
    · exact does_g C s oA oc w hC hG hR hA i l aA ac hl _ 46 12 h1 (by decide) rfl (by kernel_rfl) (fun w1 m ha hw => copied_c C s oA oc w1 hC hG m call i l aA ac hw h1 (by omega))
  · exact does_g C s oA oc w hC hG hR hA i l aA ac hl _ 43 9 h.1 (by decide) rfl (by kernel_rfl) (fun w1 m ha hw => read_c C s oA oc w1 hC hG m ha call i l aA ac hw h.1 (by omega))
  · exact does_g C s oA oc w hC hG hR hA i l aA ac hl _ 45 11 h.1 (by decide) rfl (by kernel_rfl) (fun w1 m ha hw => check_c C s oA oc w1 hC hG m call i l aA ac hw h.1 (by omega))
  · exact does_bin C s oA oc w hC hG hR hA call i l aA ac hl h.1 (by omega)
  · exact does_un C s oA oc w hC hG hR hA call i l aA ac hl h.1 (by omega)
theorem does_c (C : RC) (s : PSt) (oA : Option Addr) (oc : Nat) (w : World) (hC : C.WF) (hG : RGood C s) (hR : (Res.pk (runL C s oA oc)).holds w) (hA : RO (rS C s oA oc) w C.ro) (call : Int → List Int → PSt → Got Int) (i : FIns) (l : List Int) (m : Nat) (hm : m = l.length) (aA : Option Addr) (ac : Nat)
    (hl : RO (rS C s oA oc) w (.rd aA (ints l))) (hs : shapeQ i) (hlen : l.length = i.args.length) (hac : l.length ≤ ac) (b : Int) (hcall : CallOk Try.prog C 73 call b) (hb : C.E.fuel - s.steps < b) :
    RCalls Try.prog C s oA oc w 99 [pT C.r 0, .agg #[.int .i64 i.op, .int .i64 i.dst, .int .i64 i.n, .string i.name, .slice i.A i.args.length i.c], .slice aA m ac] intV (instS C.E call i l s) := by
  subst hm
  exact does_m C s oA oc w hC hG hR hA call i l aA ac hl hs hlen hac b hcall hb
end Go.Proofs.Ytjekgaabcigphaa
namespace Go.Mor
open Go.RowKit
theorem blk_as_row {w : World} {b t : Nat} {cs : List Value} (h : (Res.blk b t cs).holds w) (hl : cs.length ≤ maxLen) : (Res.row t 1 (some ⟨b, 0, none⟩) cs.length cs.length cs).holds w := by
  refine ⟨by simp, .inr ⟨b, cs.length, cs.toArray, rfl, Nat.zero_le _, h, Nat.le_refl _, hl, by simp, by simp⟩⟩
theorem Mem.asrow {S : Nat → Prop} {w0 w : World} {L : List Res} (h : Mem S w0 w L) (i : Nat) {b t : Nat} {cs : List Value} (hi : L[i]? = some (.blk b t cs)) (hl : cs.length ≤ maxLen) : Mem S w0 w (L.set i (.row t 1 (some ⟨b, 0, none⟩) cs.length cs.length cs)) :=
  h.say i hi (fun hb => blk_as_row hb hl) (fun g ⟨a, ha, hb⟩ => by injection ha with ha; subst ha; exact hb.symm)
theorem rd_pre {w : World} {A : Option Addr} {xs ys : List Value} (h : (Res.rd A (xs ++ ys)).holds w) : (Res.rd A xs).holds w := fun j v hj => h j v (by rw [List.getElem?_append_left (List.getElem?_eq_some_iff.1 hj).1]; exact hj)
theorem RO.rd_pre {S : Nat → Prop} {w : World} {A : Option Addr} {xs ys : List Value} (h : RO S w (.rd A (xs ++ ys))) : RO S w (.rd A xs) :=
  ⟨Mor.rd_pre h.1, fun g hg => h.2 g ⟨fun e => hg.1 (List.append_eq_nil_iff.1 e).1, hg.2⟩⟩
abbrev bS (C : RC) (s : PSt) (oA : Option Addr) (oc vg : Nat) (vals : List Int) : Nat → Prop := (Res.pk (runL C s oA oc ++ [.row 2 1 (some ⟨vg, 0, none⟩) vals.length vals.length (ints vals)])).fp
theorem src_at {α : Type} {z : Value} {g : α → Value} {l : List α} {n : Int} {f : α} (h1 : 1 ≤ n) (h : l[(n - 1).toNat]? = some f) : (z :: l.map g)[n.toNat]? = some (g f) := by
  rw [show n.toNat = (n - 1).toNat + 1 by omega, List.getElem?_cons_succ, List.getElem?_map, h]
  rfl
theorem RFn.src_of {f : RFn} {k : Nat} {q : Option Addr × Nat × List Int} (h : f.srcs[k]? = some q) : f.src k = q.2.2 := by simp [RFn.src, List.getD, h]
theorem fidx_in {l : List Int} {k : Int} (h : k ∈ l) : fidx (fun x => x == k) l = (indexN l k : Nat) ∧ indexN l k < l.length := by
  have key : l.findIdx? (fun x => x == k) = some (indexN l k) ∧ indexN l k < l.length := by
    induction l with
    | nil => cases h
    | cons x r ih =>
      by_cases e : x = k
      · subst e
        rw [List.findIdx?_cons]
        simp [indexN]
      · have hr : k ∈ r := by
          rcases List.mem_cons.1 h with h | h
          · exact absurd h.symm e
          · exact h
        obtain ⟨h1, h2⟩ := ih hr
        have e2 : (x == k) = false := by simpa using e
        rw [List.findIdx?_cons, e2, h1]
        simp only [indexN, if_neg e]
        refine ⟨by simp, by simp; omega⟩
  unfold fidx
  rw [key.1]
  exact ⟨rfl, key.2⟩
def phiV (at_ : Nat) (vals : List Int) (p : FPhi) : Int := vals.getD (p.args.getD at_ 0).toNat 0
def nowTo (ps : List FPhi) (at_ : Nat) (vals : List Int) (j : Nat) : List Int := (ps.take j).map (phiV at_ vals) ++ List.replicate (ps.length - j) 0
theorem nowTo_zero (ps : List FPhi) (at_ : Nat) (vals : List Int) : List.replicate ps.length (Value.int .i64 0) = ints (nowTo ps at_ vals 0) := by simp [nowTo, ints]
theorem nowTo_len {ps : List FPhi} {at_ : Nat} {vals : List Int} {j : Nat} (h : j ≤ ps.length) : (nowTo ps at_ vals j).length = ps.length := by simp [nowTo]; omega
theorem nowTo_set {ps : List FPhi} {at_ : Nat} {vals : List Int} {j : Nat} {p : FPhi} (h : ps[j]? = some p) : (nowTo ps at_ vals j).set j (phiV at_ vals p) = nowTo ps at_ vals (j + 1) := by
  obtain ⟨hj, he⟩ := List.getElem?_eq_some_iff.1 h
  unfold nowTo
  rw [List.take_succ_eq_append_getElem hj, he, List.map_append, List.set_append_right _ _ (by simp; omega)]
  rw [show ps.length - j = (ps.length - (j + 1)) + 1 by omega, List.replicate_succ]
  simp [Nat.min_eq_left (Nat.le_of_lt hj)]
theorem nowTo_get {ps : List FPhi} {at_ : Nat} {vals : List Int} {j : Nat} {p : FPhi} (h : ps[j]? = some p) : (nowTo ps at_ vals ps.length).getD j 0 = phiV at_ vals p := by
  simp [nowTo, List.getD, h]
theorem setAll_len : ∀ (l : List (Int × Int)) (vals : List Int), (setAll vals l).length = vals.length
  | [], _ => rfl
  | (d, v) :: r, vals => by unfold setAll; rw [setAll_len r]; simp
theorem setAll_snoc : ∀ (l : List (Int × Int)) (vals : List Int) (d v : Int), setAll vals (l ++ [(d, v)]) = (setAll vals l).set d.toNat v
  | [], _, _, _ => rfl
  | (d0, v0) :: r, vals, d, v => by show setAll (vals.set d0.toNat v0) (r ++ [(d, v)]) = _; rw [setAll_snoc r]; rfl
def phiTo (ps : List FPhi) (at_ : Nat) (vals : List Int) (j : Nat) : List Int := setAll vals ((ps.take j).map (fun p => (p.dst, phiV at_ vals p)))
theorem phiTo_succ {ps : List FPhi} {at_ : Nat} {vals : List Int} {j : Nat} {p : FPhi} (h : ps[j]? = some p) : (phiTo ps at_ vals j).set p.dst.toNat (phiV at_ vals p) = phiTo ps at_ vals (j + 1) := by
  obtain ⟨hj, he⟩ := List.getElem?_eq_some_iff.1 h
  unfold phiTo
  rw [List.take_succ_eq_append_getElem hj, he, List.map_append]
  exact (setAll_snoc _ _ _ _).symm
theorem phiTo_zero (ps : List FPhi) (at_ : Nat) (vals : List Int) : phiTo ps at_ vals 0 = vals := by simp [phiTo, setAll]
theorem phiTo_len (ps : List FPhi) (at_ : Nat) (vals : List Int) (j : Nat) : (phiTo ps at_ vals j).length = vals.length := setAll_len _ _
theorem phiTo_all (ps : List FPhi) (at_ : Nat) (vals : List Int) : phiTo ps at_ vals ps.length = phisS ps at_ vals := by simp [phiTo, phisS, phiV]
theorem now_cell {w : World} {A : Option Addr} {ad : Addr} {ps : List FPhi} {at_ : Nat} {vals : List Int} {j : Nat} {p : FPhi} (h : (Res.rd A (ints (nowTo ps at_ vals ps.length))).holds w) (hA : A = some ad) (hp : ps[j]? = some p) :
    w.cell? (ad.add ((j : Int).toNat * 1)) = some (.int .i64 (phiV at_ vals p)) := by
  refine rd_at h hA ?_
  have hj := (List.getElem?_eq_some_iff.1 hp).1
  have h1 := nowTo_get (at_ := at_) (vals := vals) hp
  have hl : j < (nowTo ps at_ vals ps.length).length := by rw [nowTo_len (Nat.le_refl _)]; exact hj
  rw [List.getElem?_eq_getElem hl]
  simp only [List.getD, List.getElem?_eq_getElem hl, Option.getD_some] at h1
  rw [h1]
theorem getD_in {l : List Int} {i : Nat} (h : i < l.length) : l.getD i 0 ∈ l := by simp [List.getD, h]
def fillTo (args al vals : List Int) (q : Nat) : List Int := valsOf vals (args.take q) ++ al.drop q
theorem fillTo_zero (args al vals : List Int) : fillTo args al vals 0 = al := by simp [fillTo, valsOf]
theorem fillTo_set {args al vals : List Int} {q : Nat} {v : Int} (h : args[q]? = some v) (h2 : args.length ≤ al.length) : (fillTo args al vals q).set q (vals.getD v.toNat 0) = fillTo args al vals (q + 1) := by
  obtain ⟨hq, he⟩ := List.getElem?_eq_some_iff.1 h
  unfold fillTo valsOf
  rw [List.take_succ_eq_append_getElem hq, he, List.map_append, List.set_append_right _ _ (by simp; omega)]
  have e : al.drop q = al[q]'(by omega) :: al.drop (q + 1) := List.drop_eq_getElem_cons (by omega)
  simp [Nat.min_eq_left (Nat.le_of_lt hq)]
  rw [e]
  rfl
theorem fillTo_all (args al vals : List Int) : fillTo args al vals args.length = valsOf vals args ++ al.drop args.length := by simp [fillTo]
theorem valsOf_len (vals args : List Int) : (valsOf vals args).length = args.length := by simp [valsOf]
theorem bind_ok {α β : Type} {g : Got α} {a : α} {s : PSt} {f : α → PSt → Got β} (h : g = .ok a s) : g.bind f = f a s := by rw [h]; rfl
theorem bind_stop {α β : Type} {g : Got α} {k c : Int} {s : PSt} {f : α → PSt → Got β} (h : g = .stop k c s) : g.bind f = .stop k c s := by rw [h]; rfl
def putV (i : FIns) (vals : List Int) (v : Int) : List Int := if 0 ≤ i.dst ∧ makesQ i.op then vals.set i.dst.toNat v else vals
theorem putV_len (i : FIns) (vals : List Int) (v : Int) : (putV i vals v).length = vals.length := by unfold putV; split <;> simp
theorem putV_yes {i : FIns} {vals : List Int} {v : Int} (h : 0 ≤ i.dst ∧ makesQ i.op) : putV i vals v = vals.set i.dst.toNat v := if_pos h
theorem putV_no {i : FIns} {vals : List Int} {v : Int} (h : ¬ (0 ≤ i.dst ∧ makesQ i.op)) : putV i vals v = vals := if_neg h
def tailS (E : Env0) (x : FBlk) (vals : List Int) (s : PSt) : Got (Int × Int × List Int) := (stepS E s).bind fun _ s =>
    if x.e = 0 then .ok (x.a, 0, vals) s
    else if x.e = 1 then .ok (if vals.getD x.v.toNat 0 ≠ 0 then x.a else x.b, 0, vals) s
    else if x.e = 3 then .stop 2 x.a s
    else .ok (-1, if x.v ≥ 0 then vals.getD x.v.toNat 0 else 0, vals) s
section
variable {E : Env0} {call : Int → List Int → PSt → Got Int}
theorem block_at {f : RFn} {k from_ : Int} {vals : List Int} {s : PSt} {x : FBlk} (h : f.blks[k.toNat]? = some x) :
    blockS E call f k from_ vals s = (instsS E call x.insts (phisS x.phis (indexN (f.src k.toNat) from_) vals) s).bind (tailS E x) := by
  unfold blockS
  rw [h]
  rfl
theorem insts_at {is : List FIns} {j : Nat} {i : FIns} {vals : List Int} {s : PSt} (h : is[j]? = some i) :
    instsS E call (is.drop j) vals s = (stepS E s).bind fun _ s => (instS E call i (valsOf vals i.args) s).bind fun v s => instsS E call (is.drop (j + 1)) (putV i vals v) s := by
  obtain ⟨hj, he⟩ := List.getElem?_eq_some_iff.1 h
  rw [List.drop_eq_getElem_cons hj, he]
  rfl
theorem insts_end {is : List FIns} {j : Nat} {vals : List Int} {s : PSt} (h : is.length ≤ j) : instsS E call (is.drop j) vals s = .ok vals s := by
  rw [List.drop_eq_nil_of_le h]
  rfl
theorem step_steps {s s' : PSt} {x : Unit} (h : stepS E s = .ok x s') : s'.steps = s.steps + 1 := by
  unfold stepS at h
  split at h
  · cases h
  · injection h with h1 h2; subst h2; rfl
def Mono (call : Int → List Int → PSt → Got Int) : Prop := ∀ n l s x s', call n l s = .ok x s' → s.steps ≤ s'.steps
theorem at_state {n : Int} {s s' : PSt} {k : Nat} (h : atS n s = .ok k s') : s' = s := by
  unfold atS at h
  split at h
  · cases h
  · injection h with h1 h2; exact h2.symm
theorem inst_steps (hm : Mono call) {i : FIns} {l : List Int} {s s' : PSt} {x : Int} (h : instS E call i l s = .ok x s') : s.steps ≤ s'.steps := by
  have fin : ∀ (y : Int) (s2 : PSt), s.steps ≤ s2.steps → Got.ok y s2 = Got.ok x s' → s.steps ≤ s'.steps := by
    intro y s2 h1 h2
    injection h2 with _ h2
    rw [← h2]
    exact h1
  by_cases h1 : i.op = 1
  · rw [inst_1 h1] at h; exact fin _ _ (Int.le_refl _) h
  by_cases h2 : i.op = 2
  · rw [inst_2 h2] at h
    cases hq : atS (IntKind.i64.wrap (a0 l + i.n)) s with
    | ok k s2 => rw [bind_ok hq] at h; exact fin _ _ (by rw [at_state hq]; exact Int.le_refl _) h
    | stop k c s2 => rw [bind_stop hq] at h; cases h
  by_cases h3 : i.op = 3
  · rw [inst_3 h3] at h
    cases hq : atS (IntKind.i64.wrap (a0 l + i.n)) s with
    | ok k s2 => rw [bind_ok hq] at h; exact fin _ _ (by rw [at_state hq]; exact Int.le_refl _) h
    | stop k c s2 => rw [bind_stop hq] at h; cases h
  by_cases h4 : i.op = 4
  · rw [inst_4 h4] at h
    split at h
    · exact hm _ _ _ _ _ h
    · cases h
  by_cases h5 : i.op = 5
  · rw [inst_5 h5] at h; exact hm _ _ _ _ _ h
  by_cases h6 : i.op = 6
  · rw [inst_6 h6] at h
    split at h
    · exact fin _ _ (Int.le_refl _) h
    · cases h
  by_cases h7 : i.op = 7
  · rw [inst_7 h7] at h
    split at h
    · exact fin _ _ (Int.le_refl _) h
    · cases h
  by_cases h8 : i.op = 8
  · rw [inst_8 h8] at h
    split at h
    · cases h
    · split at h
      · cases h
      · exact fin _ { s with next := s.next + a0 l } (Int.le_refl _) h
  by_cases h9 : i.op = 9
  · rw [inst_9 h9] at h
    split at h
    · exact fin _ { s with pos := s.pos + 1 } (Int.le_refl _) h
    · exact fin _ _ (Int.le_refl _) h
  by_cases h10 : i.op = 10
  · rw [inst_10 h10] at h
    exact fin _ _ (by split <;> exact Int.le_refl _) h
  by_cases h11 : i.op = 11
  · rw [inst_11 h11] at h
    split at h
    · cases h
    · exact fin _ _ (Int.le_refl _) h
  by_cases h12 : i.op = 12
  · rw [inst_12 h12] at h; exact fin _ _ (Int.le_refl _) h
  by_cases h40 : i.op ≥ 40
  · rw [inst_un h40] at h; exact fin _ _ (Int.le_refl _) h
  rw [inst_bin (by omega) (by omega)] at h
  split at h
  · exact fin _ _ (Int.le_refl _) h
  · cases h
theorem tail_end {x : FBlk} {vals : List Int} {s s2 : PSt} {u : Unit} (h : stepS E s = .ok u s2) : tailS E x vals s = if x.e = 0 then .ok (x.a, 0, vals) s2
    else if x.e = 1 then .ok (if vals.getD x.v.toNat 0 ≠ 0 then x.a else x.b, 0, vals) s2
    else if x.e = 3 then .stop 2 x.a s2
    else .ok (-1, if x.v ≥ 0 then vals.getD x.v.toNat 0 else 0, vals) s2 := bind_ok h
end
end Go.Mor
namespace Go.Mor
theorem shape_args {i : FIns} (h : shapeQ i) : i.args.length ≤ 17 := by
  rcases h.2 with h | h | h | h | h | h | h | h | h | h | h <;> omega
theorem ends_four {N : Int} {x : FBlk} (h : endsQ N x) : x.e = 0 ∨ x.e = 1 ∨ x.e = 2 ∨ x.e = 3 := by
  rcases h with h | h | h | h
  · exact .inl h.1
  · exact .inr (.inl h.1)
  · exact .inr (.inr (.inl h.1))
  · exact .inr (.inr (.inr h.1))
end Go.Mor
namespace Go.Proofs.Ytjekgaabcigphaa
open Go.Mor
theorem size_c (nm : ByteArray) (wk : Bool) (pa va : Int) (A : Option Addr) (c : Nat) (fs : List FBlk) (w : World) (hN : fs.length ≤ 1000) (hok : FOk fs) (hA : RO noS w (.fn A fs)) :
    Calls Try.prog 13 #[(fA nm wk pa va A c fs)] w (Ret fun v w' => v = .int .i64 ((sizeF fs : Nat) : Int) ∧ Mem noS w w' []) := by
 have hbl := bsOf_len fs
 have hm : (bsOf fs).length ≤ 1000000 := by omega
 have hB := hA.bs
 refine zen 27 [(fA nm wk pa va A c fs)] Try.func13 ?_
 have hM := Mem.init w
 refine zsr <| zbx hM 24 (fA nm wk pa va A c fs) (fV nm wk pa va A c fs) fun b1 w2 hb1 M3 => ?_
 replace M3 := M3.nf
 clear hM
 refine zpn 1 <| zfe <| zsr <| zpn 1 <| zld ⟨b1, 4, none⟩ (.slice A ((bsOf fs).length) c) (blk_cell (M3.get 0 rfl) rfl) <| zpn 2 <| zfe <| zsq <| zsr <| zpn 1 ?_
 refine zld ⟨b1, 4, none⟩ (.slice A ((bsOf fs).length) c) (blk_cell (M3.get 0 rfl) rfl) <| zpn 2 <| zfe <| zbk 0 ?_
 intro aC fr
 refine zlp (fun n_ a_ w_ => ∃ (k : Nat) (q : Nat), n_ = fs.length - k ∧ Fr a_ 27 [(3, (nV q)), (10, (.slice A ((bsOf fs).length) c)), (11, (.int .i64 (((bsOf fs).length : Nat) : Int))), (12, (nV k))] ∧ Mem noS w w_ [.blk b1 24 (fV nm wk pa va A c fs)] ∧ (k ≤ fs.length) ∧ (q = fs.length + sizeTo fs k)) (n := _) ⟨0, (bsOf fs).length, rfl, fr.kp [3, 10, 11, 12], M3, by omega, by rw [hbl, sizeTo_zero]; rfl⟩ ?_
 clear fr aC M3; rintro n aC w6 ⟨k, q, rfl, fr, M7, hk, hq⟩
 revert aC
 refine zsp <| zsq <| zcD (((k : Int) : Int) < (((bsOf fs).length : Nat) : Int)) (fun c10 => ?_) (fun c10 => ?_)
 refine zsk <| zsq <| zbk 1 <| zsr ?_
 obtain ⟨x, hx⟩ := get_of (l := fs) (i := k) (by omega)
 have hl1 : x.phis.length ≤ 281474976710656 := (hok.get hx).lp
 have hl2 : x.insts.length ≤ 281474976710656 := (hok.get hx).li
 have hsl := sizeTo_le hok k hk
 obtain ⟨ad11, rfl⟩ := blocks_some (M7.ro hB) (bsOf_get hx)
 refine zix ad11 ((bsOf fs).length) 6 (k : Int) <| zls ((ad11 : Addr).add (((k : Int)).toNat * 6)) (xV x) (fblk_get (M7.ro hB) rfl hx) <| zal M7 43 [(.slice none 0 0), (.slice none 0 0), (.int .i64 0), (.int .i64 0), (.int .i64 0), (.int .i64 0)] fun b12 w13 hb12 M14 => ?_
 replace M14 := M14.nf
 refine zss M14 1 (xV x) rfl fun w15 M16 => ?_
 replace M16 := M16.nf
 refine zfe <| zrg <| zpn 2 <| zld ⟨b12, 0, none⟩ (.slice x.pA x.phis.length x.pc) (blk_cell (M16.get 1 rfl) rfl) <| zpn 2 <| zld ⟨b12, 1, none⟩ (.slice x.iA x.insts.length x.ic) (blk_cell (M16.get 1 rfl) rfl) <| zpn 1 <| zar (((x.phis.length : Nat) : Int) + ((x.insts.length : Nat) : Int)) <| zar ((q : Int) + (((x.phis.length : Nat) : Int) + ((x.insts.length : Nat) : Int))) <| zkp [(10, (.slice (some ad11) ((bsOf fs).length) c)), (11, (.int .i64 (((bsOf fs).length : Nat) : Int))), (12, (nV k)), (24, (.int .i64 ((q : Int) + (((x.phis.length : Nat) : Int) + ((x.insts.length : Nat) : Int)))))] ?_
 refine zpn 1 <| zfe <| zrg <| zar ((k : Int) + 1) <| zpn 1 <| zfe ?_
 intro aC fr
 exact ⟨fs.length - (k + 1), by omega, k + 1, q + (x.phis.length + x.insts.length), rfl, fr.kp [3, 10, 11, 12], (M16.tk 1), by omega, by rw [hq, sizeTo_succ hx]; omega⟩
 refine zex 0 <| zbh <| zsp <| zre <| zo1 (nV q) ?_
 obtain rfl : k = fs.length := by omega
 have M19 := M7.od [] 0
 exact ⟨by rw [hq]; rfl, M19⟩
end Go.Proofs.Ytjekgaabcigphaa
namespace Go.Proofs.Ytjekgaabcigphaa
open Go.Mor
theorem name_c (nm : ByteArray) (w : World) :
    Calls Try.prog 20 #[(.string nm)] w (Ret fun v w' => v = .bool (decide (nameQ nm)) ∧ Mem noS w w' []) := by
 refine zen 11 [(.string nm)] Try.func20 ?_
 have hM := Mem.init w
 refine zsp <| zsr <| zpn 4 ?_
 obtain ⟨B1, hB1⟩ : ∃ B : Bool, B = decide ((((nm).size : Int) : Int) ≥ 1) := ⟨_, rfl⟩
 refine zkp [(0, (.string nm)), (6, (.bool (decide ((((nm).size : Int) : Int) ≥ 1))))] ?_
 rw [← hB1]
 have iB1 : B1 = true ↔ ((((nm).size : Int) : Int) ≥ 1) := by rw [hB1]; simp only [decide_eq_true_eq]
 clear hB1
 intro aC fr
 refine zpk 5 9 [2, 10] fr (news := [(2, (.bool (B1 && decide ((((nm).size : Int) : Int) ≤ 60)))), (10, (.bool (B1 && decide ((((nm).size : Int) : Int) ≤ 60))))]) (by cases B1 <;> kernel_rfl) ?_
 intro aC fr
 revert aC
 refine zfe <| zre <| zo1 (.bool (B1 && decide ((((nm).size : Int) : Int) ≤ 60))) ?_
 have hR : (B1 && decide ((((nm).size : Int) : Int) ≤ 60)) = true ↔ (((((nm).size : Int) : Int) ≥ 1) ∧ ((((nm).size : Int) : Int) ≤ 60)) := by simp only [Bool.and_eq_true, decide_eq_true_eq, iB1]
 exact ⟨bool_dec hR (by unfold nameQ; omega), hM⟩
theorem makes_c (op : Int) (w : World) :
    Calls Try.prog 60 #[(.int .i64 op)] w (Ret fun v w' => v = .bool (decide (makesQ op)) ∧ Mem noS w w' []) := by
 refine zen 13 [(.int .i64 op)] Try.func60 ?_
 have hM := Mem.init w
 refine zsp <| zsr <| zpn 3 ?_
 obtain ⟨B1, hB1⟩ : ∃ B : Bool, B = ((op : Int) != 3) := ⟨_, rfl⟩
 refine zkp [(0, (.int .i64 op)), (5, (.bool ((op : Int) != 3)))] ?_
 rw [← hB1]
 have iB1 : B1 = true ↔ ((op : Int) ≠ 3) := by rw [hB1]; simp only [bne_iff_ne]
 clear hB1
 intro aC fr
 refine zpk 4 7 [8, 9] fr (news := [(8, (.bool (B1 && ((op : Int) != 10)))), (9, (.bool (B1 && ((op : Int) != 10))))]) (by cases B1 <;> kernel_rfl) ?_
 intro aC fr
 obtain ⟨B6, hB6⟩ : ∃ B : Bool, B = (B1 && ((op : Int) != 10)) := ⟨_, rfl⟩
 revert aC
 refine zkp [(0, (.int .i64 op)), (9, (.bool (B1 && ((op : Int) != 10))))] ?_
 rw [← hB6]
 have iB6 : B6 = true ↔ (((op : Int) ≠ 3) ∧ ((op : Int) ≠ 10)) := by rw [hB6]; simp only [Bool.and_eq_true, bne_iff_ne, iB1]
 clear hB6
 intro aC fr
 refine zpk 4 11 [2, 12] fr (news := [(2, (.bool (B6 && ((op : Int) != 11)))), (12, (.bool (B6 && ((op : Int) != 11))))]) (by cases B6 <;> kernel_rfl) ?_
 intro aC fr
 revert aC
 refine zfe <| zre <| zo1 (.bool (B6 && ((op : Int) != 11))) ?_
 have hR : (B6 && ((op : Int) != 11)) = true ↔ ((((op : Int) ≠ 3) ∧ ((op : Int) ≠ 10)) ∧ ((op : Int) ≠ 11)) := by simp only [Bool.and_eq_true, bne_iff_ne, iB6]
 exact ⟨bool_dec hR (by unfold makesQ; omega), hM⟩
theorem code_c (n : Int) (w : World) :
    Calls Try.prog 57 #[(.int .i64 n)] w (Ret fun v w' => v = .bool (decide (codeQ n)) ∧ Mem noS w w' []) := by
 refine zen 9 [(.int .i64 n)] Try.func57 ?_
 have hM := Mem.init w
 refine zsp <| zsr <| zpn 3 ?_
 obtain ⟨B1, hB1⟩ : ∃ B : Bool, B = decide ((n : Int) ≥ 1) := ⟨_, rfl⟩
 refine zkp [(0, (.int .i64 n)), (5, (.bool (decide ((n : Int) ≥ 1))))] ?_
 rw [← hB1]
 have iB1 : B1 = true ↔ ((n : Int) ≥ 1) := by rw [hB1]; simp only [decide_eq_true_eq]
 clear hB1
 intro aC fr
 refine zpk 4 7 [2, 8] fr (news := [(2, (.bool (B1 && decide ((n : Int) ≤ 999)))), (8, (.bool (B1 && decide ((n : Int) ≤ 999))))]) (by cases B1 <;> kernel_rfl) ?_
 intro aC fr
 revert aC
 refine zfe <| zre <| zo1 (.bool (B1 && decide ((n : Int) ≤ 999))) ?_
 have hR : (B1 && decide ((n : Int) ≤ 999)) = true ↔ (((n : Int) ≥ 1) ∧ ((n : Int) ≤ 999)) := by simp only [Bool.and_eq_true, decide_eq_true_eq, iB1]
 exact ⟨bool_dec hR (by unfold codeQ; omega), hM⟩
theorem place_c (n : Int) (w : World) :
    Calls Try.prog 79 #[(.int .i64 n)] w (Ret fun v w' => v = .bool (decide (placeQ n)) ∧ Mem noS w w' []) := by
 refine zen 9 [(.int .i64 n)] Try.func79 ?_
 have hM := Mem.init w
 refine zsp <| zsr <| zpn 3 ?_
 obtain ⟨B1, hB1⟩ : ∃ B : Bool, B = decide ((n : Int) ≥ 0) := ⟨_, rfl⟩
 refine zkp [(0, (.int .i64 n)), (5, (.bool (decide ((n : Int) ≥ 0))))] ?_
 rw [← hB1]
 have iB1 : B1 = true ↔ ((n : Int) ≥ 0) := by rw [hB1]; simp only [decide_eq_true_eq]
 clear hB1
 intro aC fr
 refine zpk 4 7 [2, 8] fr (news := [(2, (.bool (B1 && decide ((n : Int) ≤ 2147483647)))), (8, (.bool (B1 && decide ((n : Int) ≤ 2147483647))))]) (by cases B1 <;> kernel_rfl) ?_
 intro aC fr
 revert aC
 refine zfe <| zre <| zo1 (.bool (B1 && decide ((n : Int) ≤ 2147483647))) ?_
 have hR : (B1 && decide ((n : Int) ≤ 2147483647)) = true ↔ (((n : Int) ≥ 0) ∧ ((n : Int) ≤ 2147483647)) := by simp only [Bool.and_eq_true, decide_eq_true_eq, iB1]
 exact ⟨bool_dec hR (by unfold placeQ; omega), hM⟩
end Go.Proofs.Ytjekgaabcigphaa
