/-
  Texts of the proof, part 13.
-/
import Derived.Test.YtejbeeaomokjpaaZA12
import Derived.Test.YtejbeeaomokjpaaRows
set_option maxRecDepth 10000
namespace Go.Proofs.Ytejbeeaomokjpaa
open Go.Mor
theorem has_c (l : List Int) (k : Int) (A : Option Addr) (c : Nat) (w : World) (hm : l.length ≤ 1000000) (hA : RO noS w (.rd A (ints l))) :
    Calls Try.prog 75 #[(.slice A l.length c), (.int .i64 k)] w (Ret fun v w' => v = .bool (l.contains k) ∧ Mem noS w w' []) := by
 refine zen 18 [(.slice A l.length c), (.int .i64 k)] Try.func75 ?_
 have hM := Mem.init w
 refine zsp <| zsq <| zsp <| zbk 0 ?_
 intro aC fr
 refine zlp (fun n_ a_ w_ => ∃ (j : Nat), n_ = l.length - j ∧ Fr a_ 18 [(0, (.slice A l.length c)), (1, (.int .i64 k)), (5, (nV j))] ∧ Mem noS w w_ [] ∧ (j ≤ l.length) ∧ ((l.take j).contains k = false)) (n := _) ⟨0, rfl, fr.kp [0, 1, 5], hM, by omega, by simp⟩ ?_
 clear fr aC hM; rintro n aC w3 ⟨j, rfl, fr, M4, hj, hn⟩
 revert aC
 refine zsq <| zsr <| zpn 3 <| zcm (decide ((j : Int) < ((l.length : Nat) : Int))) fun B7 hB7 => ?_
 refine zfe ?_
 cases B7
 have c7 : ¬ ((j : Int) < ((l.length : Nat) : Int)) := of_decide_eq_false hB7.symm
 refine zcF <| zex 0 <| zbh <| zsp <| zre <| zo1 (.bool false) ?_
 exact ⟨by rw [has_no hn (by omega)], M4⟩
 have c7 : (j : Int) < ((l.length : Nat) : Int) := of_decide_eq_true hB7.symm
 refine zcT <| zsk <| zsq <| zbk 1 <| zsr <| zpn 2 ?_
 obtain ⟨ad8, rfl⟩ := rd_ints_some (M4.ro hA) (by omega)
 refine zix ad8 l.length 1 (j : Int) <| zld ((ad8 : Addr).add (((j : Int)).toNat * 1)) (.int .i64 (l.getD (j : Int).toNat 0)) (rd_int (M4.ro hA) rfl (by omega) (by omega)) <| zpn 1 <| zcm ((l.getD (j : Int).toNat 0) == k) fun Bhit hBhit => ?_
 refine zfe ?_
 cases Bhit
 have chit : ¬ ((l.getD (j : Int).toNat 0) = k) := zne hBhit
 refine zcF <| zsk <| zrg <| zpn 1 <| zar ((j : Int) + 1) <| zpn 1 <| zfe ?_
 intro aC fr
 exact ⟨l.length - (j + 1), by omega, j + 1, rfl, fr.kp [0, 1, 5], M4, by omega, has_next hn chit (by omega)⟩
 have chit : (l.getD (j : Int).toNat 0) = k := beq_iff_eq.1 hBhit.symm
 refine zcT <| zsp <| zre <| zbr <| zbr <| zo1 (.bool true) ?_
 exact ⟨by rw [has_yes chit (by omega)], M4⟩
theorem rtargets_c (nm wk pa va : Value) (A : Option Addr) (c : Nat) (bs : List SB) (b : Int) (w : World) (_hm : bs.length ≤ 1000000) (hA : RO noS w (.blocks A bs)) :
    Calls Try.prog 74 #[(.agg #[nm, wk, pa, va, (.slice A bs.length c)]), (.int .i64 b)] w (Ret fun v w' => ∃ A' c', v = .slice A' (tg bs b).length c' ∧ Mem noS w w' [.row 3 1 A' (tg bs b).length c' (ints (tg bs b))]) := by
 refine zen 74 [(.agg #[nm, wk, pa, va, (.slice A bs.length c)]), (.int .i64 b)] Try.func74 ?_
 have hM := Mem.init w
 refine zsr <| zbx hM 24 (.agg #[nm, wk, pa, va, (.slice A bs.length c)]) [nm, wk, pa, va, (.slice A bs.length c)] fun b1 w2 hb1 M3 => ?_
 replace M3 := M3.nf
 clear hM
 refine zpn 1 <| zfe <| zsq <| zsr <| zpn 1 <| zcm (decide (b < 0)) fun Blo hBlo => ?_
 refine zpn 1 ?_
 cases Blo
 have clo : ¬ (b < 0) := of_decide_eq_false hBlo.symm
 refine zpn 2 <| zld ⟨b1, 4, none⟩ (.slice A bs.length c) (blk_cell (M3.get 0 rfl) rfl) <| zpn 1 <| zcm (decide (b ≥ ((bs.length : Nat) : Int))) fun Bhi hBhi => ?_
 refine zpn 1 <| zfe ?_
 cases Bhi
 have chi : ¬ (b ≥ ((bs.length : Nat) : Int)) := of_decide_eq_false hBhi.symm
 refine zcF <| zsk <| zsr ?_
 obtain ⟨x, hx⟩ := get_lt (l := bs) (i := b) (by omega) (by omega)
 refine zpn 1 <| zld ⟨b1, 4, none⟩ (.slice A bs.length c) (blk_cell (M3.get 0 rfl) rfl) <| zpn 1 ?_
 obtain ⟨ad4, rfl⟩ := blocks_some (M3.ro hA) hx
 refine zix ad4 bs.length 6 b <| zls ((ad4 : Addr).add ((b).toNat * 6)) [(.slice x.pA x.pn x.pc), (.slice x.iA x.ik x.ic), (.int .i64 x.e), (.int .i64 x.v), (.int .i64 x.a), (.int .i64 x.b)] (blocks_get (M3.ro hA) rfl hx) <| zal M3 36 [(.slice none 0 0), (.slice none 0 0), (.int .i64 0), (.int .i64 0), (.int .i64 0), (.int .i64 0)] fun b5 w6 hb5 M7 => ?_
 replace M7 := M7.nf
 refine zss M7 1 [(.slice x.pA x.pn x.pc), (.slice x.iA x.ik x.ic), (.int .i64 x.e), (.int .i64 x.v), (.int .i64 x.a), (.int .i64 x.b)] rfl fun w8 M9 => ?_
 replace M9 := M9.nf
 refine zkp [(2, (pT b1 0)), (5, (pT b5 0))] <| zfe <| zsp <| zsq ?_
 intro aC fr
 refine W_cut (fun a_ w_ => Fr a_ 74 [(2, (pT b1 0)), (5, (pT b5 0)), (6, (.slice none 0 0))] ∧ Mem noS w w_ [.blk b1 24 [nm, wk, pa, va, (.slice (some ad4) bs.length c)], .blk b5 36 [(.slice x.pA x.pn x.pc), (.slice x.iA x.ik x.ic), (.int .i64 x.e), (.int .i64 x.v), (.int .i64 x.a), (.int .i64 x.b)]] ∧ (x.e = 0 ∨ x.e = 1)) ?_ ?_
 clear fr aC M9; rintro aC w12 ⟨fr, M13, he⟩
 revert aC
 refine zsq ?_
 intro aC fr
 refine W_cut (fun a_ w_ => ∃ (A1 : Option Addr) (n1 : Nat) (c1 : Nat) (l1 : List Int), Fr a_ 74 [(2, (pT b1 0)), (5, (pT b5 0)), (6, (.slice A1 n1 c1))] ∧ Mem noS w w_ [.blk b1 24 [nm, wk, pa, va, (.slice (some ad4) bs.length c)], .blk b5 36 [(.slice x.pA x.pn x.pc), (.slice x.iA x.ik x.ic), (.int .i64 x.e), (.int .i64 x.v), (.int .i64 x.a), (.int .i64 x.b)], .row 3 1 A1 n1 c1 (ints l1)] ∧ (l1 = rt1 bs.length x) ∧ (n1 = l1.length)) ?_ ?_
 clear fr aC M13; rintro aC w18 ⟨A1, n1, c1, l1, fr, M19, hl1, hn1⟩
 revert aC
 refine zsq ?_
 intro aC fr
 refine W_cut (fun a_ w_ => ∃ (A2 : Option Addr) (n2 : Nat) (c2 : Nat) (l2 : List Int), Fr a_ 74 [(6, (.slice A2 n2 c2))] ∧ Mem noS w w_ [.blk b1 24 [nm, wk, pa, va, (.slice (some ad4) bs.length c)], .blk b5 36 [(.slice x.pA x.pn x.pc), (.slice x.iA x.ik x.ic), (.int .i64 x.e), (.int .i64 x.v), (.int .i64 x.a), (.int .i64 x.b)], .row 3 1 A2 n2 c2 (ints l2)] ∧ (l2 = rt1 bs.length x ++ rt2 bs.length x) ∧ (n2 = l2.length)) ?_ ?_
 clear fr aC M19; rintro aC w24 ⟨A2, n2, c2, l2, fr, M25, hl2, hn2⟩
 revert aC
 refine zsp <| zre <| zo1 (.slice A2 n2 c2) ?_
 exact row_ret (M25.pick [false, false, true] rfl) (by rw [hl2, rt_eq he, tg_in (by omega) hx]) hn2
 revert aC
 refine zsr <| zpn 1 <| zld ⟨b5, 2, none⟩ (.int .i64 x.e) (blk_cell (M19.get 1 rfl) rfl) <| zcm (x.e == 1) fun Bf1 hBf1 => ?_
 refine zpn 1 ?_
 cases Bf1
 have cf1 : ¬ (x.e = 1) := zne hBf1
 refine zpn 19 <| zfe <| zcF <| zsk ?_
 intro aC fr
 exact ⟨A1, n1, c1, l1, fr.kp [6], M19, by rw [rt2_no (by omega), List.append_nil]; exact hl1, hn1⟩
 have cf1 : x.e = 1 := beq_iff_eq.1 hBf1.symm
 refine zpn 1 <| zld ⟨b5, 5, none⟩ (.int .i64 x.b) (blk_cell (M19.get 1 rfl) rfl) <| zpn 1 <| zld ⟨b5, 4, none⟩ (.int .i64 x.a) (blk_cell (M19.get 1 rfl) rfl) <| zcm (x.b != x.a) fun Bab hBab => ?_
 refine zpn 2 ?_
 cases Bab
 have cab : ¬ (x.b ≠ x.a) := znn hBab
 refine zpn 12 <| zfe <| zcF <| zsk ?_
 intro aC fr
 exact ⟨A1, n1, c1, l1, fr.kp [6], M19, by rw [rt2_no (by omega), List.append_nil]; exact hl1, hn1⟩
 have cab : x.b ≠ x.a := bne_iff_ne.1 hBab.symm
 refine zpn 1 <| zld ⟨b5, 5, none⟩ (.int .i64 x.b) (blk_cell (M19.get 1 rfl) rfl) <| zcm (decide (x.b ≥ 0)) fun Bb0 hBb0 => ?_
 refine zpn 2 ?_
 cases Bb0
 have cb0 : ¬ (x.b ≥ 0) := of_decide_eq_false hBb0.symm
 refine zpn 7 <| zfe <| zcF <| zsk ?_
 intro aC fr
 exact ⟨A1, n1, c1, l1, fr.kp [6], M19, by rw [rt2_no (by omega), List.append_nil]; exact hl1, hn1⟩
 have cb0 : x.b ≥ 0 := of_decide_eq_true hBb0.symm
 refine zpn 1 <| zld ⟨b5, 5, none⟩ (.int .i64 x.b) (blk_cell (M19.get 1 rfl) rfl) <| zpn 1 <| zld ⟨b1, 4, none⟩ (.slice (some ad4) bs.length c) (blk_cell (M19.get 0 rfl) rfl) <| zpn 1 <| zcm (decide (x.b < ((bs.length : Nat) : Int))) fun Bb1 hBb1 => ?_
 refine zpn 1 <| zfe ?_
 cases Bb1
 have cb1 : ¬ (x.b < ((bs.length : Nat) : Int)) := of_decide_eq_false hBb1.symm
 refine zcF <| zsk ?_
 intro aC fr
 exact ⟨A1, n1, c1, l1, fr.kp [6], M19, by rw [rt2_no (by omega), List.append_nil]; exact hl1, hn1⟩
 have cb1 : x.b < ((bs.length : Nat) : Int) := of_decide_eq_true hBb1.symm
 refine zcT <| zrg <| zpn 2 <| zld ⟨b5, 5, none⟩ (.int .i64 x.b) (blk_cell (M19.get 1 rfl) rfl) <| zkp [(68, (.slice A1 n1 c1)), (70, (.int .i64 x.b))] ?_
 intro aC fr
 refine zBs 71 37 1 #[(0, (.tmp 70))] 37 fr (e := 3) (size := 1) (zs := [(.int .i64 0)]) (vs := [(0, (.int .i64 x.b))]) (cs := [(.int .i64 x.b)]) M19 ?_
 intro b36 w37 hb36 _ M38 _ aC ea fr; clear ea
 replace M38 := M38.nf
 refine zAp 72 (.tmp 68) (.tmp 71) 37 37 fr (e := 3) (size := 1) (bytes := 8) (z := (.int .i64 0)) (A := A1) (B := (sM b36)) (n := n1) (cap := c1) (m := 1) (cap' := 1) (xs := (ints l1)) (news := [(.int .i64 x.b)]) M38 2 rfl (row_rd (M38.get 3 rfl)) rfl (by simp [Value.oneCell']) (by have := rt1_len bs.length x; rw [hl1] at hn1; omega) (by have := rt1_len bs.length x; rw [hl1] at hn1; simp only [maxLen]; omega) ?_
 intro A43 c44 w45 M46 _ aC ea fr; clear ea
 replace M46 := M46.nf
 have M49 := M46.od [2, 2, 2] 3
 revert aC
 refine zpn 1 <| zfe ?_
 intro aC fr
 exact ⟨A43, (n1 + 1), c44, l1 ++ [x.b], fr.kp [6], M49.cast (by rw [ints_append]; rfl), by rw [rt2_yes (by omega) (by omega) (by omega) (by omega), hl1], by simp [hn1]⟩
 revert aC
 refine zsr <| zpn 1 <| zld ⟨b5, 4, none⟩ (.int .i64 x.a) (blk_cell (M13.get 1 rfl) rfl) <| zcm (decide (x.a ≥ 0)) fun Ba0 hBa0 => ?_
 refine zpn 1 ?_
 cases Ba0
 have ca0 : ¬ (x.a ≥ 0) := of_decide_eq_false hBa0.symm
 refine zpn 7 <| zfe <| zcF <| zsk ?_
 intro aC fr
 exact ⟨none, 0, 0, [], fr.kp [2, 5, 6], M13.call (Mem.nilrow _ 3 1), (rt1_no (by omega)).symm, rfl⟩
 have ca0 : x.a ≥ 0 := of_decide_eq_true hBa0.symm
 refine zpn 1 <| zld ⟨b5, 4, none⟩ (.int .i64 x.a) (blk_cell (M13.get 1 rfl) rfl) <| zpn 1 <| zld ⟨b1, 4, none⟩ (.slice (some ad4) bs.length c) (blk_cell (M13.get 0 rfl) rfl) <| zpn 1 <| zcm (decide (x.a < ((bs.length : Nat) : Int))) fun Ba1 hBa1 => ?_
 refine zpn 1 <| zfe ?_
 cases Ba1
 have ca1 : ¬ (x.a < ((bs.length : Nat) : Int)) := of_decide_eq_false hBa1.symm
 refine zcF <| zsk ?_
 intro aC fr
 exact ⟨none, 0, 0, [], fr.kp [2, 5, 6], M13.call (Mem.nilrow _ 3 1), (rt1_no (by omega)).symm, rfl⟩
 have ca1 : x.a < ((bs.length : Nat) : Int) := of_decide_eq_true hBa1.symm
 refine zcT <| zrg <| zpn 2 <| zld ⟨b5, 4, none⟩ (.int .i64 x.a) (blk_cell (M13.get 1 rfl) rfl) ?_
 intro aC fr
 refine zBs 43 37 1 #[(0, (.tmp 42))] 37 fr (e := 3) (size := 1) (zs := [(.int .i64 0)]) (vs := [(0, (.int .i64 x.a))]) (cs := [(.int .i64 x.a)]) M13 ?_
 intro b56 w57 hb56 _ M58 _ aC ea fr; clear ea
 replace M58 := M58.nf
 have M63 := M58.cl (Mem.nilrow _ 3 1)
 refine zAp 44 (.tmp 40) (.tmp 43) 37 37 fr (e := 3) (size := 1) (bytes := 8) (z := (.int .i64 0)) (A := none) (B := (sM b56)) (n := 0) (cap := 0) (m := 1) (cap' := 1) (xs := []) (news := [(.int .i64 x.a)]) M63 3 rfl (row_rd (M63.get 2 rfl)) rfl (by simp [Value.oneCell']) (by omega) (by simp only [maxLen]; omega) ?_
 intro A64 c65 w66 M67 _ aC ea fr; clear ea
 replace M67 := M67.nf
 have M70 := M67.od [3, 2, 2] 3
 revert aC
 refine zpn 1 <| zfe ?_
 intro aC fr
 exact ⟨A64, (0 + 1), c65, [x.a], fr.kp [2, 5, 6], M70, (rt1_yes (by omega) (by omega)).symm, rfl⟩
 revert aC
 refine zsr <| zpn 1 <| zld ⟨b5, 2, none⟩ (.int .i64 x.e) (blk_cell (M9.get 1 rfl) rfl) <| zcm (x.e != 0) fun Be0 hBe0 => ?_
 refine zpn 1 ?_
 cases Be0
 have ce0 : ¬ (x.e ≠ 0) := znn hBe0
 refine zpn 4 <| zfe <| zcF <| zsk ?_
 intro aC fr
 exact ⟨fr.kp [2, 5, 6], M9, by omega⟩
 have ce0 : x.e ≠ 0 := bne_iff_ne.1 hBe0.symm
 refine zpn 1 <| zld ⟨b5, 2, none⟩ (.int .i64 x.e) (blk_cell (M9.get 1 rfl) rfl) <| zcm (x.e != 1) fun Be1 hBe1 => ?_
 refine zpn 1 <| zfe ?_
 cases Be1
 have ce1 : ¬ (x.e ≠ 1) := znn hBe1
 refine zcF <| zsk ?_
 intro aC fr
 exact ⟨fr.kp [2, 5, 6], M9, by omega⟩
 have ce1 : x.e ≠ 1 := bne_iff_ne.1 hBe1.symm
 refine zcT <| zsp <| zre <| zo1 (.slice none 0 0) ?_
 exact nil_ret (M9.pick [false, false] rfl) (by rw [tg_in (by omega) hx]; exact rt_none (by omega) (by omega))
 have chi : b ≥ ((bs.length : Nat) : Int) := of_decide_eq_true hBhi.symm
 refine zcT <| zsp <| zre <| zo1 (.slice none 0 0) ?_
 exact nil_ret (M3.pick [false] rfl) (tg_out (by omega))
 have clo : b < 0 := of_decide_eq_true hBlo.symm
 refine zpn 6 <| zfe <| zcT <| zsp <| zre <| zo1 (.slice none 0 0) ?_
 exact nil_ret (M3.pick [false] rfl) (tg_out (by omega))
theorem tdel_c (q : Nat) (nm wk pa va : Value) (A : Option Addr) (c : Nat) (bs : List SB) (t : Int) (w : World) (_hm : bs.length ≤ 1000000) (hq : RO noS w (.blk q 24 [nm, wk, pa, va, .slice A bs.length c])) :
    Calls Try.prog 129 #[(.int .i64 t), (pT q 0)] w (Ret fun v w' => v = .bool (!(inR bs.length t)) ∧ Mem noS w w' []) := by
 refine zen 13 [(.int .i64 t), (pT q 0)] Try.func129 ?_
 have hM := Mem.init w
 refine zsp <| zsr <| zpn 1 <| zcm (decide (t < 0)) fun Blo hBlo => ?_
 refine zpn 1 ?_
 cases Blo
 have clo : ¬ (t < 0) := of_decide_eq_false hBlo.symm
 refine zpn 2 <| zld ⟨q, 4, none⟩ (.slice A bs.length c) (blk_cell (hM.ro hq) rfl) <| zpn 1 <| zcm (decide (t ≥ ((bs.length : Nat) : Int))) fun Bhi hBhi => ?_
 refine zpn 2 <| zfe <| zre <| zo1 (.bool Bhi) ?_
 exact ⟨by rw [hBhi, inR_hi (by omega)], hM⟩
 have clo : t < 0 := of_decide_eq_true hBlo.symm
 refine zpn 7 <| zfe <| zre <| zo1 (.bool true) ?_
 exact ⟨by rw [inR_no (by omega)]; rfl, hM⟩
theorem indexf_c (l : List Int) (B : Option Addr) (d : Nat) (q : Nat) (nm wk pa va : Value) (A : Option Addr) (c : Nat) (bs : List SB) (w : World) (hll : l.length ≤ 1000000) (hl : RO noS w (.rd B (ints l))) (hm : bs.length ≤ 1000000) (hq : RO noS w (.blk q 24 [nm, wk, pa, va, .slice A bs.length c])) :
    Calls Try.prog 121 #[(.slice B l.length d), (.func (.func 129) #[] #[(pT q 0)])] w (Ret fun v w' => v = .int .i64 (fidx (fun x => !(inR bs.length x)) l) ∧ Mem noS w w' []) := by
 refine zen 19 [(.slice B l.length d), (.func (.func 129) #[] #[(pT q 0)])] Try.func121 ?_
 have hM := Mem.init w
 refine zsp <| zsq <| zsp <| zbk 0 ?_
 intro aC fr
 refine zlp (fun n_ a_ w_ => ∃ (j : Nat), n_ = l.length - j ∧ Fr a_ 19 [(0, (.slice B l.length d)), (1, (.func (.func 129) #[] #[(pT q 0)])), (7, (.int .i64 ((l.length : Nat) : Int))), (8, (nV j))] ∧ Mem noS w w_ [] ∧ (j ≤ l.length) ∧ ((l.take j).any (fun x => !(inR bs.length x)) = false)) (n := _) ⟨0, rfl, fr.kp [0, 1, 7, 8], hM, by omega, by simp⟩ ?_
 clear fr aC hM; rintro n aC w3 ⟨j, rfl, fr, M4, hj, hn⟩
 revert aC
 refine zsr <| zcm (decide ((j : Int) < ((l.length : Nat) : Int))) fun B7 hB7 => ?_
 refine zfe <| zsq ?_
 cases B7
 have c7 : ¬ ((j : Int) < ((l.length : Nat) : Int)) := of_decide_eq_false hB7.symm
 refine zcF <| zex 0 <| zbh <| zsp <| zre <| zo1 (.int .i64 (-1)) ?_
 exact ⟨by rw [fidx_miss hn (by omega)], M4⟩
 have c7 : (j : Int) < ((l.length : Nat) : Int) := of_decide_eq_true hB7.symm
 refine zcT <| zsk <| zsq <| zbk 1 <| zsp <| zsr <| zpn 3 ?_
 obtain ⟨ad8, rfl⟩ := rd_ints_some (M4.ro hl) (by omega)
 refine zix ad8 l.length 1 (j : Int) <| zld ((ad8 : Addr).add (((j : Int)).toNat * 1)) (.int .i64 (l.getD (j : Int).toNat 0)) (rd_int (M4.ro hl) rfl (by omega) (by omega)) <| zcl (tdel_c q nm wk pa va A c bs (l.getD (j : Int).toNat 0) w3 hm (hq.at_ M4)) ?_
 rintro _ w9 ⟨rfl, M10x⟩
 have M10 := M4.cl M10x
 obtain ⟨Bhit, hBhit⟩ : ∃ B, B = !(inR bs.length (l.getD (j : Int).toNat 0)) := ⟨_, rfl⟩
 refine zkp [(0, (.slice (some ad8) l.length d)), (1, (.func (.func 129) #[] #[(pT q 0)])), (5, (nV j)), (7, (.int .i64 ((l.length : Nat) : Int))), (8, (nV j)), (11, (.func (.func 129) #[] #[(pT q 0)])), (15, (.int .i64 (l.getD (j : Int).toNat 0))), (16, (.bool (!(inR bs.length (l.getD (j : Int).toNat 0)))))] ?_
 rw [← hBhit]
 refine zfe ?_
 cases Bhit
 have chit : (!(inR bs.length (l.getD (j : Int).toNat 0))) = false := hBhit.symm
 refine zcF <| zsk <| zrg <| zar ((j : Int) + 1) <| zpn 1 <| zfe ?_
 intro aC fr
 exact ⟨l.length - (j + 1), by omega, j + 1, rfl, fr.kp [0, 1, 7, 8], M10, by omega, any_next hn chit (by omega)⟩
 have chit : (!(inR bs.length (l.getD (j : Int).toNat 0))) = true := hBhit.symm
 refine zcT <| zsp <| zre <| zbr <| zbr <| zo1 (nV j) ?_
 exact ⟨by rw [fidx_hit hn chit (by omega)], M10⟩
theorem deletef_c (l : List Int) (B : Option Addr) (d : Nat) (q : Nat) (nm wk pa va : Value) (A : Option Addr) (c : Nat) (bs : List SB) (w : World) (hll : l.length ≤ 1000000) (hl : (Res.row 3 1 B l.length d (ints l)).holds w) (hm : bs.length ≤ 1000000) (hq : RO (Res.row 3 1 B l.length d (ints l)).fp w (.blk q 24 [nm, wk, pa, va, .slice A bs.length c])) :
    Calls Try.prog 128 #[(.slice B l.length d), (.func (.func 129) #[] #[(pT q 0)])] w (Ret fun v w' => ∃ B' d', v = .slice B' (l.filter (fun x => !((fun x => !(inR bs.length x)) x))).length d' ∧ Mem (Res.row 3 1 B l.length d (ints l)).fp w w' [.row 3 1 B' (l.filter (fun x => !((fun x => !(inR bs.length x)) x))).length d' (ints (l.filter (fun x => !((fun x => !(inR bs.length x)) x))))]) := by
 refine zen 42 [(.slice B l.length d), (.func (.func 129) #[] #[(pT q 0)])] Try.func128 ?_
 have hM := Mem.initS hl
 refine zsp <| zsr <| zpn 2 <| zcl (indexf_c l B d q nm wk pa va A c bs w hll (RO.row_rd (hM.own_ro 0 rfl)) hm (hq.at_ hM)) ?_
 rintro _ w1 ⟨rfl, M2x⟩
 have M2 := hM.cl M2x
 clear M2x hM
 refine zpn 1 <| zfe <| zsq <| zsr <| zpn 1 <| zcm ((fidx (fun x => !(inR bs.length x)) l) == (-1)) fun Bnone hBnone => ?_
 refine zfe ?_
 cases Bnone
 have cnone : ¬ ((fidx (fun x => !(inR bs.length x)) l) = (-1)) := zne hBnone
 refine zcF <| zsk <| zsq <| zsr <| zpn 1 <| zar (h1 := (by have := fidx_lt (fun x => !(inR bs.length x)) l; omega)) (h2 := (by have := fidx_lt (fun x => !(inR bs.length x)) l; omega)) ((fidx (fun x => !(inR bs.length x)) l) + 1) ?_
 refine zpn 1 <| zfe <| zbk 0 ?_
 obtain ⟨i0, hi0, hil, hk0⟩ := kept_start cnone
 refine zkp [(0, (.slice B l.length d)), (1, (.func (.func 129) #[] #[(pT q 0)])), (5, (.int .i64 (fidx (fun x => !(inR bs.length x)) l))), (6, (.int .i64 ((fidx (fun x => !(inR bs.length x)) l) + 1)))] ?_
 intro aC fr
 rw [hi0] at fr
 obtain ⟨g0, hg0⟩ := row_some (M2.get 0 rfl) (show 0 < l.length by omega)
 subst hg0
 have hle := row_le (M2.get 0 rfl)
 have hlen0 : (kept (fun x => !(inR bs.length x)) l (i0 + 1)).length = i0 := by rw [hk0]; simp; omega
 have hc1 : ((i0 + 1 : Nat) : Int) = (i0 : Int) + 1 := by omega
 replace fr : Fr aC 42 [(0, .slice (sM g0) l.length d), (1, ((.func (.func 129) #[] #[(pT q 0)]))), (5, (.int .i64 ((kept (fun x => !(inR bs.length x)) l (i0 + 1)).length : Int))), (6, (.int .i64 ((i0 + 1 : Nat) : Int)))] := by rw [hlen0]; exact fr.keep (keep := [0, 1, 5, 6]) (by kernel_rfl)
 refine zlp (fun n_ a_ w_ => ∃ (j : Nat) (m : List Int), n_ = l.length - j ∧ Fr a_ 42 [(0, (.slice (sM g0) l.length d)), (1, (.func (.func 129) #[] #[(pT q 0)])), (5, (.int .i64 ((kept (fun x => !(inR bs.length x)) l j).length : Int))), (6, (nV j))] ∧ Mem ((Res.row 3 1 (sM g0) l.length d (ints l)).fp) w w_ [.row 3 1 (sM g0) l.length d (ints m)] ∧ (j ≤ l.length) ∧ (HalfL l m (kept (fun x => !(inR bs.length x)) l j) j)) (n := _) ⟨i0 + 1, l, rfl, fr.kp [0, 1, 5, 6], M2, by omega, by rw [hk0]; exact halfL_start hil⟩ ?_
 clear fr aC M2; rintro n aC w5 ⟨j, m, rfl, fr, M6, hj, hh⟩
 revert aC
 refine zsq <| zsr <| zpn 3 <| zcm (decide ((j : Int) < ((l.length : Nat) : Int))) fun B9 hB9 => ?_
 refine zfe ?_
 cases B9
 have c9 : ¬ ((j : Int) < ((l.length : Nat) : Int)) := of_decide_eq_false hB9.symm
 refine zcF <| zex 0 <| zbh <| zsr <| zpn 2 ?_
 intro aC fr
 have hjl : j = l.length := by omega
 have hkl := hh.2.2.2
 refine From_sliceLo (by kernel_rfl : coreAt _ 2 = some (some 38, (.slice 37 (.tmp 36) (some (.tmp 37)) none none), 37, none)) fr (by kernel_rfl) (by kernel_rfl) (k' := 3) rfl (A := (sM g0)) (n := l.length) (cap := d) (e := 3) (size := 1) (kd := .i64) (i := ((kept (fun x => !(inR bs.length x)) l j).length : Int)) (kept (fun x => !(inR bs.length x)) l j).length (by kernel_rfl) (by kernel_rfl) rfl (by kernel_rfl) (by kernel_rfl) (by omega) ?_
 intro aC ea fr; clear ea
 rw [if_neg (show ¬ (d = (kept (fun x => !(inR bs.length x)) l j).length) by omega)] at fr
 refine From_clear (by kernel_rfl : coreAt _ 3 = some (none, (.call { callee := (.builtin .clear), args := #[(.tmp 38)], argTypes := #[37] }), 0, none)) fr (by kernel_rfl) (by kernel_rfl) (k' := 4) rfl (e := 3) (z := .int .i64 0) (by kernel_rfl) (by kernel_rfl) rfl (ad := ⟨g0, 0, none⟩) (off := (kept (fun x => !(inR bs.length x)) l j).length * 1) (m := l.length - (kept (fun x => !(inR bs.length x)) l j).length) (cap' := d - (kept (fun x => !(inR bs.length x)) l j).length) (n := l.length) (cap := d) (xs := ints m) (by kernel_rfl) M6 0 rfl (by omega) ?_
 intro w14 M15 _ aC ea fr; clear ea
 replace M15 := M15.nf
 revert aC
 refine zfe <| zsr <| zpn 2 ?_
 intro aC fr
 refine From_sliceHi (by kernel_rfl : coreAt _ 2 = some (some 41, (.slice 37 (.tmp 39) none (some (.tmp 40)) none), 37, none)) fr (by kernel_rfl) (by kernel_rfl) (k' := 3) rfl (A := (sM g0)) (n := l.length) (cap := d) (e := 3) (size := 1) (kd := .i64) (i := ((kept (fun x => !(inR bs.length x)) l j).length : Int)) (kept (fun x => !(inR bs.length x)) l j).length (by kernel_rfl) (by kernel_rfl) rfl (by kernel_rfl) (by kernel_rfl) (by omega) ?_
 intro aC ea fr; clear ea
 revert aC
 refine zpn 1 <| zfe <| zre <| zo1 (.slice (sM g0) ((kept (fun x => !(inR bs.length x)) l j).length) d) ?_
 have hm2 := M15.take_row 0 rfl (kept (fun x => !(inR bs.length x)) l j).length (by omega)
 refine ⟨some ⟨g0, 0, none⟩, d, by rw [← kept_all (p := (fun x => !(inR bs.length x))) (show l.length ≤ j by omega)], hm2.cast ?_⟩
 rw [← kept_all (p := (fun x => !(inR bs.length x))) (show l.length ≤ j by omega)]
 show [_] = _; rw [cleared hh.2.1]
 have c9 : (j : Int) < ((l.length : Nat) : Int) := of_decide_eq_true hB9.symm
 refine zcT <| zsk <| zsq <| zbk 1 <| zsr <| zpn 2 <| zix ⟨g0, 0, none⟩ l.length 1 (j : Int) <| zld ((⟨g0, 0, none⟩ : Addr).add (((j : Int)).toNat * 1)) (.int .i64 (l.getD (j : Int).toNat 0)) (by rw [← halfL_get hh]; exact rd_int (row_rd (M6.get 0 rfl)) rfl (by omega) (by have := hh.1; omega)) <| zpn 1 <| zfe ?_
 refine zsr <| zpn 2 <| zcl (tdel_c q nm wk pa va A c bs (l.getD (j : Int).toNat 0) w5 hm (hq.at_ M6)) ?_
 rintro _ w22 ⟨rfl, M23x⟩
 have M23 := M6.cl M23x
 obtain ⟨Bdel, hBdel⟩ : ∃ B, B = !(inR bs.length (l.getD (j : Int).toNat 0)) := ⟨_, rfl⟩
 refine zkp [(0, (.slice (sM g0) l.length d)), (1, (.func (.func 129) #[] #[(pT q 0)])), (5, (.int .i64 ((kept (fun x => !(inR bs.length x)) l j).length : Int))), (6, (nV j)), (7, (.int .i64 (l.getD (j : Int).toNat 0))), (26, (.func (.func 129) #[] #[(pT q 0)])), (27, (.int .i64 (l.getD (j : Int).toNat 0))), (28, (.bool (!(inR bs.length (l.getD (j : Int).toNat 0)))))] ?_
 rw [← hBdel]
 refine zpn 1 <| zfe ?_
 cases Bdel
 have cdel : (!(inR bs.length (l.getD (j : Int).toNat 0))) = false := hBdel.symm
 refine zcT <| zsr <| zpn 3 <| zix (h0 := (by omega)) (h1 := (by have := hh.2.2.2; omega)) ⟨g0, 0, none⟩ l.length 1 ((kept (fun x => !(inR bs.length x)) l j).length : Int) ?_
 refine zsw M23 0 ((⟨g0, 0, none⟩ : Addr).add ((((kept (fun x => !(inR bs.length x)) l j).length : Int)).toNat * 1)) ((((kept (fun x => !(inR bs.length x)) l j).length : Int)).toNat * 1) (.int .i64 (l.getD (j : Int).toNat 0)) rfl rfl (by have := hh.2.2.2; omega) fun w24 M25 => ?_
 replace M25 := M25.nf
 refine zfe <| zrg <| zpn 1 <| zar (h2 := (by have := hh.2.2.2; omega)) (((kept (fun x => !(inR bs.length x)) l j).length : Int) + 1) ?_
 refine zpn 1 <| zfe <| zrg <| zpn 1 <| zar ((j : Int) + 1) <| zpn 1 <| zfe ?_
 intro aC fr
 have hks := kept_yes (p := (fun x => !(inR bs.length x))) (show j < l.length by omega) cdel
 replace fr : Fr aC 42 [(0, .slice (sM g0) l.length d), (1, ((.func (.func 129) #[] #[(pT q 0)]))), (5, (.int .i64 ((kept (fun x => !(inR bs.length x)) l (j + 1)).length : Int))), (6, (.int .i64 ((j : Int) + 1)))] := by rw [hks, List.length_append]; exact fr.keep (keep := [0, 1, 5, 6]) (by kernel_rfl)
 exact ⟨l.length - (j + 1), by omega, j + 1, m.set (kept (fun x => !(inR bs.length x)) l j).length (l.getD (j : Int).toNat 0), rfl, fr.kp [0, 1, 5, 6], (M25.cast (by rw [ints_set, Int.toNat_natCast, Nat.mul_one])), by omega, by rw [hks]; exact halfL_yes hh (by omega) _⟩
 have cdel : (!(inR bs.length (l.getD (j : Int).toNat 0))) = true := hBdel.symm
 refine zcF <| zsk <| zrg <| zpn 1 <| zar ((j : Int) + 1) <| zpn 1 <| zfe ?_
 intro aC fr
 have hks := kept_no (p := (fun x => !(inR bs.length x))) (show j < l.length by omega) cdel
 replace fr : Fr aC 42 [(0, .slice (sM g0) l.length d), (1, ((.func (.func 129) #[] #[(pT q 0)]))), (5, (.int .i64 ((kept (fun x => !(inR bs.length x)) l (j + 1)).length : Int))), (6, (.int .i64 ((j : Int) + 1)))] := by rw [hks]; exact fr.keep (keep := [0, 1, 5, 6]) (by kernel_rfl)
 exact ⟨l.length - (j + 1), by omega, j + 1, m, rfl, fr.kp [0, 1, 5, 6], M23, by omega, by rw [hks]; exact halfL_no hh⟩
 have cnone : (fidx (fun x => !(inR bs.length x)) l) = (-1) := beq_iff_eq.1 hBnone.symm
 refine zcT <| zsp <| zre <| zo1 (.slice B l.length d) ?_
 exact ⟨B, d, by rw [any_filter cnone], M2.cast (by rw [any_filter cnone])⟩
theorem targets_c (nm wk pa va : Value) (A : Option Addr) (c : Nat) (bs : List SB) (b : Int) (w : World) (hm : bs.length ≤ 1000000) (hA : RO noS w (.blocks A bs)) :
    Calls Try.prog 108 #[(.agg #[nm, wk, pa, va, (.slice A bs.length c)]), (.int .i64 b)] w (Ret fun v w' => ∃ A' c', v = .slice A' (tg bs b).length c' ∧ Mem noS w w' [.row 3 1 A' (tg bs b).length c' (ints (tg bs b))]) := by
 refine zen 45 [(.agg #[nm, wk, pa, va, (.slice A bs.length c)]), (.int .i64 b)] Try.func108 ?_
 have hM := Mem.init w
 refine zsr <| zbx hM 24 (.agg #[nm, wk, pa, va, (.slice A bs.length c)]) [nm, wk, pa, va, (.slice A bs.length c)] fun b1 w2 hb1 M3 => ?_
 replace M3 := M3.nf
 clear hM
 refine zpn 1 <| zfe <| zsq <| zsr <| zpn 1 <| zcm (decide (b < 0)) fun Blo hBlo => ?_
 refine zpn 1 ?_
 cases Blo
 have clo : ¬ (b < 0) := of_decide_eq_false hBlo.symm
 refine zpn 2 <| zld ⟨b1, 4, none⟩ (.slice A bs.length c) (blk_cell (M3.get 0 rfl) rfl) <| zpn 1 <| zcm (decide (b ≥ ((bs.length : Nat) : Int))) fun Bhi hBhi => ?_
 refine zpn 1 <| zfe ?_
 cases Bhi
 have chi : ¬ (b ≥ ((bs.length : Nat) : Int)) := of_decide_eq_false hBhi.symm
 refine zcF <| zsk <| zsr ?_
 obtain ⟨x, hx⟩ := get_lt (l := bs) (i := b) (by omega) (by omega)
 refine zpn 1 <| zld ⟨b1, 4, none⟩ (.slice A bs.length c) (blk_cell (M3.get 0 rfl) rfl) <| zpn 1 ?_
 obtain ⟨ad4, rfl⟩ := blocks_some (M3.ro hA) hx
 refine zix ad4 bs.length 6 b <| zls ((ad4 : Addr).add ((b).toNat * 6)) [(.slice x.pA x.pn x.pc), (.slice x.iA x.ik x.ic), (.int .i64 x.e), (.int .i64 x.v), (.int .i64 x.a), (.int .i64 x.b)] (blocks_get (M3.ro hA) rfl hx) <| zal M3 36 [(.slice none 0 0), (.slice none 0 0), (.int .i64 0), (.int .i64 0), (.int .i64 0), (.int .i64 0)] fun b5 w6 hb5 M7 => ?_
 replace M7 := M7.nf
 refine zss M7 1 [(.slice x.pA x.pn x.pc), (.slice x.iA x.ik x.ic), (.int .i64 x.e), (.int .i64 x.v), (.int .i64 x.a), (.int .i64 x.b)] rfl fun w8 M9 => ?_
 replace M9 := M9.nf
 refine zkp [(2, (pT b1 0)), (5, (pT b5 0))] <| zfe <| zsp <| zsq <| zsr <| zpn 1 <| zld ⟨b5, 2, none⟩ (.int .i64 x.e) (blk_cell (M9.get 1 rfl) rfl) <| zfe <| zbk 0 <| zsr <| zcm (x.e == 0) fun Be0 hBe0 => ?_
 refine zpn 1 <| zfe ?_
 cases Be0
 have ce0 : ¬ (x.e = 0) := zne hBe0
 refine zcF <| zsr <| zcm (x.e == 1) fun Be1 hBe1 => ?_
 refine zpn 1 <| zfe ?_
 cases Be1
 have ce1 : ¬ (x.e = 1) := zne hBe1
 refine zcF <| zsk <| zsr <| zpn 2 ?_
 have M10 : Mem noS w w8 [.blk b1 24 [nm, wk, pa, va, (.slice (some ad4) bs.length c)], .blk b5 36 [(.slice x.pA x.pn x.pc), (.slice x.iA x.ik x.ic), (.int .i64 x.e), (.int .i64 x.v), (.int .i64 x.a), (.int .i64 x.b)], .row 3 1 none 0 0 []] := M9.call (Mem.nilrow _ 3 1)
 refine zcl (vs := #[(.slice none 0 0), (.func (.func 129) #[] #[(pT b1 0)])]) (deletef_c [] none 0 b1 nm wk pa va _ c bs w8 (by simp) (M10.get 2 rfl) hm (M10.own_but 0 2 rfl rfl (by decide))) ?_
 rintro _ w13 ⟨A11, c12, rfl, M14x⟩
 have M14 := M10.md 2 rfl M14x
 refine zpn 1 <| zfe <| zre <| zo1 (.slice A11 (([].filter (fun x => !((fun x => !(inR bs.length x)) x))).length) c12) ?_
 exact row_ret (M14.pick [false, false, true] rfl) (by rw [tg_in (by omega) hx]; exact tgx_none ce0 ce1) rfl
 have ce1 : x.e = 1 := beq_iff_eq.1 hBe1.symm
 refine zcT <| zsr <| zpn 1 <| zld ⟨b5, 4, none⟩ (.int .i64 x.a) (blk_cell (M9.get 1 rfl) rfl) <| zpn 1 <| zld ⟨b5, 5, none⟩ (.int .i64 x.b) (blk_cell (M9.get 1 rfl) rfl) ?_
 intro aC fr
 refine zBs 34 37 2 #[(0, (.tmp 31)), (1, (.tmp 33))] 37 fr (e := 3) (size := 1) (zs := [(.int .i64 0)]) (vs := [(0, (.int .i64 x.a)), (1, (.int .i64 x.b))]) (cs := [(.int .i64 x.a), (.int .i64 x.b)]) M9 ?_
 intro b15 w16 hb15 _ M17 _ aC ea fr; clear ea
 replace M17 := M17.nf
 revert aC
 refine zpn 1 <| zfe <| zsr <| zpn 1 <| zld ⟨b5, 4, none⟩ (.int .i64 x.a) (blk_cell (M17.get 1 rfl) rfl) <| zpn 1 <| zld ⟨b5, 5, none⟩ (.int .i64 x.b) (blk_cell (M17.get 1 rfl) rfl) <| zkp [(2, (pT b1 0)), (6, (.slice (sM b15) 2 2)), (36, (.int .i64 x.a)), (38, (.int .i64 x.b))] <| zcm (x.a == x.b) fun Bab hBab => ?_
 refine zfe ?_
 cases Bab
 have cab : ¬ (x.a = x.b) := zne hBab
 refine zcF <| zsk <| zsr <| zpn 2 <| zcl (vs := #[(.slice (sM b15) 2 2), (.func (.func 129) #[] #[(pT b1 0)])]) (deletef_c [x.a, x.b] (sM b15) 2 b1 nm wk pa va _ c bs w16 (by simp) (M17.get 2 rfl) hm (M17.own_but 0 2 rfl rfl (by decide))) ?_
 rintro _ w24 ⟨A22, c23, rfl, M25x⟩
 have M25 := M17.md 2 rfl M25x
 refine zpn 1 <| zfe <| zre <| zo1 (.slice A22 (([x.a, x.b].filter (fun x => !((fun x => !(inR bs.length x)) x))).length) c23) ?_
 exact row_ret (M25.pick [false, false, true] rfl) (by rw [tg_in (by omega) hx]; exact tgx_two (by omega) (by omega)) rfl
 have cab : x.a = x.b := beq_iff_eq.1 hBab.symm
 refine zcT <| zrg <| zpn 1 ?_
 intro aC fr
 refine From_sliceHi (by kernel_rfl : coreAt _ 1 = some (some 41, (.slice 37 (.tmp 40) none (some (.const (.int .i64 1))) none), 37, none)) fr (by kernel_rfl) (by kernel_rfl) (k' := 2) rfl (A := (sM b15)) (n := 2) (cap := 2) (e := 3) (size := 1) (kd := .i64) (i := 1) 1 (by kernel_rfl) (by kernel_rfl) rfl (by kernel_rfl) (by kernel_rfl) (by decide) ?_
 intro aC ea fr; clear ea
 have M30 : Mem noS w w16 [.blk b1 24 [nm, wk, pa, va, (.slice (some ad4) bs.length c)], .blk b5 36 [(.slice x.pA x.pn x.pc), (.slice x.iA x.ik x.ic), (.int .i64 x.e), (.int .i64 x.v), (.int .i64 x.a), (.int .i64 x.b)], .row 3 1 (sM b15) 1 2 [.int .i64 x.a]] := M17.take_row 2 rfl 1 (by decide)
 revert aC
 refine zpn 1 <| zfe <| zsr <| zpn 2 <| zcl (vs := #[(.slice (sM b15) 1 2), (.func (.func 129) #[] #[(pT b1 0)])]) (deletef_c [x.a] (sM b15) 2 b1 nm wk pa va _ c bs w16 (by simp) (M30.get 2 rfl) hm (M30.own_but 0 2 rfl rfl (by decide))) ?_
 rintro _ w33 ⟨A31, c32, rfl, M34x⟩
 have M34 := M30.md 2 rfl M34x
 refine zpn 1 <| zfe <| zre <| zo1 (.slice A31 (([x.a].filter (fun x => !((fun x => !(inR bs.length x)) x))).length) c32) ?_
 exact row_ret (M34.pick [false, false, true] rfl) (by rw [tg_in (by omega) hx]; exact tgx_one (by omega)) rfl
 have ce0 : x.e = 0 := beq_iff_eq.1 hBe0.symm
 refine zcT <| zrg <| zpn 1 <| zld ⟨b5, 4, none⟩ (.int .i64 x.a) (blk_cell (M9.get 1 rfl) rfl) ?_
 intro aC fr
 refine zBs 27 37 1 #[(0, (.tmp 26))] 37 fr (e := 3) (size := 1) (zs := [(.int .i64 0)]) (vs := [(0, (.int .i64 x.a))]) (cs := [(.int .i64 x.a)]) M9 ?_
 intro b35 w36 hb35 _ M37 _ aC ea fr; clear ea
 replace M37 := M37.nf
 revert aC
 refine zpn 1 <| zfe <| zsr <| zpn 2 <| zcl (vs := #[(.slice (sM b35) 1 1), (.func (.func 129) #[] #[(pT b1 0)])]) (deletef_c [x.a] (sM b35) 1 b1 nm wk pa va _ c bs w36 (by simp) (M37.get 2 rfl) hm (M37.own_but 0 2 rfl rfl (by decide))) ?_
 rintro _ w44 ⟨A42, c43, rfl, M45x⟩
 have M45 := M37.md 2 rfl M45x
 refine zpn 1 <| zfe <| zre <| zo1 (.slice A42 (([x.a].filter (fun x => !((fun x => !(inR bs.length x)) x))).length) c43) ?_
 exact row_ret (M45.pick [false, false, true] rfl) (by rw [tg_in (by omega) hx]; exact tgx_one (by omega)) rfl
 have chi : b ≥ ((bs.length : Nat) : Int) := of_decide_eq_true hBhi.symm
 refine zcT <| zsp <| zre <| zo1 (.slice none 0 0) ?_
 exact nil_ret (M3.pick [false] rfl) (tg_out (by omega))
 have clo : b < 0 := of_decide_eq_true hBlo.symm
 refine zpn 6 <| zfe <| zcT <| zsp <| zre <| zo1 (.slice none 0 0) ?_
 exact nil_ret (M3.pick [false] rfl) (tg_out (by omega))
theorem rsources_c (nm wk pa va : Value) (A : Option Addr) (c : Nat) (bs : List SB) (b : Int) (w : World) (hm : bs.length ≤ 1000000) (hA : RO noS w (.blocks A bs)) :
    Calls Try.prog 42 #[(.agg #[nm, wk, pa, va, (.slice A bs.length c)]), (.int .i64 b)] w (Ret fun v w' => ∃ A' c', v = .slice A' (srcs bs b).length c' ∧ Mem noS w w' [.row 3 1 A' (srcs bs b).length c' (ints (srcs bs b))]) := by
 refine zen 24 [(.agg #[nm, wk, pa, va, (.slice A bs.length c)]), (.int .i64 b)] Try.func42 ?_
 have hM := Mem.init w
 refine zsr <| zbx hM 24 (.agg #[nm, wk, pa, va, (.slice A bs.length c)]) [nm, wk, pa, va, (.slice A bs.length c)] fun b1 w2 hb1 M3 => ?_
 replace M3 := M3.nf
 clear hM
 refine zpn 1 <| zfe <| zsp <| zsq <| zsp <| zbk 0 ?_
 intro aC fr
 refine zlp (fun n_ a_ w_ => ∃ (k : Nat) (A1 : Option Addr) (n1 : Nat) (c1 : Nat) (l1 : List Int), n_ = bs.length - k ∧ Fr a_ 24 [(1, (.int .i64 b)), (2, (pT b1 0)), (5, (.slice A1 n1 c1)), (6, (nV k))] ∧ Mem noS w w_ [.blk b1 24 [nm, wk, pa, va, (.slice A bs.length c)], .row 3 1 A1 n1 c1 (ints l1)] ∧ (k ≤ bs.length) ∧ (l1 = srcsTo bs b k) ∧ (n1 = l1.length)) (n := _) ⟨0, none, 0, 0, [], rfl, fr.kp [1, 2, 5, 6], M3.call (Mem.nilrow _ 3 1), by omega, rfl, rfl⟩ ?_
 clear fr aC M3; rintro n aC w6 ⟨k, A1, n1, c1, l1, rfl, fr, M7, hk, hl1, hn1⟩
 revert aC
 refine zsq <| zsr <| zpn 2 <| zld ⟨b1, 4, none⟩ (.slice A bs.length c) (blk_cell (M7.get 0 rfl) rfl) <| zpn 1 <| zcm (decide ((k : Int) < ((bs.length : Nat) : Int))) fun B10 hB10 => ?_
 refine zfe ?_
 cases B10
 have c10 : ¬ ((k : Int) < ((bs.length : Nat) : Int)) := of_decide_eq_false hB10.symm
 refine zcF <| zex 0 <| zbh <| zsp <| zre <| zo1 (.slice A1 n1 c1) ?_
 obtain rfl : k = bs.length := by omega
 exact row_ret (M7.pick [false, true] rfl) hl1 hn1
 have c10 : (k : Int) < ((bs.length : Nat) : Int) := of_decide_eq_true hB10.symm
 refine zcT <| zsk <| zsq <| zbk 1 <| zsr <| zls ⟨b1, 0, none⟩ [nm, wk, pa, va, (.slice A bs.length c)] (blk_cells (M7.get 0 rfl)) <| zpn 1 <| zcl (vs := #[(.agg #[nm, wk, pa, va, (.slice A bs.length c)]), (nV k)]) (rtargets_c _ _ _ _ A c bs (k : Int) w6 hm (hA.at_ M7)) ?_
 rintro _ w13 ⟨A11, c12, rfl, M14x⟩
 have M14 := M7.cl M14x
 refine zpn 1 <| zcl (vs := #[(.slice A11 ((tg bs (k : Int)).length) c12), (.int .i64 b)]) (has_c (tg bs (k : Int)) b A11 c12 w13 (Nat.le_trans (tg_len _ _) (by decide)) (RO.row_rd (M14.own_ro 2 rfl))) ?_
 rintro _ w15 ⟨rfl, M16x⟩
 have M16 := M14.cl M16x
 obtain ⟨Bhit, hBhit⟩ : ∃ B, B = (tg bs (k : Int)).contains b := ⟨_, rfl⟩
 refine zkp [(1, (.int .i64 b)), (2, (pT b1 0)), (5, (.slice A1 n1 c1)), (6, (nV k)), (16, (.slice A11 ((tg bs (k : Int)).length) c12)), (17, (.int .i64 b)), (18, (.bool ((tg bs (k : Int)).contains b)))] ?_
 rw [← hBhit]
 refine zfe ?_
 cases Bhit
 have chit : ((tg bs (k : Int)).contains b) = false := hBhit.symm
 refine zcF <| zsk <| zrg <| zpn 1 <| zar ((k : Int) + 1) <| zpn 1 <| zfe ?_
 intro aC fr
 exact ⟨bs.length - (k + 1), by omega, k + 1, A1, n1, c1, l1, rfl, fr.kp [1, 2, 5, 6], (M16.pick [true, true, false] rfl), by omega, by rw [srcsTo_succ, if_neg (by rw [chit]; simp), List.append_nil]; exact hl1, hn1⟩
 have chit : ((tg bs (k : Int)).contains b) = true := hBhit.symm
 refine zcT <| zrg <| zpn 2 ?_
 intro aC fr
 refine zBs 21 37 1 #[(0, (.tmp 20))] 37 fr (e := 3) (size := 1) (zs := [(.int .i64 0)]) (vs := [(0, (nV k))]) (cs := [(nV k)]) M16 ?_
 intro b19 w20 hb19 _ M21 _ aC ea fr; clear ea
 replace M21 := M21.nf
 refine zAp 22 (.tmp 19) (.tmp 21) 37 37 fr (e := 3) (size := 1) (bytes := 8) (z := (.int .i64 0)) (A := A1) (B := (sM b19)) (n := n1) (cap := c1) (m := 1) (cap' := 1) (xs := (ints l1)) (news := [(nV k)]) M21 1 rfl (row_rd (M21.get 3 rfl)) rfl (by simp [Value.oneCell']) (by have := srcsTo_len bs b k; rw [hl1] at hn1; omega) (by have := srcsTo_len bs b k; rw [hl1] at hn1; simp only [maxLen]; omega) ?_
 intro A26 c27 w28 M29 _ aC ea fr; clear ea
 replace M29 := M29.nf
 have M32 := M29.od [2, 2, 2] 3
 revert aC
 refine zpn 1 <| zfe <| zrg <| zpn 1 <| zar ((k : Int) + 1) <| zpn 1 <| zfe ?_
 intro aC fr
 exact ⟨bs.length - (k + 1), by omega, k + 1, A26, (n1 + 1), c27, l1 ++ [(k : Int)], rfl, fr.kp [1, 2, 5, 6], ((M32.pick [true, true, false] rfl).cast (by rw [ints_append]; rfl)), by omega, by rw [srcsTo_succ, if_pos chit, hl1], by rw [List.length_append, hn1]; rfl⟩
end Go.Proofs.Ytejbeeaomokjpaa
namespace Go.Proofs.Ytejbeeaomokjpaa
open Go.Mor
theorem newbits_c (n : Nat) (w : World) (hn : n ≤ 1000000) :
    Calls Try.prog 109 #[(nV n)] w (Ret fun v w' => ∃ g, v = .slice (sM g) ((n + 63) / 64) ((n + 63) / 64) ∧ Mem noS w w' [.row 160 1 (sM g) ((n + 63) / 64) ((n + 63) / 64) (u64s (List.replicate ((n + 63) / 64) 0))]) := by
 refine zen 8 [(nV n)] Try.func109 ?_
 have hM := Mem.init w
 refine zsp <| zsr <| zpn 1 <| zar ((n : Int) + 64) <| zar (((n : Int) + 64) - 1) ?_
 intro aC fr
 refine From_binI (by kernel_rfl : coreAt _ 3 = some (some 6, (.binOp .quo 3 (.tmp 5) (.const (.int .i64 64)) 3), 3, none)) fr (by kernel_rfl) (by kernel_rfl) (k' := 4) rfl (kd := .i64) (kd' := .i64) (i := (n : Int) + 64 - 1) (j := 64) (z := .int .i64 ((((n + 63) / 64) : Nat) : Int)) (by kernel_rfl) (by kernel_rfl) (fun w => by have h := bin_quoN (P := Try.prog) (t := 3) (i := n + 63) 64 (by omega) (by decide) w; rw [show ((n + 63 : Nat) : Int) = (n : Int) + 64 - 1 by omega] at h; exact h) ?_
 intro aC ea fr; clear ea
 refine zMk 7 132 (.tmp 6) (.tmp 6) 132 fr (e := 160) (bytes := 8) (z := (.int .u64 0)) (n := ((n + 63) / 64)) (i := ((((n + 63) / 64) : Nat) : Int)) (by omega) (by simp only [maxLen]; omega) hM ?_
 intro b5 w6 hb5 _ M7 _ aC ea fr; clear ea
 replace M7 := M7.nf
 clear hM
 revert aC
 refine zpn 1 <| zfe <| zre <| zo1 (.slice (sM b5) ((n + 63) / 64) ((n + 63) / 64)) ?_
 exact ⟨b5, rfl, M7.cast (by simp [u64s])⟩
theorem put_c (ws : List Nat) (n i : Nat) (A : Option Addr) (c : Nat) (w : World) (hfit : Fit ws) (hi0 : i ≤ 1000000) (hn : n = ws.length) (hi : i / 64 < ws.length) (hrow : (Res.row 160 1 A n c (u64s ws)).holds w) :
    Calls Try.prog 110 #[(.slice A n c), (nV i)] w (Ret fun v w' => v = .tuple #[] ∧ Mem (Res.row 160 1 A n c (u64s ws)).fp w w' [.row 160 1 A n c (u64s (putw ws i))]) := by
 subst hn
 refine zen 14 [(.slice A ws.length c), (nV i)] Try.func110 ?_
 have hM := Mem.initS hrow
 obtain ⟨g0, hg0⟩ := row_some (hM.get 0 rfl) (show 0 < ws.length by omega)
 subst hg0
 refine zkp [(0, (.slice (sM g0) ws.length c)), (1, (nV i))] ?_
 intro aC fr
 refine zdj (N := 14) (env0 := [(0, (.slice (sM g0) ws.length c)), (1, (nV i))]) (specAt [.det (.slice (sM g0) ws.length c), .det (nV i), .det (.int .i64 ((i / 64 : Nat) : Int)), .det (.pointer (some ((⟨g0, 0, none⟩ : Addr).add ((((i / 64 : Nat) : Int)).toNat * 1)))), .det (.int .u64 ((ws.getD (i / 64) 0 : Nat) : Int)), .det (nV i), .det (.int .i64 ((i % 64 : Nat) : Int)), .det (.int .u64 ((2 ^ (i % 64) : Nat) : Int)), .det (.int .u64 ((ws.getD (i / 64) 0 ||| 2 ^ (i % 64) : Nat) : Int)), .det (.pointer (some ((⟨g0, 0, none⟩ : Addr).add ((((i / 64 : Nat) : Int)).toNat * 1)))), .det undef]) (fun ls vs w_ => match ls 10 with | true => (Mem (Res.row 160 1 (sM g0) ws.length c (u64s ws)).fp w w_ [.row 160 1 (sM g0) ws.length c (u64s (putw ws i))]) | false => (Mem (Res.row 160 1 (sM g0) ws.length c (u64s ws)).fp w w_ [.row 160 1 (sM g0) ws.length c (u64s ws)])) fr (plain_ok (.det (.det (.det (.det (.det (.det (.det (.det (.det (.det (.det .nil)))))))))))) (hM.then_ (Mem.drew _)) (la (la (la (la (la (la (la (la (la (la (la lz (dPJ fun _ _ _ _ h => h)) (dPJ fun _ _ _ _ h => h)) ?_) (dIJ ⟨g0, 0, none⟩ ws.length 1 ((i / 64 : Nat) : Int) fun _ _ _ _ h => h)) (dLJ ((⟨g0, 0, none⟩ : Addr).add ((((i / 64 : Nat) : Int)).toNat * 1)) (.int .u64 ((ws.getD (i / 64) 0 : Nat) : Int)) (fun _ _ _ _ h => h) ?_)) (dPJ fun _ _ _ _ h => h)) ?_) ?_) ?_) (dIJ ⟨g0, 0, none⟩ ws.length 1 ((i / 64 : Nat) : Int) fun _ _ _ _ h => h)) ?_) ?_
 intro aa_ w_ ls vs rest_ hJ hi_ hc_ hp hF
 refine okG (g0 := none) ?_
 replace hF : Fr aa_ 14 [(5, (nV i))] := hF.kp [5]
 refine From_binI (by kernel_rfl : coreAt _ 0 = some (some 6, (.binOp .quo 3 (.tmp 5) (.const (.int .i64 64)) 3), 3, none)) hF (by kernel_rfl) (by kernel_rfl) (k' := 1) rfl (kd := .i64) (kd' := .i64) (i := (i : Int)) (j := 64) (z := .int .i64 ((i / 64 : Nat) : Int)) (by kernel_rfl) (by kernel_rfl) (fun w => bin_quoN 64 (by omega) (by decide) w) ?_
 intro a2 ea _
 refine From_end (by kernel_rfl) ?_; exact op_doneJ (d := some 6) (by kernel_rfl) ea rfl hJ
 intro w_ ls vs hJ hi_ hc_ hp
 have f10 : ls 10 = false := notyet hc_ hi_ (n := 11) (by kernel_rfl)
 have hM_ := hJ
 simp only [f10] at hM_
 exact (rd_get1 (row_rd (hM_.get 0 rfl)) rfl (u64s_get (by omega)))
 intro aa_ w_ ls vs rest_ hJ hi_ hc_ hp hF
 refine okG (g0 := none) ?_
 replace hF : Fr aa_ 14 [(9, (nV i))] := hF.kp [9]
 refine From_binI (by kernel_rfl : coreAt _ 0 = some (some 10, (.binOp .rem 3 (.tmp 9) (.const (.int .i64 64)) 3), 3, none)) hF (by kernel_rfl) (by kernel_rfl) (k' := 1) rfl (kd := .i64) (kd' := .i64) (i := (i : Int)) (j := 64) (z := .int .i64 ((i % 64 : Nat) : Int)) (by kernel_rfl) (by kernel_rfl) (fun w => bin_remN 64 (by decide) w) ?_
 intro a2 ea _
 refine From_end (by kernel_rfl) ?_; exact op_doneJ (d := some 10) (by kernel_rfl) ea rfl hJ
 intro aa_ w_ ls vs rest_ hJ hi_ hc_ hp hF
 refine okG (g0 := none) ?_
 replace hF : Fr aa_ 14 [(10, (.int .i64 ((i % 64 : Nat) : Int)))] := hF.kp [10]
 refine From_binI (by kernel_rfl : coreAt _ 0 = some (some 11, (.binOp .shl 160 (.const (.int .u64 1)) (.tmp 10) 3), 160, none)) hF (by kernel_rfl) (by kernel_rfl) (k' := 1) rfl (kd := .u64) (kd' := .i64) (i := 1) (j := ((i % 64 : Nat) : Int)) (z := .int .u64 ((2 ^ (i % 64) : Nat) : Int)) (by kernel_rfl) (by kernel_rfl) (fun w => bin_shl (Nat.mod_lt _ (by decide)) w) ?_
 intro a2 ea _
 refine From_end (by kernel_rfl) ?_; exact op_doneJ (d := some 11) (by kernel_rfl) ea rfl hJ
 intro aa_ w_ ls vs rest_ hJ hi_ hc_ hp hF
 refine okG (g0 := none) ?_
 replace hF : Fr aa_ 14 [(8, (.int .u64 ((ws.getD (i / 64) 0 : Nat) : Int))), (11, (.int .u64 ((2 ^ (i % 64) : Nat) : Int)))] := hF.kp [8, 11]
 refine From_binI (by kernel_rfl : coreAt _ 0 = some (some 12, (.binOp .or 160 (.tmp 8) (.tmp 11) 160), 160, none)) hF (by kernel_rfl) (by kernel_rfl) (k' := 1) rfl (kd := .u64) (kd' := .u64) (i := ((ws.getD (i / 64) 0 : Nat) : Int)) (j := ((2 ^ (i % 64) : Nat) : Int)) (z := .int .u64 ((ws.getD (i / 64) 0 ||| 2 ^ (i % 64) : Nat) : Int)) (by kernel_rfl) (by kernel_rfl) (fun w => bin_or (hfit.get _) (two_pow_le (Nat.mod_lt _ (by decide))) w) ?_
 intro a2 ea _
 refine From_end (by kernel_rfl) ?_; exact op_doneJ (d := some 12) (by kernel_rfl) ea rfl hJ
 intro aa_ w_ ls vs rest_ hJ hi_ hc_ hp hF
 refine okG (g0 := none) ?_
 replace hF : Fr aa_ 14 [(12, (.int .u64 ((ws.getD (i / 64) 0 ||| 2 ^ (i % 64) : Nat) : Int))), (13, (.pointer (some ((⟨g0, 0, none⟩ : Addr).add ((((i / 64 : Nat) : Int)).toNat * 1)))))] := hF.kp [12, 13]
 have f10 : ls 10 = false := hi_
 have hM_ := hJ
 simp only [f10] at hM_
 refine From_store_row (by kernel_rfl : coreAt _ 0 = some (none, (.store 160 (.tmp 13) (.tmp 12)), 0, none)) hF (by kernel_rfl) (by kernel_rfl) (k' := 1) rfl (ad := (⟨g0, 0, none⟩ : Addr)) (j := ((((i / 64 : Nat) : Int)).toNat * 1)) (e := 160) (size := 1) (n := ws.length) (cap := c) (v := (.int .u64 ((ws.getD (i / 64) 0 ||| 2 ^ (i % 64) : Nat) : Int))) (xs := (u64s ws)) (ad' := ((⟨g0, 0, none⟩ : Addr).add ((((i / 64 : Nat) : Int)).toNat * 1))) (by kernel_rfl) rfl (by kernel_rfl) (by kernel_rfl) rfl hM_ 0 rfl (by omega) ?_
 intro w2 hm2 _ a2 ea _
 refine From_end (by kernel_rfl) ?_; refine op_doneJ (d := none) (by kernel_rfl) ea rfl ?_
 show _
 exact hm2.cast (by show [Res.row _ _ _ _ _ _] = _; rw [putw, u64s_set, Int.toNat_natCast, Nat.mul_one])
 intro aC w5 ls vs hall M6 hv fr
 simp only [show ls 10 = true from hall 10 (by decide)] at M6
 revert aC; refine zkp [] ?_
 clear hall hv fr aC hM; clear vs ls
 refine zo0 ?_
 exact ⟨rfl, M6⟩
theorem hasb_c (ws : List Nat) (n i : Nat) (A : Option Addr) (c : Nat) (w : World) (hfit : Fit ws) (hi0 : i ≤ 1000000) (hn : n = ws.length) (hi : i / 64 < ws.length) (hA : RO noS w (.rd A (u64s ws))) :
    Calls Try.prog 111 #[(.slice A n c), (nV i)] w (Ret fun v w' => v = .bool (tb ws i) ∧ Mem noS w w' []) := by
 subst hn
 refine zen 15 [(.slice A ws.length c), (nV i)] Try.func111 ?_
 have hM := Mem.init w
 refine zsp <| zsr <| zpn 2 ?_
 intro aC fr
 refine From_binI (by kernel_rfl : coreAt _ 2 = some (some 7, (.binOp .quo 3 (.tmp 6) (.const (.int .i64 64)) 3), 3, none)) fr (by kernel_rfl) (by kernel_rfl) (k' := 3) rfl (kd := .i64) (kd' := .i64) (i := (i : Int)) (j := 64) (z := .int .i64 ((i / 64 : Nat) : Int)) (by kernel_rfl) (by kernel_rfl) (fun w => bin_quoN 64 (by omega) (by decide) w) ?_
 intro aC ea fr; clear ea
 obtain ⟨ad5, rfl⟩ := rd_some (hM.ro hA) (by rw [u64s_len]; omega)
 revert aC
 refine zix ad5 ws.length 1 ((i / 64 : Nat) : Int) <| zld ((ad5 : Addr).add ((((i / 64 : Nat) : Int)).toNat * 1)) (.int .u64 ((ws.getD (i / 64) 0 : Nat) : Int)) (rd_get1 (hM.ro hA) rfl (u64s_get (by omega))) <| zpn 1 ?_
 intro aC fr
 refine From_binI (by kernel_rfl : coreAt _ 6 = some (some 11, (.binOp .rem 3 (.tmp 10) (.const (.int .i64 64)) 3), 3, none)) fr (by kernel_rfl) (by kernel_rfl) (k' := 7) rfl (kd := .i64) (kd' := .i64) (i := (i : Int)) (j := 64) (z := .int .i64 ((i % 64 : Nat) : Int)) (by kernel_rfl) (by kernel_rfl) (fun w => bin_remN 64 (by decide) w) ?_
 intro aC ea fr; clear ea
 refine From_binI (by kernel_rfl : coreAt _ 7 = some (some 12, (.binOp .shr 160 (.tmp 9) (.tmp 11) 3), 160, none)) fr (by kernel_rfl) (by kernel_rfl) (k' := 8) rfl (kd := .u64) (kd' := .i64) (i := ((ws.getD (i / 64) 0 : Nat) : Int)) (j := ((i % 64 : Nat) : Int)) (z := .int .u64 ((ws.getD (i / 64) 0 / 2 ^ (i % 64) : Nat) : Int)) (by kernel_rfl) (by kernel_rfl) (fun w => bin_shr (Nat.mod_lt _ (by decide)) w) ?_
 intro aC ea fr; clear ea
 refine From_binI (by kernel_rfl : coreAt _ 8 = some (some 13, (.binOp .and 160 (.tmp 12) (.const (.int .u64 1)) 160), 160, none)) fr (by kernel_rfl) (by kernel_rfl) (k' := 9) rfl (kd := .u64) (kd' := .u64) (i := ((ws.getD (i / 64) 0 / 2 ^ (i % 64) : Nat) : Int)) (j := 1) (z := .int .u64 ((ws.getD (i / 64) 0 / 2 ^ (i % 64) &&& 1 : Nat) : Int)) (by kernel_rfl) (by kernel_rfl) (fun w => bin_and1 (Nat.lt_of_le_of_lt (Nat.div_le_self _ _) (hfit.get _)) w) ?_
 intro aC ea fr; clear ea
 revert aC
 refine zcm (((ws.getD (i / 64) 0 / 2 ^ (i % 64) &&& 1 : Nat) : Int) == 1) fun Bh hBh => ?_
 refine zpn 1 <| zfe <| zre <| zo1 (.bool Bh) ?_
 exact ⟨by rw [hBh, bit_of]; rfl, hM⟩
theorem reverse_c (l : List Int) (A : Option Addr) (c : Nat) (w : World) (hm : l.length ≤ 1000000) (hrow : (Res.row 3 1 A l.length c (ints l)).holds w) :
    Calls Try.prog 112 #[(.slice A l.length c)] w (Ret fun v w' => v = .tuple #[] ∧ Mem (Res.row 3 1 A l.length c (ints l)).fp w w' [.row 3 1 A l.length c (ints l.reverse)]) := by
 refine zen 28 [(.slice A l.length c)] Try.func112 ?_
 have hM := Mem.initS hrow
 refine zsr <| zpn 2 <| zar (((l.length : Nat) : Int) - 1) <| zpn 2 <| zfe <| zbk 0 ?_
 intro aC fr
 replace fr : Fr aC 28 [(0, .slice A l.length c), (2, .int .i64 ((0 : Nat) : Int)), (3, .int .i64 ((l.length : Int) - 1 - ((0 : Nat) : Int)))] := by rw [show ((l.length : Int) - 1 - ((0 : Nat) : Int)) = (l.length : Int) - 1 by omega]; exact fr.keep (keep := [0, 2, 3]) (by kernel_rfl)
 refine zlp (fun n_ a_ w_ => ∃ (k : Nat) (m : List Int), n_ = l.length - k ∧ Fr a_ 28 [(0, (.slice A l.length c)), (2, (nV k)), (3, (.int .i64 ((l.length : Int) - 1 - (k : Int))))] ∧ Mem (Res.row 3 1 A l.length c (ints l)).fp w w_ [.row 3 1 A l.length c (ints m)] ∧ (2 * k ≤ l.length) ∧ (Swapped l m k)) (n := _) ⟨0, l, rfl, fr.kp [0, 2, 3], hM, by omega, swapped_start l⟩ ?_
 clear fr aC hM; rintro n aC w3 ⟨k, m, rfl, fr, M4, hk, hs⟩
 revert aC
 refine zsq <| zsr <| zpn 2 <| zcm (decide ((k : Int) < ((l.length : Int) - 1 - (k : Int)))) fun Blt hBlt => ?_
 refine zfe ?_
 cases Blt
 have clt : ¬ ((k : Int) < ((l.length : Int) - 1 - (k : Int))) := of_decide_eq_false hBlt.symm
 refine zcF <| zex 0 <| zbh <| zo0 ?_
 exact ⟨rfl, M4.cast (by rw [swapped_end hs (by omega)])⟩
 have clt : (k : Int) < ((l.length : Int) - 1 - (k : Int)) := of_decide_eq_true hBlt.symm
 refine zcT <| zsk <| zsq <| zbk 1 ?_
 obtain ⟨q, hq⟩ : ∃ q : Nat, ((l.length : Int) - 1 - (k : Int)) = (q : Int) := ⟨l.length - 1 - k, by omega⟩
 refine zkp [(0, (.slice A l.length c)), (2, (nV k)), (3, (.int .i64 ((l.length : Int) - 1 - (k : Int)))), (9, (.bool true))] ?_
 intro aC fr
 rw [hq] at fr clt; have hml : m.length = l.length := hs.1
 obtain ⟨g0, hg0⟩ := row_some (M4.get 0 rfl) (show 0 < l.length by omega)
 subst hg0
 revert aC
 refine zkp [(0, (.slice (sM g0) l.length c)), (2, (nV k)), (3, (nV q)), (9, (.bool true))] ?_
 intro aC fr
 refine zdj (N := 28) (env0 := [(0, (.slice (sM g0) l.length c)), (2, (nV k)), (3, (nV q)), (9, (.bool true))]) (specAt [.det (.slice (sM g0) l.length c), .det (nV k), .det (.slice (sM g0) l.length c), .det (nV q), .det (.slice (sM g0) l.length c), .det (nV q), .det (.pointer (some ((⟨g0, 0, none⟩ : Addr).add (((q : Int)).toNat * 1)))), .det (.int .i64 (m.getD (q : Int).toNat 0)), .det (.slice (sM g0) l.length c), .det (nV k), .det (.pointer (some ((⟨g0, 0, none⟩ : Addr).add (((k : Int)).toNat * 1)))), .det (.int .i64 (m.getD (k : Int).toNat 0)), .det (.pointer (some ((⟨g0, 0, none⟩ : Addr).add (((k : Int)).toNat * 1)))), .det undef, .det (.pointer (some ((⟨g0, 0, none⟩ : Addr).add (((q : Int)).toNat * 1)))), .det undef]) (fun ls vs w_ => match ls 15 with | true => (Mem (Res.row 3 1 (sM g0) l.length c (ints l)).fp w w_ [.row 3 1 (sM g0) l.length c (((ints m).set (((k : Int)).toNat * 1) (.int .i64 (m.getD (q : Int).toNat 0))).set (((q : Int)).toNat * 1) (.int .i64 (m.getD (k : Int).toNat 0)))]) | false => (match ls 13 with | true => (Mem (Res.row 3 1 (sM g0) l.length c (ints l)).fp w w_ [.row 3 1 (sM g0) l.length c ((ints m).set (((k : Int)).toNat * 1) (.int .i64 (m.getD (q : Int).toNat 0)))]) | false => (Mem (Res.row 3 1 (sM g0) l.length c (ints l)).fp w w_ [.row 3 1 (sM g0) l.length c (ints m)]))) fr (plain_ok (.det (.det (.det (.det (.det (.det (.det (.det (.det (.det (.det (.det (.det (.det (.det (.det .nil))))))))))))))))) (M4.then_ (Mem.drew _)) (la (la (la (la (la (la (la (la (la (la (la (la (la (la (la (la lz (dPJ fun _ _ _ _ h => h)) (dPJ fun _ _ _ _ h => h)) (dPJ fun _ _ _ _ h => h)) (dPJ fun _ _ _ _ h => h)) (dPJ fun _ _ _ _ h => h)) (dPJ fun _ _ _ _ h => h)) (dIJ ⟨g0, 0, none⟩ l.length 1 (q : Int) fun _ _ _ _ h => h)) (dLJ ((⟨g0, 0, none⟩ : Addr).add (((q : Int)).toNat * 1)) (.int .i64 (m.getD (q : Int).toNat 0)) (fun _ _ _ _ h => h) ?_)) (dPJ fun _ _ _ _ h => h)) (dPJ fun _ _ _ _ h => h)) (dIJ ⟨g0, 0, none⟩ l.length 1 (k : Int) fun _ _ _ _ h => h)) (dLJ ((⟨g0, 0, none⟩ : Addr).add (((k : Int)).toNat * 1)) (.int .i64 (m.getD (k : Int).toNat 0)) (fun _ _ _ _ h => h) ?_)) (dIJ ⟨g0, 0, none⟩ l.length 1 (k : Int) fun _ _ _ _ h => h)) ?_) (dIJ ⟨g0, 0, none⟩ l.length 1 (q : Int) fun _ _ _ _ h => h)) ?_) ?_
 intro w_ ls vs hJ hi_ hc_ hp
 have f13 : ls 13 = false := notyet hc_ hi_ (n := 16) (by kernel_rfl)
 have f15 : ls 15 = false := notyet hc_ hi_ (n := 16) (by kernel_rfl)
 have hM_ := hJ
 simp only [f13, f15] at hM_
 exact (rd_int (row_rd (hM_.get 0 rfl)) rfl (by omega) (by omega))
 intro w_ ls vs hJ hi_ hc_ hp
 have f13 : ls 13 = false := notyet hc_ hi_ (n := 16) (by kernel_rfl)
 have f15 : ls 15 = false := notyet hc_ hi_ (n := 16) (by kernel_rfl)
 have hM_ := hJ
 simp only [f13, f15] at hM_
 exact (rd_int (row_rd (hM_.get 0 rfl)) rfl (by omega) (by omega))
 intro aa_ w_ ls vs rest_ hJ hi_ hc_ hp hF
 refine okG (g0 := none) ?_
 replace hF : Fr aa_ 28 [(21, (.int .i64 (m.getD (q : Int).toNat 0))), (26, (.pointer (some ((⟨g0, 0, none⟩ : Addr).add (((k : Int)).toNat * 1)))))] := hF.kp [21, 26]
 have f13 : ls 13 = false := hi_
 have f15 : ls 15 = false := notyet hc_ hi_ (n := 16) (by kernel_rfl)
 have hM_ := hJ
 simp only [f13, f15] at hM_
 refine From_store_row (by kernel_rfl : coreAt _ 0 = some (none, (.store 3 (.tmp 26) (.tmp 21)), 0, none)) hF (by kernel_rfl) (by kernel_rfl) (k' := 1) rfl (ad := (⟨g0, 0, none⟩ : Addr)) (j := (((k : Int)).toNat * 1)) (e := 3) (size := 1) (n := l.length) (cap := c) (v := (.int .i64 (m.getD (q : Int).toNat 0))) (xs := (ints m)) (ad' := ((⟨g0, 0, none⟩ : Addr).add (((k : Int)).toNat * 1))) (by kernel_rfl) rfl (by kernel_rfl) (by kernel_rfl) rfl hM_ 0 rfl (by omega) ?_
 intro w2 hm2 _ a2 ea _
 refine From_end (by kernel_rfl) ?_; refine op_doneJ (d := none) (by kernel_rfl) ea rfl ?_
 show match ls 15 with | true => _ | false => (_)
 rw [f15]
 exact hm2
 intro aa_ w_ ls vs rest_ hJ hi_ hc_ hp hF
 refine okG (g0 := none) ?_
 replace hF : Fr aa_ 28 [(25, (.int .i64 (m.getD (k : Int).toNat 0))), (27, (.pointer (some ((⟨g0, 0, none⟩ : Addr).add (((q : Int)).toNat * 1)))))] := hF.kp [25, 27]
 have f13 : ls 13 = true := donebefore hc_ (fun k hk => (hp k hk).1) (n := 16) (by kernel_rfl)
 have f15 : ls 15 = false := hi_
 have hM_ := hJ
 simp only [f13, f15] at hM_
 refine From_store_row (by kernel_rfl : coreAt _ 0 = some (none, (.store 3 (.tmp 27) (.tmp 25)), 0, none)) hF (by kernel_rfl) (by kernel_rfl) (k' := 1) rfl (ad := (⟨g0, 0, none⟩ : Addr)) (j := (((q : Int)).toNat * 1)) (e := 3) (size := 1) (n := l.length) (cap := c) (v := (.int .i64 (m.getD (k : Int).toNat 0))) (xs := ((ints m).set (((k : Int)).toNat * 1) (.int .i64 (m.getD (q : Int).toNat 0)))) (ad' := ((⟨g0, 0, none⟩ : Addr).add (((q : Int)).toNat * 1))) (by kernel_rfl) rfl (by kernel_rfl) (by kernel_rfl) rfl hM_ 0 rfl (by omega) ?_
 intro w2 hm2 _ a2 ea _
 refine From_end (by kernel_rfl) ?_; refine op_doneJ (d := none) (by kernel_rfl) ea rfl ?_
 show _
 exact hm2
 intro aC w13 ls vs hall M14 hv fr
 simp only [show ls 15 = true from hall 15 (by decide)] at M14
 revert aC; refine zkp [(0, (.slice (sM g0) l.length c)), (2, (nV k)), (3, (nV q))] ?_
 clear hall hv fr aC M4; clear vs ls
 refine zrg <| zpn 1 <| zar ((k : Int) + 1) <| zpn 1 <| zar ((q : Int) - 1) <| zpn 2 <| zfe ?_
 intro aC fr
 replace fr : Fr aC 28 [(0, .slice (sM g0) l.length c), (2, .int .i64 ((k + 1 : Nat) : Int)), (3, .int .i64 ((l.length : Int) - 1 - ((k + 1 : Nat) : Int)))] := by rw [show ((l.length : Int) - 1 - ((k + 1 : Nat) : Int)) = (q : Int) - 1 by omega]; exact fr.keep (keep := [0, 2, 3]) (by kernel_rfl)
 exact ⟨l.length - (k + 1), by omega, k + 1, (m.set k (m.getD q 0)).set q (m.getD k 0), rfl, fr.kp [0, 2, 3], (M14.cast (by rw [ints_set, ints_set]; simp only [Int.toNat_natCast, Nat.mul_one])), by omega, swapped_next hs (by omega)⟩
end Go.Proofs.Ytejbeeaomokjpaa
namespace Go.Proofs.Ytejbeeaomokjpaa
open Go.Mor
theorem order_c (nm wk pa va : Value) (A : Option Addr) (c : Nat) (bs : List SB) (w : World) (hm : bs.length ≤ 1000000) (hA : RO noS w (.blocks A bs)) :
    Calls Try.prog 80 #[(.agg #[nm, wk, pa, va, (.slice A bs.length c)])] w (Ret fun v w' => ∃ A' c', v = .slice A' (orderL bs).length c' ∧ Mem noS w w' [.row 3 1 A' (orderL bs).length c' (ints (orderL bs))]) := by
 refine zen 83 [(.agg #[nm, wk, pa, va, (.slice A bs.length c)])] Try.func80 ?_
 have hM := Mem.init w
 refine zsr <| zbx hM 24 (.agg #[nm, wk, pa, va, (.slice A bs.length c)]) [nm, wk, pa, va, (.slice A bs.length c)] fun b1 w2 hb1 M3 => ?_
 replace M3 := M3.nf
 clear hM
 refine zpn 1 <| zfe <| zsq <| zsr <| zpn 1 <| zld ⟨b1, 4, none⟩ (.slice A bs.length c) (blk_cell (M3.get 0 rfl) rfl) <| zpn 1 <| zcm (((bs.length : Nat) : Int) == 0) fun Bz hBz => ?_
 refine zfe ?_
 cases Bz
 have cz : ¬ (((bs.length : Nat) : Int) = 0) := zne hBz
 refine zcF <| zsk <| zsr <| zpn 1 <| zld ⟨b1, 4, none⟩ (.slice A bs.length c) (blk_cell (M3.get 0 rfl) rfl) <| zpn 1 <| zcl (newbits_c bs.length w2 (by omega)) ?_
 rintro _ w5 ⟨g4, rfl, M6x⟩
 have M6 := M3.cl M6x
 refine zpn 1 <| zfe <| zsr <| zpn 1 <| zcl (vs := #[(.slice (sM g4) ((bs.length + 63) / 64) ((bs.length + 63) / 64)), (.int .i64 0)]) (put_c (List.replicate ((bs.length + 63) / 64) 0) ((bs.length + 63) / 64) 0 (sM g4) ((bs.length + 63) / 64) w5 (Fit.zero _) (by omega) (by simp) (by simp; omega) (M6.get 1 rfl)) ?_
 rintro _ w7 ⟨rfl, M8x⟩
 have M8 := M6.md 1 rfl M8x
 refine zfe <| zsp <| zsr <| zpn 1 ?_
 intro aC fr
 refine zBs 20 137 1 #[(0, (.tmp 19))] 137 fr (e := 136) (size := 2) (zs := [(.int .i64 0), (.int .i64 0)]) (vs := [(0, (.agg #[(.int .i64 0), (.int .i64 0)]))]) (cs := [(.int .i64 0), (.int .i64 0)]) M8 ?_
 intro b9 w10 hb9 _ M11 _ aC ea fr; clear ea
 replace M11 := M11.nf
 revert aC
 refine zpn 1 <| zfe <| zsq <| zbk 0 ?_
 obtain ⟨s0, hk0, hl0⟩ := left_kids bs
 intro aC fr
 refine zlp (fun n_ a_ w_ => ∃ (ws : List Nat) (S : Int → Bool) (way : List (Int × Nat)) (A3 : Option Addr) (c3 : Nat) (A2 : Option Addr) (n2 : Nat) (c2 : Nat) (o : List Int), n_ = 4 * unmet bs.length S + wsum (tg bs) way ∧ Fr a_ 83 [(1, (pT b1 0)), (3, (.slice (sM g4) ((bs.length + 63) / 64) ((bs.length + 63) / 64))), (4, (.slice A2 n2 c2)), (5, (.slice A3 way.length c3))] ∧ Mem noS w w_ [.blk b1 24 [nm, wk, pa, va, (.slice A bs.length c)], .row 160 1 (sM g4) ((bs.length + 63) / 64) ((bs.length + 63) / 64) (u64s ws), .row 136 2 A3 way.length c3 (stkC way), .row 3 1 A2 n2 c2 (ints o)] ∧ (MetL bs.length ws S) ∧ (Fin_ (tg bs) way (S, o) (leftL bs)) ∧ (WayOk (tg bs) way) ∧ (o.length + way.length + unmet bs.length S ≤ bs.length) ∧ (n2 = o.length)) (n := _) ⟨putw (List.replicate ((bs.length + 63) / 64) 0) 0, addS (fun _ => false) 0, [(0, 0)], (sM b9), 1, none, 0, 0, [], rfl, fr.kp [1, 3, 4, 5], (M11.call (Mem.nilrow _ 3 1)), (MetL.start bs.length).put (by omega), ⟨s0, hk0, hl0⟩, way_one _ _, by have := unmet_add (n := bs.length) (S := fun _ => false) (t := 0) (by omega) (by omega) rfl; have := unmet_le bs.length (fun _ => false); simp only [List.length_cons, List.length_nil]; omega, rfl⟩ ?_
 clear fr aC M11; rintro n aC w18 ⟨ws, S, way, A3, c3, A2, n2, c2, o, rfl, fr, M19, hmet, hfin, hway, hcnt, hn2⟩
 revert aC
 refine zsq <| zsr <| zpn 2 <| zcm (decide (((way.length : Nat) : Int) > 0)) fun Bw hBw => ?_
 refine zfe ?_
 cases Bw
 have cw : ¬ (((way.length : Nat) : Int) > 0) := of_decide_eq_false hBw.symm
 refine zcF <| zex 0 <| zbh <| zsr ?_
 obtain rfl : way = [] := by cases way with | nil => rfl | cons p r => simp at cw
 have hol : o = leftL bs := hfin
 simp only [List.length_nil] at hcnt
 subst hn2
 refine zpn 1 <| zcl (reverse_c o A2 c2 w18 (by omega) (M19.get 3 rfl)) ?_
 rintro _ w22 ⟨rfl, M23x⟩
 have M23 := M19.md 3 rfl M23x
 refine zfe <| zsp <| zre <| zo1 (.slice A2 o.length c2) ?_
 exact row_ret (M23.pick [false, false, false, true] rfl) (by unfold orderL; rw [if_neg (by omega), hol]) (by simp)
 have cw : ((way.length : Nat) : Int) > 0 := of_decide_eq_true hBw.symm
 refine zcT <| zsk <| zbk 1 <| zsr ?_
 obtain ⟨b, k, rest, rfl⟩ : ∃ b k rest, way = (b, k) :: rest := by
   cases way with
   | nil => simp at cw
   | cons p rest => exact ⟨p.1, p.2, rest, rfl⟩
 have hkl := hway _ (List.mem_cons_self ..)
 simp only at hkl
 have hlw : ((b, k) :: rest).length = rest.length + 1 := rfl
 have hcnt2 := hcnt
 simp only [List.length_cons] at hcnt2
 have hsz := row_le (M19.get 2 rfl)
 obtain ⟨g3, rfl⟩ := row_some (M19.get 2 rfl) (Nat.succ_pos _)
 refine zpn 3 ?_
 intro aC fr
 refine From_arith (by kernel_rfl : coreAt _ 3 = some (some 27, (.binOp .sub 3 (.tmp 26) (.const (.int .i64 1)) 3), 3, none)) fr (by kernel_rfl) (by kernel_rfl) (k' := 4) rfl (i := ((((b, k) :: rest).length : Nat) : Int)) (j := 1) (z := ((rest.length : Nat) : Int)) (by kernel_rfl) (by kernel_rfl) (congrArg some (by rw [hlw]; omega)) (by omega) (by omega) ?_
 intro aC ea fr; clear ea
 revert aC
 refine zix ⟨g3, 0, none⟩ (((b, k) :: rest).length) 2 ((rest.length : Nat) : Int) <| zpn 1 <| zfe <| zsq <| zkp [(1, (pT b1 0)), (3, (.slice (sM g4) ((bs.length + 63) / 64) ((bs.length + 63) / 64))), (4, (.slice A2 n2 c2)), (5, (.slice (sM g3) (((b, k) :: rest).length) c3)), (6, (.pointer (some ((⟨g3, 0, none⟩ : Addr).add ((((rest.length : Nat) : Int)).toNat * 2)))))] ?_
 intro aC fr
 refine zdj (N := 83) (env0 := [(1, (pT b1 0)), (3, (.slice (sM g4) ((bs.length + 63) / 64) ((bs.length + 63) / 64))), (4, (.slice A2 n2 c2)), (5, (.slice (sM g3) (((b, k) :: rest).length) c3)), (6, (.pointer (some ((⟨g3, 0, none⟩ : Addr).add ((((rest.length : Nat) : Int)).toNat * 2)))))]) (specAt [.det (.agg #[nm, wk, pa, va, (.slice A bs.length c)]), .det (.pointer (some ((⟨g3, 0, none⟩ : Addr).add ((((rest.length : Nat) : Int)).toNat * 2)))), .det (.pointer (some ((⟨g3, 0, none⟩ : Addr).add ((((rest.length : Nat) : Int)).toNat * 2)))), .det (.pointer (some ((⟨g3, 0, none⟩ : Addr).add ((((rest.length : Nat) : Int)).toNat * 2)))), .det (.int .i64 b), Spec.free, Spec.free]) (fun ls vs w_ => match ls 6 with | true => (∃ (A28 : Option Addr) (c29 : Nat), vs 6 = (.slice A28 ((tg bs b).length) c29) ∧ Mem noS w w_ [.blk b1 24 [nm, wk, pa, va, (.slice A bs.length c)], .row 160 1 (sM g4) ((bs.length + 63) / 64) ((bs.length + 63) / 64) (u64s ws), .row 136 2 (sM g3) (((b, k) :: rest).length) c3 (stkC ((b, k) :: rest)), .row 3 1 A2 n2 c2 (ints o), .row 3 1 A28 ((tg bs b).length) c29 (ints (tg bs b))]) | false => (match ls 5 with | true => (∃ (A28 : Option Addr) (c29 : Nat), vs 5 = (.slice A28 ((tg bs b).length) c29) ∧ Mem noS w w_ [.blk b1 24 [nm, wk, pa, va, (.slice A bs.length c)], .row 160 1 (sM g4) ((bs.length + 63) / 64) ((bs.length + 63) / 64) (u64s ws), .row 136 2 (sM g3) (((b, k) :: rest).length) c3 (stkC ((b, k) :: rest)), .row 3 1 A2 n2 c2 (ints o), .row 3 1 A28 ((tg bs b).length) c29 (ints (tg bs b))]) | false => (Mem noS w w_ [.blk b1 24 [nm, wk, pa, va, (.slice A bs.length c)], .row 160 1 (sM g4) ((bs.length + 63) / 64) ((bs.length + 63) / 64) (u64s ws), .row 136 2 (sM g3) (((b, k) :: rest).length) c3 (stkC ((b, k) :: rest)), .row 3 1 A2 n2 c2 (ints o)]))) fr (plain_ok (.det (.det (.det (.det (.det (.free (.free .nil)))))))) (M19.then_ (Mem.drew _)) (la (la (la (la (la (la (la lz ?_) (dPJ fun _ _ _ _ h => h)) (dPJ fun _ _ _ _ h => h)) (dPJ fun _ _ _ _ h => h)) (dLJ ((⟨g3, 0, none⟩ : Addr).add ((((rest.length : Nat) : Int)).toNat * 2)) (.int .i64 b) (fun _ _ _ _ h => h) ?_)) ?_) ?_) ?_
 intro aa_ w_ ls vs rest_ hJ hi_ hc_ hp hF
 refine okG (g0 := none) ?_
 replace hF : Fr aa_ 83 [(1, (pT b1 0))] := hF.kp [1]
 have f5 : ls 5 = false := notyet hc_ hi_ (n := 7) (by kernel_rfl)
 have f6 : ls 6 = false := notyet hc_ hi_ (n := 7) (by kernel_rfl)
 have hM_ := hJ
 simp only [f5, f6] at hM_
 refine From_loadS (by kernel_rfl : coreAt _ 0 = some (some 29, (.load 24 (.tmp 1)), 24, none)) hF (by kernel_rfl) (by kernel_rfl) (k' := 1) rfl (ad := ⟨b1, 0, none⟩) (vs := [nm, wk, pa, va, (.slice A bs.length c)]) (by kernel_rfl) (by kernel_rfl) (blk_cells (hM_.get 0 rfl)) ?_
 intro a2 ea _
 refine From_end (by kernel_rfl) ?_; exact op_doneJ (d := some 29) (by kernel_rfl) ea rfl hJ
 intro w_ ls vs hJ hi_ hc_ hp
 have f5 : ls 5 = false := notyet hc_ hi_ (n := 7) (by kernel_rfl)
 have f6 : ls 6 = false := notyet hc_ hi_ (n := 7) (by kernel_rfl)
 have hM_ := hJ
 simp only [f5, f6] at hM_
 exact (by rw [Int.toNat_natCast]; exact rd_get (row_rd (hM_.get 2 rfl)) rfl stk_top.1)
 intro aa_ w_ ls vs rest_ hJ hi_ hc_ hp hF
 refine okG (g0 := none) ?_
 replace hF : Fr aa_ 83 [(29, (.agg #[nm, wk, pa, va, (.slice A bs.length c)])), (33, (.int .i64 b))] := hF.kp [29, 33]
 have f5 : ls 5 = false := hi_
 have f6 : ls 6 = false := notyet hc_ hi_ (n := 7) (by kernel_rfl)
 have hM_ := hJ
 simp only [f5, f6] at hM_
 refine From_call (by kernel_rfl : coreAt _ 0 = some (some 34, (.call { callee := (.value (.func 108)), args := #[(.tmp 29), (.tmp 33)], argTypes := #[24, 3] }), 37, none)) hF (by kernel_rfl) (by kernel_rfl) (k' := 1) rfl (f := 108) (vs := [(.agg #[nm, wk, pa, va, (.slice A bs.length c)]), (.int .i64 b)]) (cap := []) (by kernel_rfl) (by kernel_rfl) (by kernel_rfl) (targets_c _ _ _ _ A c bs b w_ hm (hA.at_ hM_)) ?_
 rintro _ w2 ⟨A28p, c29p, rfl, hm2⟩ a2 ea _
 have hm3 := hM_.call hm2
 refine From_end (by kernel_rfl) ?_; refine op_doneJ (d := some 34) (by kernel_rfl) ea trivial ?_
 show match ls 6 with | true => _ | false => (∃ (A28 : Option Addr) (c29 : Nat), _)
 rw [f6]
 exact ⟨A28p, c29p, rfl, hm3⟩
 intro aa_ w_ ls vs rest_ hJ hi_ hc_ hp hF
 refine okG (g0 := none) ?_
 replace hF : Fr aa_ 83 [(34, vs 5)] := hF.kp [34]
 have f5 : ls 5 = true := donebefore hc_ (fun k hk => (hp k hk).1) (n := 7) (by kernel_rfl)
 have f6 : ls 6 = false := hi_
 have hM_ := hJ
 simp only [f5, f6] at hM_
 obtain ⟨A28p, c29p, e_, hm2⟩ := hM_
 rw [e_] at hF
 refine From_pure1 (by kernel_rfl : coreAt _ 0 = some (some 7, (.assign (.tmp 34)), 37, none)) hF (by kernel_rfl) (by kernel_rfl) (k' := 1) rfl (v := (.slice A28p ((tg bs b).length) c29p)) (by kernel_rfl) ?_
 intro a2 ea _
 refine From_end (by kernel_rfl) ?_; refine op_doneJ (d := some 7) (by kernel_rfl) ea trivial ?_
 show ∃ (A28 : Option Addr) (c29 : Nat), _
 exact ⟨A28p, c29p, rfl, hm2⟩
 intro aC w34 ls vs hall M35 hv fr
 simp only [show ls 6 = true from hall 6 (by decide)] at M35
 revert aC; refine zkp [(1, (pT b1 0)), (3, (.slice (sM g4) ((bs.length + 63) / 64) ((bs.length + 63) / 64))), (4, (.slice A2 n2 c2)), (5, (.slice (sM g3) (((b, k) :: rest).length) c3)), (6, (.pointer (some ((⟨g3, 0, none⟩ : Addr).add ((((rest.length : Nat) : Int)).toNat * 2))))), (7, vs 6)] ?_
 obtain ⟨A28, c29, e_, M35⟩ := M35
 rw [e_]; clear e_
 clear hall hv fr aC M19; clear vs ls
 refine zsq <| zsr <| zpn 3 <| zld (((⟨g3, 0, none⟩ : Addr).add ((((rest.length : Nat) : Int)).toNat * 2)).add 1) (nV k) (by rw [Int.toNat_natCast, add_add]; exact rd_get (row_rd (M35.get 2 rfl)) rfl stk_top.2) <| zpn 2 <| zcm ((k : Int) == (((tg bs b).length : Nat) : Int)) fun Bl hBl => ?_
 refine zfe ?_
 cases Bl
 have cl : ¬ ((k : Int) = (((tg bs b).length : Nat) : Int)) := zne hBl
 refine zcF <| zsk <| zsr ?_
 obtain ⟨ti, hti, htn⟩ := tg_at (bs := bs) (b := b) (k := k) (by omega)
 refine zpn 4 <| zld (((⟨g3, 0, none⟩ : Addr).add ((((rest.length : Nat) : Int)).toNat * 2)).add 1) (nV k) (by rw [Int.toNat_natCast, add_add]; exact rd_get (row_rd (M35.get 2 rfl)) rfl stk_top.2) ?_
 obtain ⟨g37, rfl⟩ := row_some (M35.get 4 rfl) (by omega)
 refine zix (h1 := (by omega)) ⟨g37, 0, none⟩ ((tg bs b).length) 1 (k : Int) <| zld ((⟨g37, 0, none⟩ : Addr).add (((k : Int)).toNat * 1)) (nV ti) (rd_at (row_rd (M35.get 4 rfl)) rfl hti) <| zpn 1 <| zfe <| zsr <| zpn 3 <| zld (((⟨g3, 0, none⟩ : Addr).add ((((rest.length : Nat) : Int)).toNat * 2)).add 1) (nV k) (by rw [Int.toNat_natCast, add_add]; exact rd_get (row_rd (M35.get 2 rfl)) rfl stk_top.2) <| zar (h2 := (by have := tg_len bs b; omega)) ((k : Int) + 1) <| zpn 2 <| zsw M35 2 (((⟨g3, 0, none⟩ : Addr).add ((((rest.length : Nat) : Int)).toNat * 2)).add 1) (rest.length * 2 + 1) (.int .i64 ((k : Int) + 1)) rfl (by rw [Int.toNat_natCast, add_add]) (by rw [hlw]; omega) fun w38 M39 => ?_
 replace M39 := M39.nf
 refine zfe <| zsr ?_
 have M40 : Mem noS w w38 [.blk b1 24 [nm, wk, pa, va, (.slice A bs.length c)], .row 160 1 (sM g4) ((bs.length + 63) / 64) ((bs.length + 63) / 64) (u64s ws), .row 136 2 (sM g3) (((b, k + 1) :: rest).length) c3 (stkC ((b, k + 1) :: rest)), .row 3 1 A2 n2 c2 (ints o), .row 3 1 (sM g37) ((tg bs b).length) c29 (ints (tg bs b))] := M39.cast (by rw [stk_inc]; rfl)
 refine zpn 2 <| zcl (hasb_c ws ((bs.length + 63) / 64) ti (sM g4) ((bs.length + 63) / 64) w38 hmet.fit (by omega) hmet.len.symm (hmet.idx htn) (RO.row_rd (M40.own_ro 1 rfl))) ?_
 rintro _ w41 ⟨rfl, M42x⟩
 have M42 := M40.cl M42x
 obtain ⟨Bm, hBm⟩ : ∃ B, B = tb ws ti := ⟨_, rfl⟩
 refine zkp [(1, (pT b1 0)), (3, (.slice (sM g4) ((bs.length + 63) / 64) ((bs.length + 63) / 64))), (4, (.slice A2 n2 c2)), (5, (.slice (sM g3) (((b, k + 1) :: rest).length) c3)), (8, (nV ti)), (68, (.slice (sM g4) ((bs.length + 63) / 64) ((bs.length + 63) / 64))), (69, (nV ti)), (70, (.bool (tb ws ti)))] ?_
 rw [← hBm]
 refine zpn 1 <| zfe ?_
 cases Bm
 have cm : (tb ws ti) = false := hBm.symm
 have hSt : S (ti : Int) = false := by rw [← hmet.bits ti htn]; exact cm
 refine zcT <| zsr <| zpn 2 <| zcl (put_c ws ((bs.length + 63) / 64) ti (sM g4) ((bs.length + 63) / 64) w41 hmet.fit (by omega) hmet.len.symm (hmet.idx htn) (M42.get 1 rfl)) ?_
 rintro _ w43 ⟨rfl, M44x⟩
 have M44 := M42.md 1 rfl M44x
 refine zfe <| zrg <| zpn 3 ?_
 intro aC fr
 refine zBs 78 137 1 #[(0, (.tmp 77))] 137 fr (e := 136) (size := 2) (zs := [(.int .i64 0), (.int .i64 0)]) (vs := [(0, (.agg #[(nV ti), (.int .i64 0)]))]) (cs := [(nV ti), (.int .i64 0)]) M44 ?_
 intro b45 w46 hb45 _ M47 _ aC ea fr; clear ea
 replace M47 := M47.nf
 refine zAp 79 (.tmp 75) (.tmp 78) 137 137 fr (e := 136) (size := 2) (bytes := 16) (z := (.agg #[(.int .i64 0), (.int .i64 0)])) (A := (sM g3)) (B := (sM b45)) (n := (((b, k + 1) :: rest).length)) (cap := c3) (m := 1) (cap' := 1) (xs := (stkC ((b, k + 1) :: rest))) (news := [(nV ti), (.int .i64 0)]) M47 2 rfl (row_rd (M47.get 5 rfl)) rfl (by simp [Value.oneCell']) (by simp only [List.length_cons]; omega) (by simp only [maxLen, List.length_cons]; omega) ?_
 intro A52 c53 w54 M55 _ aC ea fr; clear ea
 replace M55 := M55.nf
 have M58 := M55.od [4, 4, 4, 4, 4] 5
 revert aC
 refine zpn 1 <| zfe ?_
 intro aC fr
 exact ⟨4 * unmet bs.length (addS S (ti : Int)) + wsum (tg bs) (((ti : Int), 0) :: (b, k + 1) :: rest), by have := tg_len bs (ti : Int); have := unmet_add (n := bs.length) (S := S) (t := (ti : Int)) (by omega) (by omega) hSt; simp only [wsum]; omega, putw ws ti, addS S (ti : Int), ((ti : Int), 0) :: (b, k + 1) :: rest, A52, c53, A2, n2, c2, o, rfl, fr.kp [1, 3, 4, 5], ((M58.pick [true, true, true, true, false] rfl).cast (by rw [stkC_cons ((ti : Int), 0)]; rfl)), hmet.put htn, fin_push hfin hti hSt, way_push hway (by omega), by have := unmet_add (n := bs.length) (S := S) (t := (ti : Int)) (by omega) (by omega) hSt; simp only [List.length_cons] at hcnt ⊢; omega, hn2⟩
 have cm : (tb ws ti) = true := hBm.symm
 have hSt : S (ti : Int) = true := by rw [← hmet.bits ti htn]; exact cm
 refine zcF <| zsk ?_
 intro aC fr
 exact ⟨4 * unmet bs.length S + wsum (tg bs) ((b, k + 1) :: rest), by simp only [wsum]; omega, ws, S, (b, k + 1) :: rest, (sM g3), c3, A2, n2, c2, o, rfl, fr.kp [1, 3, 4, 5], (M42.pick [true, true, true, true, false] rfl), hmet, fin_skip hfin hti hSt, way_inc hway (by omega), by simp only [List.length_cons] at hcnt ⊢; omega, hn2⟩
 have cl : (k : Int) = (((tg bs b).length : Nat) : Int) := beq_iff_eq.1 hBl.symm
 refine zcT <| zsr <| zpn 4 <| zld ((⟨g3, 0, none⟩ : Addr).add ((((rest.length : Nat) : Int)).toNat * 2)) (.int .i64 b) (by rw [Int.toNat_natCast]; exact rd_get (row_rd (M35.get 2 rfl)) rfl stk_top.1) ?_
 intro aC fr
 refine zBs 47 37 1 #[(0, (.tmp 46))] 37 fr (e := 3) (size := 1) (zs := [(.int .i64 0)]) (vs := [(0, (.int .i64 b))]) (cs := [(.int .i64 b)]) M35 ?_
 intro b63 w64 hb63 _ M65 _ aC ea fr; clear ea
 replace M65 := M65.nf
 refine zAp 48 (.tmp 42) (.tmp 47) 37 37 fr (e := 3) (size := 1) (bytes := 8) (z := (.int .i64 0)) (A := A2) (B := (sM b63)) (n := n2) (cap := c2) (m := 1) (cap' := 1) (xs := (ints o)) (news := [(.int .i64 b)]) M65 3 rfl (row_rd (M65.get 5 rfl)) rfl (by simp [Value.oneCell']) (by omega) (by simp only [maxLen]; omega) ?_
 intro A70 c71 w72 M73 _ aC ea fr; clear ea
 replace M73 := M73.nf
 have M76 := M73.od [4, 4, 4, 4, 4] 5
 revert aC
 refine zpn 1 <| zfe <| zsr <| zpn 3 ?_
 intro aC fr
 refine From_arith (by kernel_rfl : coreAt _ 3 = some (some 52, (.binOp .sub 3 (.tmp 51) (.const (.int .i64 1)) 3), 3, none)) fr (by kernel_rfl) (by kernel_rfl) (k' := 4) rfl (i := ((((b, k) :: rest).length : Nat) : Int)) (j := 1) (z := ((rest.length : Nat) : Int)) (by kernel_rfl) (by kernel_rfl) (congrArg some (by rw [hlw]; omega)) (by omega) (by omega) ?_
 intro aC ea fr; clear ea
 refine From_sliceHi (by kernel_rfl : coreAt _ 4 = some (some 53, (.slice 137 (.tmp 49) none (some (.tmp 52)) none), 137, none)) fr (by kernel_rfl) (by kernel_rfl) (k' := 5) rfl (A := (sM g3)) (n := ((b, k) :: rest).length) (cap := c3) (e := 136) (size := 2) (kd := .i64) (i := ((rest.length : Nat) : Int)) rest.length (by kernel_rfl) (by kernel_rfl) rfl (by kernel_rfl) (by kernel_rfl) (by omega) ?_
 intro aC ea fr; clear ea
 have M83 : Mem noS w w72 [.blk b1 24 [nm, wk, pa, va, (.slice A bs.length c)], .row 160 1 (sM g4) ((bs.length + 63) / 64) ((bs.length + 63) / 64) (u64s ws), .row 136 2 (sM g3) rest.length c3 (stkC rest), .row 3 1 A70 (n2 + 1) c71 ((ints o) ++ [(.int .i64 b)]), .row 3 1 A28 ((tg bs b).length) c29 (ints (tg bs b))] := (M76.take_row 2 rfl rest.length (by omega)).cast (by rw [stk_pop]; rfl)
 revert aC
 refine zpn 1 <| zfe <| zex 1 <| zbh ?_
 intro aC fr
 exact ⟨4 * unmet bs.length S + wsum (tg bs) rest, by simp only [wsum]; omega, ws, S, rest, (sM g3), c3, A70, (n2 + 1), c71, o ++ [b], rfl, fr.kp [1, 3, 4, 5], ((M83.pick [true, true, true, true, false] rfl).cast (by rw [ints_append]; rfl)), hmet, fin_pop hfin (by omega), fun p hp => hway p (List.mem_cons_of_mem _ hp), by simp only [List.length_append, List.length_cons, List.length_nil] at hcnt ⊢; omega, by simp only [List.length_append, List.length_cons, List.length_nil]; omega⟩
 have cz : ((bs.length : Nat) : Int) = 0 := beq_iff_eq.1 hBz.symm
 refine zcT <| zsp <| zre <| zo1 (.slice none 0 0) ?_
 exact nil_ret (M3.pick [false] rfl) (by unfold orderL; rw [if_pos (by omega)])
end Go.Proofs.Ytejbeeaomokjpaa
namespace Go.Proofs.Ytejbeeaomokjpaa
open Go.Mor
theorem walk_c (nm wk pa va : Value) (A : Option Addr) (c : Nat) (bs : List SB) (bar : Int) (w : World) (hm : bs.length ≤ 1000000) (hA : RO noS w (.blocks A bs)) :
    Calls Try.prog 41 #[(.agg #[nm, wk, pa, va, (.slice A bs.length c)]), (.int .i64 bar)] w (Ret fun v w' => ∃ A' c', v = .slice A' bs.length c' ∧ Mem noS w w' [.row 4 1 A' bs.length c' (bools (walkL bs bar))]) := by
 refine zen 74 [(.agg #[nm, wk, pa, va, (.slice A bs.length c)]), (.int .i64 bar)] Try.func41 ?_
 have hM := Mem.init w
 refine zsr <| zbx hM 24 (.agg #[nm, wk, pa, va, (.slice A bs.length c)]) [nm, wk, pa, va, (.slice A bs.length c)] fun b1 w2 hb1 M3 => ?_
 replace M3 := M3.nf
 clear hM
 refine zpn 1 <| zfe <| zsr <| zpn 1 <| zld ⟨b1, 4, none⟩ (.slice A bs.length c) (blk_cell (M3.get 0 rfl) rfl) <| zpn 1 ?_
 intro aC fr
 refine zMk 13 46 (.tmp 12) (.tmp 12) 46 fr (e := 4) (bytes := 1) (z := (.bool false)) (n := bs.length) (i := ((bs.length : Nat) : Int)) (by omega) (by simp only [maxLen]; omega) M3 ?_
 intro b4 w5 hb4 _ M6 _ aC ea fr; clear ea
 replace M6 := M6.nf
 revert aC
 refine zpn 1 <| zfe <| zsq <| zsr <| zpn 1 <| zld ⟨b1, 4, none⟩ (.slice A bs.length c) (blk_cell (M6.get 0 rfl) rfl) <| zpn 1 <| zcm (((bs.length : Nat) : Int) == 0) fun Bz hBz => ?_
 refine zpn 1 ?_
 cases Bz
 have cz : ¬ (((bs.length : Nat) : Int) = 0) := zne hBz
 refine zpn 1 <| zcm (bar == 0) fun Bb hBb => ?_
 refine zpn 1 <| zfe ?_
 cases Bb
 have cb : ¬ (bar = 0) := zne hBb
 refine zcF <| zsk <| zsr <| zpn 1 <| zix ⟨b4, 0, none⟩ bs.length 1 0 <| zsw M6 1 ((⟨b4, 0, none⟩ : Addr).add ((0 : Int).toNat * 1)) ((0 : Int).toNat * 1) (.bool true) rfl rfl (by omega) fun w11 M12 => ?_
 replace M12 := M12.nf
 refine zkp [(1, (.int .i64 bar)), (2, (pT b1 0)), (5, (.slice (sM b4) bs.length bs.length))] <| zfe <| zsr ?_
 intro aC fr
 refine zBs 25 37 1 #[(0, (.const (.int .i64 0)))] 37 fr (e := 3) (size := 1) (zs := [(.int .i64 0)]) (vs := [(0, (.int .i64 0))]) (cs := [(.int .i64 0)]) M12 ?_
 intro b13 w14 hb13 _ M15 _ aC ea fr; clear ea
 replace M15 := M15.nf
 revert aC
 refine zpn 1 <| zfe <| zsq <| zsp <| zbk 0 ?_
 intro aC fr
 refine zlp (fun n_ a_ w_ => ∃ (i : Nat) (S : Int → Bool) (inl : List Bool) (todo : List Int) (A2 : Option Addr) (n2 : Nat) (c2 : Nat), n_ = bs.length - i ∧ Fr a_ 74 [(1, (.int .i64 bar)), (2, (pT b1 0)), (5, (.slice (sM b4) bs.length bs.length)), (6, (.slice A2 n2 c2)), (7, (nV i))] ∧ Mem noS w w_ [.blk b1 24 [nm, wk, pa, va, (.slice A bs.length c)], .row 4 1 (sM b4) bs.length bs.length (bools inl), .row 3 1 A2 n2 c2 (ints todo)] ∧ (BoolsOf bs.length inl S) ∧ (BFS (tg bs) bar S todo i 0) ∧ (todo.length + unmet bs.length S ≤ bs.length) ∧ (n2 = todo.length) ∧ (i ≤ todo.length)) (n := _) ⟨0, addS (fun _ => false) 0, (List.replicate bs.length false).set 0 true, [0], (sM b13), 1, 1, rfl, fr.kp [1, 2, 5, 6, 7], (M15.cast (by simp [bools, ints, List.map_set])), (BoolsOf.start bs.length).put (by omega), BFS.start _ _, by have := unmet_add (n := bs.length) (S := fun _ => false) (t := 0) (by omega) (by omega) rfl; have := unmet_le bs.length (fun _ => false); simp only [List.length_cons, List.length_nil]; omega, rfl, by omega⟩ ?_
 clear fr aC M15; rintro n aC w22 ⟨i, S, inl, todo, A2, n2, c2, rfl, fr, M23, hin, hbf, hcnt, hn2, hi⟩
 revert aC
 refine zsq <| zsr <| zpn 3 <| zcm (decide ((i : Int) < ((n2 : Nat) : Int))) fun Bw hBw => ?_
 refine zfe ?_
 cases Bw
 have cw : ¬ ((i : Int) < ((n2 : Nat) : Int)) := of_decide_eq_false hBw.symm
 refine zcF <| zex 0 <| zbh <| zsp <| zre <| zo1 (.slice (sM b4) bs.length bs.length) ?_
 have M26 := M23.od [1] 1
 exact ⟨_, _, rfl, (M26).cast (by rw [walk_ret hin hbf (by omega) (by omega)])⟩
 have cw : (i : Int) < ((n2 : Nat) : Int) := of_decide_eq_true hBw.symm
 refine zcT <| zsk <| zsq <| zbk 1 <| zsq ?_
 obtain ⟨b, hb⟩ : ∃ b, todo[i]? = some b := ⟨_, List.getElem?_eq_getElem (by omega)⟩
 obtain ⟨g3, rfl⟩ := row_some (M23.get 2 rfl) (by omega)
 have htl := tg_len bs b
 refine zkp [(1, (.int .i64 bar)), (2, (pT b1 0)), (5, (.slice (sM b4) bs.length bs.length)), (6, (.slice (sM g3) n2 c2)), (7, (nV i)), (29, (.bool true))] ?_
 intro aC fr
 refine zdj (N := 74) (env0 := [(1, (.int .i64 bar)), (2, (pT b1 0)), (5, (.slice (sM b4) bs.length bs.length)), (6, (.slice (sM g3) n2 c2)), (7, (nV i)), (29, (.bool true))]) (specAt [.det (.agg #[nm, wk, pa, va, (.slice A bs.length c)]), .det (.slice (sM g3) n2 c2), .det (nV i), .det (.pointer (some ((⟨g3, 0, none⟩ : Addr).add (((i : Int)).toNat * 1)))), .det (.int .i64 b), Spec.free, Spec.free]) (fun ls vs w_ => match ls 6 with | true => (∃ (A27 : Option Addr) (c28 : Nat), vs 6 = (.slice A27 ((tg bs b).length) c28) ∧ Mem noS w w_ [.blk b1 24 [nm, wk, pa, va, (.slice A bs.length c)], .row 4 1 (sM b4) bs.length bs.length (bools inl), .row 3 1 (sM g3) n2 c2 (ints todo), .row 3 1 A27 ((tg bs b).length) c28 (ints (tg bs b))]) | false => (match ls 5 with | true => (∃ (A27 : Option Addr) (c28 : Nat), vs 5 = (.slice A27 ((tg bs b).length) c28) ∧ Mem noS w w_ [.blk b1 24 [nm, wk, pa, va, (.slice A bs.length c)], .row 4 1 (sM b4) bs.length bs.length (bools inl), .row 3 1 (sM g3) n2 c2 (ints todo), .row 3 1 A27 ((tg bs b).length) c28 (ints (tg bs b))]) | false => (Mem noS w w_ [.blk b1 24 [nm, wk, pa, va, (.slice A bs.length c)], .row 4 1 (sM b4) bs.length bs.length (bools inl), .row 3 1 (sM g3) n2 c2 (ints todo)]))) fr (plain_ok (.det (.det (.det (.det (.det (.free (.free .nil)))))))) (M23.then_ (Mem.drew _)) (la (la (la (la (la (la (la lz ?_) (dPJ fun _ _ _ _ h => h)) (dPJ fun _ _ _ _ h => h)) (dIJ ⟨g3, 0, none⟩ n2 1 (i : Int) fun _ _ _ _ h => h)) (dLJ ((⟨g3, 0, none⟩ : Addr).add (((i : Int)).toNat * 1)) (.int .i64 b) (fun _ _ _ _ h => h) ?_)) ?_) ?_) ?_
 intro aa_ w_ ls vs rest_ hJ hi_ hc_ hp hF
 refine okG (g0 := none) ?_
 replace hF : Fr aa_ 74 [(2, (pT b1 0))] := hF.kp [2]
 have f5 : ls 5 = false := notyet hc_ hi_ (n := 7) (by kernel_rfl)
 have f6 : ls 6 = false := notyet hc_ hi_ (n := 7) (by kernel_rfl)
 have hM_ := hJ
 simp only [f5, f6] at hM_
 refine From_loadS (by kernel_rfl : coreAt _ 0 = some (some 32, (.load 24 (.tmp 2)), 24, none)) hF (by kernel_rfl) (by kernel_rfl) (k' := 1) rfl (ad := ⟨b1, 0, none⟩) (vs := [nm, wk, pa, va, (.slice A bs.length c)]) (by kernel_rfl) (by kernel_rfl) (blk_cells (hM_.get 0 rfl)) ?_
 intro a2 ea _
 refine From_end (by kernel_rfl) ?_; exact op_doneJ (d := some 32) (by kernel_rfl) ea rfl hJ
 intro w_ ls vs hJ hi_ hc_ hp
 have f5 : ls 5 = false := notyet hc_ hi_ (n := 7) (by kernel_rfl)
 have f6 : ls 6 = false := notyet hc_ hi_ (n := 7) (by kernel_rfl)
 have hM_ := hJ
 simp only [f5, f6] at hM_
 exact (rd_at (row_rd (hM_.get 2 rfl)) rfl hb)
 intro aa_ w_ ls vs rest_ hJ hi_ hc_ hp hF
 refine okG (g0 := none) ?_
 replace hF : Fr aa_ 74 [(32, (.agg #[nm, wk, pa, va, (.slice A bs.length c)])), (36, (.int .i64 b))] := hF.kp [32, 36]
 have f5 : ls 5 = false := hi_
 have f6 : ls 6 = false := notyet hc_ hi_ (n := 7) (by kernel_rfl)
 have hM_ := hJ
 simp only [f5, f6] at hM_
 refine From_call (by kernel_rfl : coreAt _ 0 = some (some 37, (.call { callee := (.value (.func 74)), args := #[(.tmp 32), (.tmp 36)], argTypes := #[24, 3] }), 37, none)) hF (by kernel_rfl) (by kernel_rfl) (k' := 1) rfl (f := 74) (vs := [(.agg #[nm, wk, pa, va, (.slice A bs.length c)]), (.int .i64 b)]) (cap := []) (by kernel_rfl) (by kernel_rfl) (by kernel_rfl) (rtargets_c _ _ _ _ A c bs b w_ hm (hA.at_ hM_)) ?_
 rintro _ w2 ⟨A27p, c28p, rfl, hm2⟩ a2 ea _
 have hm3 := hM_.call hm2
 refine From_end (by kernel_rfl) ?_; refine op_doneJ (d := some 37) (by kernel_rfl) ea trivial ?_
 show match ls 6 with | true => _ | false => (∃ (A27 : Option Addr) (c28 : Nat), _)
 rw [f6]
 exact ⟨A27p, c28p, rfl, hm3⟩
 intro aa_ w_ ls vs rest_ hJ hi_ hc_ hp hF
 refine okG (g0 := none) ?_
 replace hF : Fr aa_ 74 [(37, vs 5)] := hF.kp [37]
 have f5 : ls 5 = true := donebefore hc_ (fun k hk => (hp k hk).1) (n := 7) (by kernel_rfl)
 have f6 : ls 6 = false := hi_
 have hM_ := hJ
 simp only [f5, f6] at hM_
 obtain ⟨A27p, c28p, e_, hm2⟩ := hM_
 rw [e_] at hF
 refine From_pure1 (by kernel_rfl : coreAt _ 0 = some (some 8, (.assign (.tmp 37)), 37, none)) hF (by kernel_rfl) (by kernel_rfl) (k' := 1) rfl (v := (.slice A27p ((tg bs b).length) c28p)) (by kernel_rfl) ?_
 intro a2 ea _
 refine From_end (by kernel_rfl) ?_; refine op_doneJ (d := some 8) (by kernel_rfl) ea trivial ?_
 show ∃ (A27 : Option Addr) (c28 : Nat), _
 exact ⟨A27p, c28p, rfl, hm2⟩
 intro aC w33 ls vs hall M34 hv fr
 simp only [show ls 6 = true from hall 6 (by decide)] at M34
 revert aC; refine zkp [(1, (.int .i64 bar)), (2, (pT b1 0)), (5, (.slice (sM b4) bs.length bs.length)), (6, (.slice (sM g3) n2 c2)), (7, (nV i)), (8, vs 6)] ?_
 obtain ⟨A27, c28, e_, M34⟩ := M34
 rw [e_]; clear e_
 clear hall hv fr aC M23; clear vs ls
 refine zsp <| zbk 2 ?_
 intro aC fr
 refine zlp (fun n_ a_ w_ => ∃ (k : Nat) (S2 : Int → Bool) (inl2 : List Bool) (todo2 : List Int) (A4 : Option Addr) (n4 : Nat) (c4 : Nat), n_ = (tg bs b).length - k ∧ Fr a_ 74 [(1, (.int .i64 bar)), (2, (pT b1 0)), (5, (.slice (sM b4) bs.length bs.length)), (6, (.slice A4 n4 c4)), (7, (nV i)), (8, (.slice A27 ((tg bs b).length) c28)), (9, (nV k))] ∧ Mem noS w w_ [.blk b1 24 [nm, wk, pa, va, (.slice A bs.length c)], .row 4 1 (sM b4) bs.length bs.length (bools inl2), .row 3 1 A4 n4 c4 (ints todo2), .row 3 1 A27 ((tg bs b).length) c28 (ints (tg bs b))] ∧ (k ≤ (tg bs b).length) ∧ (BoolsOf bs.length inl2 S2) ∧ (BFS (tg bs) bar S2 todo2 i k) ∧ (todo2[i]? = some b) ∧ (todo2.length + unmet bs.length S2 ≤ bs.length) ∧ (n4 = todo2.length)) (n := _) ⟨0, S, inl, todo, (sM g3), n2, c2, rfl, fr.kp [1, 2, 5, 6, 7, 8, 9], M34, by omega, hin, hbf, hb, hcnt, hn2⟩ ?_
 clear fr aC M34; rintro n aC w37 ⟨k, S2, inl2, todo2, A4, n4, c4, rfl, fr, M38, hk, hin2, hbf2, hb2, hcnt2, hn4⟩
 revert aC
 refine zsq <| zsr <| zpn 3 <| zcm (decide ((k : Int) < (((tg bs b).length : Nat) : Int))) fun Bk hBk => ?_
 refine zfe ?_
 cases Bk
 have ck : ¬ ((k : Int) < (((tg bs b).length : Nat) : Int)) := of_decide_eq_false hBk.symm
 refine zcF <| zex 2 <| zbh <| zrg <| zpn 1 <| zar ((i : Int) + 1) <| zpn 1 <| zfe ?_
 intro aC fr
 exact ⟨bs.length - (i + 1), by have := (List.getElem?_eq_some_iff.1 hb2).1; omega, i + 1, S2, inl2, todo2, A4, n4, c4, rfl, fr.kp [1, 2, 5, 6, 7], (M38.pick [true, true, true, false] rfl), hin2, hbf2.next hb2 (by omega), hcnt2, hn4, by have := (List.getElem?_eq_some_iff.1 hb2).1; omega⟩
 have ck : (k : Int) < (((tg bs b).length : Nat) : Int) := of_decide_eq_true hBk.symm
 refine zcT <| zsk <| zsq <| zbk 3 <| zsr ?_
 obtain ⟨ti, hti, htn⟩ := tg_at (bs := bs) (b := b) (k := k) (by omega)
 refine zpn 3 ?_
 obtain ⟨g44, rfl⟩ := row_some (M38.get 3 rfl) (by omega)
 refine zix ⟨g44, 0, none⟩ ((tg bs b).length) 1 (k : Int) <| zld ((⟨g44, 0, none⟩ : Addr).add (((k : Int)).toNat * 1)) (nV ti) (rd_at (row_rd (M38.get 3 rfl)) rfl hti) <| zix ⟨b4, 0, none⟩ bs.length 1 (ti : Int) <| zld ((⟨b4, 0, none⟩ : Addr).add (((ti : Int)).toNat * 1)) (.bool (inl2.getD ti false)) (rd_get1 (row_rd (M38.get 1 rfl)) rfl (bools_get (by rw [hin2.1]; exact htn))) ?_
 obtain ⟨Bin, hBin⟩ : ∃ B, B = inl2.getD ti false := ⟨_, rfl⟩
 refine zkp [(1, (.int .i64 bar)), (2, (pT b1 0)), (5, (.slice (sM b4) bs.length bs.length)), (6, (.slice A4 n4 c4)), (7, (nV i)), (8, (.slice (sM g44) ((tg bs b).length) c28)), (9, (nV k)), (50, (.bool (inl2.getD ti false)))] ?_
 rw [← hBin]
 refine zpn 2 ?_
 cases Bin
 have cin : (inl2.getD ti false) = false := hBin.symm
 have hSt : S2 (ti : Int) = false := by rw [← hin2.2 ti htn]; exact cin
 refine zpn 2 <| zix ⟨g44, 0, none⟩ ((tg bs b).length) 1 (k : Int) <| zld ((⟨g44, 0, none⟩ : Addr).add (((k : Int)).toNat * 1)) (nV ti) (rd_at (row_rd (M38.get 3 rfl)) rfl hti) <| zpn 1 <| zcm ((ti : Int) != bar) fun Bbar hBbar => ?_
 refine zpn 1 <| zfe ?_
 cases Bbar
 have cbar : ¬ ((ti : Int) ≠ bar) := znn hBbar
 refine zcF <| zsk <| zrg <| zpn 1 <| zar ((k : Int) + 1) <| zpn 1 <| zfe ?_
 intro aC fr
 exact ⟨(tg bs b).length - (k + 1), by omega, k + 1, S2, inl2, todo2, A4, n4, c4, rfl, fr.kp [1, 2, 5, 6, 7, 8, 9], M38, by omega, hin2, hbf2.skip hb2 hti (.inr (by omega)), hb2, hcnt2, hn4⟩
 have cbar : (ti : Int) ≠ bar := bne_iff_ne.1 hBbar.symm
 refine zcT <| zsr <| zpn 3 <| zix ⟨g44, 0, none⟩ ((tg bs b).length) 1 (k : Int) <| zld ((⟨g44, 0, none⟩ : Addr).add (((k : Int)).toNat * 1)) (nV ti) (rd_at (row_rd (M38.get 3 rfl)) rfl hti) <| zix ⟨b4, 0, none⟩ bs.length 1 (ti : Int) <| zsw M38 1 ((⟨b4, 0, none⟩ : Addr).add (((ti : Int)).toNat * 1)) (((ti : Int)).toNat * 1) (.bool true) rfl rfl (by omega) fun w47 M48 => ?_
 replace M48 := M48.nf
 refine zfe <| zrg ?_
 have M49 : Mem noS w w47 [.blk b1 24 [nm, wk, pa, va, (.slice A bs.length c)], .row 4 1 (sM b4) bs.length bs.length (bools (inl2.set ti true)), .row 3 1 A4 n4 c4 (ints todo2), .row 3 1 (sM g44) ((tg bs b).length) c28 (ints (tg bs b))] := M48.cast (by rw [bools_set]; simp only [Int.toNat_natCast, Nat.mul_one])
 refine zpn 3 <| zix ⟨g44, 0, none⟩ ((tg bs b).length) 1 (k : Int) <| zkp [(1, (.int .i64 bar)), (2, (pT b1 0)), (5, (.slice (sM b4) bs.length bs.length)), (7, (nV i)), (8, (.slice (sM g44) ((tg bs b).length) c28)), (9, (nV k)), (66, (.slice A4 n4 c4)), (69, (.pointer (some ((⟨g44, 0, none⟩ : Addr).add (((k : Int)).toNat * 1)))))] <| zld ((⟨g44, 0, none⟩ : Addr).add (((k : Int)).toNat * 1)) (nV ti) (rd_at (row_rd (M49.get 3 rfl)) rfl hti) ?_
 intro aC fr
 refine zBs 71 37 1 #[(0, (.tmp 70))] 37 fr (e := 3) (size := 1) (zs := [(.int .i64 0)]) (vs := [(0, (nV ti))]) (cs := [(nV ti)]) M49 ?_
 intro b50 w51 hb50 _ M52 _ aC ea fr; clear ea
 replace M52 := M52.nf
 refine zAp 72 (.tmp 66) (.tmp 71) 37 37 fr (e := 3) (size := 1) (bytes := 8) (z := (.int .i64 0)) (A := A4) (B := (sM b50)) (n := n4) (cap := c4) (m := 1) (cap' := 1) (xs := (ints todo2)) (news := [(nV ti)]) M52 2 rfl (row_rd (M52.get 4 rfl)) rfl (by simp [Value.oneCell']) (by omega) (by simp only [maxLen]; omega) ?_
 intro A57 c58 w59 M60 _ aC ea fr; clear ea
 replace M60 := M60.nf
 have M63 := M60.od [3, 3, 3, 3] 4
 revert aC
 refine zpn 1 <| zfe <| zrg <| zpn 1 <| zar ((k : Int) + 1) <| zpn 1 <| zfe ?_
 intro aC fr
 exact ⟨(tg bs b).length - (k + 1), by omega, k + 1, addS S2 (ti : Int), inl2.set ti true, todo2 ++ [(ti : Int)], A57, (n4 + 1), c58, rfl, fr.kp [1, 2, 5, 6, 7, 8, 9], (M63.cast (by rw [ints_append]; rfl)), by omega, hin2.put htn, hbf2.push hb2 hti (by omega), by rw [List.getElem?_append_left (List.getElem?_eq_some_iff.1 hb2).1]; exact hb2, by have := unmet_add (n := bs.length) (S := S2) (t := (ti : Int)) (by omega) (by omega) hSt; simp only [List.length_append, List.length_cons, List.length_nil]; omega, by simp [hn4]⟩
 have cin : (inl2.getD ti false) = true := hBin.symm
 have hSt : S2 (ti : Int) = true := by rw [← hin2.2 ti htn]; exact cin
 refine zpn 7 <| zfe <| zcF <| zsk <| zrg <| zpn 1 <| zar ((k : Int) + 1) <| zpn 1 <| zfe ?_
 intro aC fr
 exact ⟨(tg bs b).length - (k + 1), by omega, k + 1, S2, inl2, todo2, A4, n4, c4, rfl, fr.kp [1, 2, 5, 6, 7, 8, 9], M38, by omega, hin2, hbf2.skip hb2 hti (.inl hSt), hb2, hcnt2, hn4⟩
 have cb : bar = 0 := beq_iff_eq.1 hBb.symm
 refine zcT <| zsp <| zre <| zo1 (.slice (sM b4) bs.length bs.length) ?_
 have M68 := M6.od [1] 1
 exact ⟨_, _, rfl, (M68).cast (by rw [← walk_none (bar := bar) (by omega)]; simp [bools])⟩
 have cz : ((bs.length : Nat) : Int) = 0 := beq_iff_eq.1 hBz.symm
 refine zpn 3 <| zfe <| zcT <| zsp <| zre <| zo1 (.slice (sM b4) bs.length bs.length) ?_
 have M69 := M6.od [1] 1
 exact ⟨_, _, rfl, (M69).cast (by rw [← walk_none (bar := bar) (by omega)]; simp [bools])⟩
end Go.Proofs.Ytejbeeaomokjpaa
namespace Go.Proofs.Ytejbeeaomokjpaa
open Go.Mor
theorem over_c (nm wk pa va : Value) (A : Option Addr) (c : Nat) (bs : List SB) (w : World) (hm : bs.length ≤ 1000000) (hA : RO noS w (.blocks A bs)) :
    Calls Try.prog 43 #[(.agg #[nm, wk, pa, va, (.slice A bs.length c)])] w (Ret fun v w' => ∃ A' c' rows, v = .slice A' bs.length c' ∧ FamOf Value.bool rows (overL bs) ∧ Mem noS w w' [.fam 4 rows, .row 46 1 A' bs.length c' (slv rows)]) := by
 refine zen 54 [(.agg #[nm, wk, pa, va, (.slice A bs.length c)])] Try.func43 ?_
 have hM := Mem.init w
 refine zsr <| zbx hM 24 (.agg #[nm, wk, pa, va, (.slice A bs.length c)]) [nm, wk, pa, va, (.slice A bs.length c)] fun b1 w2 hb1 M3 => ?_
 replace M3 := M3.nf
 clear hM
 refine zpn 1 <| zfe <| zsr <| zls ⟨b1, 0, none⟩ [nm, wk, pa, va, (.slice A bs.length c)] (blk_cells (M3.get 0 rfl)) <| zcl (vs := #[(.agg #[nm, wk, pa, va, (.slice A bs.length c)]), (.int .i64 (-1))]) (walk_c _ _ _ _ A c bs (-1) w2 hm (hA.at_ M3)) ?_
 rintro _ w6 ⟨A4, c5, rfl, M7x⟩
 have M7 := M3.cl M7x
 refine zpn 1 <| zfe <| zsp <| zsq <| zsp <| zbk 0 ?_
 have hlo := overL_len bs
 intro aC fr
 refine zlp (fun n_ a_ w_ => ∃ (d : Nat) (rows : List RowV) (A2 : Option Addr) (c2 : Nat), n_ = bs.length - d ∧ Fr a_ 54 [(1, (pT b1 0)), (3, (.slice A4 bs.length c5)), (4, (.slice A2 d c2)), (5, (nV d))] ∧ Mem noS w w_ [.fam 4 rows, .blk b1 24 [nm, wk, pa, va, (.slice A bs.length c)], .row 4 1 A4 bs.length c5 (bools (walkL bs (-1))), .row 46 1 A2 d c2 (slv rows)] ∧ (d ≤ bs.length) ∧ (FamOf Value.bool rows ((overL bs).take d))) (n := _) ⟨0, [], none, 0, rfl, fr.kp [1, 3, 4, 5], (((((M7.pick [true, true] rfl).call (Mem.nilfam _ 4 0)).call (Mem.nilrow _ 46 1)).front 2 rfl).cast rfl), by omega, rfl⟩ ?_
 clear fr aC M7; rintro n aC w10 ⟨d, rows, A2, c2, rfl, fr, M11, hd, hf⟩
 revert aC
 refine zsq <| zsr <| zpn 2 <| zld ⟨b1, 4, none⟩ (.slice A bs.length c) (blk_cell (M11.get 1 rfl) rfl) <| zpn 1 <| zcm (decide ((d : Int) < ((bs.length : Nat) : Int))) fun Bd hBd => ?_
 refine zfe ?_
 cases Bd
 have cd : ¬ ((d : Int) < ((bs.length : Nat) : Int)) := of_decide_eq_false hBd.symm
 refine zcF <| zex 0 <| zbh <| zsp <| zre <| zo1 (.slice A2 d c2) ?_
 obtain rfl : d = bs.length := by omega
 have M14 := M11.od [3, 1] 2
 exact ⟨_, _, rows, rfl, hf.all (by omega), M14⟩
 have cd : (d : Int) < ((bs.length : Nat) : Int) := of_decide_eq_true hBd.symm
 refine zcT <| zsk <| zsq <| zbk 1 <| zsr ?_
 have hdn : d < bs.length := by omega
 refine zpn 1 <| zld ⟨b1, 4, none⟩ (.slice A bs.length c) (blk_cell (M11.get 1 rfl) rfl) <| zpn 1 ?_
 intro aC fr
 refine zMk 21 46 (.tmp 20) (.tmp 20) 46 fr (e := 4) (bytes := 1) (z := (.bool false)) (n := bs.length) (i := ((bs.length : Nat) : Int)) (by omega) (by simp only [maxLen]; omega) M11 ?_
 intro b15 w16 hb15 _ M17 _ aC ea fr; clear ea
 replace M17 := M17.nf
 revert aC
 refine zpn 1 <| zfe <| zsq <| zsr ?_
 have M22 : Mem noS w w16 [.fam 4 rows, .blk b1 24 [nm, wk, pa, va, (.slice A bs.length c)], .row 4 1 A4 bs.length c5 (bools (walkL bs (-1))), .row 46 1 A2 d c2 (slv rows), .row 4 1 (sM b15) bs.length bs.length (bools (List.replicate bs.length false))] := M17.cast (by simp [bools])
 refine zpn 2 ?_
 obtain ⟨g24, rfl⟩ := row_some (M22.get 2 rfl) (by omega)
 refine zix ⟨g24, 0, none⟩ bs.length 1 (d : Int) <| zld ((⟨g24, 0, none⟩ : Addr).add (((d : Int)).toNat * 1)) (.bool ((walkL bs (-1)).getD d false)) (rd_get1 (row_rd (M22.get 2 rfl)) rfl (bools_get (by rw [walkL_len]; omega))) ?_
 obtain ⟨Ball, hBall⟩ : ∃ B, B = (walkL bs (-1)).getD d false := ⟨_, rfl⟩
 refine zkp [(1, (pT b1 0)), (3, (.slice (sM g24) bs.length c5)), (4, (.slice A2 d c2)), (5, (nV d)), (6, (.slice (sM b15) bs.length bs.length)), (25, (.bool ((walkL bs (-1)).getD d false)))] ?_
 rw [← hBall]
 refine zfe ?_
 cases Ball
 have call : ((walkL bs (-1)).getD d false) = false := hBall.symm
 refine zcF <| zsk <| zrg <| zpn 2 ?_
 intro aC fr
 refine zBs 51 49 1 #[(0, (.tmp 50))] 49 fr (e := 46) (size := 1) (zs := [(.slice none 0 0)]) (vs := [(0, (.slice (sM b15) bs.length bs.length))]) (cs := [(.slice (sM b15) bs.length bs.length)]) M22 ?_
 intro b25 w26 hb25 _ M27 _ aC ea fr; clear ea
 replace M27 := M27.nf
 refine zAp 52 (.tmp 49) (.tmp 51) 49 49 fr (e := 46) (size := 1) (bytes := 24) (z := (.slice none 0 0)) (A := A2) (B := (sM b25)) (n := d) (cap := c2) (m := 1) (cap' := 1) (xs := (slv rows)) (news := [(.slice (sM b15) bs.length bs.length)]) M27 3 rfl (row_rd (M27.get 5 rfl)) rfl (by simp [Value.oneCell']) (by omega) (by simp only [maxLen]; omega) ?_
 intro A32 c33 w34 M35 _ aC ea fr; clear ea
 replace M35 := M35.nf
 have M38 := M35.od [4, 4, 4, 4, 4] 5
 revert aC
 refine zpn 1 <| zfe <| zrg <| zpn 1 <| zar ((d : Int) + 1) <| zpn 1 <| zfe ?_
 have M39 := M38.od [3, 3, 3, 4, 4] 5
 have M40 : Mem noS w w34 [.fam 4 (rows ++ [⟨(sM b15), bs.length, bs.length, bools (List.replicate bs.length false)⟩]), .blk b1 24 [nm, wk, pa, va, (.slice A bs.length c)], .row 4 1 (sM g24) bs.length c5 (bools (walkL bs (-1))), .row 46 1 A32 (d + 1) c33 ((slv rows) ++ [(.slice (sM b15) bs.length bs.length)])] := M39.push
 have M41 : Mem noS w w34 [.fam 4 (rows ++ [⟨(sM b15), bs.length, bs.length, bools (List.replicate bs.length false)⟩]), .blk b1 24 [nm, wk, pa, va, (.slice A bs.length c)], .row 4 1 (sM g24) bs.length c5 (bools (walkL bs (-1))), .row 46 1 A32 (d + 1) c33 (slv (rows ++ [⟨(sM b15), bs.length, bs.length, bools (List.replicate bs.length false)⟩]))] := M40.cast (by rw [slv_append])
 intro aC fr
 exact ⟨bs.length - (d + 1), by omega, d + 1, (rows ++ [⟨(sM b15), bs.length, bs.length, bools (List.replicate bs.length false)⟩]), A32, c33, rfl, fr.kp [1, 3, 4, 5], M41, by omega, hf.next (overL_row hdn (over_none (by rw [← walkL_get hdn]; exact call))) (by simp) rfl⟩
 have call : ((walkL bs (-1)).getD d false) = true := hBall.symm
 refine zcT <| zsr <| zls ⟨b1, 0, none⟩ [nm, wk, pa, va, (.slice A bs.length c)] (blk_cells (M22.get 1 rfl)) <| zpn 1 <| zcl (vs := #[(.agg #[nm, wk, pa, va, (.slice A bs.length c)]), (nV d)]) (walk_c _ _ _ _ A c bs (d : Int) w16 hm (hA.at_ M22)) ?_
 rintro _ w46 ⟨A44, c45, rfl, M47x⟩
 have M47 := M22.cl M47x
 refine zpn 1 <| zfe <| zsp <| zbk 2 ?_
 have hwd : walkB bs (-1) (d : Int) = true := by rw [← walkL_get hdn]; exact call
 intro aC fr
 refine zlp (fun n_ a_ w_ => ∃ (b : Nat) (m : List Bool), n_ = bs.length - b ∧ Fr a_ 54 [(1, (pT b1 0)), (3, (.slice (sM g24) bs.length c5)), (4, (.slice A2 d c2)), (5, (nV d)), (6, (.slice (sM b15) bs.length bs.length)), (7, (.slice A44 bs.length c45)), (8, (nV b))] ∧ Mem noS w w_ [.fam 4 rows, .blk b1 24 [nm, wk, pa, va, (.slice A bs.length c)], .row 4 1 (sM g24) bs.length c5 (bools (walkL bs (-1))), .row 46 1 A2 d c2 (slv rows), .row 4 1 (sM b15) bs.length bs.length (bools m), .row 4 1 A44 bs.length c45 (bools (walkL bs (d : Int)))] ∧ (b ≤ bs.length) ∧ (BoolsOf bs.length m (overTo bs (d : Int) b))) (n := _) ⟨0, List.replicate bs.length false, rfl, fr.kp [1, 3, 4, 5, 6, 7, 8], M47, by omega, over_start bs _⟩ ?_
 clear fr aC M47; rintro n aC w50 ⟨b, m, rfl, fr, M51, hb, hm2⟩
 revert aC
 refine zsq <| zsr <| zpn 3 <| zcm (decide ((b : Int) < ((bs.length : Nat) : Int))) fun Bb hBb => ?_
 refine zfe ?_
 cases Bb
 have cb : ¬ ((b : Int) < ((bs.length : Nat) : Int)) := of_decide_eq_false hBb.symm
 refine zcF <| zex 2 <| zbh <| zrg <| zpn 2 ?_
 intro aC fr
 refine zBs 51 49 1 #[(0, (.tmp 50))] 49 fr (e := 46) (size := 1) (zs := [(.slice none 0 0)]) (vs := [(0, (.slice (sM b15) bs.length bs.length))]) (cs := [(.slice (sM b15) bs.length bs.length)]) M51 ?_
 intro b54 w55 hb54 _ M56 _ aC ea fr; clear ea
 replace M56 := M56.nf
 refine zAp 52 (.tmp 49) (.tmp 51) 49 49 fr (e := 46) (size := 1) (bytes := 24) (z := (.slice none 0 0)) (A := A2) (B := (sM b54)) (n := d) (cap := c2) (m := 1) (cap' := 1) (xs := (slv rows)) (news := [(.slice (sM b15) bs.length bs.length)]) M56 3 rfl (row_rd (M56.get 6 rfl)) rfl (by simp [Value.oneCell']) (by omega) (by simp only [maxLen]; omega) ?_
 intro A61 c62 w63 M64 _ aC ea fr; clear ea
 replace M64 := M64.nf
 have M67 := M64.od [5, 5, 5, 5, 5, 5] 6
 revert aC
 refine zpn 1 <| zfe <| zrg <| zpn 1 <| zar ((d : Int) + 1) <| zpn 1 <| zfe ?_
 have M68 := M67.od [3, 3, 3, 4, 4] 5
 have M69 : Mem noS w w63 [.fam 4 (rows ++ [⟨(sM b15), bs.length, bs.length, bools m⟩]), .blk b1 24 [nm, wk, pa, va, (.slice A bs.length c)], .row 4 1 (sM g24) bs.length c5 (bools (walkL bs (-1))), .row 46 1 A61 (d + 1) c62 ((slv rows) ++ [(.slice (sM b15) bs.length bs.length)])] := M68.push
 have M70 : Mem noS w w63 [.fam 4 (rows ++ [⟨(sM b15), bs.length, bs.length, bools m⟩]), .blk b1 24 [nm, wk, pa, va, (.slice A bs.length c)], .row 4 1 (sM g24) bs.length c5 (bools (walkL bs (-1))), .row 46 1 A61 (d + 1) c62 (slv (rows ++ [⟨(sM b15), bs.length, bs.length, bools m⟩]))] := M69.cast (by rw [slv_append])
 intro aC fr
 exact ⟨bs.length - (d + 1), by omega, d + 1, (rows ++ [⟨(sM b15), bs.length, bs.length, bools m⟩]), A61, c62, rfl, fr.kp [1, 3, 4, 5], M70, by omega, hf.next (overL_row hdn (over_done hm2 (by omega))) (by simp [hm2.1]) rfl⟩
 have cb : (b : Int) < ((bs.length : Nat) : Int) := of_decide_eq_true hBb.symm
 refine zcT <| zsk <| zsq <| zbk 3 <| zrg ?_
 have hbn : b < bs.length := by omega
 refine zpn 4 <| zix ⟨g24, 0, none⟩ bs.length 1 (b : Int) <| zld ((⟨g24, 0, none⟩ : Addr).add (((b : Int)).toNat * 1)) (.bool ((walkL bs (-1)).getD b false)) (rd_get1 (row_rd (M51.get 2 rfl)) rfl (bools_get (by rw [walkL_len]; omega))) ?_
 obtain ⟨Bab, hBab⟩ : ∃ B, B = (walkL bs (-1)).getD b false := ⟨_, rfl⟩
 refine zkp [(1, (pT b1 0)), (3, (.slice (sM g24) bs.length c5)), (4, (.slice A2 d c2)), (5, (nV d)), (6, (.slice (sM b15) bs.length bs.length)), (7, (.slice A44 bs.length c45)), (8, (nV b)), (35, (.slice (sM b15) bs.length bs.length)), (36, (nV b)), (40, (.bool ((walkL bs (-1)).getD b false)))] ?_
 rw [← hBab]
 refine zpn 1 ?_
 cases Bab
 have cab : ((walkL bs (-1)).getD b false) = false := hBab.symm
 have hwb : walkB bs (-1) (b : Int) = false := by rw [← walkL_get hbn]; exact cab
 refine zpn 6 <| zix ⟨b15, 0, none⟩ bs.length 1 (b : Int) <| zsw M51 4 ((⟨b15, 0, none⟩ : Addr).add (((b : Int)).toNat * 1)) (((b : Int)).toNat * 1) (.bool false) rfl rfl (by omega) fun w73 M74 => ?_
 replace M74 := M74.nf
 refine zfe <| zrg <| zpn 1 <| zar ((b : Int) + 1) <| zpn 1 <| zfe ?_
 intro aC fr
 exact ⟨bs.length - (b + 1), by omega, b + 1, m.set b false, rfl, fr.kp [1, 3, 4, 5, 6, 7, 8], (M74.cast (by rw [bools_set]; simp only [Int.toNat_natCast, Nat.mul_one])), by omega, over_next hm2 hbn (over_off hwb)⟩
 have cab : ((walkL bs (-1)).getD b false) = true := hBab.symm
 have hwb : walkB bs (-1) (b : Int) = true := by rw [← walkL_get hbn]; exact cab
 refine zpn 2 ?_
 obtain ⟨g78, rfl⟩ := row_some (M51.get 5 rfl) (by omega)
 refine zix ⟨g78, 0, none⟩ bs.length 1 (b : Int) <| zld ((⟨g78, 0, none⟩ : Addr).add (((b : Int)).toNat * 1)) (.bool ((walkL bs (d : Int)).getD b false)) (rd_get1 (row_rd (M51.get 5 rfl)) rfl (bools_get (by rw [walkL_len]; omega))) <| zpn 2 <| zix ⟨b15, 0, none⟩ bs.length 1 (b : Int) <| zsw M51 4 ((⟨b15, 0, none⟩ : Addr).add (((b : Int)).toNat * 1)) (((b : Int)).toNat * 1) (.bool (!(walkL bs (d : Int)).getD b false)) rfl rfl (by omega) fun w79 M80 => ?_
 replace M80 := M80.nf
 refine zfe <| zrg <| zpn 1 <| zar ((b : Int) + 1) <| zpn 1 <| zfe ?_
 intro aC fr
 exact ⟨bs.length - (b + 1), by omega, b + 1, m.set b (!((walkL bs (d : Int)).getD b false)), rfl, fr.kp [1, 3, 4, 5, 6, 7, 8], (M80.cast (by rw [bools_set]; simp only [Int.toNat_natCast, Nat.mul_one])), by omega, over_next hm2 hbn ((congrArg _ (walkL_get hbn)).trans (over_val hwd hwb))⟩
end Go.Proofs.Ytejbeeaomokjpaa
namespace Go.Proofs.Ytejbeeaomokjpaa
open Go.Mor
theorem all_c (nm wk pa va : Value) (A : Option Addr) (c : Nat) (bs : List SB) (w : World) (hm : bs.length ≤ 1000000) (hA : RO noS w (.blocks A bs)) :
    Calls Try.prog 78 #[(.agg #[nm, wk, pa, va, (.slice A bs.length c)])] w (Ret fun v w' => ∃ A' c' rows, v = .slice A' bs.length c' ∧ FamOf (Value.int .i64) rows (allL bs) ∧ Mem noS w w' [.fam 3 rows, .row 37 1 A' bs.length c' (slv rows)]) := by
 refine zen 38 [(.agg #[nm, wk, pa, va, (.slice A bs.length c)])] Try.func78 ?_
 have hM := Mem.init w
 refine zsr <| zbx hM 24 (.agg #[nm, wk, pa, va, (.slice A bs.length c)]) [nm, wk, pa, va, (.slice A bs.length c)] fun b1 w2 hb1 M3 => ?_
 replace M3 := M3.nf
 clear hM
 refine zpn 1 <| zfe <| zsr <| zpn 1 <| zld ⟨b1, 4, none⟩ (.slice A bs.length c) (blk_cell (M3.get 0 rfl) rfl) <| zpn 1 ?_
 intro aC fr
 refine zMk 10 57 (.tmp 9) (.tmp 9) 57 fr (e := 37) (bytes := 24) (z := (.slice none 0 0)) (n := bs.length) (i := ((bs.length : Nat) : Int)) (by omega) (by simp only [maxLen]; omega) M3 ?_
 intro b4 w5 hb4 _ M6 _ aC ea fr; clear ea
 replace M6 := M6.nf
 revert aC
 refine zpn 1 <| zfe <| zsq <| zsr <| zpn 1 <| zld ⟨b1, 4, none⟩ (.slice A bs.length c) (blk_cell (M6.get 0 rfl) rfl) <| zpn 2 <| zfe <| zbk 0 ?_
 have M11 := M6.od [1, 1] 2
 have hal := allL_len bs
 intro aC fr
 refine zlp (fun n_ a_ w_ => ∃ (i : Nat) (rows : List RowV), n_ = bs.length - i ∧ Fr a_ 38 [(1, (pT b1 0)), (3, (.slice (sM b4) bs.length bs.length)), (13, (.int .i64 ((bs.length : Nat) : Int))), (14, (nV i))] ∧ Mem noS w w_ [.fam 3 rows, .blk b1 24 [nm, wk, pa, va, (.slice A bs.length c)], .row 37 1 (sM b4) bs.length bs.length (slv rows)] ∧ (i ≤ bs.length) ∧ (FamOf (Value.int .i64) rows (allTo bs i))) (n := _) ⟨0, List.replicate bs.length nilV, rfl, fr.kp [1, 3, 13, 14], (((M11.call (Mem.nilfam _ 3 bs.length)).front 2 rfl).cast (by simp [slv, nilV])), by omega, by rw [all_start]; exact FamOf.nils _⟩ ?_
 clear fr aC M11; rintro n aC w14 ⟨i, rows, rfl, fr, M15, hi, hf⟩
 revert aC
 refine zsr <| zcm (decide ((i : Int) < ((bs.length : Nat) : Int))) fun Bi hBi => ?_
 refine zfe <| zsq ?_
 cases Bi
 have ci : ¬ ((i : Int) < ((bs.length : Nat) : Int)) := of_decide_eq_false hBi.symm
 refine zcF <| zex 0 <| zbh <| zsp <| zre <| zo1 (.slice (sM b4) bs.length bs.length) ?_
 obtain rfl : i = bs.length := by omega
 rw [all_end] at hf
 have M18 := M15.od [2, 1] 2
 exact ⟨_, _, rows, rfl, hf, M18⟩
 have ci : (i : Int) < ((bs.length : Nat) : Int) := of_decide_eq_true hBi.symm
 refine zcT <| zsk <| zsq <| zbk 1 <| zsp <| zsr <| zls ⟨b1, 0, none⟩ [nm, wk, pa, va, (.slice A bs.length c)] (blk_cells (M15.get 1 rfl)) <| zpn 1 <| zcl (vs := #[(.agg #[nm, wk, pa, va, (.slice A bs.length c)]), (nV i)]) (targets_c _ _ _ _ A c bs (i : Int) w14 hm (hA.at_ M15)) ?_
 rintro _ w21 ⟨A19, c20, rfl, M22x⟩
 have M22 := M15.cl M22x
 refine zpn 2 <| zfe <| zbk 2 ?_
 have htl := tg_len bs (i : Int)
 intro aC fr
 refine zlp (fun n_ a_ w_ => ∃ (k : Nat) (rows3 : List RowV), n_ = (tg bs (i : Int)).length - k ∧ Fr a_ 38 [(1, (pT b1 0)), (3, (.slice (sM b4) bs.length bs.length)), (4, (nV i)), (13, (.int .i64 ((bs.length : Nat) : Int))), (14, (nV i)), (19, (.slice A19 ((tg bs (i : Int)).length) c20)), (20, (.int .i64 (((tg bs (i : Int)).length : Nat) : Int))), (21, (nV k))] ∧ Mem noS w w_ [.fam 3 rows3, .blk b1 24 [nm, wk, pa, va, (.slice A bs.length c)], .row 37 1 (sM b4) bs.length bs.length (slv rows3), .row 3 1 A19 ((tg bs (i : Int)).length) c20 (ints (tg bs (i : Int)))] ∧ (k ≤ (tg bs (i : Int)).length) ∧ (FamOf (Value.int .i64) rows3 (allMid bs i k))) (n := _) ⟨0, rows, rfl, fr.kp [1, 3, 4, 13, 14, 19, 20, 21], M22, by omega, by rw [all_mid]; exact hf⟩ ?_
 clear fr aC M22; rintro n aC w25 ⟨k, rows3, rfl, fr, M26, hk, hf3⟩
 revert aC
 refine zsr <| zcm (decide ((k : Int) < (((tg bs (i : Int)).length : Nat) : Int))) fun Bk hBk => ?_
 refine zfe <| zsq ?_
 cases Bk
 have ck : ¬ ((k : Int) < (((tg bs (i : Int)).length : Nat) : Int)) := of_decide_eq_false hBk.symm
 refine zcF <| zex 2 <| zbh <| zrg <| zar ((i : Int) + 1) <| zpn 1 <| zfe ?_
 intro aC fr
 exact ⟨bs.length - (i + 1), by omega, i + 1, rows3, rfl, fr.kp [1, 3, 13, 14], (M26.pick [true, true, true, false] rfl), by omega, by rw [← all_next (k := k) (by omega)]; exact hf3⟩
 have ck : (k : Int) < (((tg bs (i : Int)).length : Nat) : Int) := of_decide_eq_true hBk.symm
 refine zcT <| zsk <| zsq <| zbk 3 <| zsr ?_
 obtain ⟨ti, hti, htn⟩ := tg_at (bs := bs) (b := (i : Int)) (k := k) (by omega)
 obtain ⟨At, ct, hrt⟩ := hf3.get (mid_get hti htn)
 have hsl := srcsTo_len bs (ti : Int) i
 obtain ⟨g32, rfl⟩ := row_some (M26.get 3 rfl) (by omega)
 refine zix ⟨g32, 0, none⟩ ((tg bs (i : Int)).length) 1 (k : Int) <| zld ((⟨g32, 0, none⟩ : Addr).add (((k : Int)).toNat * 1)) (nV ti) (rd_at (row_rd (M26.get 3 rfl)) rfl hti) <| zpn 1 <| zfe <| zrg <| zpn 4 <| zix ⟨b4, 0, none⟩ bs.length 1 (ti : Int) <| zld ((⟨b4, 0, none⟩ : Addr).add (((ti : Int)).toNat * 1)) (.slice At ((srcsTo bs (ti : Int) i).length) ct) (rd_get1 (row_rd (M26.get 2 rfl)) rfl (slv_get hrt)) ?_
 have M33 : Mem noS w w25 [.fam 3 (rows3.set ti nilV), .row 3 1 At ((srcsTo bs (ti : Int) i).length) ct (ints (srcsTo bs (ti : Int) i)), .blk b1 24 [nm, wk, pa, va, (.slice A bs.length c)], .row 37 1 (sM b4) bs.length bs.length (slv rows3), .row 3 1 (sM g32) ((tg bs (i : Int)).length) c20 (ints (tg bs (i : Int)))] := M26.focus ti hrt
 refine zpn 1 ?_
 intro aC fr
 refine zBs 32 37 1 #[(0, (.tmp 31))] 37 fr (e := 3) (size := 1) (zs := [(.int .i64 0)]) (vs := [(0, (nV i))]) (cs := [(nV i)]) M33 ?_
 intro b34 w35 hb34 _ M36 _ aC ea fr; clear ea
 replace M36 := M36.nf
 refine zAp 33 (.tmp 30) (.tmp 32) 37 37 fr (e := 3) (size := 1) (bytes := 8) (z := (.int .i64 0)) (A := At) (B := (sM b34)) (n := ((srcsTo bs (ti : Int) i).length)) (cap := ct) (m := 1) (cap' := 1) (xs := (ints (srcsTo bs (ti : Int) i))) (news := [(nV i)]) M36 1 rfl (row_rd (M36.get 5 rfl)) rfl (by simp [Value.oneCell']) (by omega) (by simp only [maxLen]; omega) ?_
 intro A41 c42 w43 M44 _ aC ea fr; clear ea
 replace M44 := M44.nf
 have M47 := M44.od [4, 4, 4, 4, 4] 5
 revert aC
 refine zix ⟨b4, 0, none⟩ bs.length 1 (ti : Int) <| zsw M47 3 ((⟨b4, 0, none⟩ : Addr).add (((ti : Int)).toNat * 1)) (((ti : Int)).toNat * 1) (.slice A41 (((srcsTo bs (ti : Int) i).length) + 1) c42) rfl rfl (by omega) fun w48 M49 => ?_
 replace M49 := M49.nf
 refine zfe <| zrg ?_
 have M50 := M49.od [4, 4, 4, 4, 4] 5
 have hrl : ti < rows3.length := (List.getElem?_eq_some_iff.1 hrt).1
 have M51 : Mem noS w w48 [.fam 3 ((rows3.set ti nilV).set ti ⟨A41, ((srcsTo bs (ti : Int) i).length) + 1, c42, (ints (srcsTo bs (ti : Int) i)) ++ [(nV i)]⟩), .blk b1 24 [nm, wk, pa, va, (.slice A bs.length c)], .row 37 1 (sM b4) bs.length bs.length ((slv rows3).set (((ti : Int)).toNat * 1) (.slice A41 (((srcsTo bs (ti : Int) i).length) + 1) c42)), .row 3 1 (sM g32) ((tg bs (i : Int)).length) c20 (ints (tg bs (i : Int)))] := M50.unfocus ti (List.getElem?_set_self hrl)
 have M52 : Mem noS w w48 [.fam 3 (rows3.set ti ⟨A41, ((srcsTo bs (ti : Int) i).length) + 1, c42, (ints (srcsTo bs (ti : Int) i)) ++ [(nV i)]⟩), .blk b1 24 [nm, wk, pa, va, (.slice A bs.length c)], .row 37 1 (sM b4) bs.length bs.length (slv (rows3.set ti ⟨A41, ((srcsTo bs (ti : Int) i).length) + 1, c42, (ints (srcsTo bs (ti : Int) i)) ++ [(nV i)]⟩)), .row 3 1 (sM g32) ((tg bs (i : Int)).length) c20 (ints (tg bs (i : Int)))] := M51.cast (by rw [set_twice, slv_set]; simp only [Int.toNat_natCast, Nat.mul_one])
 refine zar ((k : Int) + 1) <| zpn 1 <| zfe ?_
 intro aC fr
 exact ⟨(tg bs (i : Int)).length - (k + 1), by omega, k + 1, (rows3.set ti ⟨A41, ((srcsTo bs (ti : Int) i).length) + 1, c42, (ints (srcsTo bs (ti : Int) i)) ++ [(nV i)]⟩), rfl, fr.kp [1, 3, 4, 13, 14, 19, 20, 21], M52, by omega, by rw [← mid_set hti htn]; exact hf3.set (by simp) (by rw [List.map_append]; rfl)⟩
end Go.Proofs.Ytejbeeaomokjpaa
namespace Go.Proofs.Ytejbeeaomokjpaa
open Go.Mor
theorem meet_c (g5 g6 : Nat) (ada adb : Addr) (n ca cb : Nat) (atl ab : List Int) (T : Int → List Int) (pl up : Int → Int) (xa xb : Int) (w : World) (_hm : n ≤ 1000000) (h5 : RO noS w (.blk g5 37 [.slice (some ada) n ca])) (h6 : RO noS w (.blk g6 37 [.slice (some adb) n cb])) (hA : RO noS w (.rd (some ada) (ints atl))) (hB : RO noS w (.rd (some adb) (ints ab))) (hmk : Mok T pl up n atl ab) (hxa : Prc pl up xa) (hxb : Prc pl up xb) :
    Calls Try.prog 131 #[(.int .i64 xa), (.int .i64 xb), (pT g5 0), (pT g6 0)] w (Ret fun v w' => ∃ c : Int, v = .int .i64 c ∧ Climb pl up xa xb c ∧ Mem noS w w' []) := by
 refine zen 37 [(.int .i64 xa), (.int .i64 xb), (pT g5 0), (pT g6 0)] Try.func131 ?_
 have hM := Mem.init w
 refine zsp <| zsq <| zbk 0 ?_
 intro aC fr
 refine zlp (fun n_ a_ w_ => ∃ (a1 : Int) (b1 : Int), n_ = (pl a1 + pl b1).toNat ∧ Fr a_ 37 [(0, (.int .i64 a1)), (1, (.int .i64 b1)), (2, (pT g5 0)), (3, (pT g6 0))] ∧ Mem noS w w_ [] ∧ (Prc pl up a1) ∧ (Prc pl up b1) ∧ (∀ c, Climb pl up a1 b1 c → Climb pl up xa xb c)) (n := _) ⟨xa, xb, rfl, fr.kp [0, 1, 2, 3], hM, hxa, hxb, fun _ h => h⟩ ?_
 clear fr aC hM; rintro n aC w3 ⟨a1, b1, rfl, fr, M4, ha1, hb1, hc1⟩
 revert aC
 refine zsq <| zsr <| zpn 2 <| zcm (a1 != b1) fun Bne hBne => ?_
 refine zfe ?_
 cases Bne
 have cne : ¬ (a1 ≠ b1) := znn hBne
 refine zcF <| zex 0 <| zbh <| zsp <| zre <| zo1 (.int .i64 a1) ?_
 obtain rfl : a1 = b1 := by omega
 exact ⟨_, rfl, hc1 _ (.done _), M4⟩
 have cne : a1 ≠ b1 := bne_iff_ne.1 hBne.symm
 refine zcT <| zsk <| zbk 1 <| zsq <| zbk 2 ?_
 intro aC fr
 refine zlp (fun n_ a_ w_ => ∃ (a2 : Int), n_ = (pl a2).toNat ∧ Fr a_ 37 [(0, (.int .i64 a2)), (1, (.int .i64 b1)), (2, (pT g5 0)), (3, (pT g6 0))] ∧ Mem noS w w_ [] ∧ (Prc pl up a2) ∧ (∀ c, Climb pl up a2 b1 c → Climb pl up a1 b1 c) ∧ (a2 = a1 ∨ pl a2 < pl a1)) (n := _) ⟨a1, rfl, fr.kp [0, 1, 2, 3], M4, ha1, fun _ h => h, .inl rfl⟩ ?_
 clear fr aC M4; rintro n aC w9 ⟨a2, rfl, fr, M10, ha2, hc2, hd2⟩
 revert aC
 refine zsq <| zsq ?_
 obtain ⟨Bgt, hBgt⟩ : ∃ B : Bool, B = decide ((pl a2) > (pl b1)) := ⟨_, rfl⟩
 refine zkp [(0, (.int .i64 a2)), (1, (.int .i64 b1)), (2, (pT g5 0)), (3, (pT g6 0))] ?_
 intro aC fr
 refine zdr (N := 37) (env0 := [(0, (.int .i64 a2)), (1, (.int .i64 b1)), (2, (pT g5 0)), (3, (pT g6 0))]) (specAt [.det (.slice (some ada) n ca), .det (.int .i64 a2), .det (.pointer (some ((ada : Addr).add ((a2).toNat * 1)))), .det (.int .i64 (pl a2)), .det (.slice (some ada) n ca), .det (.int .i64 b1), .det (.pointer (some ((ada : Addr).add ((b1).toNat * 1)))), .det (.int .i64 (pl b1)), .det (.bool Bgt)]) fr (la (la (la (la (la (la (la (la (la lz (dL ⟨g5, 0, none⟩ (.slice (some ada) n ca) fun w_ hK => (blk_cell ((M10.then_ hK).ro h5) rfl))) dP) (dI (h0 := (hmk.rng a2 ha2.1).1) (h1 := (hmk.rng a2 ha2.1).2) ada n 1 a2)) (dL ((ada : Addr).add ((a2).toNat * 1)) (.int .i64 (pl a2)) fun w_ hK => (rd_get1 ((M10.then_ hK).ro hA) rfl (hmk.at0 ha2)))) (dL ⟨g5, 0, none⟩ (.slice (some ada) n ca) fun w_ hK => (blk_cell ((M10.then_ hK).ro h5) rfl))) dP) (dI (h0 := (hmk.rng b1 hb1.1).1) (h1 := (hmk.rng b1 hb1.1).2) ada n 1 b1)) (dL ((ada : Addr).add ((b1).toNat * 1)) (.int .i64 (pl b1)) fun w_ hK => (rd_get1 ((M10.then_ hK).ro hA) rfl (hmk.at0 hb1)))) (dC (decide ((pl a2) > (pl b1))) hBgt)) ?_
 intro aC w17 vs hK hv fr
 revert aC; refine zkp [(0, (.int .i64 a2)), (1, (.int .i64 b1)), (2, (pT g5 0)), (3, (pT g6 0)), (18, (.bool Bgt))] ?_
 have M18 := M10.then_ hK
 clear hK hv fr aC M10; clear vs
 cases Bgt
 have cgt : ¬ ((pl a2) > (pl b1)) := of_decide_eq_false hBgt.symm
 refine zcF <| zex 2 <| zbh <| zbk 4 ?_
 intro aC fr
 refine zlp (fun n_ a_ w_ => ∃ (b2 : Int), n_ = (pl b2).toNat ∧ Fr a_ 37 [(0, (.int .i64 a2)), (1, (.int .i64 b2)), (2, (pT g5 0)), (3, (pT g6 0))] ∧ Mem noS w w_ [] ∧ (Prc pl up b2) ∧ (∀ c, Climb pl up a2 b2 c → Climb pl up a2 b1 c) ∧ (b2 = b1 ∨ pl b2 < pl b1)) (n := _) ⟨b1, rfl, fr.kp [0, 1, 2, 3], M18, hb1, fun _ h => h, .inl rfl⟩ ?_
 clear fr aC M18; rintro n aC w21 ⟨b2, rfl, fr, M22, hb2, hc3, hd3⟩
 revert aC
 refine zsq <| zsq ?_
 obtain ⟨Bgu, hBgu⟩ : ∃ B : Bool, B = decide ((pl b2) > (pl a2)) := ⟨_, rfl⟩
 refine zkp [(0, (.int .i64 a2)), (1, (.int .i64 b2)), (2, (pT g5 0)), (3, (pT g6 0))] ?_
 intro aC fr
 refine zdr (N := 37) (env0 := [(0, (.int .i64 a2)), (1, (.int .i64 b2)), (2, (pT g5 0)), (3, (pT g6 0))]) (specAt [.det (.slice (some ada) n ca), .det (.int .i64 b2), .det (.pointer (some ((ada : Addr).add ((b2).toNat * 1)))), .det (.int .i64 (pl b2)), .det (.slice (some ada) n ca), .det (.int .i64 a2), .det (.pointer (some ((ada : Addr).add ((a2).toNat * 1)))), .det (.int .i64 (pl a2)), .det (.bool Bgu)]) fr (la (la (la (la (la (la (la (la (la lz (dL ⟨g5, 0, none⟩ (.slice (some ada) n ca) fun w_ hK => (blk_cell ((M22.then_ hK).ro h5) rfl))) dP) (dI (h0 := (hmk.rng b2 hb2.1).1) (h1 := (hmk.rng b2 hb2.1).2) ada n 1 b2)) (dL ((ada : Addr).add ((b2).toNat * 1)) (.int .i64 (pl b2)) fun w_ hK => (rd_get1 ((M22.then_ hK).ro hA) rfl (hmk.at0 hb2)))) (dL ⟨g5, 0, none⟩ (.slice (some ada) n ca) fun w_ hK => (blk_cell ((M22.then_ hK).ro h5) rfl))) dP) (dI (h0 := (hmk.rng a2 ha2.1).1) (h1 := (hmk.rng a2 ha2.1).2) ada n 1 a2)) (dL ((ada : Addr).add ((a2).toNat * 1)) (.int .i64 (pl a2)) fun w_ hK => (rd_get1 ((M22.then_ hK).ro hA) rfl (hmk.at0 ha2)))) (dC (decide ((pl b2) > (pl a2))) hBgu)) ?_
 intro aC w29 vs hK hv fr
 revert aC; refine zkp [(0, (.int .i64 a2)), (1, (.int .i64 b2)), (2, (pT g5 0)), (3, (pT g6 0)), (31, (.bool Bgu))] ?_
 have M30 := M22.then_ hK
 clear hK hv fr aC M22; clear vs
 cases Bgu
 have cgu : ¬ ((pl b2) > (pl a2)) := of_decide_eq_false hBgu.symm
 refine zcF <| zex 4 <| zbh ?_
 intro aC fr
 exact ⟨(pl a2 + pl b2).toNat, meet_dec hmk ha1 ha2 hb2 cne hd2 hd3 cgt cgu, a2, b2, rfl, fr.kp [0, 1, 2, 3], M30, ha2, hb2, fun c h => hc1 c (hc2 c (hc3 c h))⟩
 have cgu : (pl b2) > (pl a2) := of_decide_eq_true hBgu.symm
 refine zcT <| zsk <| zbk 5 <| zrg <| zld ⟨g6, 0, none⟩ (.slice (some adb) n cb) (blk_cell (M30.ro h6) rfl) <| zpn 1 <| zix (h0 := (hmk.rng b2 hb2.1).1) (h1 := (hmk.rng b2 hb2.1).2) adb n 1 b2 <| zld ((adb : Addr).add ((b2).toNat * 1)) (.int .i64 (up b2)) (rd_get1 (M30.ro hB) rfl (hmk.up0 hb2)) <| zpn 1 <| zfe ?_
 have hne := hmk.ne0 ha2 cgu
 obtain ⟨hl1, hl2⟩ := hmk.ok.low b2 hb2 hne
 have hl0 := hl1.1
 intro aC fr
 exact ⟨(pl (up b2)).toNat, by omega, up b2, rfl, fr.kp [0, 1, 2, 3], M30, hl1, fun c h => hc3 c (.right cgu h), .inr (by rcases hd3 with hd3 | hd3 <;> (try subst hd3) <;> omega)⟩
 have cgt : (pl a2) > (pl b1) := of_decide_eq_true hBgt.symm
 refine zcT <| zsk <| zbk 3 <| zrg <| zld ⟨g6, 0, none⟩ (.slice (some adb) n cb) (blk_cell (M18.ro h6) rfl) <| zpn 1 <| zix (h0 := (hmk.rng a2 ha2.1).1) (h1 := (hmk.rng a2 ha2.1).2) adb n 1 a2 <| zld ((adb : Addr).add ((a2).toNat * 1)) (.int .i64 (up a2)) (rd_get1 (M18.ro hB) rfl (hmk.up0 ha2)) <| zpn 1 <| zfe ?_
 have hne := hmk.ne0 hb1 cgt
 obtain ⟨hl1, hl2⟩ := hmk.ok.low a2 ha2 hne
 have hl0 := hl1.1
 intro aC fr
 exact ⟨(pl (up a2)).toNat, by omega, up a2, rfl, fr.kp [0, 1, 2, 3], M18, hl1, fun c h => hc2 c (.left cgt h), .inr (by rcases hd2 with hd2 | hd2 <;> (try subst hd2) <;> omega)⟩
end Go.Proofs.Ytejbeeaomokjpaa
namespace Go.Proofs.Ytejbeeaomokjpaa
open Go.Mor
theorem tree_c (nm wk pa va : Value) (A : Option Addr) (c : Nat) (bs : List SB) (w : World) (hm : bs.length ≤ 1000000) (hA : RO noS w (.blocks A bs)) :
    Calls Try.prog 118 #[(.agg #[nm, wk, pa, va, (.slice A bs.length c)])] w (Ret fun v w' => ∃ A1 c1 A2 c2, v = .tuple #[.slice A1 bs.length c1, .slice A2 bs.length c2] ∧ FinUp bs ∧ Mem noS w w' [.row 3 1 A1 bs.length c1 (ints (raboveL bs)), .row 3 1 A2 bs.length c2 (ints (atL bs))]) := by
 refine zen 112 [(.agg #[nm, wk, pa, va, (.slice A bs.length c)])] Try.func118 ?_
 have hM := Mem.init w
 refine zsr <| zbx hM 24 (.agg #[nm, wk, pa, va, (.slice A bs.length c)]) [nm, wk, pa, va, (.slice A bs.length c)] fun b1 w2 hb1 M3 => ?_
 replace M3 := M3.nf
 clear hM
 refine zpn 2 <| zfe <| zsr <| zls ⟨b1, 0, none⟩ [nm, wk, pa, va, (.slice A bs.length c)] (blk_cells (M3.get 0 rfl)) <| zcl (vs := #[(.agg #[nm, wk, pa, va, (.slice A bs.length c)])]) (order_c _ _ _ _ A c bs w2 hm (hA.at_ M3)) ?_
 rintro _ w6 ⟨A4, c5, rfl, M7x⟩
 have M7 := M3.cl M7x
 refine zpn 1 <| zfe <| zsr <| zpn 1 <| zld ⟨b1, 4, none⟩ (.slice A bs.length c) (blk_cell (M7.get 0 rfl) rfl) <| zpn 1 ?_
 intro aC fr
 refine zMk 23 37 (.tmp 22) (.tmp 22) 37 fr (e := 3) (bytes := 8) (z := (.int .i64 0)) (n := bs.length) (i := ((bs.length : Nat) : Int)) (by omega) (by simp only [maxLen]; omega) M7 ?_
 intro b8 w9 hb8 _ M10 _ aC ea fr; clear ea
 replace M10 := M10.nf
 revert aC
 refine zal M10 37 [(.slice none 0 0)] fun b15 w16 hb15 M17 => ?_
 replace M17 := M17.nf
 refine zsb M17 3 0 (.slice (sM b8) bs.length bs.length) rfl fun w18 M19 => ?_
 replace M19 := M19.nf
 refine zfe <| zsr <| zpn 1 <| zld ⟨b1, 4, none⟩ (.slice A bs.length c) (blk_cell (M19.get 0 rfl) rfl) <| zpn 1 ?_
 intro aC fr
 refine zMk 27 37 (.tmp 26) (.tmp 26) 37 fr (e := 3) (bytes := 8) (z := (.int .i64 0)) (n := bs.length) (i := ((bs.length : Nat) : Int)) (by omega) (by simp only [maxLen]; omega) M19 ?_
 intro b20 w21 hb20 _ M22 _ aC ea fr; clear ea
 replace M22 := M22.nf
 revert aC
 refine zal M22 37 [(.slice none 0 0)] fun b27 w28 hb27 M29 => ?_
 replace M29 := M29.nf
 refine zkp [(1, (pT b1 0)), (4, (.slice A4 ((orderL bs).length) c5)), (5, (pT b15 0)), (6, (pT b27 0)), (27, (.slice (sM b20) bs.length bs.length))] <| zsb M29 5 0 (.slice (sM b20) bs.length bs.length) rfl fun w30 M31 => ?_
 replace M31 := M31.nf
 refine zfe <| zsq <| zsr <| zld ⟨b15, 0, none⟩ (.slice (sM b8) bs.length bs.length) (blk_cell (M31.get 3 rfl) rfl) <| zpn 2 <| zfe <| zbk 0 ?_
 intro aC fr
 refine zlp (fun n_ a_ w_ => ∃ (i : Nat) (m1 : List Int) (m2 : List Int), n_ = bs.length - i ∧ Fr a_ 112 [(1, (pT b1 0)), (4, (.slice A4 ((orderL bs).length) c5)), (5, (pT b15 0)), (6, (pT b27 0)), (29, (.int .i64 ((bs.length : Nat) : Int))), (30, (nV i))] ∧ Mem noS w w_ [.blk b1 24 [nm, wk, pa, va, (.slice A bs.length c)], .row 3 1 A4 ((orderL bs).length) c5 (ints (orderL bs)), .row 3 1 (sM b8) bs.length bs.length (ints m1), .blk b15 37 [(.slice (sM b8) bs.length bs.length)], .row 3 1 (sM b20) bs.length bs.length (ints m2), .blk b27 37 [(.slice (sM b20) bs.length bs.length)]] ∧ (i ≤ bs.length) ∧ (IntsOf bs.length m1 (fillF i)) ∧ (IntsOf bs.length m2 (fillF i))) (n := _) ⟨0, List.replicate bs.length 0, List.replicate bs.length 0, rfl, fr.kp [1, 4, 5, 6, 29, 30], (M31.cast (by simp [ints])), by omega, fill_start _, fill_start _⟩ ?_
 clear fr aC M31; rintro n aC w34 ⟨i, m1, m2, rfl, fr, M35, hi, h1, h2⟩
 revert aC
 refine zsr <| zcm (decide ((i : Int) < ((bs.length : Nat) : Int))) fun Bi hBi => ?_
 refine zfe <| zsq ?_
 cases Bi
 have ci : ¬ ((i : Int) < ((bs.length : Nat) : Int)) := of_decide_eq_false hBi.symm
 refine zcF <| zex 0 <| zbh <| zsq <| zsp <| zbk 2 ?_
 have hol := orderL_len bs
 intro aC fr
 refine zlp (fun n_ a_ w_ => ∃ (k : Nat) (m3 : List Int), n_ = (orderL bs).length - k ∧ Fr a_ 112 [(1, (pT b1 0)), (4, (.slice A4 ((orderL bs).length) c5)), (5, (pT b15 0)), (6, (pT b27 0)), (40, (.slice A4 ((orderL bs).length) c5)), (41, (.int .i64 (((orderL bs).length : Nat) : Int))), (42, (nV k))] ∧ Mem noS w w_ [.blk b1 24 [nm, wk, pa, va, (.slice A bs.length c)], .row 3 1 A4 ((orderL bs).length) c5 (ints (orderL bs)), .row 3 1 (sM b8) bs.length bs.length (ints m3), .blk b15 37 [(.slice (sM b8) bs.length bs.length)], .row 3 1 (sM b20) bs.length bs.length (ints m2), .blk b27 37 [(.slice (sM b20) bs.length bs.length)]] ∧ (k ≤ (orderL bs).length) ∧ (IntsOf bs.length m3 (plc ((orderL bs).take k)))) (n := _) ⟨0, m1, rfl, fr.kp [1, 4, 5, 6, 40, 41, 42], M35, by omega, places_start bs (fill_end h1 (by omega))⟩ ?_
 clear fr aC M35; rintro n aC w40 ⟨k, m3, rfl, fr, M41, hk, h3⟩
 revert aC
 refine zsr <| zcm (decide ((k : Int) < (((orderL bs).length : Nat) : Int))) fun Bk hBk => ?_
 refine zfe <| zsq ?_
 cases Bk
 have ck : ¬ ((k : Int) < (((orderL bs).length : Nat) : Int)) := of_decide_eq_false hBk.symm
 refine zcF <| zex 2 <| zbh <| zsr ?_
 have hat := places_end h3 (by omega)
 have hab0 := fill_end h2 (by omega)
 refine zls ⟨b1, 0, none⟩ [nm, wk, pa, va, (.slice A bs.length c)] (blk_cells (M41.get 0 rfl)) <| zcl (vs := #[(.agg #[nm, wk, pa, va, (.slice A bs.length c)])]) (all_c _ _ _ _ A c bs w40 hm (hA.at_ M41)) ?_
 rintro _ w47 ⟨A44, c45, rows46, rfl, hfrows46, M48x⟩
 have M48 := M41.cl M48x
 refine zpn 1 <| zfe <| zsp <| zsq <| zsp <| zbk 4 ?_
 intro aC fr
 refine zlp (fun n_ a_ w_ => ∃ (k : Nat) (ab : List Int) (up : Int → Int) (Bt : Bool), n_ = bs.length + 3 - k ∧ Fr a_ 112 [(4, (.slice A4 ((orderL bs).length) c5)), (5, (pT b15 0)), (6, (pT b27 0)), (10, (.slice A44 bs.length c45)), (11, (.func (.func 131) #[] #[(pT b15 0), (pT b27 0)])), (12, (.bool Bt))] ∧ Mem noS w w_ [.blk b1 24 [nm, wk, pa, va, (.slice A bs.length c)], .row 3 1 A4 ((orderL bs).length) c5 (ints (orderL bs)), .row 3 1 (sM b8) bs.length bs.length (ints m3), .blk b15 37 [(.slice (sM b8) bs.length bs.length)], .row 3 1 (sM b20) bs.length bs.length (ints ab), .blk b27 37 [(.slice (sM b20) bs.length bs.length)], .fam 3 rows46, .row 37 1 A44 bs.length c45 (slv rows46)] ∧ (IntsOf bs.length ab up) ∧ (0 < bs.length → Rnd (tg bs) (plB bs) up k 0) ∧ (Bt = false → 1 ≤ k ∧ ∃ j, Stl (tg bs) (plB bs) up j ∧ ∀ x, plB bs x ≤ j) ∧ (Bt = true → k ≤ bs.length + 2)) (n := _) ⟨0, m2, fun _ => -1, true, rfl, fr.kp [4, 5, 6, 10, 11, 12], M48, hab0, fun h => Rnd.start (plB_plc h), fun h => Bool.noConfusion h, fun _ => by omega⟩ ?_
 clear fr aC M48; rintro n aC w51 ⟨k, ab, up, Bt, rfl, fr, M52, habs, hhd, hstl, hlim⟩
 revert aC
 refine zsq <| zsp ?_
 cases Bt
 refine zcF <| zex 4 <| zbh <| zsq ?_
 obtain ⟨hk1, jj, hs1, hs2⟩ := hstl rfl
 have hfin := fin_up hhd hk1 hs1 hs2 habs
 obtain rfl := ab_end hhd hk1 hs1 hs2 habs
 obtain rfl := hat.ext (atL_of bs)
 refine zkp [(4, (.slice A4 ((orderL bs).length) c5)), (5, (pT b15 0)), (6, (pT b27 0)), (10, (.slice A44 bs.length c45)), (11, (.func (.func 131) #[] #[(pT b15 0), (pT b27 0)])), (55, (.bool false))] ?_
 intro aC fr
 refine zdr (N := 112) (env0 := [(4, (.slice A4 ((orderL bs).length) c5)), (5, (pT b15 0)), (6, (pT b27 0)), (10, (.slice A44 bs.length c45)), (11, (.func (.func 131) #[] #[(pT b15 0), (pT b27 0)])), (55, (.bool false))]) (specAt [.det (.slice (sM b20) bs.length bs.length), .det (.slice (sM b8) bs.length bs.length), .det (.slice (sM b20) bs.length bs.length), .det (.slice (sM b8) bs.length bs.length)]) fr (la (la (la (la lz (dL ⟨b27, 0, none⟩ (.slice (sM b20) bs.length bs.length) fun w_ hK => (blk_cell ((M52.then_ hK).get 5 rfl) rfl))) (dL ⟨b15, 0, none⟩ (.slice (sM b8) bs.length bs.length) fun w_ hK => (blk_cell ((M52.then_ hK).get 3 rfl) rfl))) dP) dP) ?_
 intro aC w59 vs hK hv fr
 revert aC; refine zkp [(2, (.slice (sM b20) bs.length bs.length)), (3, (.slice (sM b8) bs.length bs.length))] ?_
 have M60 := M52.then_ hK
 clear hK hv fr aC M52; clear vs
 refine zre <| zo2 (.slice (sM b20) bs.length bs.length) (.slice (sM b8) bs.length bs.length) ?_
 have M61 := M60.od [2, 4] 2
 exact ⟨_, _, _, _, rfl, hfin, M61⟩
 refine zcT <| zsk <| zbk 5 <| zsp <| zsr <| zpn 3 ?_
 intro aC fr
 obtain ⟨m0, hm0⟩ : ∃ m0 : Nat, m0 = min 1 (orderL bs).length := ⟨_, rfl⟩
 refine From_min (by kernel_rfl : coreAt _ 3 = some (some 59, (.call { callee := (.builtin .min), args := #[(.const (.int .i64 1)), (.tmp 58)], argTypes := #[3, 3] }), 3, none)) fr (by kernel_rfl) (by kernel_rfl) (k' := 4) rfl (kd := .i64) (i := 1) (j := (((orderL bs).length : Nat) : Int)) (by kernel_rfl) (by kernel_rfl) (m0 : Int) (by split <;> omega) ?_
 intro aC ea fr; clear ea
 refine From_sliceLo (by kernel_rfl : coreAt _ 4 = some (some 60, (.slice 37 (.tmp 56) (some (.tmp 59)) none none), 37, none)) fr (by kernel_rfl) (by kernel_rfl) (k' := 5) rfl (A := A4) (n := (orderL bs).length) (cap := c5) (e := 3) (size := 1) (kd := .i64) (i := (m0 : Int)) m0 (by kernel_rfl) (by kernel_rfl) rfl (by kernel_rfl) (by kernel_rfl) (by omega) ?_
 intro aC ea fr; clear ea
 obtain ⟨A60, hA60⟩ : ∃ A60, A60 = (if c5 = m0 then A4 else A4.map (fun y => y.add (m0 * 1))) := ⟨_, rfl⟩
 revert aC
 refine zkp [(4, (.slice A4 ((orderL bs).length) c5)), (5, (pT b15 0)), (6, (pT b27 0)), (10, (.slice A44 bs.length c45)), (11, (.func (.func 131) #[] #[(pT b15 0), (pT b27 0)])), (12, (.bool false)), (60, (.slice (if c5 = m0 then A4 else A4.map (fun y => y.add (m0 * 1))) ((orderL bs).length - m0) (c5 - m0)))] ?_
 intro aC fr
 rw [← hA60] at fr
 revert aC
 refine zpn 2 <| zfe <| zbk 6 ?_
 intro aC fr
 refine zlp (fun n_ a_ w_ => ∃ (j : Nat) (ab2 : List Int) (up2 : Int → Int) (Bt2 : Bool), n_ = (orderL bs).length - m0 - j ∧ Fr a_ 112 [(4, (.slice A4 ((orderL bs).length) c5)), (5, (pT b15 0)), (6, (pT b27 0)), (10, (.slice A44 bs.length c45)), (11, (.func (.func 131) #[] #[(pT b15 0), (pT b27 0)])), (12, (.bool Bt2)), (60, (.slice A60 ((orderL bs).length - m0) (c5 - m0))), (61, (.int .i64 ((((orderL bs).length - m0) : Nat) : Int))), (62, (nV j))] ∧ Mem noS w w_ [.blk b1 24 [nm, wk, pa, va, (.slice A bs.length c)], .row 3 1 A4 ((orderL bs).length) c5 (ints (orderL bs)), .row 3 1 (sM b8) bs.length bs.length (ints m3), .blk b15 37 [(.slice (sM b8) bs.length bs.length)], .row 3 1 (sM b20) bs.length bs.length (ints ab2), .blk b27 37 [(.slice (sM b20) bs.length bs.length)], .fam 3 rows46, .row 37 1 A44 bs.length c45 (slv rows46)] ∧ (j ≤ (orderL bs).length - m0) ∧ (IntsOf bs.length ab2 up2) ∧ (0 < bs.length → Rnd (tg bs) (plB bs) up2 k (j : Int)) ∧ (Bt2 = false → Stl (tg bs) (plB bs) up2 (j : Int)) ∧ (bs.length + 2 ≤ k → Bt2 = false)) (n := _) ⟨0, ab, up, false, rfl, fr.kp [4, 5, 6, 10, 11, 12, 60, 61, 62], M52, by omega, habs, hhd, fun _ => Stl.start, fun _ => rfl⟩ ?_
 clear fr aC M52; rintro n aC w72 ⟨j, ab2, up2, Bt2, rfl, fr, M73, hj, habs2, hrd, hst, hfu⟩
 revert aC
 refine zsr <| zcm (decide ((j : Int) < ((((orderL bs).length - m0) : Nat) : Int))) fun Bj hBj => ?_
 refine zfe <| zsq ?_
 cases Bj
 have cj : ¬ ((j : Int) < ((((orderL bs).length - m0) : Nat) : Int)) := of_decide_eq_false hBj.symm
 refine zcF <| zex 6 <| zbh ?_
 intro aC fr
 exact ⟨bs.length + 3 - (k + 1), by have := hlim rfl; omega, k + 1, ab2, up2, Bt2, rfl, fr.kp [4, 5, 6, 10, 11, 12], M73, habs2, fun h => (hrd h).turn (plB_plc h) (fun x => by have := plB_lt bs x; omega), fun h => ⟨by omega, _, hst h, fun x => by have := plB_lt bs x; omega⟩, fun h => lim_next hfu h⟩
 have cj : (j : Int) < ((((orderL bs).length - m0) : Nat) : Int) := of_decide_eq_true hBj.symm
 refine zcT <| zsk <| zsq <| zbk 7 <| zsr ?_
 obtain ⟨go, rfl⟩ := row_some (M73.get 1 rfl) (by omega)
 have hco := row_le (M73.get 1 rfl)
 obtain rfl : A60 = some ((⟨go, 0, none⟩ : Addr).add (1 * 1)) := by rw [hA60, if_neg (by omega), show m0 = 1 by omega]; rfl
 obtain ⟨bi, hbj, hbn, hpb⟩ := ord_drop (bs := bs) (j := j) (by omega)
 have hn0 : 0 < bs.length := by omega
 have hP := plB_plc hn0
 have hrd0 := hrd hn0
 have hb0 : (bi : Int) ≠ 0 := by intro e; rw [e, hP.zero] at hpb; omega
 have hrg : ∀ x, 0 ≤ plB bs x → 0 ≤ x := fun x hx => (plB_rng hn0 hx).1
 obtain ⟨Ab, cb, hrb⟩ := hfrows46.get (allL_get hbn)
 have hsl : (srcs bs (bi : Int)).length ≤ bs.length := srcsTo_len bs _ _
 have hmk : Mok (tg bs) (plB bs) up2 bs.length m3 ab2 := ⟨hP, hrd0.ok, fun x hx => plB_rng hn0 hx, hat, habs2⟩
 refine zix ((⟨go, 0, none⟩ : Addr).add (1 * 1)) ((orderL bs).length - m0) 1 (j : Int) <| zld ((((⟨go, 0, none⟩ : Addr).add (1 * 1)) : Addr).add (((j : Int)).toNat * 1)) (nV bi) (rd_at (rd_tail (row_rd (M73.get 1 rfl))) rfl hbj) <| zpn 1 <| zfe <| zsp <| zsq <| zsr <| zpn 2 ?_
 obtain ⟨g79, rfl⟩ := row_some (M73.get 7 rfl) (by omega)
 refine zix ⟨g79, 0, none⟩ bs.length 1 (bi : Int) <| zld ((⟨g79, 0, none⟩ : Addr).add (((bi : Int)).toNat * 1)) (.slice Ab ((srcs bs (bi : Int)).length) cb) (rd_get1 (row_rd (M73.get 7 rfl)) rfl (slv_get hrb)) <| zpn 2 <| zfe <| zbk 8 ?_
 intro aC fr
 refine zlp (fun n_ a_ w_ => ∃ (q : Nat) (to : Int), n_ = (srcs bs (bi : Int)).length - q ∧ Fr a_ 112 [(4, (.slice (sM go) ((orderL bs).length) c5)), (5, (pT b15 0)), (6, (pT b27 0)), (10, (.slice (sM g79) bs.length c45)), (11, (.func (.func 131) #[] #[(pT b15 0), (pT b27 0)])), (12, (.bool Bt2)), (14, (nV bi)), (15, (.int .i64 to)), (60, (.slice (some ((⟨go, 0, none⟩ : Addr).add (1 * 1))) ((orderL bs).length - m0) (c5 - m0))), (61, (.int .i64 ((((orderL bs).length - m0) : Nat) : Int))), (62, (nV j)), (69, (.slice Ab ((srcs bs (bi : Int)).length) cb)), (70, (.int .i64 (((srcs bs (bi : Int)).length : Nat) : Int))), (71, (nV q))] ∧ Mem noS w w_ [.blk b1 24 [nm, wk, pa, va, (.slice A bs.length c)], .row 3 1 (sM go) ((orderL bs).length) c5 (ints (orderL bs)), .row 3 1 (sM b8) bs.length bs.length (ints m3), .blk b15 37 [(.slice (sM b8) bs.length bs.length)], .row 3 1 (sM b20) bs.length bs.length (ints ab2), .blk b27 37 [(.slice (sM b20) bs.length bs.length)], .fam 3 rows46, .row 37 1 (sM g79) bs.length c45 (slv rows46)] ∧ (q ≤ (srcs bs (bi : Int)).length) ∧ (Fold (tg bs) (plB bs) up2 ((srcs bs (bi : Int)).take q) to)) (n := _) ⟨0, -1, rfl, fr.kp [4, 5, 6, 10, 11, 12, 14, 15, 60, 61, 62, 69, 70, 71], M73, by omega, Fold.start⟩ ?_
 clear fr aC M73; rintro n aC w82 ⟨q, to, rfl, fr, M83, hq, hfd⟩
 revert aC
 refine zsr <| zcm (decide ((q : Int) < (((srcs bs (bi : Int)).length : Nat) : Int))) fun Bq hBq => ?_
 refine zfe <| zsq ?_
 cases Bq
 have cq : ¬ ((q : Int) < (((srcs bs (bi : Int)).length : Nat) : Int)) := of_decide_eq_false hBq.symm
 refine zcF <| zex 8 <| zbh <| zsr ?_
 rw [List.take_of_length_le (by omega)] at hfd
 obtain ⟨k1, k2, k3, k4, k5, k6⟩ := hrd0.step hP hrg (by omega) hpb (src_iff hn0) hfd
 refine zld ⟨b27, 0, none⟩ (.slice (sM b20) bs.length bs.length) (blk_cell (M83.get 5 rfl) rfl) <| zpn 1 <| zix ⟨b20, 0, none⟩ bs.length 1 (bi : Int) <| zld ((⟨b20, 0, none⟩ : Addr).add (((bi : Int)).toNat * 1)) (.int .i64 (up2 (bi : Int))) (rd_get1 (row_rd (M83.get 4 rfl)) rfl (habs2.at_ (by omega) (by omega))) <| zpn 1 <| zcm ((up2 (bi : Int)) != to) fun Bch hBch => ?_
 refine zfe ?_
 cases Bch
 have cch : ¬ ((up2 (bi : Int)) ≠ to) := znn hBch
 have k7 : Rnd (tg bs) (plB bs) up2 k ((j + 1 : Nat) : Int) := by have := k6; rw [show to = up2 (bi : Int) by omega, upd_same] at this; exact this
 refine zcF <| zsk <| zrg <| zar ((j : Int) + 1) <| zpn 1 <| zfe ?_
 intro aC fr
 exact ⟨(orderL bs).length - m0 - (j + 1), by omega, j + 1, ab2, up2, Bt2, rfl, fr.kp [4, 5, 6, 10, 11, 12, 60, 61, 62], M83, by omega, habs2, fun _ => k7, fun h => (hst h).next hP hpb (hrd0.keep hpb k1 (by omega) k4), hfu⟩
 have cch : (up2 (bi : Int)) ≠ to := bne_iff_ne.1 hBch.symm
 refine zcT <| zsr <| zld ⟨b27, 0, none⟩ (.slice (sM b20) bs.length bs.length) (blk_cell (M83.get 5 rfl) rfl) <| zpn 2 <| zix ⟨b20, 0, none⟩ bs.length 1 (bi : Int) <| zsw M83 4 ((⟨b20, 0, none⟩ : Addr).add (((bi : Int)).toNat * 1)) (((bi : Int)).toNat * 1) (.int .i64 to) rfl rfl (by omega) fun w88 M89 => ?_
 replace M89 := M89.nf
 refine zfe <| zrp <| zrg <| zar ((j : Int) + 1) <| zpn 1 <| zfe ?_
 intro aC fr
 exact ⟨(orderL bs).length - m0 - (j + 1), by omega, j + 1, ab2.set bi to, updI up2 (bi : Int) to, true, rfl, fr.kp [4, 5, 6, 10, 11, 12, 60, 61, 62], (M89.cast (by rw [ints_set]; simp only [Int.toNat_natCast, Nat.mul_one])), by omega, habs2.set hbn upd_at (fun q _ hne => upd_ne (by omega)), fun _ => k6, fun h => Bool.noConfusion h, fun h => absurd (hrd0.full hP (fun x hx => reach_rng hn0 hx) h (by omega) hb0 k2 k3 k4 k5) cch⟩
 have cq : (q : Int) < (((srcs bs (bi : Int)).length : Nat) : Int) := of_decide_eq_true hBq.symm
 refine zcT <| zsk <| zsq <| zbk 9 <| zsr ?_
 obtain ⟨si, hsi, hsn⟩ := srcs_at (bs := bs) (b := (bi : Int)) (q := q) (by omega)
 obtain ⟨ad92, rfl⟩ := rd_some (fam_rd (M83.get 6 rfl) hrb) (by simp; omega)
 refine zix ad92 ((srcs bs (bi : Int)).length) 1 (q : Int) <| zld ((ad92 : Addr).add (((q : Int)).toNat * 1)) (nV si) (rd_at (fam_rd (M83.get 6 rfl) hrb) rfl hsi) <| zpn 1 <| zfe <| zsq <| zsr <| zld ⟨b15, 0, none⟩ (.slice (sM b8) bs.length bs.length) (blk_cell (M83.get 3 rfl) rfl) <| zpn 1 <| zix ⟨b8, 0, none⟩ bs.length 1 (si : Int) <| zld ((⟨b8, 0, none⟩ : Addr).add (((si : Int)).toNat * 1)) (.int .i64 (plB bs (si : Int))) (rd_get1 (row_rd (M83.get 2 rfl)) rfl (hat.at_ (by omega) (by omega))) <| zcm (decide ((plB bs (si : Int)) < 0)) fun Bpl hBpl => ?_
 refine zpn 1 ?_
 cases Bpl
 have cpl : ¬ ((plB bs (si : Int)) < 0) := of_decide_eq_false hBpl.symm
 refine zpn 1 <| zcm ((si : Int) != 0) fun Bs0 hBs0 => ?_
 refine zpn 1 ?_
 cases Bs0
 have cs0 : ¬ ((si : Int) ≠ 0) := znn hBs0
 have hpr : Prc (plB bs) up2 (si : Int) := ⟨by omega, .inl (by omega)⟩
 refine zpn 7 <| zfe <| zcF <| zsk <| zsr <| zpn 1 <| zcm (decide (to < 0)) fun Bto hBto => ?_
 refine zkp [(4, (.slice (sM go) ((orderL bs).length) c5)), (5, (pT b15 0)), (6, (pT b27 0)), (10, (.slice (sM g79) bs.length c45)), (11, (.func (.func 131) #[] #[(pT b15 0), (pT b27 0)])), (12, (.bool Bt2)), (14, (nV bi)), (15, (.int .i64 to)), (17, (nV si)), (60, (.slice (some ((⟨go, 0, none⟩ : Addr).add (1 * 1))) ((orderL bs).length - m0) (c5 - m0))), (61, (.int .i64 ((((orderL bs).length - m0) : Nat) : Int))), (62, (nV j)), (69, (.slice (some ad92) ((srcs bs (bi : Int)).length) cb)), (70, (.int .i64 (((srcs bs (bi : Int)).length : Nat) : Int))), (71, (nV q)), (92, (.bool Bto))] <| zfe ?_
 cases Bto
 have cto : ¬ (to < 0) := of_decide_eq_false hBto.symm
 refine zcF <| zrg <| zpn 3 <| zcl (meet_c b15 b27 ⟨b8, 0, none⟩ ⟨b20, 0, none⟩ bs.length bs.length bs.length m3 ab2 (tg bs) (plB bs) up2 to (si : Int) w82 hm (M83.own_ro 3 rfl) (M83.own_ro 5 rfl) (RO.row_rd (M83.own_ro 2 rfl)) (RO.row_rd (M83.own_ro 4 rfl)) hmk (hfd.prc (by omega)) hpr) ?_
 rintro _ w93 ⟨cm, rfl, hcl, M94x⟩
 have M94 := M83.cl M94x
 refine zpn 1 <| zfe <| zrg <| zar ((q : Int) + 1) <| zpn 1 <| zfe ?_
 intro aC fr
 exact ⟨(srcs bs (bi : Int)).length - (q + 1), by omega, q + 1, cm, rfl, fr.kp [4, 5, 6, 10, 11, 12, 14, 15, 60, 61, 62, 69, 70, 71], M94, by omega, by rw [take_snoc hsi]; exact hfd.meet hP hrd0.ok (by omega) hpr hcl⟩
 have cto : to < 0 := of_decide_eq_true hBto.symm
 refine zcT <| zrp <| zrg <| zar ((q : Int) + 1) <| zpn 1 <| zfe ?_
 intro aC fr
 exact ⟨(srcs bs (bi : Int)).length - (q + 1), by omega, q + 1, (si : Int), rfl, fr.kp [4, 5, 6, 10, 11, 12, 14, 15, 60, 61, 62, 69, 70, 71], M83, by omega, by rw [take_snoc hsi]; exact hfd.first cto hrg hpr⟩
 have cs0 : (si : Int) ≠ 0 := bne_iff_ne.1 hBs0.symm
 refine zld ⟨b27, 0, none⟩ (.slice (sM b20) bs.length bs.length) (blk_cell (M83.get 5 rfl) rfl) <| zpn 1 <| zix ⟨b20, 0, none⟩ bs.length 1 (si : Int) <| zld ((⟨b20, 0, none⟩ : Addr).add (((si : Int)).toNat * 1)) (.int .i64 (up2 (si : Int))) (rd_get1 (row_rd (M83.get 4 rfl)) rfl (habs2.at_ (by omega) (by omega))) <| zkp [(4, (.slice (sM go) ((orderL bs).length) c5)), (5, (pT b15 0)), (6, (pT b27 0)), (10, (.slice (sM g79) bs.length c45)), (11, (.func (.func 131) #[] #[(pT b15 0), (pT b27 0)])), (12, (.bool Bt2)), (14, (nV bi)), (15, (.int .i64 to)), (17, (nV si)), (60, (.slice (some ((⟨go, 0, none⟩ : Addr).add (1 * 1))) ((orderL bs).length - m0) (c5 - m0))), (61, (.int .i64 ((((orderL bs).length - m0) : Nat) : Int))), (62, (nV j)), (69, (.slice (some ad92) ((srcs bs (bi : Int)).length) cb)), (70, (.int .i64 (((srcs bs (bi : Int)).length : Nat) : Int))), (71, (nV q)), (80, (.bool false)), (83, (.bool true)), (87, (.int .i64 (up2 (si : Int))))] <| zcm (decide ((up2 (si : Int)) < 0)) fun Bup hBup => ?_
 refine zpn 2 <| zfe ?_
 cases Bup
 have cup : ¬ ((up2 (si : Int)) < 0) := of_decide_eq_false hBup.symm
 have hpr : Prc (plB bs) up2 (si : Int) := ⟨by omega, .inr (by omega)⟩
 refine zcF <| zsk <| zsr <| zpn 1 <| zcm (decide (to < 0)) fun Bto hBto => ?_
 refine zfe ?_
 cases Bto
 have cto : ¬ (to < 0) := of_decide_eq_false hBto.symm
 refine zcF <| zrg <| zpn 3 <| zcl (meet_c b15 b27 ⟨b8, 0, none⟩ ⟨b20, 0, none⟩ bs.length bs.length bs.length m3 ab2 (tg bs) (plB bs) up2 to (si : Int) w82 hm (M83.own_ro 3 rfl) (M83.own_ro 5 rfl) (RO.row_rd (M83.own_ro 2 rfl)) (RO.row_rd (M83.own_ro 4 rfl)) hmk (hfd.prc (by omega)) hpr) ?_
 rintro _ w99 ⟨cm, rfl, hcl, M100x⟩
 have M100 := M83.cl M100x
 refine zpn 1 <| zfe <| zrg <| zar ((q : Int) + 1) <| zpn 1 <| zfe ?_
 intro aC fr
 exact ⟨(srcs bs (bi : Int)).length - (q + 1), by omega, q + 1, cm, rfl, fr.kp [4, 5, 6, 10, 11, 12, 14, 15, 60, 61, 62, 69, 70, 71], M100, by omega, by rw [take_snoc hsi]; exact hfd.meet hP hrd0.ok (by omega) hpr hcl⟩
 have cto : to < 0 := of_decide_eq_true hBto.symm
 refine zcT <| zrp <| zrg <| zar ((q : Int) + 1) <| zpn 1 <| zfe ?_
 intro aC fr
 exact ⟨(srcs bs (bi : Int)).length - (q + 1), by omega, q + 1, (si : Int), rfl, fr.kp [4, 5, 6, 10, 11, 12, 14, 15, 60, 61, 62, 69, 70, 71], M83, by omega, by rw [take_snoc hsi]; exact hfd.first cto hrg hpr⟩
 have cup : (up2 (si : Int)) < 0 := of_decide_eq_true hBup.symm
 have hnp : ¬ Prc (plB bs) up2 (si : Int) := fun h => h.2.elim cs0 (fun h => by omega)
 refine zcT <| zex 9 <| zbh <| zrg <| zar ((q : Int) + 1) <| zpn 1 <| zfe ?_
 intro aC fr
 exact ⟨(srcs bs (bi : Int)).length - (q + 1), by omega, q + 1, to, rfl, fr.kp [4, 5, 6, 10, 11, 12, 14, 15, 60, 61, 62, 69, 70, 71], M83, by omega, by rw [take_snoc hsi]; exact hfd.skip hnp⟩
 have cpl : (plB bs (si : Int)) < 0 := of_decide_eq_true hBpl.symm
 have hnp : ¬ Prc (plB bs) up2 (si : Int) := fun h => by have := h.1; omega
 refine zpn 10 <| zfe <| zcT <| zex 9 <| zbh <| zrg <| zar ((q : Int) + 1) <| zpn 1 <| zfe ?_
 intro aC fr
 exact ⟨(srcs bs (bi : Int)).length - (q + 1), by omega, q + 1, to, rfl, fr.kp [4, 5, 6, 10, 11, 12, 14, 15, 60, 61, 62, 69, 70, 71], M83, by omega, by rw [take_snoc hsi]; exact hfd.skip hnp⟩
 have ck : (k : Int) < (((orderL bs).length : Nat) : Int) := of_decide_eq_true hBk.symm
 refine zcT <| zsk <| zsq <| zbk 3 <| zsr ?_
 obtain ⟨bi, hbk, hbn, hpb⟩ := ord_get (bs := bs) (k := k) (by omega)
 refine zpn 1 ?_
 obtain ⟨g110, rfl⟩ := row_some (M41.get 1 rfl) (by omega)
 refine zix ⟨g110, 0, none⟩ ((orderL bs).length) 1 (k : Int) <| zld ((⟨g110, 0, none⟩ : Addr).add (((k : Int)).toNat * 1)) (nV bi) (rd_at (row_rd (M41.get 1 rfl)) rfl hbk) <| zpn 2 <| zfe <| zrg <| zld ⟨b15, 0, none⟩ (.slice (sM b8) bs.length bs.length) (blk_cell (M41.get 3 rfl) rfl) <| zpn 2 <| zix ⟨b8, 0, none⟩ bs.length 1 (bi : Int) <| zsw M41 2 ((⟨b8, 0, none⟩ : Addr).add (((bi : Int)).toNat * 1)) (((bi : Int)).toNat * 1) (nV k) rfl rfl (by omega) fun w111 M112 => ?_
 replace M112 := M112.nf
 refine zfe <| zrg <| zar ((k : Int) + 1) <| zpn 1 <| zfe ?_
 intro aC fr
 exact ⟨(orderL bs).length - (k + 1), by omega, k + 1, m3.set bi (k : Int), rfl, fr.kp [1, 4, 5, 6, 40, 41, 42], (M112.cast (by rw [ints_set]; simp only [Int.toNat_natCast, Nat.mul_one])), by omega, places_next h3 hbk hbn⟩
 have ci : (i : Int) < ((bs.length : Nat) : Int) := of_decide_eq_true hBi.symm
 refine zcT <| zsk <| zsq <| zbk 1 <| zsp <| zkp [(1, (pT b1 0)), (4, (.slice A4 ((orderL bs).length) c5)), (5, (pT b15 0)), (6, (pT b27 0)), (7, (nV i)), (29, (.int .i64 ((bs.length : Nat) : Int))), (30, (nV i))] ?_
 intro aC fr
 refine zdj (N := 112) (env0 := [(1, (pT b1 0)), (4, (.slice A4 ((orderL bs).length) c5)), (5, (pT b15 0)), (6, (pT b27 0)), (7, (nV i)), (29, (.int .i64 ((bs.length : Nat) : Int))), (30, (nV i))]) (specAt [.det (.slice (sM b8) bs.length bs.length), .det (nV i), .det (.slice (sM b20) bs.length bs.length), .det (nV i), .det (.pointer (some ((⟨b8, 0, none⟩ : Addr).add (((i : Int)).toNat * 1)))), .det undef, .det (.pointer (some ((⟨b20, 0, none⟩ : Addr).add (((i : Int)).toNat * 1)))), .det undef]) (fun ls vs w_ => match ls 7 with | true => (Mem noS w w_ [.blk b1 24 [nm, wk, pa, va, (.slice A bs.length c)], .row 3 1 A4 ((orderL bs).length) c5 (ints (orderL bs)), .row 3 1 (sM b8) bs.length bs.length ((ints m1).set (((i : Int)).toNat * 1) (.int .i64 (-1))), .blk b15 37 [(.slice (sM b8) bs.length bs.length)], .row 3 1 (sM b20) bs.length bs.length ((ints m2).set (((i : Int)).toNat * 1) (.int .i64 (-1))), .blk b27 37 [(.slice (sM b20) bs.length bs.length)]]) | false => (match ls 5 with | true => (Mem noS w w_ [.blk b1 24 [nm, wk, pa, va, (.slice A bs.length c)], .row 3 1 A4 ((orderL bs).length) c5 (ints (orderL bs)), .row 3 1 (sM b8) bs.length bs.length ((ints m1).set (((i : Int)).toNat * 1) (.int .i64 (-1))), .blk b15 37 [(.slice (sM b8) bs.length bs.length)], .row 3 1 (sM b20) bs.length bs.length (ints m2), .blk b27 37 [(.slice (sM b20) bs.length bs.length)]]) | false => (Mem noS w w_ [.blk b1 24 [nm, wk, pa, va, (.slice A bs.length c)], .row 3 1 A4 ((orderL bs).length) c5 (ints (orderL bs)), .row 3 1 (sM b8) bs.length bs.length (ints m1), .blk b15 37 [(.slice (sM b8) bs.length bs.length)], .row 3 1 (sM b20) bs.length bs.length (ints m2), .blk b27 37 [(.slice (sM b20) bs.length bs.length)]]))) fr (plain_ok (.det (.det (.det (.det (.det (.det (.det (.det .nil))))))))) (M35.then_ (Mem.drew _)) (la (la (la (la (la (la (la (la lz (dLJ ⟨b15, 0, none⟩ (.slice (sM b8) bs.length bs.length) (fun _ _ _ _ h => h) ?_)) (dPJ fun _ _ _ _ h => h)) (dLJ ⟨b27, 0, none⟩ (.slice (sM b20) bs.length bs.length) (fun _ _ _ _ h => h) ?_)) (dPJ fun _ _ _ _ h => h)) (dIJ ⟨b8, 0, none⟩ bs.length 1 (i : Int) fun _ _ _ _ h => h)) ?_) (dIJ ⟨b20, 0, none⟩ bs.length 1 (i : Int) fun _ _ _ _ h => h)) ?_) ?_
 intro w_ ls vs hJ hi_ hc_ hp
 have f5 : ls 5 = false := notyet hc_ hi_ (n := 8) (by kernel_rfl)
 have f7 : ls 7 = false := notyet hc_ hi_ (n := 8) (by kernel_rfl)
 have hM_ := hJ
 simp only [f5, f7] at hM_
 exact (blk_cell (hM_.get 3 rfl) rfl)
 intro w_ ls vs hJ hi_ hc_ hp
 have f7 : ls 7 = false := notyet hc_ hi_ (n := 8) (by kernel_rfl)
 have hM_ := hJ
 simp only [f7] at hM_
 cases fu : ls 5
 simp only [fu] at hM_
 exact (blk_cell (hM_.get 5 rfl) rfl)
 simp only [fu] at hM_
 exact (blk_cell (hM_.get 5 rfl) rfl)
 intro aa_ w_ ls vs rest_ hJ hi_ hc_ hp hF
 refine okG (g0 := none) ?_
 replace hF : Fr aa_ 112 [(37, (.pointer (some ((⟨b8, 0, none⟩ : Addr).add (((i : Int)).toNat * 1)))))] := hF.kp [37]
 have f5 : ls 5 = false := hi_
 have f7 : ls 7 = false := notyet hc_ hi_ (n := 8) (by kernel_rfl)
 have hM_ := hJ
 simp only [f5, f7] at hM_
 refine From_store_row (by kernel_rfl : coreAt _ 0 = some (none, (.store 3 (.tmp 37) (.const (.int .i64 (-1)))), 0, none)) hF (by kernel_rfl) (by kernel_rfl) (k' := 1) rfl (ad := (⟨b8, 0, none⟩ : Addr)) (j := (((i : Int)).toNat * 1)) (e := 3) (size := 1) (n := bs.length) (cap := bs.length) (v := (.int .i64 (-1))) (xs := (ints m1)) (ad' := ((⟨b8, 0, none⟩ : Addr).add (((i : Int)).toNat * 1))) (by kernel_rfl) rfl (by kernel_rfl) (by kernel_rfl) rfl hM_ 2 rfl (by omega) ?_
 intro w2 hm2 _ a2 ea _
 refine From_end (by kernel_rfl) ?_; refine op_doneJ (d := none) (by kernel_rfl) ea rfl ?_
 show match ls 7 with | true => _ | false => (_)
 rw [f7]
 exact hm2
 intro aa_ w_ ls vs rest_ hJ hi_ hc_ hp hF
 refine okG (g0 := none) ?_
 replace hF : Fr aa_ 112 [(38, (.pointer (some ((⟨b20, 0, none⟩ : Addr).add (((i : Int)).toNat * 1)))))] := hF.kp [38]
 have f5 : ls 5 = true := donebefore hc_ (fun k hk => (hp k hk).1) (n := 8) (by kernel_rfl)
 have f7 : ls 7 = false := hi_
 have hM_ := hJ
 simp only [f5, f7] at hM_
 refine From_store_row (by kernel_rfl : coreAt _ 0 = some (none, (.store 3 (.tmp 38) (.const (.int .i64 (-1)))), 0, none)) hF (by kernel_rfl) (by kernel_rfl) (k' := 1) rfl (ad := (⟨b20, 0, none⟩ : Addr)) (j := (((i : Int)).toNat * 1)) (e := 3) (size := 1) (n := bs.length) (cap := bs.length) (v := (.int .i64 (-1))) (xs := (ints m2)) (ad' := ((⟨b20, 0, none⟩ : Addr).add (((i : Int)).toNat * 1))) (by kernel_rfl) rfl (by kernel_rfl) (by kernel_rfl) rfl hM_ 4 rfl (by omega) ?_
 intro w2 hm2 _ a2 ea _
 refine From_end (by kernel_rfl) ?_; refine op_doneJ (d := none) (by kernel_rfl) ea rfl ?_
 show _
 exact hm2
 intro aC w119 ls vs hall M120 hv fr
 simp only [show ls 7 = true from hall 7 (by decide)] at M120
 revert aC; refine zkp [(1, (pT b1 0)), (4, (.slice A4 ((orderL bs).length) c5)), (5, (pT b15 0)), (6, (pT b27 0)), (29, (.int .i64 ((bs.length : Nat) : Int))), (30, (nV i))] ?_
 clear hall hv fr aC M35; clear vs ls
 refine zrg <| zar ((i : Int) + 1) <| zpn 1 <| zfe ?_
 intro aC fr
 exact ⟨bs.length - (i + 1), by omega, i + 1, m1.set i (-1), m2.set i (-1), rfl, fr.kp [1, 4, 5, 6, 29, 30], (M120.cast (by rw [ints_set, ints_set]; simp only [Int.toNat_natCast, Nat.mul_one])), by omega, fill_next h1 (by omega), fill_next h2 (by omega)⟩
end Go.Proofs.Ytejbeeaomokjpaa
namespace Go.Proofs.Ytejbeeaomokjpaa
open Go.Mor
theorem newtree_c (nm wk pa va : Value) (A : Option Addr) (c : Nat) (bs : List SB) (w : World) (hm : bs.length ≤ 1000000) (hA : RO noS w (.blocks A bs)) (h0 : 0 < bs.length) :
    Calls Try.prog 83 #[(.agg #[nm, wk, pa, va, (.slice A bs.length c)])] w (Ret fun v w' => ∃ up q gi go n insL outL f g, v = .pointer (sM q) ∧ FinU bs up ∧ FIN (kidsU bs up) n f g ∧ IntsOf bs.length insL f ∧ IntsOf bs.length outL g ∧ Mem noS w w' [.blk q 146 [.slice (sM gi) bs.length bs.length, .slice (sM go) bs.length bs.length], .row 3 1 (sM gi) bs.length bs.length (ints insL), .row 3 1 (sM go) bs.length bs.length (ints outL)]) := by
 refine zen 157 [(.agg #[nm, wk, pa, va, (.slice A bs.length c)])] Try.func83 ?_
 have hM := Mem.init w
 refine zsr <| zbx hM 24 (.agg #[nm, wk, pa, va, (.slice A bs.length c)]) [nm, wk, pa, va, (.slice A bs.length c)] fun b1 w2 hb1 M3 => ?_
 replace M3 := M3.nf
 clear hM
 refine zpn 1 <| zfe <| zsr <| zls ⟨b1, 0, none⟩ [nm, wk, pa, va, (.slice A bs.length c)] (blk_cells (M3.get 0 rfl)) <| zcl (vs := #[(.agg #[nm, wk, pa, va, (.slice A bs.length c)])]) (tree_c _ _ _ _ A c bs w2 hm (hA.at_ M3)) ?_
 rintro _ w8 ⟨A4, c5, A6, c7, rfl, hfin, M9x⟩
 have M9 := M3.cl M9x
 refine zpn 5 <| zfe <| zsr ?_
 obtain ⟨up, hf⟩ := hfin h0
 have hT := hf.tree h0
 have hall := hf.hall h0
 have h00 : 0 ≤ plB bs 0 := by rw [(plB_plc h0).zero]; omega
 have hol := orderL_len bs
 have hab := raboveL_len bs
 have hatl := atL_len bs
 refine zpn 1 <| zld ⟨b1, 4, none⟩ (.slice A bs.length c) (blk_cell (M9.get 0 rfl) rfl) <| zpn 1 ?_
 intro aC fr
 refine zMk 21 57 (.tmp 20) (.tmp 20) 57 fr (e := 37) (bytes := 24) (z := (.slice none 0 0)) (n := bs.length) (i := ((bs.length : Nat) : Int)) (by omega) (by simp only [maxLen]; omega) M9 ?_
 intro b10 w11 hb10 _ M12 _ aC ea fr; clear ea
 replace M12 := M12.nf
 revert aC
 refine zpn 1 <| zfe <| zsq <| zsr <| zls ⟨b1, 0, none⟩ [nm, wk, pa, va, (.slice A bs.length c)] (blk_cells (M12.get 0 rfl)) <| zcl (vs := #[(.agg #[nm, wk, pa, va, (.slice A bs.length c)])]) (order_c _ _ _ _ A c bs w11 hm (hA.at_ M12)) ?_
 rintro _ w19 ⟨A17, c18, rfl, M20x⟩
 have M20 := M12.cl M20x
 refine zpn 2 <| zfe <| zbk 0 ?_
 intro aC fr
 refine zlp (fun n_ a_ w_ => ∃ (k : Nat) (rows : List RowV), n_ = (orderL bs).length - k ∧ Fr a_ 157 [(1, (pT b1 0)), (3, (.slice A4 bs.length c5)), (4, (.slice A6 bs.length c7)), (5, (.slice (sM b10) bs.length bs.length)), (23, (.slice A17 ((orderL bs).length) c18)), (24, (.int .i64 (((orderL bs).length : Nat) : Int))), (25, (nV k))] ∧ Mem noS w w_ [.fam 3 rows, .blk b1 24 [nm, wk, pa, va, (.slice A bs.length c)], .row 3 1 A4 bs.length c5 (ints (raboveL bs)), .row 3 1 A6 bs.length c7 (ints (atL bs)), .row 37 1 (sM b10) bs.length bs.length (slv rows), .row 3 1 A17 ((orderL bs).length) c18 (ints (orderL bs))] ∧ (k ≤ (orderL bs).length) ∧ (FamOf (Value.int .i64) rows (kidsTo bs up k))) (n := _) ⟨0, List.replicate bs.length nilV, rfl, fr.kp [1, 3, 4, 5, 23, 24, 25], (((M20.call (Mem.nilfam _ 3 bs.length)).front 5 rfl).cast (by simp [slv, nilV])), by omega, by rw [kidsTo_zero]; exact FamOf.nils _⟩ ?_
 clear fr aC M20; rintro n aC w23 ⟨k, rows, rfl, fr, M24, hk, hfm⟩
 revert aC
 refine zsr <| zcm (decide ((k : Int) < (((orderL bs).length : Nat) : Int))) fun B27 hB27 => ?_
 refine zfe <| zsq ?_
 cases B27
 have c27 : ¬ ((k : Int) < (((orderL bs).length : Nat) : Int)) := of_decide_eq_false hB27.symm
 refine zcF <| zex 0 <| zbh <| zsq ?_
 have hke : k = (orderL bs).length := by omega
 have hkd : ∀ b : Nat, b < bs.length → ∃ Ab cb, rows[b]? = some ⟨Ab, (kidsU bs up (b : Int)).length, cb, ints (kidsU bs up (b : Int))⟩ := fun b hb => hfm.get (kidsTo_at (by omega) hb)
 have M28 := M24.od [1, 3, 4, 3] 4
 refine zkp [(1, (pT b1 0)), (3, (.slice A4 bs.length c5)), (4, (.slice A6 bs.length c7)), (5, (.slice (sM b10) bs.length bs.length)), (23, (.slice A17 ((orderL bs).length) c18)), (24, (.int .i64 (((orderL bs).length : Nat) : Int))), (25, (nV k)), (26, (.bool false))] ?_
 intro aC fr
 refine zdj (N := 157) (env0 := [(1, (pT b1 0)), (3, (.slice A4 bs.length c5)), (4, (.slice A6 bs.length c7)), (5, (.slice (sM b10) bs.length bs.length)), (23, (.slice A17 ((orderL bs).length) c18)), (24, (.int .i64 (((orderL bs).length : Nat) : Int))), (25, (nV k)), (26, (.bool false))]) (specAt [.det (pT b1 4), .det (.slice A bs.length c), .det (.int .i64 ((bs.length : Nat) : Int)), Spec.free, .det (pT b1 4), .det (.slice A bs.length c), .det (.int .i64 ((bs.length : Nat) : Int)), Spec.free, Spec.free, Spec.free, Spec.free]) (fun ls vs w_ => match ls 10 with | true => (∃ (g29 : Nat) (g30 : Nat) (b31 : Nat), vs 3 = (.slice (sM g29) bs.length bs.length) ∧ vs 7 = (.slice (sM g30) bs.length bs.length) ∧ vs 8 = (.agg #[(.slice (sM g29) bs.length bs.length), (.slice (sM g30) bs.length bs.length)]) ∧ vs 9 = (pT b31 0) ∧ vs 10 = (pT b31 0) ∧ Mem noS w w_ [.fam 3 rows, .row 37 1 (sM b10) bs.length bs.length (slv rows), .row 3 1 A6 bs.length c7 (ints (atL bs)), .blk b1 24 [nm, wk, pa, va, (.slice A bs.length c)], .row 3 1 (sM g29) bs.length bs.length (List.replicate bs.length (.int .i64 0)), .row 3 1 (sM g30) bs.length bs.length (List.replicate bs.length (.int .i64 0)), .blk b31 146 [(.slice (sM g29) bs.length bs.length), (.slice (sM g30) bs.length bs.length)]]) | false => (match ls 9 with | true => (∃ (g29 : Nat) (g30 : Nat) (b31 : Nat), vs 3 = (.slice (sM g29) bs.length bs.length) ∧ vs 7 = (.slice (sM g30) bs.length bs.length) ∧ vs 8 = (.agg #[(.slice (sM g29) bs.length bs.length), (.slice (sM g30) bs.length bs.length)]) ∧ vs 9 = (pT b31 0) ∧ Mem noS w w_ [.fam 3 rows, .row 37 1 (sM b10) bs.length bs.length (slv rows), .row 3 1 A6 bs.length c7 (ints (atL bs)), .blk b1 24 [nm, wk, pa, va, (.slice A bs.length c)], .row 3 1 (sM g29) bs.length bs.length (List.replicate bs.length (.int .i64 0)), .row 3 1 (sM g30) bs.length bs.length (List.replicate bs.length (.int .i64 0)), .blk b31 146 [(.slice (sM g29) bs.length bs.length), (.slice (sM g30) bs.length bs.length)]]) | false => (∃ (g29 : Nat) (g30 : Nat), (ls 3 = true → vs 3 = (.slice (sM g29) bs.length bs.length)) ∧ (ls 7 = true → vs 7 = (.slice (sM g30) bs.length bs.length)) ∧ (ls 8 = true → vs 8 = (.agg #[(.slice (sM g29) bs.length bs.length), (.slice (sM g30) bs.length bs.length)])) ∧ Mem noS w w_ ([.fam 3 rows, .row 37 1 (sM b10) bs.length bs.length (slv rows), .row 3 1 A6 bs.length c7 (ints (atL bs)), .blk b1 24 [nm, wk, pa, va, (.slice A bs.length c)]] ++ groupL [(ls 3, .row 3 1 (sM g29) bs.length bs.length (List.replicate bs.length (.int .i64 0))), (ls 7, .row 3 1 (sM g30) bs.length bs.length (List.replicate bs.length (.int .i64 0)))])))) fr (plain_ok (.det (.det (.det (.free (.det (.det (.det (.free (.free (.free (.free .nil)))))))))))) ⟨0, 0, fun h => Bool.noConfusion h, fun h => Bool.noConfusion h, fun h => Bool.noConfusion h, M28.then_ (Mem.drew _)⟩ (la (la (la (la (la (la (la (la (la (la (la lz (dPJ fun _ _ _ _ h => h)) (dLJ ⟨b1, 4, none⟩ (.slice A bs.length c) (fun _ _ _ _ h => h) ?_)) (dPJ fun _ _ _ _ h => h)) ?_) (dPJ fun _ _ _ _ h => h)) (dLJ ⟨b1, 4, none⟩ (.slice A bs.length c) (fun _ _ _ _ h => h) ?_)) (dPJ fun _ _ _ _ h => h)) ?_) ?_) ?_) ?_) ?_
 intro w_ ls vs hJ hi_ hc_ hp
 have f9 : ls 9 = false := notyet hc_ hi_ (n := 11) (by kernel_rfl)
 have f10 : ls 10 = false := notyet hc_ hi_ (n := 11) (by kernel_rfl)
 have f3 : ls 3 = false := notyet hc_ hi_ (n := 11) (by kernel_rfl)
 have f8 : ls 8 = false := notyet hc_ hi_ (n := 11) (by kernel_rfl)
 have hM_ := hJ
 simp only [f9, f10] at hM_
 obtain ⟨_, _, _, _, _, hM_⟩ := hM_
 exact (blk_cell (hM_.get 3 rfl) rfl)
 intro aa_ w_ ls vs rest_ hJ hi_ hc_ hp hF
 refine okG (g0 := none) ?_
 replace hF : Fr aa_ 157 [(53, (.int .i64 ((bs.length : Nat) : Int)))] := hF.kp [53]
 have f9 : ls 9 = false := notyet hc_ hi_ (n := 11) (by kernel_rfl)
 have f10 : ls 10 = false := notyet hc_ hi_ (n := 11) (by kernel_rfl)
 have f3 : ls 3 = false := hi_
 have f8 : ls 8 = false := notyet hc_ hi_ (n := 11) (by kernel_rfl)
 have hM_ := hJ
 simp only [f9, f10] at hM_
 obtain ⟨g29p, g30p, e3_, e7_, e8_, hM_⟩ := hM_
 rw [f3] at hM_
 refine zMk 54 37 (.tmp 53) (.tmp 53) 37 hF (e := 3) (bytes := 8) (z := (.int .i64 0)) (n := bs.length) (i := ((bs.length : Nat) : Int)) (by omega) (by simp only [maxLen]; omega) hM_ ?_
 intro g29q w2 _ _ hm2 _ a2 ea _
 refine From_end (by kernel_rfl) ?_; refine op_doneJ (d := some 54) (by kernel_rfl) ea trivial ?_
 show match ls 10 with | true => (∃ (g29 : Nat) (g30 : Nat) (b31 : Nat), ((.slice (sM g29q) bs.length bs.length) : Value) = (.slice (sM g29) bs.length bs.length) ∧ vs 7 = (.slice (sM g30) bs.length bs.length) ∧ vs 8 = (.agg #[(.slice (sM g29) bs.length bs.length), (.slice (sM g30) bs.length bs.length)]) ∧ vs 9 = (pT b31 0) ∧ vs 10 = (pT b31 0) ∧ Mem noS w w2 [.fam 3 rows, .row 37 1 (sM b10) bs.length bs.length (slv rows), .row 3 1 A6 bs.length c7 (ints (atL bs)), .blk b1 24 [nm, wk, pa, va, (.slice A bs.length c)], .row 3 1 (sM g29) bs.length bs.length (List.replicate bs.length (.int .i64 0)), .row 3 1 (sM g30) bs.length bs.length (List.replicate bs.length (.int .i64 0)), .blk b31 146 [(.slice (sM g29) bs.length bs.length), (.slice (sM g30) bs.length bs.length)]]) | false => (match ls 9 with | true => (∃ (g29 : Nat) (g30 : Nat) (b31 : Nat), ((.slice (sM g29q) bs.length bs.length) : Value) = (.slice (sM g29) bs.length bs.length) ∧ vs 7 = (.slice (sM g30) bs.length bs.length) ∧ vs 8 = (.agg #[(.slice (sM g29) bs.length bs.length), (.slice (sM g30) bs.length bs.length)]) ∧ vs 9 = (pT b31 0) ∧ Mem noS w w2 [.fam 3 rows, .row 37 1 (sM b10) bs.length bs.length (slv rows), .row 3 1 A6 bs.length c7 (ints (atL bs)), .blk b1 24 [nm, wk, pa, va, (.slice A bs.length c)], .row 3 1 (sM g29) bs.length bs.length (List.replicate bs.length (.int .i64 0)), .row 3 1 (sM g30) bs.length bs.length (List.replicate bs.length (.int .i64 0)), .blk b31 146 [(.slice (sM g29) bs.length bs.length), (.slice (sM g30) bs.length bs.length)]]) | false => (∃ (g29 : Nat) (g30 : Nat), (true = true → ((.slice (sM g29q) bs.length bs.length) : Value) = (.slice (sM g29) bs.length bs.length)) ∧ (ls 7 = true → vs 7 = (.slice (sM g30) bs.length bs.length)) ∧ (ls 8 = true → vs 8 = (.agg #[(.slice (sM g29) bs.length bs.length), (.slice (sM g30) bs.length bs.length)])) ∧ Mem noS w w2 ([.fam 3 rows, .row 37 1 (sM b10) bs.length bs.length (slv rows), .row 3 1 A6 bs.length c7 (ints (atL bs)), .blk b1 24 [nm, wk, pa, va, (.slice A bs.length c)]] ++ groupL [(true, .row 3 1 (sM g29) bs.length bs.length (List.replicate bs.length (.int .i64 0))), (ls 7, .row 3 1 (sM g30) bs.length bs.length (List.replicate bs.length (.int .i64 0)))])))
 rw [f10, f9]
 exact ⟨g29q, g30p, fun _ => rfl, e7_, fun h => Bool.noConfusion (f8.symm.trans h), hm2.group 0 rfl⟩
 intro w_ ls vs hJ hi_ hc_ hp
 have f9 : ls 9 = false := notyet hc_ hi_ (n := 11) (by kernel_rfl)
 have f10 : ls 10 = false := notyet hc_ hi_ (n := 11) (by kernel_rfl)
 have f7 : ls 7 = false := notyet hc_ hi_ (n := 11) (by kernel_rfl)
 have f8 : ls 8 = false := notyet hc_ hi_ (n := 11) (by kernel_rfl)
 have hM_ := hJ
 simp only [f9, f10] at hM_
 obtain ⟨_, _, _, _, _, hM_⟩ := hM_
 exact (blk_cell (hM_.get 3 rfl) rfl)
 intro aa_ w_ ls vs rest_ hJ hi_ hc_ hp hF
 refine okG (g0 := none) ?_
 replace hF : Fr aa_ 157 [(57, (.int .i64 ((bs.length : Nat) : Int)))] := hF.kp [57]
 have f9 : ls 9 = false := notyet hc_ hi_ (n := 11) (by kernel_rfl)
 have f10 : ls 10 = false := notyet hc_ hi_ (n := 11) (by kernel_rfl)
 have f7 : ls 7 = false := hi_
 have f8 : ls 8 = false := notyet hc_ hi_ (n := 11) (by kernel_rfl)
 have hM_ := hJ
 simp only [f9, f10] at hM_
 obtain ⟨g29p, g30p, e3_, e7_, e8_, hM_⟩ := hM_
 rw [f7] at hM_
 refine zMk 58 37 (.tmp 57) (.tmp 57) 37 hF (e := 3) (bytes := 8) (z := (.int .i64 0)) (n := bs.length) (i := ((bs.length : Nat) : Int)) (by omega) (by simp only [maxLen]; omega) hM_ ?_
 intro g30q w2 _ _ hm2 _ a2 ea _
 refine From_end (by kernel_rfl) ?_; refine op_doneJ (d := some 58) (by kernel_rfl) ea trivial ?_
 show match ls 10 with | true => (∃ (g29 : Nat) (g30 : Nat) (b31 : Nat), vs 3 = (.slice (sM g29) bs.length bs.length) ∧ ((.slice (sM g30q) bs.length bs.length) : Value) = (.slice (sM g30) bs.length bs.length) ∧ vs 8 = (.agg #[(.slice (sM g29) bs.length bs.length), (.slice (sM g30) bs.length bs.length)]) ∧ vs 9 = (pT b31 0) ∧ vs 10 = (pT b31 0) ∧ Mem noS w w2 [.fam 3 rows, .row 37 1 (sM b10) bs.length bs.length (slv rows), .row 3 1 A6 bs.length c7 (ints (atL bs)), .blk b1 24 [nm, wk, pa, va, (.slice A bs.length c)], .row 3 1 (sM g29) bs.length bs.length (List.replicate bs.length (.int .i64 0)), .row 3 1 (sM g30) bs.length bs.length (List.replicate bs.length (.int .i64 0)), .blk b31 146 [(.slice (sM g29) bs.length bs.length), (.slice (sM g30) bs.length bs.length)]]) | false => (match ls 9 with | true => (∃ (g29 : Nat) (g30 : Nat) (b31 : Nat), vs 3 = (.slice (sM g29) bs.length bs.length) ∧ ((.slice (sM g30q) bs.length bs.length) : Value) = (.slice (sM g30) bs.length bs.length) ∧ vs 8 = (.agg #[(.slice (sM g29) bs.length bs.length), (.slice (sM g30) bs.length bs.length)]) ∧ vs 9 = (pT b31 0) ∧ Mem noS w w2 [.fam 3 rows, .row 37 1 (sM b10) bs.length bs.length (slv rows), .row 3 1 A6 bs.length c7 (ints (atL bs)), .blk b1 24 [nm, wk, pa, va, (.slice A bs.length c)], .row 3 1 (sM g29) bs.length bs.length (List.replicate bs.length (.int .i64 0)), .row 3 1 (sM g30) bs.length bs.length (List.replicate bs.length (.int .i64 0)), .blk b31 146 [(.slice (sM g29) bs.length bs.length), (.slice (sM g30) bs.length bs.length)]]) | false => (∃ (g29 : Nat) (g30 : Nat), (ls 3 = true → vs 3 = (.slice (sM g29) bs.length bs.length)) ∧ (true = true → ((.slice (sM g30q) bs.length bs.length) : Value) = (.slice (sM g30) bs.length bs.length)) ∧ (ls 8 = true → vs 8 = (.agg #[(.slice (sM g29) bs.length bs.length), (.slice (sM g30) bs.length bs.length)])) ∧ Mem noS w w2 ([.fam 3 rows, .row 37 1 (sM b10) bs.length bs.length (slv rows), .row 3 1 A6 bs.length c7 (ints (atL bs)), .blk b1 24 [nm, wk, pa, va, (.slice A bs.length c)]] ++ groupL [(ls 3, .row 3 1 (sM g29) bs.length bs.length (List.replicate bs.length (.int .i64 0))), (true, .row 3 1 (sM g30) bs.length bs.length (List.replicate bs.length (.int .i64 0)))])))
 rw [f10, f9]
 exact ⟨g29p, g30q, e3_, fun _ => rfl, fun h => Bool.noConfusion (f8.symm.trans h), hm2.group 1 rfl⟩
 intro aa_ w_ ls vs rest_ hJ hi_ hc_ hp hF
 refine okG (g0 := none) ?_
 replace hF : Fr aa_ 157 [(54, vs 3), (58, vs 7)] := hF.kp [54, 58]
 have f9 : ls 9 = false := notyet hc_ hi_ (n := 11) (by kernel_rfl)
 have f10 : ls 10 = false := notyet hc_ hi_ (n := 11) (by kernel_rfl)
 have f3 : ls 3 = true := donebefore hc_ (fun k hk => (hp k hk).1) (n := 11) (by kernel_rfl)
 have f7 : ls 7 = true := donebefore hc_ (fun k hk => (hp k hk).1) (n := 11) (by kernel_rfl)
 have f8 : ls 8 = false := hi_
 have hM_ := hJ
 simp only [f9, f10] at hM_
 obtain ⟨g29p, g30p, e3_, e7_, e8_, hM_⟩ := hM_
 replace e3_ := e3_ f3; try rw [e3_] at hF
 replace e7_ := e7_ f7; try rw [e7_] at hF
 refine From_pure1 (by kernel_rfl : coreAt _ 0 = some (some 59, (.build 146 #[(0, (.tmp 54)), (1, (.tmp 58))]), 146, none)) hF (by kernel_rfl) (by kernel_rfl) (k' := 1) rfl (v := (.agg #[(.slice (sM g29p) bs.length bs.length), (.slice (sM g30p) bs.length bs.length)])) (by kernel_rfl) ?_
 intro a2 ea _
 refine From_end (by kernel_rfl) ?_; refine op_doneJ (d := some 59) (by kernel_rfl) ea trivial ?_
 show match ls 10 with | true => (∃ (g29 : Nat) (g30 : Nat) (b31 : Nat), vs 3 = (.slice (sM g29) bs.length bs.length) ∧ vs 7 = (.slice (sM g30) bs.length bs.length) ∧ ((.agg #[(.slice (sM g29p) bs.length bs.length), (.slice (sM g30p) bs.length bs.length)]) : Value) = (.agg #[(.slice (sM g29) bs.length bs.length), (.slice (sM g30) bs.length bs.length)]) ∧ vs 9 = (pT b31 0) ∧ vs 10 = (pT b31 0) ∧ Mem noS w w_ [.fam 3 rows, .row 37 1 (sM b10) bs.length bs.length (slv rows), .row 3 1 A6 bs.length c7 (ints (atL bs)), .blk b1 24 [nm, wk, pa, va, (.slice A bs.length c)], .row 3 1 (sM g29) bs.length bs.length (List.replicate bs.length (.int .i64 0)), .row 3 1 (sM g30) bs.length bs.length (List.replicate bs.length (.int .i64 0)), .blk b31 146 [(.slice (sM g29) bs.length bs.length), (.slice (sM g30) bs.length bs.length)]]) | false => (match ls 9 with | true => (∃ (g29 : Nat) (g30 : Nat) (b31 : Nat), vs 3 = (.slice (sM g29) bs.length bs.length) ∧ vs 7 = (.slice (sM g30) bs.length bs.length) ∧ ((.agg #[(.slice (sM g29p) bs.length bs.length), (.slice (sM g30p) bs.length bs.length)]) : Value) = (.agg #[(.slice (sM g29) bs.length bs.length), (.slice (sM g30) bs.length bs.length)]) ∧ vs 9 = (pT b31 0) ∧ Mem noS w w_ [.fam 3 rows, .row 37 1 (sM b10) bs.length bs.length (slv rows), .row 3 1 A6 bs.length c7 (ints (atL bs)), .blk b1 24 [nm, wk, pa, va, (.slice A bs.length c)], .row 3 1 (sM g29) bs.length bs.length (List.replicate bs.length (.int .i64 0)), .row 3 1 (sM g30) bs.length bs.length (List.replicate bs.length (.int .i64 0)), .blk b31 146 [(.slice (sM g29) bs.length bs.length), (.slice (sM g30) bs.length bs.length)]]) | false => (∃ (g29 : Nat) (g30 : Nat), (ls 3 = true → vs 3 = (.slice (sM g29) bs.length bs.length)) ∧ (ls 7 = true → vs 7 = (.slice (sM g30) bs.length bs.length)) ∧ (true = true → ((.agg #[(.slice (sM g29p) bs.length bs.length), (.slice (sM g30p) bs.length bs.length)]) : Value) = (.agg #[(.slice (sM g29) bs.length bs.length), (.slice (sM g30) bs.length bs.length)])) ∧ Mem noS w w_ ([.fam 3 rows, .row 37 1 (sM b10) bs.length bs.length (slv rows), .row 3 1 A6 bs.length c7 (ints (atL bs)), .blk b1 24 [nm, wk, pa, va, (.slice A bs.length c)]] ++ groupL [(ls 3, .row 3 1 (sM g29) bs.length bs.length (List.replicate bs.length (.int .i64 0))), (ls 7, .row 3 1 (sM g30) bs.length bs.length (List.replicate bs.length (.int .i64 0)))])))
 rw [f10, f9]
 exact ⟨g29p, g30p, fun _ => e3_, fun _ => e7_, fun _ => rfl, hM_⟩
 intro aa_ w_ ls vs rest_ hJ hi_ hc_ hp hF
 refine okG (g0 := none) ?_
 replace hF : Fr aa_ 157 [(59, vs 8)] := hF.kp [59]
 have f9 : ls 9 = false := hi_
 have f10 : ls 10 = false := notyet hc_ hi_ (n := 11) (by kernel_rfl)
 have f3 : ls 3 = true := donebefore hc_ (fun k hk => (hp k hk).1) (n := 11) (by kernel_rfl)
 have f7 : ls 7 = true := donebefore hc_ (fun k hk => (hp k hk).1) (n := 11) (by kernel_rfl)
 have f8 : ls 8 = true := donebefore hc_ (fun k hk => (hp k hk).1) (n := 11) (by kernel_rfl)
 have hM_ := hJ
 simp only [f9, f10] at hM_
 obtain ⟨g29p, g30p, e3_, e7_, e8_, hM_⟩ := hM_
 replace e3_ := e3_ f3; try rw [e3_] at hF
 replace e7_ := e7_ f7; try rw [e7_] at hF
 replace e8_ := e8_ f8; try rw [e8_] at hF
 rw [f3, f7] at hM_
 change Mem noS w w_ [.fam 3 rows, .row 37 1 (sM b10) bs.length bs.length (slv rows), .row 3 1 A6 bs.length c7 (ints (atL bs)), .blk b1 24 [nm, wk, pa, va, (.slice A bs.length c)], .row 3 1 (sM g29p) bs.length bs.length (List.replicate bs.length (.int .i64 0)), .row 3 1 (sM g30p) bs.length bs.length (List.replicate bs.length (.int .i64 0))] at hM_
 refine From_box (by kernel_rfl : coreAt _ 0 = some (some 60, (.box 146 (.tmp 59)), 100, none)) hF (by kernel_rfl) (by kernel_rfl) (k' := 1) rfl (v := (.agg #[(.slice (sM g29p) bs.length bs.length), (.slice (sM g30p) bs.length bs.length)])) (cs := [(.slice (sM g29p) bs.length bs.length), (.slice (sM g30p) bs.length bs.length)]) (by kernel_rfl) rfl hM_ ?_
 intro b31p w2 _ _ hm2 _ a2 ea _
 refine From_end (by kernel_rfl) ?_; refine op_doneJ (d := some 60) (by kernel_rfl) ea trivial ?_
 show match ls 10 with | true => _ | false => (∃ (g29 : Nat) (g30 : Nat) (b31 : Nat), _)
 rw [f10]
 exact ⟨g29p, g30p, b31p, e3_, e7_, e8_, rfl, hm2⟩
 intro aa_ w_ ls vs rest_ hJ hi_ hc_ hp hF
 refine okG (g0 := none) ?_
 replace hF : Fr aa_ 157 [(60, vs 9)] := hF.kp [60]
 have f9 : ls 9 = true := donebefore hc_ (fun k hk => (hp k hk).1) (n := 11) (by kernel_rfl)
 have f10 : ls 10 = false := hi_
 have f3 : ls 3 = true := donebefore hc_ (fun k hk => (hp k hk).1) (n := 11) (by kernel_rfl)
 have f7 : ls 7 = true := donebefore hc_ (fun k hk => (hp k hk).1) (n := 11) (by kernel_rfl)
 have f8 : ls 8 = true := donebefore hc_ (fun k hk => (hp k hk).1) (n := 11) (by kernel_rfl)
 have hM_ := hJ
 simp only [f9, f10] at hM_
 obtain ⟨g29p, g30p, b31p, e3_, e7_, e8_, e9_, hM_⟩ := hM_
 try rw [e3_] at hF
 try rw [e7_] at hF
 try rw [e8_] at hF
 try rw [e9_] at hF
 have hm2 := hM_
 refine From_pure1 (by kernel_rfl : coreAt _ 0 = some (some 8, (.assign (.tmp 60)), 100, none)) hF (by kernel_rfl) (by kernel_rfl) (k' := 1) rfl (v := (pT b31p 0)) (by kernel_rfl) ?_
 intro a2 ea _
 refine From_end (by kernel_rfl) ?_; refine op_doneJ (d := some 8) (by kernel_rfl) ea trivial ?_
 show ∃ (g29 : Nat) (g30 : Nat) (b31 : Nat), _
 exact ⟨g29p, g30p, b31p, e3_, e7_, e8_, e9_, rfl, hm2⟩
 intro aC w36 ls vs hall M37 hv fr
 simp only [show ls 10 = true from hall 10 (by decide)] at M37
 revert aC; refine zkp [(1, (pT b1 0)), (4, (.slice A6 bs.length c7)), (5, (.slice (sM b10) bs.length bs.length)), (8, vs 10)] ?_
 obtain ⟨g29, g30, b31, e3_, e7_, e8_, e9_, e10_, M37⟩ := M37
 try rw [e3_]
 try rw [e7_]
 try rw [e8_]
 try rw [e9_]
 try rw [e10_]
 clear e3_ e7_ e8_ e9_ e10_
 clear hall hv fr aC M28; clear vs ls
 refine zsp <| zsr ?_
 intro aC fr
 refine From_build0 (by kernel_rfl : coreAt _ 0 = some (some 61, (.buildSlice 137 0 #[]), 137, none)) fr (by kernel_rfl) (by kernel_rfl) (k' := 1) rfl (e := 136) (size := 2) (by kernel_rfl) (by kernel_rfl) M37 ?_
 intro b38 w39 hb38 _ M40 _ aC ea fr; clear ea
 replace M40 := M40.nf
 revert aC
 refine zpn 1 <| zfe <| zsq <| zsr <| zpn 1 <| zld ⟨b1, 4, none⟩ (.slice A bs.length c) (blk_cell (M40.get 3 rfl) rfl) <| zpn 1 <| zcm (decide (((bs.length : Nat) : Int) > 0)) fun B45 hB45 => ?_
 obtain rfl : B45 = true := by
   have hkn : ((((bs.length : Nat) : Int) : Int) > 0) := by omega
   first | exact hB45.trans (decide_eq_true hkn) | exact hB45.trans (decide_eq_false hkn) | exact hB45.trans (beq_iff_eq.2 hkn) | exact hB45.trans (bne_iff_ne.2 hkn) | exact hB45.trans (Bool.eq_false_iff.2 (fun e => hkn (beq_iff_eq.1 e))) | exact hB45.trans (Bool.eq_false_iff.2 (fun e => hkn (bne_iff_ne.1 e)))
 clear hB45
 refine zpn 2 ?_
 obtain ⟨g47, rfl⟩ := row_some (M40.get 2 rfl) (by omega)
 refine zix ⟨g47, 0, none⟩ bs.length 1 0 <| zld ((⟨g47, 0, none⟩ : Addr).add ((0 : Int).toNat * 1)) (.int .i64 0) (rd_get1 (row_rd (M40.get 2 rfl)) rfl (at_eq (atL_of bs) (by omega) (by omega) (plB_plc h0).zero)) <| zcm (decide ((0 : Int) ≥ 0)) fun B48 hB48 => ?_
 obtain rfl : B48 = true := by
   have hkn : ((0 : Int) ≥ 0) := by omega
   first | exact hB48.trans (decide_eq_true hkn) | exact hB48.trans (decide_eq_false hkn) | exact hB48.trans (beq_iff_eq.2 hkn) | exact hB48.trans (bne_iff_ne.2 hkn) | exact hB48.trans (Bool.eq_false_iff.2 (fun e => hkn (beq_iff_eq.1 e))) | exact hB48.trans (Bool.eq_false_iff.2 (fun e => hkn (bne_iff_ne.1 e)))
 clear hB48
 refine zpn 1 <| zfe <| zcT <| zrg <| zpn 2 ?_
 intro aC fr
 refine zBs 74 137 1 #[(0, (.tmp 73))] 137 fr (e := 136) (size := 2) (zs := [(.int .i64 0), (.int .i64 0)]) (vs := [(0, (.agg #[(.int .i64 0), (.int .i64 0)]))]) (cs := [(.int .i64 0), (.int .i64 0)]) M40 ?_
 intro b49 w50 hb49 _ M51 _ aC ea fr; clear ea
 replace M51 := M51.nf
 refine zAp 75 (.tmp 72) (.tmp 74) 137 137 fr (e := 136) (size := 2) (bytes := 16) (z := (.agg #[(.int .i64 0), (.int .i64 0)])) (A := (sM b38)) (B := (sM b49)) (n := 0) (cap := 0) (m := 1) (cap' := 1) (xs := []) (news := [(.int .i64 0), (.int .i64 0)]) M51 7 rfl (row_rd (M51.get 8 rfl)) rfl (by simp [Value.oneCell']) (by omega) (by simp only [maxLen]; omega) ?_
 intro A56 c57 w58 M59 _ aC ea fr; clear ea
 replace M59 := M59.nf
 have M62 := M59.od [7, 7, 7, 7, 7, 7, 7, 7] 8
 revert aC
 refine zpn 1 <| zfe <| zsq <| zbk 2 ?_
 have M63 := M62.od [7, 6, 6, 7, 5, 5] 6
 intro aC fr
 refine zlp (fun n_ a_ w_ => ∃ (way : List (Int × Int)) (wn : Nat) (n : Nat) (f : Int → Int) (g : Int → Int) (A3 : Option Addr) (c3 : Nat) (insL : List Int) (outL : List Int), n_ = 2 * (2 * bs.length - n) + wflag way ∧ Fr a_ 157 [(5, (.slice (sM b10) bs.length bs.length)), (8, (pT b31 0)), (9, (nV n)), (10, (.slice A3 wn c3))] ∧ Mem noS w w_ [.fam 3 rows, .row 37 1 (sM b10) bs.length bs.length (slv rows), .blk b31 146 [(.slice (sM g29) bs.length bs.length), (.slice (sM g30) bs.length bs.length)], .row 3 1 (sM g29) bs.length bs.length (ints insL), .row 3 1 (sM g30) bs.length bs.length (ints outL), .row 136 2 A3 wn c3 (mdc way)] ∧ (wn = way.length) ∧ (HEAD (kidsU bs up) way n f g) ∧ (IntsOf bs.length insL f) ∧ (IntsOf bs.length outL g)) (n := _) ⟨[(0, 0)], 0 + 1, 0, fun _ => 0, fun _ => 0, A56, c57, List.replicate bs.length 0, List.replicate bs.length 0, rfl, fr.kp [5, 8, 9, 10], (M63.cast (by simp [ints, mdc])), rfl, HEAD.start, ints_zero _, ints_zero _⟩ ?_
 clear fr aC M63; rintro n aC w66 ⟨way, wn, n, f, g, A3, c3, insL, outL, rfl, fr, M67, hwn, hh, hin, hout⟩
 revert aC
 refine zsq <| zsr <| zpn 2 <| zcm (decide (((wn : Nat) : Int) > 0)) fun Bw hBw => ?_
 refine zfe ?_
 cases Bw
 have cw : ¬ (((wn : Nat) : Int) > 0) := of_decide_eq_false hBw.symm
 refine zcF <| zex 2 <| zbh <| zsp <| zre <| zo1 (pT b31 0) ?_
 obtain rfl : way = [] := by cases way with | nil => rfl | cons p r => (simp at hwn; omega)
 have M70 := M67.od [4, 4, 4] 3
 exact ⟨up, b31, _, _, n, insL, outL, f, g, rfl, hf, hh.none, hin, hout, M70⟩
 have cw : ((wn : Nat) : Int) > 0 := of_decide_eq_true hBw.symm
 refine zcT <| zsk <| zbk 3 <| zsr ?_
 obtain ⟨ws, b, k, rfl, hu⟩ := hh.some (by rw [← hwn]; omega)
 have hbp : 0 ≤ plB bs b := by rcases hu with ⟨_, h⟩ | ⟨_, h⟩ <;> exact h.pos hT h00
 have hbr := plB_rng h0 hbp
 obtain ⟨bi, rfl⟩ := Int.eq_ofNat_of_zero_le hbr.1
 have hbn : bi < bs.length := by omega
 have hNR : ∀ x, 0 ≤ plB bs x → 0 ≤ x ∧ x < (bs.length : Int) := fun x hx => plB_rng h0 hx
 have hwb : ws.length ≤ n ∧ n + 1 ≤ 2 * bs.length := by rcases hu with ⟨_, h⟩ | ⟨_, h⟩ <;> (have q1 := h.wlen; have q2 := h.bound hT h00 hNR; omega)
 have hlw : wn = ws.length + 1 := by rw [hwn]; simp
 obtain ⟨Ab, cb, hrb⟩ := hkd bi hbn
 obtain ⟨g3, rfl⟩ := row_some (M67.get 5 rfl) (by rw [hlw]; omega)
 have hcap := row_le (M67.get 5 rfl)
 rw [hlw] at hcap
 refine zpn 3 ?_
 intro aC fr
 refine From_arith (by kernel_rfl : coreAt _ 3 = some (some 82, (.binOp .sub 3 (.tmp 81) (.const (.int .i64 1)) 3), 3, none)) fr (by kernel_rfl) (by kernel_rfl) (k' := 4) rfl (i := ((wn : Nat) : Int)) (j := 1) (z := ((ws.length : Nat) : Int)) (by kernel_rfl) (by kernel_rfl) (congrArg some (by rw [hlw]; omega)) (by omega) (by omega) ?_
 intro aC ea fr; clear ea
 revert aC
 refine zix (h1 := (by rw [hlw]; omega)) ⟨g3, 0, none⟩ wn 2 ((ws.length : Nat) : Int) <| zpn 1 <| zfe <| zsq ?_
 intro aC fr
 refine W_cut (fun a_ w_ => ∃ (n2 : Nat) (f2 : Int → Int) (ins2 : List Int), Fr a_ 157 [(5, (.slice (sM b10) bs.length bs.length)), (8, (pT b31 0)), (9, (nV n2)), (10, (.slice (sM g3) wn c3)), (11, (.pointer (some ((⟨g3, 0, none⟩ : Addr).add ((((ws.length : Nat) : Int)).toNat * 2)))))] ∧ Mem noS w w_ [.fam 3 rows, .row 37 1 (sM b10) bs.length bs.length (slv rows), .blk b31 146 [(.slice (sM g29) bs.length bs.length), (.slice (sM g30) bs.length bs.length)], .row 3 1 (sM g29) bs.length bs.length (ints ins2), .row 3 1 (sM g30) bs.length bs.length (ints outL), .row 136 2 (sM g3) wn c3 (mdc (ws ++ [((bi : Int), (k : Int))]))] ∧ (STA (kidsU bs up) ws (bi : Int) k n2 f2 g) ∧ (n2 = n + (if (k : Int) = 0 then 1 else 0)) ∧ (IntsOf bs.length ins2 f2)) ?_ ?_
 clear fr aC M67; rintro aC w77 ⟨n2, f2, ins2, fr, M78, hs2, hn2, hin2⟩
 revert aC
 refine zsq <| zsq ?_
 have hb2 := hs2.bound hT h00 hNR
 have hw2 := hs2.wlen
 obtain ⟨Bl, hBl⟩ : ∃ B : Bool, B = ((k : Int) == (((kidsU bs up (bi : Int)).length : Nat) : Int)) := ⟨_, rfl⟩
 refine zkp [(5, (.slice (sM b10) bs.length bs.length)), (8, (pT b31 0)), (9, (nV n2)), (10, (.slice (sM g3) wn c3)), (11, (.pointer (some ((⟨g3, 0, none⟩ : Addr).add ((((ws.length : Nat) : Int)).toNat * 2)))))] ?_
 intro aC fr
 refine zdr (N := 157) (env0 := [(5, (.slice (sM b10) bs.length bs.length)), (8, (pT b31 0)), (9, (nV n2)), (10, (.slice (sM g3) wn c3)), (11, (.pointer (some ((⟨g3, 0, none⟩ : Addr).add ((((ws.length : Nat) : Int)).toNat * 2)))))]) (specAt [.det (.pointer (some ((⟨g3, 0, none⟩ : Addr).add ((((ws.length : Nat) : Int)).toNat * 2)))), .det (.pointer (some ((⟨g3, 0, none⟩ : Addr).add ((((ws.length : Nat) : Int)).toNat * 2)))), .det (.pointer (some (((⟨g3, 0, none⟩ : Addr).add ((((ws.length : Nat) : Int)).toNat * 2)).add 1))), .det (nV k), .det (.slice (sM b10) bs.length bs.length), .det (.pointer (some ((⟨g3, 0, none⟩ : Addr).add ((((ws.length : Nat) : Int)).toNat * 2)))), .det (.pointer (some ((⟨g3, 0, none⟩ : Addr).add ((((ws.length : Nat) : Int)).toNat * 2)))), .det (.pointer (some ((⟨g3, 0, none⟩ : Addr).add ((((ws.length : Nat) : Int)).toNat * 2)))), .det (nV bi), .det (.pointer (some ((⟨b10, 0, none⟩ : Addr).add (((bi : Int)).toNat * 1)))), .det (.slice Ab ((kidsU bs up (bi : Int)).length) cb), .det (.int .i64 (((kidsU bs up (bi : Int)).length : Nat) : Int)), .det (.bool Bl)]) fr (la (la (la (la (la (la (la (la (la (la (la (la (la lz dP) dP) dP) (dL (((⟨g3, 0, none⟩ : Addr).add ((((ws.length : Nat) : Int)).toNat * 2)).add 1) (nV k) fun w_ hK => (by rw [Int.toNat_natCast, add_add]; exact rd_get (row_rd ((M78.then_ hK).get 5 rfl)) rfl (mdc_top _ _ _).2))) dP) dP) dP) dP) (dL ((⟨g3, 0, none⟩ : Addr).add ((((ws.length : Nat) : Int)).toNat * 2)) (nV bi) fun w_ hK => (by rw [Int.toNat_natCast]; exact rd_get (row_rd ((M78.then_ hK).get 5 rfl)) rfl (mdc_top _ _ _).1))) (dI ⟨b10, 0, none⟩ bs.length 1 (bi : Int))) (dL ((⟨b10, 0, none⟩ : Addr).add (((bi : Int)).toNat * 1)) (.slice Ab ((kidsU bs up (bi : Int)).length) cb) fun w_ hK => (rd_get1 (row_rd ((M78.then_ hK).get 1 rfl)) rfl (slv_get hrb)))) dP) (dC ((k : Int) == (((kidsU bs up (bi : Int)).length : Nat) : Int)) hBl)) ?_
 intro aC w85 vs hK hv fr
 revert aC; refine zkp [(5, (.slice (sM b10) bs.length bs.length)), (8, (pT b31 0)), (9, (nV n2)), (10, (.slice (sM g3) wn c3)), (11, (.pointer (some ((⟨g3, 0, none⟩ : Addr).add ((((ws.length : Nat) : Int)).toNat * 2))))), (113, (.bool Bl))] ?_
 have M86 := M78.then_ hK
 clear hK hv fr aC M78; clear vs
 cases Bl
 have cl : ¬ ((k : Int) = (((kidsU bs up (bi : Int)).length : Nat) : Int)) := zne hBl
 have hkl : ¬ k = (kidsU bs up (bi : Int)).length := by omega
 refine zcF <| zsk <| zsq ?_
 have hs2l : k ≤ (kidsU bs up (bi : Int)).length := by obtain ⟨_, _, _, _, _, _, h, _⟩ := hs2; exact h
 obtain ⟨ci, hci, hcn⟩ := kid_nat (up := up) h0 (b := (bi : Int)) (k := k) (by omega)
 obtain ⟨adb, rfl⟩ := rd_some (fam_rd (M86.get 0 rfl) hrb) (by simp [ints]; omega)
 refine zkp [(5, (.slice (sM b10) bs.length bs.length)), (8, (pT b31 0)), (9, (nV n2)), (10, (.slice (sM g3) wn c3)), (11, (.pointer (some ((⟨g3, 0, none⟩ : Addr).add ((((ws.length : Nat) : Int)).toNat * 2))))), (113, (.bool false))] ?_
 intro aC fr
 refine zdr (N := 157) (env0 := [(5, (.slice (sM b10) bs.length bs.length)), (8, (pT b31 0)), (9, (nV n2)), (10, (.slice (sM g3) wn c3)), (11, (.pointer (some ((⟨g3, 0, none⟩ : Addr).add ((((ws.length : Nat) : Int)).toNat * 2))))), (113, (.bool false))]) (specAt [.det (.slice (sM b10) bs.length bs.length), .det (.pointer (some ((⟨g3, 0, none⟩ : Addr).add ((((ws.length : Nat) : Int)).toNat * 2)))), .det (.pointer (some ((⟨g3, 0, none⟩ : Addr).add ((((ws.length : Nat) : Int)).toNat * 2)))), .det (.pointer (some ((⟨g3, 0, none⟩ : Addr).add ((((ws.length : Nat) : Int)).toNat * 2)))), .det (nV bi), .det (.pointer (some ((⟨b10, 0, none⟩ : Addr).add (((bi : Int)).toNat * 1)))), .det (.slice (some adb) ((kidsU bs up (bi : Int)).length) cb), .det (.pointer (some ((⟨g3, 0, none⟩ : Addr).add ((((ws.length : Nat) : Int)).toNat * 2)))), .det (.pointer (some ((⟨g3, 0, none⟩ : Addr).add ((((ws.length : Nat) : Int)).toNat * 2)))), .det (.pointer (some (((⟨g3, 0, none⟩ : Addr).add ((((ws.length : Nat) : Int)).toNat * 2)).add 1))), .det (nV k), .det (.pointer (some ((adb : Addr).add (((k : Int)).toNat * 1)))), .det (nV ci), .det (nV ci)]) fr (la (la (la (la (la (la (la (la (la (la (la (la (la (la lz dP) dP) dP) dP) (dL ((⟨g3, 0, none⟩ : Addr).add ((((ws.length : Nat) : Int)).toNat * 2)) (nV bi) fun w_ hK => (by rw [Int.toNat_natCast]; exact rd_get (row_rd ((M86.then_ hK).get 5 rfl)) rfl (mdc_top _ _ _).1))) (dI ⟨b10, 0, none⟩ bs.length 1 (bi : Int))) (dL ((⟨b10, 0, none⟩ : Addr).add (((bi : Int)).toNat * 1)) (.slice (some adb) ((kidsU bs up (bi : Int)).length) cb) fun w_ hK => (rd_get1 (row_rd ((M86.then_ hK).get 1 rfl)) rfl (slv_get hrb)))) dP) dP) dP) (dL (((⟨g3, 0, none⟩ : Addr).add ((((ws.length : Nat) : Int)).toNat * 2)).add 1) (nV k) fun w_ hK => (by rw [Int.toNat_natCast, add_add]; exact rd_get (row_rd ((M86.then_ hK).get 5 rfl)) rfl (mdc_top _ _ _).2))) (dI adb ((kidsU bs up (bi : Int)).length) 1 (k : Int))) (dL ((adb : Addr).add (((k : Int)).toNat * 1)) (nV ci) fun w_ hK => (rd_at (fam_rd ((M86.then_ hK).get 0 rfl) hrb) rfl hci))) dP) ?_
 intro aC w91 vs hK hv fr
 revert aC; refine zkp [(5, (.slice (sM b10) bs.length bs.length)), (8, (pT b31 0)), (9, (nV n2)), (10, (.slice (sM g3) wn c3)), (11, (.pointer (some ((⟨g3, 0, none⟩ : Addr).add ((((ws.length : Nat) : Int)).toNat * 2))))), (12, (nV ci))] ?_
 have M92 := M86.then_ hK
 clear hK hv fr aC M86; clear vs
 refine zsr <| zpn 3 <| zld (((⟨g3, 0, none⟩ : Addr).add ((((ws.length : Nat) : Int)).toNat * 2)).add 1) (nV k) (by rw [Int.toNat_natCast, add_add]; exact rd_get (row_rd (M92.get 5 rfl)) rfl (mdc_top _ _ _).2) <| zar (h2 := (by have := kidsU_len (bs := bs) (up := up) (bi : Int); omega)) ((k : Int) + 1) <| zpn 2 <| zsw M92 5 (((⟨g3, 0, none⟩ : Addr).add ((((ws.length : Nat) : Int)).toNat * 2)).add 1) (ws.length * 2 + 1) (.int .i64 ((k : Int) + 1)) rfl (by rw [Int.toNat_natCast, add_add]) (by rw [hlw]; omega) fun w93 M94 => ?_
 replace M94 := M94.nf
 refine zfe <| zrg ?_
 have M95 : Mem noS w w93 [.fam 3 rows, .row 37 1 (sM b10) bs.length bs.length (slv rows), .blk b31 146 [(.slice (sM g29) bs.length bs.length), (.slice (sM g30) bs.length bs.length)], .row 3 1 (sM g29) bs.length bs.length (ints ins2), .row 3 1 (sM g30) bs.length bs.length (ints outL), .row 136 2 (sM g3) wn c3 (mdc (ws ++ [((bi : Int), (k : Int) + 1)]))] := M94.cast (by rw [mdc_inc])
 refine zpn 3 ?_
 intro aC fr
 refine zBs 154 137 1 #[(0, (.tmp 153))] 137 fr (e := 136) (size := 2) (zs := [(.int .i64 0), (.int .i64 0)]) (vs := [(0, (.agg #[(nV ci), (.int .i64 0)]))]) (cs := [(nV ci), (.int .i64 0)]) M95 ?_
 intro b96 w97 hb96 _ M98 _ aC ea fr; clear ea
 replace M98 := M98.nf
 refine zAp 155 (.tmp 151) (.tmp 154) 137 137 fr (e := 136) (size := 2) (bytes := 16) (z := (.agg #[(.int .i64 0), (.int .i64 0)])) (A := (sM g3)) (B := (sM b96)) (n := wn) (cap := c3) (m := 1) (cap' := 1) (xs := (mdc (ws ++ [((bi : Int), (k : Int) + 1)]))) (news := [(nV ci), (.int .i64 0)]) M98 5 rfl (row_rd (M98.get 6 rfl)) rfl (by simp [Value.oneCell']) (by rw [hlw]; omega) (by simp only [maxLen]; rw [hlw]; omega) ?_
 intro A103 c104 w105 M106 _ aC ea fr; clear ea
 replace M106 := M106.nf
 have M109 := M106.od [5, 5, 5, 5, 5, 5] 6
 revert aC
 refine zpn 1 <| zfe ?_
 intro aC fr
 exact ⟨2 * (2 * bs.length - n2) + wflag (ws ++ [((bi : Int), (k : Int) + 1)] ++ [((ci : Int), 0)]), by rw [wflag_snoc, wflag_snoc]; split at hn2 <;> simp only [*, if_true, if_false] <;> omega, ws ++ [((bi : Int), (k : Int) + 1)] ++ [((ci : Int), 0)], wn + 1, n2, f2, g, A103, c104, ins2, outL, rfl, fr.kp [5, 8, 9, 10], ((M109.pick [true, true, true, true, true, true] rfl).cast (by simp only [pickL, mdc_push])), by simp only [List.length_append, List.length_cons, List.length_nil]; omega, .inr ⟨_, _, 0, rfl, .inl ⟨rfl, hs2.push hci⟩⟩, hin2, hout⟩
 have cl : (k : Int) = (((kidsU bs up (bi : Int)).length : Nat) : Int) := beq_iff_eq.1 hBl.symm
 have hkl : k = (kidsU bs up (bi : Int)).length := by omega
 refine zcT <| zsr <| zpn 1 <| zar ((n2 : Int) + 1) <| zpn 1 <| zfe <| zsq <| zkp [(5, (.slice (sM b10) bs.length bs.length)), (8, (pT b31 0)), (9, (.int .i64 ((n2 : Int) + 1))), (10, (.slice (sM g3) wn c3)), (11, (.pointer (some ((⟨g3, 0, none⟩ : Addr).add ((((ws.length : Nat) : Int)).toNat * 2)))))] ?_
 intro aC fr
 refine zdj (N := 157) (env0 := [(5, (.slice (sM b10) bs.length bs.length)), (8, (pT b31 0)), (9, (.int .i64 ((n2 : Int) + 1))), (10, (.slice (sM g3) wn c3)), (11, (.pointer (some ((⟨g3, 0, none⟩ : Addr).add ((((ws.length : Nat) : Int)).toNat * 2)))))]) (specAt [.det (pT b31 0), .det (pT b31 0), .det (pT b31 1), .det (.slice (sM g30) bs.length bs.length), .det (.pointer (some ((⟨g3, 0, none⟩ : Addr).add ((((ws.length : Nat) : Int)).toNat * 2)))), .det (.pointer (some ((⟨g3, 0, none⟩ : Addr).add ((((ws.length : Nat) : Int)).toNat * 2)))), .det (.pointer (some ((⟨g3, 0, none⟩ : Addr).add ((((ws.length : Nat) : Int)).toNat * 2)))), .det (nV bi), .det (.int .i64 ((n2 : Int) + 1)), .det (.pointer (some ((⟨g30, 0, none⟩ : Addr).add (((bi : Int)).toNat * 1)))), .det undef]) (fun ls vs w_ => match ls 10 with | true => (Mem noS w w_ [.fam 3 rows, .row 37 1 (sM b10) bs.length bs.length (slv rows), .blk b31 146 [(.slice (sM g29) bs.length bs.length), (.slice (sM g30) bs.length bs.length)], .row 3 1 (sM g29) bs.length bs.length (ints ins2), .row 3 1 (sM g30) bs.length bs.length ((ints outL).set (((bi : Int)).toNat * 1) (.int .i64 ((n2 : Int) + 1))), .row 136 2 (sM g3) wn c3 (mdc (ws ++ [((bi : Int), (k : Int))]))]) | false => (Mem noS w w_ [.fam 3 rows, .row 37 1 (sM b10) bs.length bs.length (slv rows), .blk b31 146 [(.slice (sM g29) bs.length bs.length), (.slice (sM g30) bs.length bs.length)], .row 3 1 (sM g29) bs.length bs.length (ints ins2), .row 3 1 (sM g30) bs.length bs.length (ints outL), .row 136 2 (sM g3) wn c3 (mdc (ws ++ [((bi : Int), (k : Int))]))])) fr (plain_ok (.det (.det (.det (.det (.det (.det (.det (.det (.det (.det (.det .nil)))))))))))) (M86.then_ (Mem.drew _)) (la (la (la (la (la (la (la (la (la (la (la lz (dPJ fun _ _ _ _ h => h)) (dPJ fun _ _ _ _ h => h)) (dPJ fun _ _ _ _ h => h)) (dLJ ⟨b31, 1, none⟩ (.slice (sM g30) bs.length bs.length) (fun _ _ _ _ h => h) ?_)) (dPJ fun _ _ _ _ h => h)) (dPJ fun _ _ _ _ h => h)) (dPJ fun _ _ _ _ h => h)) (dLJ ((⟨g3, 0, none⟩ : Addr).add ((((ws.length : Nat) : Int)).toNat * 2)) (nV bi) (fun _ _ _ _ h => h) ?_)) (dPJ fun _ _ _ _ h => h)) (dIJ ⟨g30, 0, none⟩ bs.length 1 (bi : Int) fun _ _ _ _ h => h)) ?_) ?_
 intro w_ ls vs hJ hi_ hc_ hp
 have f10 : ls 10 = false := notyet hc_ hi_ (n := 11) (by kernel_rfl)
 have hM_ := hJ
 simp only [f10] at hM_
 exact (blk_cell (hM_.get 2 rfl) rfl)
 intro w_ ls vs hJ hi_ hc_ hp
 have f10 : ls 10 = false := notyet hc_ hi_ (n := 11) (by kernel_rfl)
 have hM_ := hJ
 simp only [f10] at hM_
 exact (by rw [Int.toNat_natCast]; exact rd_get (row_rd (hM_.get 5 rfl)) rfl (mdc_top _ _ _).1)
 intro aa_ w_ ls vs rest_ hJ hi_ hc_ hp hF
 refine okG (g0 := none) ?_
 replace hF : Fr aa_ 157 [(124, (.int .i64 ((n2 : Int) + 1))), (125, (.pointer (some ((⟨g30, 0, none⟩ : Addr).add (((bi : Int)).toNat * 1)))))] := hF.kp [124, 125]
 have f10 : ls 10 = false := hi_
 have hM_ := hJ
 simp only [f10] at hM_
 refine From_store_row (by kernel_rfl : coreAt _ 0 = some (none, (.store 3 (.tmp 125) (.tmp 124)), 0, none)) hF (by kernel_rfl) (by kernel_rfl) (k' := 1) rfl (ad := (⟨g30, 0, none⟩ : Addr)) (j := (((bi : Int)).toNat * 1)) (e := 3) (size := 1) (n := bs.length) (cap := bs.length) (v := (.int .i64 ((n2 : Int) + 1))) (xs := (ints outL)) (ad' := ((⟨g30, 0, none⟩ : Addr).add (((bi : Int)).toNat * 1))) (by kernel_rfl) rfl (by kernel_rfl) (by kernel_rfl) rfl hM_ 4 rfl (by omega) ?_
 intro w2 hm2 _ a2 ea _
 refine From_end (by kernel_rfl) ?_; refine op_doneJ (d := none) (by kernel_rfl) ea rfl ?_
 show _
 exact hm2
 intro aC w116 ls vs hall M117 hv fr
 simp only [show ls 10 = true from hall 10 (by decide)] at M117
 revert aC; refine zkp [(5, (.slice (sM b10) bs.length bs.length)), (8, (pT b31 0)), (9, (.int .i64 ((n2 : Int) + 1))), (10, (.slice (sM g3) wn c3))] ?_
 clear hall hv fr aC M86; clear vs ls
 refine zsr <| zpn 3 ?_
 intro aC fr
 refine From_arith (by kernel_rfl : coreAt _ 3 = some (some 129, (.binOp .sub 3 (.tmp 128) (.const (.int .i64 1)) 3), 3, none)) fr (by kernel_rfl) (by kernel_rfl) (k' := 4) rfl (i := ((wn : Nat) : Int)) (j := 1) (z := ((ws.length : Nat) : Int)) (by kernel_rfl) (by kernel_rfl) (congrArg some (by rw [hlw]; omega)) (by omega) (by omega) ?_
 intro aC ea fr; clear ea
 refine From_sliceHi (by kernel_rfl : coreAt _ 4 = some (some 130, (.slice 137 (.tmp 126) none (some (.tmp 129)) none), 137, none)) fr (by kernel_rfl) (by kernel_rfl) (k' := 5) rfl (A := (sM g3)) (n := wn) (cap := c3) (e := 136) (size := 2) (kd := .i64) (i := ((ws.length : Nat) : Int)) ws.length (by kernel_rfl) (by kernel_rfl) rfl (by kernel_rfl) (by kernel_rfl) (by omega) ?_
 intro aC ea fr; clear ea
 have M124 : Mem noS w w116 [.fam 3 rows, .row 37 1 (sM b10) bs.length bs.length (slv rows), .blk b31 146 [(.slice (sM g29) bs.length bs.length), (.slice (sM g30) bs.length bs.length)], .row 3 1 (sM g29) bs.length bs.length (ints ins2), .row 3 1 (sM g30) bs.length bs.length ((ints outL).set (((bi : Int)).toNat * 1) (.int .i64 ((n2 : Int) + 1))), .row 136 2 (sM g3) ws.length c3 (mdc ws)] := (M117.take_row 5 rfl ws.length (by omega)).cast (by rw [mdc_pop]; rfl)
 revert aC
 refine zpn 1 <| zfe <| zex 3 <| zbh ?_
 intro aC fr
 exact ⟨2 * (2 * bs.length - (n2 + 1)) + wflag ws, by have hq2 := wflag_le ws; rw [wflag_snoc]; split <;> (rename_i hk0; simp only [hk0, if_true, if_false] at hn2; omega), ws, ws.length, n2 + 1, f2, updF g (bi : Int) ((n2 : Int) + 1), (sM g3), c3, ins2, (outL.set (bi : Int).toNat ((n2 : Int) + 1)), rfl, fr.kp [5, 8, 9, 10], ((M124.pick [true, true, true, true, true, true] rfl).cast (by rw [ints_set]; simp only [Nat.mul_one]; rfl)), rfl, by rw [hkl] at hs2; exact hs2.finish hT h00, hin2, hout.upd (by omega) (by omega)⟩
 revert aC
 refine zsr <| zpn 3 <| zld (((⟨g3, 0, none⟩ : Addr).add ((((ws.length : Nat) : Int)).toNat * 2)).add 1) (nV k) (by rw [Int.toNat_natCast, add_add]; exact rd_get (row_rd (M67.get 5 rfl)) rfl (mdc_top _ _ _).2) <| zcm ((k : Int) == 0) fun Bk hBk => ?_
 refine zfe ?_
 cases Bk
 have ck : ¬ ((k : Int) = 0) := zne hBk
 refine zcF <| zsk ?_
 intro aC fr
 exact ⟨n, f, insL, fr.kp [5, 8, 9, 10, 11], M67, hu.elim (fun h => absurd h.1 (by omega)) (fun h => h.2), by rw [if_neg (by omega)]; rfl, hin⟩
 have ck : (k : Int) = 0 := beq_iff_eq.1 hBk.symm
 refine zcT <| zsr <| zpn 1 <| zar ((n : Int) + 1) <| zpn 1 <| zfe <| zkp [(5, (.slice (sM b10) bs.length bs.length)), (8, (pT b31 0)), (9, (.int .i64 ((n : Int) + 1))), (10, (.slice (sM g3) wn c3)), (11, (.pointer (some ((⟨g3, 0, none⟩ : Addr).add ((((ws.length : Nat) : Int)).toNat * 2)))))] ?_
 intro aC fr
 refine zdj (N := 157) (env0 := [(5, (.slice (sM b10) bs.length bs.length)), (8, (pT b31 0)), (9, (.int .i64 ((n : Int) + 1))), (10, (.slice (sM g3) wn c3)), (11, (.pointer (some ((⟨g3, 0, none⟩ : Addr).add ((((ws.length : Nat) : Int)).toNat * 2)))))]) (specAt [.det (pT b31 0), .det (pT b31 0), .det (pT b31 0), .det (.slice (sM g29) bs.length bs.length), .det (.pointer (some ((⟨g3, 0, none⟩ : Addr).add ((((ws.length : Nat) : Int)).toNat * 2)))), .det (.pointer (some ((⟨g3, 0, none⟩ : Addr).add ((((ws.length : Nat) : Int)).toNat * 2)))), .det (.pointer (some ((⟨g3, 0, none⟩ : Addr).add ((((ws.length : Nat) : Int)).toNat * 2)))), .det (nV bi), .det (.int .i64 ((n : Int) + 1)), .det (.pointer (some ((⟨g29, 0, none⟩ : Addr).add (((bi : Int)).toNat * 1)))), .det undef]) (fun ls vs w_ => match ls 10 with | true => (Mem noS w w_ [.fam 3 rows, .row 37 1 (sM b10) bs.length bs.length (slv rows), .blk b31 146 [(.slice (sM g29) bs.length bs.length), (.slice (sM g30) bs.length bs.length)], .row 3 1 (sM g29) bs.length bs.length ((ints insL).set (((bi : Int)).toNat * 1) (.int .i64 ((n : Int) + 1))), .row 3 1 (sM g30) bs.length bs.length (ints outL), .row 136 2 (sM g3) wn c3 (mdc (ws ++ [((bi : Int), (k : Int))]))]) | false => (Mem noS w w_ [.fam 3 rows, .row 37 1 (sM b10) bs.length bs.length (slv rows), .blk b31 146 [(.slice (sM g29) bs.length bs.length), (.slice (sM g30) bs.length bs.length)], .row 3 1 (sM g29) bs.length bs.length (ints insL), .row 3 1 (sM g30) bs.length bs.length (ints outL), .row 136 2 (sM g3) wn c3 (mdc (ws ++ [((bi : Int), (k : Int))]))])) fr (plain_ok (.det (.det (.det (.det (.det (.det (.det (.det (.det (.det (.det .nil)))))))))))) (M67.then_ (Mem.drew _)) (la (la (la (la (la (la (la (la (la (la (la lz (dPJ fun _ _ _ _ h => h)) (dPJ fun _ _ _ _ h => h)) (dPJ fun _ _ _ _ h => h)) (dLJ ⟨b31, 0, none⟩ (.slice (sM g29) bs.length bs.length) (fun _ _ _ _ h => h) ?_)) (dPJ fun _ _ _ _ h => h)) (dPJ fun _ _ _ _ h => h)) (dPJ fun _ _ _ _ h => h)) (dLJ ((⟨g3, 0, none⟩ : Addr).add ((((ws.length : Nat) : Int)).toNat * 2)) (nV bi) (fun _ _ _ _ h => h) ?_)) (dPJ fun _ _ _ _ h => h)) (dIJ (h1 := (by omega)) ⟨g29, 0, none⟩ bs.length 1 (bi : Int) fun _ _ _ _ h => h)) ?_) ?_
 intro w_ ls vs hJ hi_ hc_ hp
 have f10 : ls 10 = false := notyet hc_ hi_ (n := 11) (by kernel_rfl)
 have hM_ := hJ
 simp only [f10] at hM_
 exact (blk_cell (hM_.get 2 rfl) rfl)
 intro w_ ls vs hJ hi_ hc_ hp
 have f10 : ls 10 = false := notyet hc_ hi_ (n := 11) (by kernel_rfl)
 have hM_ := hJ
 simp only [f10] at hM_
 exact (by rw [Int.toNat_natCast]; exact rd_get (row_rd (hM_.get 5 rfl)) rfl (mdc_top _ _ _).1)
 intro aa_ w_ ls vs rest_ hJ hi_ hc_ hp hF
 refine okG (g0 := none) ?_
 replace hF : Fr aa_ 157 [(99, (.int .i64 ((n : Int) + 1))), (100, (.pointer (some ((⟨g29, 0, none⟩ : Addr).add (((bi : Int)).toNat * 1)))))] := hF.kp [99, 100]
 have f10 : ls 10 = false := hi_
 have hM_ := hJ
 simp only [f10] at hM_
 refine From_store_row (by kernel_rfl : coreAt _ 0 = some (none, (.store 3 (.tmp 100) (.tmp 99)), 0, none)) hF (by kernel_rfl) (by kernel_rfl) (k' := 1) rfl (ad := (⟨g29, 0, none⟩ : Addr)) (j := (((bi : Int)).toNat * 1)) (e := 3) (size := 1) (n := bs.length) (cap := bs.length) (v := (.int .i64 ((n : Int) + 1))) (xs := (ints insL)) (ad' := ((⟨g29, 0, none⟩ : Addr).add (((bi : Int)).toNat * 1))) (by kernel_rfl) rfl (by kernel_rfl) (by kernel_rfl) rfl hM_ 3 rfl (by omega) ?_
 intro w2 hm2 _ a2 ea _
 refine From_end (by kernel_rfl) ?_; refine op_doneJ (d := none) (by kernel_rfl) ea rfl ?_
 show _
 exact hm2
 intro aC w133 ls vs hall M134 hv fr
 simp only [show ls 10 = true from hall 10 (by decide)] at M134
 revert aC; refine zkp [(5, (.slice (sM b10) bs.length bs.length)), (8, (pT b31 0)), (9, (.int .i64 ((n : Int) + 1))), (10, (.slice (sM g3) wn c3)), (11, (.pointer (some ((⟨g3, 0, none⟩ : Addr).add ((((ws.length : Nat) : Int)).toNat * 2)))))] ?_
 clear hall hv fr aC M67; clear vs ls
 intro aC fr
 exact ⟨n + 1, updF f (bi : Int) ((n : Int) + 1), (insL.set (bi : Int).toNat ((n : Int) + 1)), fr.kp [5, 8, 9, 10, 11], (M134.cast (by rw [ints_set]; simp only [Nat.mul_one])), hu.elim (fun h => by have h2 := h.2.start hT h00; rw [h.1]; exact h2) (fun h => absurd h.1 (by omega)), by rw [if_pos (by omega)], hin.upd (by omega) (by omega)⟩
 have c27 : (k : Int) < (((orderL bs).length : Nat) : Int) := of_decide_eq_true hB27.symm
 refine zcT <| zsk <| zsq <| zbk 1 <| zsr ?_
 obtain ⟨bi, hob, hbn, hbp⟩ := ord_get (bs := bs) (k := k) (by omega)
 obtain ⟨g138, rfl⟩ := row_some (M24.get 5 rfl) (by omega)
 refine zix ⟨g138, 0, none⟩ ((orderL bs).length) 1 (k : Int) <| zld ((⟨g138, 0, none⟩ : Addr).add (((k : Int)).toNat * 1)) (nV bi) (rd_at (row_rd (M24.get 5 rfl)) rfl hob) <| zpn 1 <| zfe <| zsr <| zpn 2 ?_
 obtain ⟨g140, rfl⟩ := row_some (M24.get 2 rfl) (by omega)
 refine zix ⟨g140, 0, none⟩ bs.length 1 (bi : Int) <| zld ((⟨g140, 0, none⟩ : Addr).add (((bi : Int)).toNat * 1)) (.int .i64 (up (bi : Int))) (rd_get1 (row_rd (M24.get 2 rfl)) rfl (hf.of.at_ (by omega) (by omega))) <| zcm (decide ((up (bi : Int)) ≥ 0)) fun Bu hBu => ?_
 refine zfe ?_
 cases Bu
 have cu : ¬ ((up (bi : Int)) ≥ 0) := of_decide_eq_false hBu.symm
 refine zcF <| zsk <| zrg <| zar ((k : Int) + 1) <| zpn 1 <| zfe ?_
 intro aC fr
 exact ⟨(orderL bs).length - (k + 1), by omega, k + 1, rows, rfl, fr.kp [1, 3, 4, 5, 23, 24, 25], M24, by omega, by rw [← kidsTo_skip hob (by omega)]; exact hfm⟩
 have cu : (up (bi : Int)) ≥ 0 := of_decide_eq_true hBu.symm
 refine zcT ?_
 obtain ⟨d, hud, hdn⟩ := up_nat h0 hf (b := (bi : Int)) (by omega) (by omega)
 obtain ⟨Ad, cd, hrd⟩ := hfm.get (kidsTo_get hdn)
 have hkl := kidAt_len (bs := bs) (up := up) k (d : Int)
 have M143 : Mem noS w w23 [.fam 3 (rows.set d nilV), .row 3 1 Ad ((kidAt bs up k (d : Int)).length) cd (ints (kidAt bs up k (d : Int))), .blk b1 24 [nm, wk, pa, va, (.slice A bs.length c)], .row 3 1 (sM g140) bs.length c5 (ints (raboveL bs)), .row 3 1 A6 bs.length c7 (ints (atL bs)), .row 37 1 (sM b10) bs.length bs.length (slv rows), .row 3 1 (sM g138) ((orderL bs).length) c18 (ints (orderL bs))] := M24.focus d hrd
 refine zkp [(1, (pT b1 0)), (3, (.slice (sM g140) bs.length c5)), (4, (.slice A6 bs.length c7)), (5, (.slice (sM b10) bs.length bs.length)), (7, (nV bi)), (23, (.slice (sM g138) ((orderL bs).length) c18)), (24, (.int .i64 (((orderL bs).length : Nat) : Int))), (25, (nV k)), (33, (.bool true))] ?_
 intro aC fr
 refine zdj (N := 157) (env0 := [(1, (pT b1 0)), (3, (.slice (sM g140) bs.length c5)), (4, (.slice A6 bs.length c7)), (5, (.slice (sM b10) bs.length bs.length)), (7, (nV bi)), (23, (.slice (sM g138) ((orderL bs).length) c18)), (24, (.int .i64 (((orderL bs).length : Nat) : Int))), (25, (nV k)), (33, (.bool true))]) (specAt [.det (.slice (sM b10) bs.length bs.length), .det (.slice (sM g140) bs.length c5), .det (nV bi), .det (.pointer (some ((⟨g140, 0, none⟩ : Addr).add (((bi : Int)).toNat * 1)))), .det (nV d), .det (.slice (sM b10) bs.length bs.length), .det (.slice (sM g140) bs.length c5), .det (nV bi), .det (.pointer (some ((⟨g140, 0, none⟩ : Addr).add (((bi : Int)).toNat * 1)))), .det (nV d), .det (.pointer (some ((⟨b10, 0, none⟩ : Addr).add (((d : Int)).toNat * 1)))), .det (.slice Ad ((kidAt bs up k (d : Int)).length) cd), .det (nV bi), Spec.free, Spec.free, .det (.pointer (some ((⟨b10, 0, none⟩ : Addr).add (((d : Int)).toNat * 1)))), .det undef]) (fun ls vs w_ => match ls 16 with | true => (∃ (g144 : Nat) (A145 : Option Addr) (c146 : Nat), vs 13 = (.slice (sM g144) 1 1) ∧ vs 14 = (.slice A145 (((kidAt bs up k (d : Int)).length) + 1) c146) ∧ Mem noS w w_ [.fam 3 (rows.set d nilV), .row 3 1 A145 (((kidAt bs up k (d : Int)).length) + 1) c146 ((ints (kidAt bs up k (d : Int))) ++ [(nV bi)]), .blk b1 24 [nm, wk, pa, va, (.slice A bs.length c)], .row 3 1 (sM g140) bs.length c5 (ints (raboveL bs)), .row 3 1 A6 bs.length c7 (ints (atL bs)), .row 37 1 (sM b10) bs.length bs.length ((slv rows).set (((d : Int)).toNat * 1) (.slice A145 (((kidAt bs up k (d : Int)).length) + 1) c146)), .row 3 1 (sM g138) ((orderL bs).length) c18 (ints (orderL bs)), .row 3 1 (sM g144) 1 1 [(nV bi)]]) | false => (match ls 14 with | true => (∃ (g144 : Nat) (A145 : Option Addr) (c146 : Nat), vs 13 = (.slice (sM g144) 1 1) ∧ vs 14 = (.slice A145 (((kidAt bs up k (d : Int)).length) + 1) c146) ∧ Mem noS w w_ [.fam 3 (rows.set d nilV), .row 3 1 A145 (((kidAt bs up k (d : Int)).length) + 1) c146 ((ints (kidAt bs up k (d : Int))) ++ [(nV bi)]), .blk b1 24 [nm, wk, pa, va, (.slice A bs.length c)], .row 3 1 (sM g140) bs.length c5 (ints (raboveL bs)), .row 3 1 A6 bs.length c7 (ints (atL bs)), .row 37 1 (sM b10) bs.length bs.length (slv rows), .row 3 1 (sM g138) ((orderL bs).length) c18 (ints (orderL bs)), .row 3 1 (sM g144) 1 1 [(nV bi)]]) | false => (match ls 13 with | true => (∃ (g144 : Nat), vs 13 = (.slice (sM g144) 1 1) ∧ Mem noS w w_ [.fam 3 (rows.set d nilV), .row 3 1 Ad ((kidAt bs up k (d : Int)).length) cd (ints (kidAt bs up k (d : Int))), .blk b1 24 [nm, wk, pa, va, (.slice A bs.length c)], .row 3 1 (sM g140) bs.length c5 (ints (raboveL bs)), .row 3 1 A6 bs.length c7 (ints (atL bs)), .row 37 1 (sM b10) bs.length bs.length (slv rows), .row 3 1 (sM g138) ((orderL bs).length) c18 (ints (orderL bs)), .row 3 1 (sM g144) 1 1 [(nV bi)]]) | false => (Mem noS w w_ [.fam 3 (rows.set d nilV), .row 3 1 Ad ((kidAt bs up k (d : Int)).length) cd (ints (kidAt bs up k (d : Int))), .blk b1 24 [nm, wk, pa, va, (.slice A bs.length c)], .row 3 1 (sM g140) bs.length c5 (ints (raboveL bs)), .row 3 1 A6 bs.length c7 (ints (atL bs)), .row 37 1 (sM b10) bs.length bs.length (slv rows), .row 3 1 (sM g138) ((orderL bs).length) c18 (ints (orderL bs))])))) fr (plain_ok (.det (.det (.det (.det (.det (.det (.det (.det (.det (.det (.det (.det (.det (.free (.free (.det (.det .nil)))))))))))))))))) (M143.then_ (Mem.drew _)) (la (la (la (la (la (la (la (la (la (la (la (la (la (la (la (la (la lz (dPJ fun _ _ _ _ h => h)) (dPJ fun _ _ _ _ h => h)) (dPJ fun _ _ _ _ h => h)) (dIJ ⟨g140, 0, none⟩ bs.length 1 (bi : Int) fun _ _ _ _ h => h)) (dLJ ((⟨g140, 0, none⟩ : Addr).add (((bi : Int)).toNat * 1)) (nV d) (fun _ _ _ _ h => h) ?_)) (dPJ fun _ _ _ _ h => h)) (dPJ fun _ _ _ _ h => h)) (dPJ fun _ _ _ _ h => h)) (dIJ ⟨g140, 0, none⟩ bs.length 1 (bi : Int) fun _ _ _ _ h => h)) (dLJ ((⟨g140, 0, none⟩ : Addr).add (((bi : Int)).toNat * 1)) (nV d) (fun _ _ _ _ h => h) ?_)) (dIJ ⟨b10, 0, none⟩ bs.length 1 (d : Int) fun _ _ _ _ h => h)) (dLJ ((⟨b10, 0, none⟩ : Addr).add (((d : Int)).toNat * 1)) (.slice Ad ((kidAt bs up k (d : Int)).length) cd) (fun _ _ _ _ h => h) ?_)) (dPJ fun _ _ _ _ h => h)) ?_) ?_) (dIJ ⟨b10, 0, none⟩ bs.length 1 (d : Int) fun _ _ _ _ h => h)) ?_) ?_
 intro w_ ls vs hJ hi_ hc_ hp
 have f16 : ls 16 = false := notyet hc_ hi_ (n := 17) (by kernel_rfl)
 have hM_ := hJ
 simp only [f16] at hM_
 cases fu14 : ls 14
 simp only [fu14] at hM_
 cases fu13 : ls 13
 simp only [fu13] at hM_
 exact (rd_get1 (row_rd (hM_.get 3 rfl)) rfl (at_eq hf.of (by omega) (by omega) hud))
 simp only [fu13] at hM_
 obtain ⟨_, _, hM_⟩ := hM_
 exact (rd_get1 (row_rd (hM_.get 3 rfl)) rfl (at_eq hf.of (by omega) (by omega) hud))
 simp only [fu14] at hM_
 obtain ⟨_, _, _, _, _, hM_⟩ := hM_
 exact (rd_get1 (row_rd (hM_.get 3 rfl)) rfl (at_eq hf.of (by omega) (by omega) hud))
 intro w_ ls vs hJ hi_ hc_ hp
 have f14 : ls 14 = false := notyet hc_ hi_ (n := 17) (by kernel_rfl)
 have f16 : ls 16 = false := notyet hc_ hi_ (n := 17) (by kernel_rfl)
 have hM_ := hJ
 simp only [f14, f16] at hM_
 cases fu : ls 13
 simp only [fu] at hM_
 exact (rd_get1 (row_rd (hM_.get 3 rfl)) rfl (at_eq hf.of (by omega) (by omega) hud))
 simp only [fu] at hM_
 obtain ⟨_, _, hM_⟩ := hM_
 exact (rd_get1 (row_rd (hM_.get 3 rfl)) rfl (at_eq hf.of (by omega) (by omega) hud))
 intro w_ ls vs hJ hi_ hc_ hp
 have f14 : ls 14 = false := notyet hc_ hi_ (n := 17) (by kernel_rfl)
 have f16 : ls 16 = false := notyet hc_ hi_ (n := 17) (by kernel_rfl)
 have hM_ := hJ
 simp only [f14, f16] at hM_
 cases fu : ls 13
 simp only [fu] at hM_
 exact (rd_get1 (row_rd (hM_.get 5 rfl)) rfl (slv_get hrd))
 simp only [fu] at hM_
 obtain ⟨_, _, hM_⟩ := hM_
 exact (rd_get1 (row_rd (hM_.get 5 rfl)) rfl (slv_get hrd))
 intro aa_ w_ ls vs rest_ hJ hi_ hc_ hp hF
 refine okG (g0 := none) ?_
 replace hF : Fr aa_ 157 [(46, (nV bi))] := hF.kp [46]
 have f13 : ls 13 = false := hi_
 have f14 : ls 14 = false := notyet hc_ hi_ (n := 17) (by kernel_rfl)
 have f16 : ls 16 = false := notyet hc_ hi_ (n := 17) (by kernel_rfl)
 have hM_ := hJ
 simp only [f13, f14, f16] at hM_
 refine zBs 47 37 1 #[(0, (.tmp 46))] 37 hF (e := 3) (size := 1) (zs := [(.int .i64 0)]) (vs := [(0, (nV bi))]) (cs := [(nV bi)]) hM_ ?_
 intro g144p w2 _ _ hm2 _ a2 ea _
 refine From_end (by kernel_rfl) ?_; refine op_doneJ (d := some 47) (by kernel_rfl) ea trivial ?_
 show match ls 16 with | true => _ | false => (match ls 14 with | true => _ | false => (∃ (g144 : Nat), _))
 rw [f16, f14]
 exact ⟨g144p, rfl, hm2⟩
 intro aa_ w_ ls vs rest_ hJ hi_ hc_ hp hF
 refine okG (g0 := none) ?_
 replace hF : Fr aa_ 157 [(45, (.slice Ad ((kidAt bs up k (d : Int)).length) cd)), (47, vs 13)] := hF.kp [45, 47]
 have f13 : ls 13 = true := donebefore hc_ (fun k hk => (hp k hk).1) (n := 17) (by kernel_rfl)
 have f14 : ls 14 = false := hi_
 have f16 : ls 16 = false := notyet hc_ hi_ (n := 17) (by kernel_rfl)
 have hM_ := hJ
 simp only [f13, f14, f16] at hM_
 obtain ⟨g144p, e13_, hM_⟩ := hM_
 try rw [e13_] at hF
 refine zAp 48 (.tmp 45) (.tmp 47) 37 37 hF (e := 3) (size := 1) (bytes := 8) (z := (.int .i64 0)) (A := Ad) (B := (sM g144p)) (n := ((kidAt bs up k (d : Int)).length)) (cap := cd) (m := 1) (cap' := 1) (xs := (ints (kidAt bs up k (d : Int)))) (news := [(nV bi)]) hM_ 1 rfl (row_rd (hM_.get 7 rfl)) rfl (by simp [Value.oneCell']) (by omega) (by simp only [maxLen]; omega) ?_
 intro A145p c146p w2 hm2 _ a2 ea _
 refine From_end (by kernel_rfl) ?_; refine op_doneJ (d := some 48) (by kernel_rfl) ea trivial ?_
 show match ls 16 with | true => _ | false => (∃ (g144 : Nat) (A145 : Option Addr) (c146 : Nat), _)
 rw [f16]
 exact ⟨g144p, A145p, c146p, e13_, rfl, hm2⟩
 intro aa_ w_ ls vs rest_ hJ hi_ hc_ hp hF
 refine okG (g0 := none) ?_
 replace hF : Fr aa_ 157 [(48, vs 14), (49, (.pointer (some ((⟨b10, 0, none⟩ : Addr).add (((d : Int)).toNat * 1)))))] := hF.kp [48, 49]
 have f13 : ls 13 = true := donebefore hc_ (fun k hk => (hp k hk).1) (n := 17) (by kernel_rfl)
 have f14 : ls 14 = true := donebefore hc_ (fun k hk => (hp k hk).1) (n := 17) (by kernel_rfl)
 have f16 : ls 16 = false := hi_
 have hM_ := hJ
 simp only [f13, f14, f16] at hM_
 obtain ⟨g144p, A145p, c146p, e13_, e14_, hM_⟩ := hM_
 try rw [e13_] at hF
 try rw [e14_] at hF
 refine From_store_row (by kernel_rfl : coreAt _ 0 = some (none, (.store 37 (.tmp 49) (.tmp 48)), 0, none)) hF (by kernel_rfl) (by kernel_rfl) (k' := 1) rfl (ad := (⟨b10, 0, none⟩ : Addr)) (j := (((d : Int)).toNat * 1)) (e := 37) (size := 1) (n := bs.length) (cap := bs.length) (v := (.slice A145p (((kidAt bs up k (d : Int)).length) + 1) c146p)) (xs := (slv rows)) (ad' := ((⟨b10, 0, none⟩ : Addr).add (((d : Int)).toNat * 1))) (by kernel_rfl) rfl (by kernel_rfl) (by kernel_rfl) rfl hM_ 5 rfl (by omega) ?_
 intro w2 hm2 _ a2 ea _
 refine From_end (by kernel_rfl) ?_; refine op_doneJ (d := none) (by kernel_rfl) ea rfl ?_
 show ∃ (g144 : Nat) (A145 : Option Addr) (c146 : Nat), _
 exact ⟨g144p, A145p, c146p, e13_, e14_, hm2⟩
 intro aC w151 ls vs hall M152 hv fr
 simp only [show ls 16 = true from hall 16 (by decide)] at M152
 revert aC; refine zkp [(1, (pT b1 0)), (3, (.slice (sM g140) bs.length c5)), (4, (.slice A6 bs.length c7)), (5, (.slice (sM b10) bs.length bs.length)), (23, (.slice (sM g138) ((orderL bs).length) c18)), (24, (.int .i64 (((orderL bs).length : Nat) : Int))), (25, (nV k))] ?_
 obtain ⟨g144, A145, c146, e13_, e14_, M152⟩ := M152
 try rw [e13_]
 try rw [e14_]
 clear e13_ e14_
 clear hall hv fr aC M143; clear vs ls
 refine zrg ?_
 have M153 := M152.od [6, 6, 6, 6, 6, 6, 6] 7
 have hrl : d < rows.length := (List.getElem?_eq_some_iff.1 hrd).1
 have M154 : Mem noS w w151 [.fam 3 ((rows.set d nilV).set d ⟨A145, ((kidAt bs up k (d : Int)).length) + 1, c146, (ints (kidAt bs up k (d : Int))) ++ [(nV bi)]⟩), .blk b1 24 [nm, wk, pa, va, (.slice A bs.length c)], .row 3 1 (sM g140) bs.length c5 (ints (raboveL bs)), .row 3 1 A6 bs.length c7 (ints (atL bs)), .row 37 1 (sM b10) bs.length bs.length ((slv rows).set (((d : Int)).toNat * 1) (.slice A145 (((kidAt bs up k (d : Int)).length) + 1) c146)), .row 3 1 (sM g138) ((orderL bs).length) c18 (ints (orderL bs))] := M153.unfocus d (List.getElem?_set_self hrl)
 have M155 : Mem noS w w151 [.fam 3 (rows.set d ⟨A145, ((kidAt bs up k (d : Int)).length) + 1, c146, (ints (kidAt bs up k (d : Int))) ++ [(nV bi)]⟩), .blk b1 24 [nm, wk, pa, va, (.slice A bs.length c)], .row 3 1 (sM g140) bs.length c5 (ints (raboveL bs)), .row 3 1 A6 bs.length c7 (ints (atL bs)), .row 37 1 (sM b10) bs.length bs.length (slv (rows.set d ⟨A145, ((kidAt bs up k (d : Int)).length) + 1, c146, (ints (kidAt bs up k (d : Int))) ++ [(nV bi)]⟩)), .row 3 1 (sM g138) ((orderL bs).length) c18 (ints (orderL bs))] := M154.cast (by rw [set_twice, slv_set]; simp only [Int.toNat_natCast, Nat.mul_one])
 refine zar ((k : Int) + 1) <| zpn 1 <| zfe ?_
 intro aC fr
 exact ⟨(orderL bs).length - (k + 1), by omega, k + 1, (rows.set d ⟨A145, ((kidAt bs up k (d : Int)).length) + 1, c146, (ints (kidAt bs up k (d : Int))) ++ [(nV bi)]⟩), rfl, fr.kp [1, 3, 4, 5, 23, 24, 25], M155, by omega, by rw [← kidsTo_next hob hud hdn]; exact hfm.set (by simp) (by rw [List.map_append]; rfl)⟩
end Go.Proofs.Ytejbeeaomokjpaa
namespace Go.Proofs.Ytejbeeaomokjpaa
open Go.Mor
theorem stands_c (q gi go N : Nat) (insL outL : List Int) (f g : Int → Int) (a b : Int) (w : World) (hq : RO noS w (.blk q 146 [(.slice (sM gi) N N), (.slice (sM go) N N)])) (hgi : RO noS w (.row 3 1 (sM gi) N N (ints insL))) (hgo : RO noS w (.row 3 1 (sM go) N N (ints outL))) (hin : IntsOf N insL f) (hout : IntsOf N outL g) (ha0 : 0 ≤ a) (ha1 : a < (N : Int)) (hb0 : 0 ≤ b) (hb1 : b < (N : Int)) :
    Calls Try.prog 97 #[(pT q 0), (.int .i64 a), (.int .i64 b)] w (Ret fun v w' => v = .bool (decide (standQ f g a b)) ∧ Mem noS w w' []) := by
 refine zen 59 [(pT q 0), (.int .i64 a), (.int .i64 b)] Try.func97 ?_
 have hM := Mem.init w
 refine zsp <| zsq ?_
 obtain ⟨B1, hB1⟩ : ∃ B : Bool, B = decide ((f a) > 0) := ⟨_, rfl⟩
 cases B1
 have c1 : ¬ ((f a) > 0) := of_decide_eq_false hB1.symm
 refine zkp [(0, (pT q 0)), (1, (.int .i64 a)), (2, (.int .i64 b))] ?_
 intro aC fr
 refine zdr (N := 59) (env0 := [(0, (pT q 0)), (1, (.int .i64 a)), (2, (.int .i64 b))]) (specAt [.det (pT q 0), .det (pT q 0), .det (pT q 0), .det (.slice (sM gi) N N), .det (.int .i64 a), .det (.pointer (some ((⟨gi, 0, none⟩ : Addr).add ((a).toNat * 1)))), .det (.int .i64 (f a)), .det (.bool false), .det (.bool false), dU, dU, dU, dU, dU, dU, dU, dU, .det (.bool false), .det (.bool false), dU, dU, dU, dU, dU, dU, dU, dU, dU, dU, dU, dU, dU, dU, dU, .det (.bool false), .det (.bool false), dU, dU, dU, dU, dU, dU, dU, dU, dU, dU, dU, dU, dU, dU, dU, .det (.bool false), .det (.bool false)]) fr (la (la (la (la (la (la (la (la (la (la (la (la (la (la (la (la (la (la (la (la (la (la (la (la (la (la (la (la (la (la (la (la (la (la (la (la (la (la (la (la (la (la (la (la (la (la (la (la (la (la (la (la (la lz dP) dP) dP) (dL ⟨q, 0, none⟩ (.slice (sM gi) N N) fun w_ hK => (blk_cell ((hM.then_ hK).ro hq) rfl))) dP) (dI ⟨gi, 0, none⟩ N 1 a)) (dL ((⟨gi, 0, none⟩ : Addr).add ((a).toNat * 1)) (.int .i64 (f a)) fun w_ hK => (rd_get1 (row_rd ((hM.then_ hK).ro hgi)) rfl (hin.at_ ha0 ha1)))) (dC (decide ((f a) > 0)) hB1)) dP) dK) dK) dK) dK) dK) dK) dK) dK) dP) dP) dK) dK) dK) dK) dK) dK) dK) dK) dK) dK) dK) dK) dK) dK) dK) dP) dP) dK) dK) dK) dK) dK) dK) dK) dK) dK) dK) dK) dK) dK) dK) dK) dP) dP) ?_
 intro aC w6 vs hK hv fr
 revert aC; refine zkp [(6, (.bool false))] ?_
 have M7 := hM.then_ hK
 clear hK hv fr aC hM; clear vs
 refine zre <| zo1 (.bool false) ?_
 have hR : false = true ↔ False := by simp
 exact ⟨bool_dec hR (⟨False.elim, fun h => by simp only [standQ] at h; omega⟩), M7⟩
 have c1 : (f a) > 0 := of_decide_eq_true hB1.symm
 obtain ⟨B8, hB8⟩ : ∃ B : Bool, B = decide ((f b) > 0) := ⟨_, rfl⟩
 cases B8
 have c8 : ¬ ((f b) > 0) := of_decide_eq_false hB8.symm
 refine zkp [(0, (pT q 0)), (1, (.int .i64 a)), (2, (.int .i64 b))] ?_
 intro aC fr
 refine zdr (N := 59) (env0 := [(0, (pT q 0)), (1, (.int .i64 a)), (2, (.int .i64 b))]) (specAt [.det (pT q 0), .det (pT q 0), .det (pT q 0), .det (.slice (sM gi) N N), .det (.int .i64 a), .det (.pointer (some ((⟨gi, 0, none⟩ : Addr).add ((a).toNat * 1)))), .det (.int .i64 (f a)), .det (.bool true), .det (.bool true), .det (pT q 0), .det (pT q 0), .det (pT q 0), .det (.slice (sM gi) N N), .det (.int .i64 b), .det (.pointer (some ((⟨gi, 0, none⟩ : Addr).add ((b).toNat * 1)))), .det (.int .i64 (f b)), .det (.bool false), .det (.bool false), .det (.bool false), dU, dU, dU, dU, dU, dU, dU, dU, dU, dU, dU, dU, dU, dU, dU, .det (.bool false), .det (.bool false), dU, dU, dU, dU, dU, dU, dU, dU, dU, dU, dU, dU, dU, dU, dU, .det (.bool false), .det (.bool false)]) fr (la (la (la (la (la (la (la (la (la (la (la (la (la (la (la (la (la (la (la (la (la (la (la (la (la (la (la (la (la (la (la (la (la (la (la (la (la (la (la (la (la (la (la (la (la (la (la (la (la (la (la (la (la lz dP) dP) dP) (dL ⟨q, 0, none⟩ (.slice (sM gi) N N) fun w_ hK => (blk_cell ((hM.then_ hK).ro hq) rfl))) dP) (dI ⟨gi, 0, none⟩ N 1 a)) (dL ((⟨gi, 0, none⟩ : Addr).add ((a).toNat * 1)) (.int .i64 (f a)) fun w_ hK => (rd_get1 (row_rd ((hM.then_ hK).ro hgi)) rfl (hin.at_ ha0 ha1)))) (dC (decide ((f a) > 0)) hB1)) dP) dP) dP) dP) (dL ⟨q, 0, none⟩ (.slice (sM gi) N N) fun w_ hK => (blk_cell ((hM.then_ hK).ro hq) rfl))) dP) (dI ⟨gi, 0, none⟩ N 1 b)) (dL ((⟨gi, 0, none⟩ : Addr).add ((b).toNat * 1)) (.int .i64 (f b)) fun w_ hK => (rd_get1 (row_rd ((hM.then_ hK).ro hgi)) rfl (hin.at_ hb0 hb1)))) (dC (decide ((f b) > 0)) hB8)) dP) dP) dK) dK) dK) dK) dK) dK) dK) dK) dK) dK) dK) dK) dK) dK) dK) dP) dP) dK) dK) dK) dK) dK) dK) dK) dK) dK) dK) dK) dK) dK) dK) dK) dP) dP) ?_
 intro aC w13 vs hK hv fr
 revert aC; refine zkp [(6, (.bool false))] ?_
 have M14 := hM.then_ hK
 clear hK hv fr aC hM; clear vs
 refine zre <| zo1 (.bool false) ?_
 have hR : false = true ↔ False := by simp
 exact ⟨bool_dec hR (⟨False.elim, fun h => by simp only [standQ] at h; omega⟩), M14⟩
 have c8 : (f b) > 0 := of_decide_eq_true hB8.symm
 obtain ⟨B15, hB15⟩ : ∃ B : Bool, B = decide ((f a) ≤ (f b)) := ⟨_, rfl⟩
 cases B15
 have c15 : ¬ ((f a) ≤ (f b)) := of_decide_eq_false hB15.symm
 refine zkp [(0, (pT q 0)), (1, (.int .i64 a)), (2, (.int .i64 b))] ?_
 intro aC fr
 refine zdr (N := 59) (env0 := [(0, (pT q 0)), (1, (.int .i64 a)), (2, (.int .i64 b))]) (specAt [.det (pT q 0), .det (pT q 0), .det (pT q 0), .det (.slice (sM gi) N N), .det (.int .i64 a), .det (.pointer (some ((⟨gi, 0, none⟩ : Addr).add ((a).toNat * 1)))), .det (.int .i64 (f a)), .det (.bool true), .det (.bool true), .det (pT q 0), .det (pT q 0), .det (pT q 0), .det (.slice (sM gi) N N), .det (.int .i64 b), .det (.pointer (some ((⟨gi, 0, none⟩ : Addr).add ((b).toNat * 1)))), .det (.int .i64 (f b)), .det (.bool true), .det (.bool true), .det (.bool true), .det (pT q 0), .det (pT q 0), .det (pT q 0), .det (.slice (sM gi) N N), .det (.int .i64 a), .det (.pointer (some ((⟨gi, 0, none⟩ : Addr).add ((a).toNat * 1)))), .det (.int .i64 (f a)), .det (pT q 0), .det (pT q 0), .det (pT q 0), .det (.slice (sM gi) N N), .det (.int .i64 b), .det (.pointer (some ((⟨gi, 0, none⟩ : Addr).add ((b).toNat * 1)))), .det (.int .i64 (f b)), .det (.bool false), .det (.bool false), .det (.bool false), dU, dU, dU, dU, dU, dU, dU, dU, dU, dU, dU, dU, dU, dU, dU, .det (.bool false), .det (.bool false)]) fr (la (la (la (la (la (la (la (la (la (la (la (la (la (la (la (la (la (la (la (la (la (la (la (la (la (la (la (la (la (la (la (la (la (la (la (la (la (la (la (la (la (la (la (la (la (la (la (la (la (la (la (la (la lz dP) dP) dP) (dL ⟨q, 0, none⟩ (.slice (sM gi) N N) fun w_ hK => (blk_cell ((hM.then_ hK).ro hq) rfl))) dP) (dI ⟨gi, 0, none⟩ N 1 a)) (dL ((⟨gi, 0, none⟩ : Addr).add ((a).toNat * 1)) (.int .i64 (f a)) fun w_ hK => (rd_get1 (row_rd ((hM.then_ hK).ro hgi)) rfl (hin.at_ ha0 ha1)))) (dC (decide ((f a) > 0)) hB1)) dP) dP) dP) dP) (dL ⟨q, 0, none⟩ (.slice (sM gi) N N) fun w_ hK => (blk_cell ((hM.then_ hK).ro hq) rfl))) dP) (dI ⟨gi, 0, none⟩ N 1 b)) (dL ((⟨gi, 0, none⟩ : Addr).add ((b).toNat * 1)) (.int .i64 (f b)) fun w_ hK => (rd_get1 (row_rd ((hM.then_ hK).ro hgi)) rfl (hin.at_ hb0 hb1)))) (dC (decide ((f b) > 0)) hB8)) dP) dP) dP) dP) dP) (dL ⟨q, 0, none⟩ (.slice (sM gi) N N) fun w_ hK => (blk_cell ((hM.then_ hK).ro hq) rfl))) dP) (dI ⟨gi, 0, none⟩ N 1 a)) (dL ((⟨gi, 0, none⟩ : Addr).add ((a).toNat * 1)) (.int .i64 (f a)) fun w_ hK => (rd_get1 (row_rd ((hM.then_ hK).ro hgi)) rfl (hin.at_ ha0 ha1)))) dP) dP) dP) (dL ⟨q, 0, none⟩ (.slice (sM gi) N N) fun w_ hK => (blk_cell ((hM.then_ hK).ro hq) rfl))) dP) (dI ⟨gi, 0, none⟩ N 1 b)) (dL ((⟨gi, 0, none⟩ : Addr).add ((b).toNat * 1)) (.int .i64 (f b)) fun w_ hK => (rd_get1 (row_rd ((hM.then_ hK).ro hgi)) rfl (hin.at_ hb0 hb1)))) (dC (decide ((f a) ≤ (f b))) hB15)) dP) dP) dK) dK) dK) dK) dK) dK) dK) dK) dK) dK) dK) dK) dK) dK) dK) dP) dP) ?_
 intro aC w20 vs hK hv fr
 revert aC; refine zkp [(6, (.bool false))] ?_
 have M21 := hM.then_ hK
 clear hK hv fr aC hM; clear vs
 refine zre <| zo1 (.bool false) ?_
 have hR : false = true ↔ False := by simp
 exact ⟨bool_dec hR (⟨False.elim, fun h => by simp only [standQ] at h; omega⟩), M21⟩
 have c15 : (f a) ≤ (f b) := of_decide_eq_true hB15.symm
 obtain ⟨B22, hB22⟩ : ∃ B : Bool, B = decide ((g b) ≤ (g a)) := ⟨_, rfl⟩
 refine zkp [(0, (pT q 0)), (1, (.int .i64 a)), (2, (.int .i64 b))] ?_
 intro aC fr
 refine zdr (N := 59) (env0 := [(0, (pT q 0)), (1, (.int .i64 a)), (2, (.int .i64 b))]) (specAt [.det (pT q 0), .det (pT q 0), .det (pT q 0), .det (.slice (sM gi) N N), .det (.int .i64 a), .det (.pointer (some ((⟨gi, 0, none⟩ : Addr).add ((a).toNat * 1)))), .det (.int .i64 (f a)), .det (.bool true), .det (.bool true), .det (pT q 0), .det (pT q 0), .det (pT q 0), .det (.slice (sM gi) N N), .det (.int .i64 b), .det (.pointer (some ((⟨gi, 0, none⟩ : Addr).add ((b).toNat * 1)))), .det (.int .i64 (f b)), .det (.bool true), .det (.bool true), .det (.bool true), .det (pT q 0), .det (pT q 0), .det (pT q 0), .det (.slice (sM gi) N N), .det (.int .i64 a), .det (.pointer (some ((⟨gi, 0, none⟩ : Addr).add ((a).toNat * 1)))), .det (.int .i64 (f a)), .det (pT q 0), .det (pT q 0), .det (pT q 0), .det (.slice (sM gi) N N), .det (.int .i64 b), .det (.pointer (some ((⟨gi, 0, none⟩ : Addr).add ((b).toNat * 1)))), .det (.int .i64 (f b)), .det (.bool true), .det (.bool true), .det (.bool true), .det (pT q 0), .det (pT q 0), .det (pT q 1), .det (.slice (sM go) N N), .det (.int .i64 b), .det (.pointer (some ((⟨go, 0, none⟩ : Addr).add ((b).toNat * 1)))), .det (.int .i64 (g b)), .det (pT q 0), .det (pT q 0), .det (pT q 1), .det (.slice (sM go) N N), .det (.int .i64 a), .det (.pointer (some ((⟨go, 0, none⟩ : Addr).add ((a).toNat * 1)))), .det (.int .i64 (g a)), .det (.bool B22), .det (.bool B22), .det (.bool B22)]) fr (la (la (la (la (la (la (la (la (la (la (la (la (la (la (la (la (la (la (la (la (la (la (la (la (la (la (la (la (la (la (la (la (la (la (la (la (la (la (la (la (la (la (la (la (la (la (la (la (la (la (la (la (la lz dP) dP) dP) (dL ⟨q, 0, none⟩ (.slice (sM gi) N N) fun w_ hK => (blk_cell ((hM.then_ hK).ro hq) rfl))) dP) (dI ⟨gi, 0, none⟩ N 1 a)) (dL ((⟨gi, 0, none⟩ : Addr).add ((a).toNat * 1)) (.int .i64 (f a)) fun w_ hK => (rd_get1 (row_rd ((hM.then_ hK).ro hgi)) rfl (hin.at_ ha0 ha1)))) (dC (decide ((f a) > 0)) hB1)) dP) dP) dP) dP) (dL ⟨q, 0, none⟩ (.slice (sM gi) N N) fun w_ hK => (blk_cell ((hM.then_ hK).ro hq) rfl))) dP) (dI ⟨gi, 0, none⟩ N 1 b)) (dL ((⟨gi, 0, none⟩ : Addr).add ((b).toNat * 1)) (.int .i64 (f b)) fun w_ hK => (rd_get1 (row_rd ((hM.then_ hK).ro hgi)) rfl (hin.at_ hb0 hb1)))) (dC (decide ((f b) > 0)) hB8)) dP) dP) dP) dP) dP) (dL ⟨q, 0, none⟩ (.slice (sM gi) N N) fun w_ hK => (blk_cell ((hM.then_ hK).ro hq) rfl))) dP) (dI ⟨gi, 0, none⟩ N 1 a)) (dL ((⟨gi, 0, none⟩ : Addr).add ((a).toNat * 1)) (.int .i64 (f a)) fun w_ hK => (rd_get1 (row_rd ((hM.then_ hK).ro hgi)) rfl (hin.at_ ha0 ha1)))) dP) dP) dP) (dL ⟨q, 0, none⟩ (.slice (sM gi) N N) fun w_ hK => (blk_cell ((hM.then_ hK).ro hq) rfl))) dP) (dI ⟨gi, 0, none⟩ N 1 b)) (dL ((⟨gi, 0, none⟩ : Addr).add ((b).toNat * 1)) (.int .i64 (f b)) fun w_ hK => (rd_get1 (row_rd ((hM.then_ hK).ro hgi)) rfl (hin.at_ hb0 hb1)))) (dC (decide ((f a) ≤ (f b))) hB15)) dP) dP) dP) dP) dP) (dL ⟨q, 1, none⟩ (.slice (sM go) N N) fun w_ hK => (blk_cell ((hM.then_ hK).ro hq) rfl))) dP) (dI ⟨go, 0, none⟩ N 1 b)) (dL ((⟨go, 0, none⟩ : Addr).add ((b).toNat * 1)) (.int .i64 (g b)) fun w_ hK => (rd_get1 (row_rd ((hM.then_ hK).ro hgo)) rfl (hout.at_ hb0 hb1)))) dP) dP) dP) (dL ⟨q, 1, none⟩ (.slice (sM go) N N) fun w_ hK => (blk_cell ((hM.then_ hK).ro hq) rfl))) dP) (dI ⟨go, 0, none⟩ N 1 a)) (dL ((⟨go, 0, none⟩ : Addr).add ((a).toNat * 1)) (.int .i64 (g a)) fun w_ hK => (rd_get1 (row_rd ((hM.then_ hK).ro hgo)) rfl (hout.at_ ha0 ha1)))) (dC (decide ((g b) ≤ (g a))) hB22)) dP) dP) ?_
 intro aC w27 vs hK hv fr
 revert aC; refine zkp [(6, (.bool B22))] ?_
 have M28 := hM.then_ hK
 clear hK hv fr aC hM; clear vs
 have iB22 : B22 = true ↔ (((g b) : Int) ≤ (g a)) := by rw [hB22]; simp only [decide_eq_true_eq]
 clear hB22
 refine zre <| zo1 (.bool B22) ?_
 have hR : B22 = true ↔ (((g b) : Int) ≤ (g a)) := by simp only [iB22]
 exact ⟨bool_dec hR (by simp only [standQ]; omega), M28⟩
end Go.Proofs.Ytejbeeaomokjpaa
namespace Go.Proofs.Ytejbeeaomokjpaa
open Go.Mor
theorem there_c (q gm qt gi go n N : Nat) (nm wk so : Value) (pa va : Int) (A : Option Addr) (c : Nat) (l : List (Int × Int)) (insL outL : List Int) (f g : Int → Int) (ds : Dfs) (v b k : Int) (w : World) (hq : RO noS w (.blk q 103 [nm, wk, (.int .i64 pa), (.int .i64 va), (.slice A N c), so, (pT qt 0), (.slice (sM gm) n n)])) (hmd : RO noS w (.row 141 2 (sM gm) n n (mdc l))) (hqt : RO noS w (.blk qt 146 [(.slice (sM gi) N N), (.slice (sM go) N N)])) (hgi : RO noS w (.row 3 1 (sM gi) N N (ints insL))) (hgo : RO noS w (.row 3 1 (sM go) N N (ints outL))) (hin : IntsOf N insL f) (hout : IntsOf N outL g) (hva : va = (n : Int)) (htb : TabS n ds l) (hds : ∀ d, d ∈ ds → 0 ≤ d.2.1 ∧ d.2.1 < (N : Int) ∧ -1 ≤ d.2.2) (hb0 : 0 ≤ b) (hb1 : b < (N : Int)) :
    Calls Try.prog 119 #[(pT q 0), (.int .i64 v), (.int .i64 b), (.int .i64 k)] w (Ret fun u w' => u = .bool (decide (thereQ (standQ f g) pa va ds v b k)) ∧ Mem noS w w' []) := by
 refine zen 57 [(pT q 0), (.int .i64 v), (.int .i64 b), (.int .i64 k)] Try.func119 ?_
 have hM := Mem.init w
 refine zsp <| zsq <| zsr <| zpn 3 ?_
 obtain ⟨B1, hB1⟩ : ∃ B : Bool, B = decide ((v : Int) < 0) := ⟨_, rfl⟩
 refine zkp [(0, (pT q 0)), (1, (.int .i64 v)), (2, (.int .i64 b)), (3, (.int .i64 k)), (12, (.bool (decide ((v : Int) < 0))))] ?_
 rw [← hB1]
 have iB1 : B1 = true ↔ ((v : Int) < 0) := by rw [hB1]; simp only [decide_eq_true_eq]
 clear hB1
 intro aC fr
 refine zpk 5 8 [13, 17] fr (news := [(13, (cond (!B1) (.int .i64 v) undef)), (17, (cond (!B1) (pT q 3) undef))]) (by cases B1 <;> kernel_rfl) ?_
 intro aC fr
 refine From_either (B := (!B1)) (d := (some 18)) (.int .i64 va) fr (by cases B1 <;> kernel_rfl) (fun hB hh => ?_) ?_
 cases B1 <;> first | (exact absurd hB (by decide)) | skip
 have c1 : ¬ ((v : Int) < 0) := (fun h => Bool.noConfusion (iB1.2 h) : ¬ ((v : Int) < 0))
 exact From_ld (some 18) ⟨q, 3, none⟩ fr (by kernel_rfl) (.int .i64 va) (blk_cell (hM.ro hq) rfl) hh
 intro aC fr
 refine zpk 2 11 [20] fr (news := [(20, (.bool (B1 || decide ((v : Int) ≥ va))))]) (by cases B1 <;> kernel_rfl) ?_
 intro aC fr
 revert aC
 refine zfe <| zcP (B1 || decide ((v : Int) ≥ va)) (((v : Int) < 0) ∨ ((v : Int) ≥ va)) (by simp only [Bool.or_eq_true, decide_eq_true_eq, iB1]) (fun c10 => ?_) (fun c10 => ?_)
 refine zsp <| zre <| zo1 (.bool false) ?_
 have hR : false = true ↔ False := by simp
 exact ⟨bool_dec hR (⟨False.elim, fun h => there_out (by omega) h⟩), hM⟩
 refine zsk <| zsr ?_
 obtain ⟨pm, hpm⟩ := get_of (l := l) (i := v.toNat) (by have := htb.len; omega)
 refine zpn 3 <| zld ⟨q, 7, none⟩ (.slice (sM gm) n n) (blk_cell (hM.ro hq) rfl) <| zpn 1 <| zix ⟨gm, 0, none⟩ n 2 v <| zls ((⟨gm, 0, none⟩ : Addr).add ((v).toNat * 2)) [(.int .i64 pm.1), (.int .i64 pm.2)] (md_rd (row_rd (hM.ro hmd)) rfl hpm) <| zal hM 141 [(.int .i64 0), (.int .i64 0)] fun b11 w12 hb11 M13 => ?_
 replace M13 := M13.nf
 clear hM
 refine zss M13 0 [(.int .i64 pm.1), (.int .i64 pm.2)] rfl fun w14 M15 => ?_
 replace M15 := M15.nf
 refine zfe <| zsq <| zbk 0 <| zsr <| zpn 5 <| zld ⟨q, 2, none⟩ (.int .i64 pa) (blk_cell (M15.ro hq) rfl) <| zkp [(0, (pT q 0)), (2, (.int .i64 b)), (3, (.int .i64 k)), (9, (pT b11 0)), (29, (.int .i64 v)), (34, (.int .i64 pa))] <| zpn 2 <| zfe <| zcD ((v : Int) < pa) (fun c16 => ?_) (fun c16 => ?_)
 refine zsp <| zre <| zbr <| zo1 (.bool true) ?_
 have hR : true = true ↔ True := by simp
 have M17 := M15.od [] 0
 exact ⟨bool_dec hR (⟨fun _ => there_par (by omega) (by omega) (by omega), fun _ => trivial⟩), M17⟩
 refine zsr <| zpn 1 <| zld ⟨b11, 0, none⟩ (.int .i64 pm.1) (blk_cell (M15.get 0 rfl) rfl) <| zpn 2 <| zfe <| zcD ((pm.1 : Int) < 0) (fun c18 => ?_) (fun c18 => ?_)
 refine zsp <| zre <| zbr <| zo1 (.bool false) ?_
 have hR : false = true ↔ False := by simp
 have M19 := M15.od [] 0
 exact ⟨bool_dec hR (⟨False.elim, fun h => there_no htb (fun d hd => (hds d hd).1) hpm (by omega) (by omega) (by omega) (by omega) h⟩), M19⟩
 refine zsr <| zpn 1 <| zld ⟨b11, 0, none⟩ (.int .i64 pm.1) (blk_cell (M15.get 0 rfl) rfl) <| zpn 3 <| zfe <| zcP ((pm.1 : Int) == b) ((pm.1 : Int) = b) (by simp only [beq_iff_eq]) (fun c20 => ?_) (fun c20 => ?_)
 refine zsr <| zpn 1 <| zld ⟨b11, 1, none⟩ (.int .i64 pm.2) (blk_cell (M15.get 0 rfl) rfl) <| zpn 3 <| zfe <| zre <| zbr <| zo1 (.bool (decide ((pm.2 : Int) ≤ k))) ?_
 have hR : decide ((pm.2 : Int) ≤ k) = true ↔ ((pm.2 : Int) ≤ k) := by simp only [decide_eq_true_eq]
 have M21 := M15.od [] 0
 exact ⟨bool_dec hR (there_here htb hpm (by omega) (by omega) hva (by omega) (by omega) (by omega)), M21⟩
 have hpr := there_rng (N := N) htb hds hpm (by omega) (by omega) (by omega)
 refine zsk <| zsq ?_
 obtain ⟨B22, hB22⟩ : ∃ B : Bool, B = decide (standQ f g pm.1 b) := ⟨_, rfl⟩
 refine zkp [(0, (pT q 0)), (2, (.int .i64 b)), (3, (.int .i64 k)), (9, (pT b11 0))] ?_
 intro aC fr
 refine zdr (N := 57) (env0 := [(0, (pT q 0)), (2, (.int .i64 b)), (3, (.int .i64 k)), (9, (pT b11 0))]) (specAt [.det (pT q 0), .det (pT q 0), .det (pT q 6), .det (pT qt 0), .det (pT b11 0), .det (.int .i64 pm.1), .det (.int .i64 b), .det (.bool B22), .det (.bool B22)]) fr (la (la (la (la (la (la (la (la (la lz dP) dP) dP) (dL ⟨q, 6, none⟩ (pT qt 0) fun w_ hK => (blk_cell ((M15.then_ hK).ro hq) rfl))) dP) (dL ⟨b11, 0, none⟩ (.int .i64 pm.1) fun w_ hK => (blk_cell ((M15.then_ hK).get 0 rfl) rfl))) dP) (dD (fun w_ hK => stands_c qt gi go N insL outL f g pm.1 b w_ (hqt.at_ (M15.then_ hK)) (hgi.at_ (M15.then_ hK)) (hgo.at_ (M15.then_ hK)) hin hout (by omega) hpr (by omega) (by omega)) (congrArg Value.bool hB22.symm))) dP) ?_
 intro aC w27 vs hK hv fr
 revert aC; refine zkp [(8, (.bool B22))] ?_
 have M28 := M15.then_ hK
 clear hK hv fr aC M15; clear vs
 have iB22 : B22 = true ↔ (standQ f g pm.1 b) := by rw [hB22]; simp only [decide_eq_true_eq]
 clear hB22
 refine zre <| zo1 (.bool B22) ?_
 have hR : B22 = true ↔ (standQ f g pm.1 b) := by simp only [iB22]
 have M29 := M28.od [] 0
 exact ⟨bool_dec hR (there_up htb hpm (by omega) (by omega) hva (by omega) (by omega) (by omega)), M29⟩
theorem rthere_c (gm n co : Nat) (Ao : Option Addr) (pa va : Int) (l : List (Int × Int)) (ds : Dfs) (bs : List SB) (rows : List RowV) (v b k : Int) (w : World) (hN0 : 0 < bs.length) (hmd : RO noS w (.row 94 2 (sM gm) n n (mdc l))) (hF0 : RO noS w (.fam 4 rows)) (hR : RO noS w (.row 46 1 Ao bs.length co (slv rows))) (hfo : FamOf Value.bool rows (overL bs)) (hva : va = (n : Int)) (htb : TabR pa n ds l) (hpd : ∀ d, d ∈ ds → pa ≤ d.1) (hds : ∀ d, d ∈ ds → 0 ≤ d.2.1 ∧ d.2.1 < (bs.length : Int) ∧ -1 ≤ d.2.2) (hb0 : 0 ≤ b) (hb1 : b < (bs.length : Int)) :
    Calls Try.prog 76 #[(.slice (sM gm) n n), (.slice Ao bs.length co), (.int .i64 v), (.int .i64 b), (.int .i64 k)] w (Ret fun u w' => u = .bool (decide (thereQ (overD bs) pa va ds v b k)) ∧ Mem noS w w' []) := by
 have hll := htb.len
 refine zen 58 [(.slice (sM gm) n n), (.slice Ao bs.length co), (.int .i64 v), (.int .i64 b), (.int .i64 k)] Try.func76 ?_
 have hM := Mem.init w
 refine zsp <| zsq <| zsr <| zpn 3 ?_
 obtain ⟨B1, hB1⟩ : ∃ B : Bool, B = decide ((v : Int) < 0) := ⟨_, rfl⟩
 refine zkp [(0, (.slice (sM gm) n n)), (1, (.slice Ao bs.length co)), (2, (.int .i64 v)), (3, (.int .i64 b)), (4, (.int .i64 k)), (13, (.bool (decide ((v : Int) < 0))))] ?_
 rw [← hB1]
 have iB1 : B1 = true ↔ ((v : Int) < 0) := by rw [hB1]; simp only [decide_eq_true_eq]
 clear hB1
 intro aC fr
 refine zpk 6 9 [18, 19] fr (news := [(18, (.bool (B1 || decide ((v : Int) ≥ ((n : Nat) : Int))))), (19, (.bool (B1 || decide ((v : Int) ≥ ((n : Nat) : Int)))))]) (by cases B1 <;> kernel_rfl) ?_
 intro aC fr
 obtain ⟨B6, hB6⟩ : ∃ B : Bool, B = (B1 || decide ((v : Int) ≥ ((n : Nat) : Int))) := ⟨_, rfl⟩
 revert aC
 refine zkp [(0, (.slice (sM gm) n n)), (1, (.slice Ao bs.length co)), (2, (.int .i64 v)), (3, (.int .i64 b)), (4, (.int .i64 k)), (19, (.bool (B1 || decide ((v : Int) ≥ ((n : Nat) : Int)))))] ?_
 rw [← hB6]
 have iB6 : B6 = true ↔ (((v : Int) < 0) ∨ ((v : Int) ≥ ((n : Nat) : Int))) := by rw [hB6]; simp only [Bool.or_eq_true, decide_eq_true_eq, iB1]
 clear hB6
 intro aC fr
 refine zpk 2 11 [20, 21] fr (news := [(20, (cond (!B6) (.slice (sM gm) n n) undef)), (21, (cond (!B6) (.int .i64 v) undef))]) (by cases B6 <;> kernel_rfl) ?_
 intro aC fr
 refine From_either (B := (!B6)) (d := (some 22)) (.pointer (some ((⟨gm, 0, none⟩ : Addr).add ((v).toNat * 2)))) fr (by cases B6 <;> kernel_rfl) (fun hB hh => ?_) ?_
 cases B6 <;> first | (exact absurd hB (by decide)) | skip
 have c6 : ¬ (((v : Int) < 0) ∨ ((v : Int) ≥ ((n : Nat) : Int))) := (fun h => Bool.noConfusion (iB6.2 h) : ¬ (((v : Int) < 0) ∨ ((v : Int) ≥ ((n : Nat) : Int))))
 exact From_ix (some 22) ⟨gm, 0, none⟩ n 2 v fr (by kernel_rfl) (by omega) (by omega) hh
 intro aC fr
 refine zpk 1 13 [23] fr (news := [(23, (cond (!B6) (.pointer (some ((⟨gm, 0, none⟩ : Addr).add ((v).toNat * 2)))) undef))]) (by cases B6 <;> kernel_rfl) ?_
 intro aC fr
 refine From_either (B := (!B6)) (d := (some 24)) (.int .i64 ((l.getD v.toNat (0, 0)).1)) fr (by cases B6 <;> kernel_rfl) (fun hB hh => ?_) ?_
 cases B6 <;> first | (exact absurd hB (by decide)) | skip
 have c6 : ¬ (((v : Int) < 0) ∨ ((v : Int) ≥ ((n : Nat) : Int))) := (fun h => Bool.noConfusion (iB6.2 h) : ¬ (((v : Int) < 0) ∨ ((v : Int) ≥ ((n : Nat) : Int))))
 exact From_ld (some 24) ((⟨gm, 0, none⟩ : Addr).add ((v).toNat * 2)) fr (by kernel_rfl) (.int .i64 ((l.getD v.toNat (0, 0)).1)) (md_rd0 (row_rd (hM.ro hmd)) rfl (get_getD _ (by omega))) hh
 intro aC fr
 refine zpk 2 16 [26] fr (news := [(26, (.bool (B6 || decide (((l.getD v.toNat (0, 0)).1 : Int) < 0))))]) (by cases B6 <;> kernel_rfl) ?_
 intro aC fr
 revert aC
 refine zfe <| zcP (B6 || decide (((l.getD v.toNat (0, 0)).1 : Int) < 0)) ((((v : Int) < 0) ∨ ((v : Int) ≥ ((n : Nat) : Int))) ∨ (((l.getD v.toNat (0, 0)).1 : Int) < 0)) (by simp only [Bool.or_eq_true, decide_eq_true_eq, iB6]) (fun c19 => ?_) (fun c19 => ?_)
 refine zsp <| zre <| zo1 (.bool false) ?_
 have hR : false = true ↔ False := by simp
 exact ⟨bool_dec hR (⟨False.elim, fun h => rthere_out htb (fun d hd => (hds d hd).1) hva (by omega) h⟩), hM⟩
 have hpm := get_getD (l := l) (i := v.toNat) (0, 0) (by omega)
 refine zsk <| zsq <| zsr <| zpn 2 <| zix ⟨gm, 0, none⟩ n 2 v <| zpn 1 <| zld (((⟨gm, 0, none⟩ : Addr).add ((v).toNat * 2)).add 1) (.int .i64 ((l.getD v.toNat (0, 0)).2)) (md_rd (row_rd (hM.ro hmd)) rfl hpm 1 _ rfl) <| zpn 1 <| zfe <| zcP (((l.getD v.toNat (0, 0)).2 : Int) == (-2)) (((l.getD v.toNat (0, 0)).2 : Int) = (-2)) (by simp only [beq_iff_eq]) (fun c20 => ?_) (fun c20 => ?_)
 refine zsp <| zre <| zo1 (.bool true) ?_
 have hR : true = true ↔ True := by simp
 exact ⟨bool_dec hR (⟨fun _ => rthere_par htb (fun d hd => (hds d hd).2.2) hpm (by omega) (by omega) hva (by omega) (by omega), fun _ => trivial⟩), hM⟩
 refine zsk <| zsq <| zsr <| zpn 2 <| zix ⟨gm, 0, none⟩ n 2 v <| zkp [(0, (.slice (sM gm) n n)), (1, (.slice Ao bs.length co)), (2, (.int .i64 v)), (3, (.int .i64 b)), (4, (.int .i64 k)), (35, (.pointer (some ((⟨gm, 0, none⟩ : Addr).add ((v).toNat * 2)))))] <| zpn 1 <| zld ((⟨gm, 0, none⟩ : Addr).add ((v).toNat * 2)) (.int .i64 ((l.getD v.toNat (0, 0)).1)) (md_rd0 (row_rd (hM.ro hmd)) rfl hpm) <| zpn 2 <| zfe <| zcP (((l.getD v.toNat (0, 0)).1 : Int) == b) (((l.getD v.toNat (0, 0)).1 : Int) = b) (by simp only [beq_iff_eq]) (fun c21 => ?_) (fun c21 => ?_)
 refine zsr <| zpn 2 <| zix ⟨gm, 0, none⟩ n 2 v <| zpn 1 <| zld (((⟨gm, 0, none⟩ : Addr).add ((v).toNat * 2)).add 1) (.int .i64 ((l.getD v.toNat (0, 0)).2)) (md_rd (row_rd (hM.ro hmd)) rfl hpm 1 _ rfl) <| zpn 3 <| zfe <| zre <| zo1 (.bool (decide (((l.getD v.toNat (0, 0)).2 : Int) < k))) ?_
 have hR : decide (((l.getD v.toNat (0, 0)).2 : Int) < k) = true ↔ (((l.getD v.toNat (0, 0)).2 : Int) < k) := by simp only [decide_eq_true_eq]
 exact ⟨bool_dec hR (rthere_here (find_par hpd) htb hpm (by omega) (by omega) hva (by omega) (by omega) (by omega)), hM⟩
 have hpr := rthere_rng (N := bs.length) htb hds hpm (by omega) (by omega) (by omega)
 have hol := overL_len bs
 obtain ⟨x, hx⟩ := sq_get (l := overL bs) (l.getD v.toNat (0, 0)).1.toNat (by omega)
 have hxl := overL_square bs _ x hx
 obtain ⟨Ax, cx, hrx⟩ := hfo.get hx
 obtain ⟨adx, rfl⟩ := rd_some (fam_rd (hM.ro hF0) hrx) (by simp; omega)
 refine zsk <| zsr <| zpn 3 <| zix ⟨gm, 0, none⟩ n 2 v <| zpn 1 <| zld ((⟨gm, 0, none⟩ : Addr).add ((v).toNat * 2)) (.int .i64 ((l.getD v.toNat (0, 0)).1)) (md_rd0 (row_rd (hM.ro hmd)) rfl hpm) ?_
 obtain ⟨ad22, rfl⟩ := rd_some (row_rd (hM.ro hR)) (by rw [slv_len, hfo.len]; omega)
 refine zix ad22 bs.length 1 ((l.getD v.toNat (0, 0)).1) <| zld ((ad22 : Addr).add (((l.getD v.toNat (0, 0)).1).toNat * 1)) (.slice (some adx) x.length cx) (rd_get1 (row_rd (hM.ro hR)) rfl (slv_get hrx)) <| zpn 1 <| zix adx x.length 1 b <| zld ((adx : Addr).add ((b).toNat * 1)) (.bool (x.getD b.toNat false)) (rd_get1 (fam_rd (hM.ro hF0) hrx) rfl (bools_get (by omega))) <| zkp [(57, (.bool (x.getD b.toNat false)))] <| zpn 1 <| zfe <| zre <| zo1 (.bool (x.getD b.toNat false)) ?_
 have hR : (x.getD b.toNat false) = true ↔ ((x.getD b.toNat false) = true) := Iff.rfl
 exact ⟨bool_dec hR ((by rw [← rthere_up (find_par hpd) htb hpm (by omega) (by omega) hva (by omega) (by omega) (by omega), overD, at2_of hx])), hM⟩
end Go.Proofs.Ytejbeeaomokjpaa
