/-
  Texts of the proof, part 16.
-/
import Derived.Test.YtejbeeaomokjpaaZA15
import Derived.Scope
import Derived.Test.YtejbeeaomokjpaaChecked
set_option maxRecDepth 10000
namespace Go.Mor
open Go.RowKit
section
variable {P : Program} {c : Code} {K : Act → World → Prop} {Q : Exit → Act → World → Prop} {w : World} {N : FN} {env : Env}
end
end Go.Mor
namespace Go.Mor
open Go.RowKit
section
variable {P : Program} {c : Code} {K : Act → World → Prop} {Q : Exit → Act → World → Prop} {w w0 : World} {S : Nat → Prop} {L : List Res} {k : Nat} {N : FN} {env : Env}
end
section
variable {P : Program} {c : Code} {Q : Exit → Act → World → Prop} {N : FN} {i : Nat} {env0 : Env} {wr : World} {sp : Nat → Spec}
end
end Go.Mor
namespace Go.Mor
open Go.RowKit
section
variable {P : Program} {c : Code} {K : Act → World → Prop} {Q : Exit → Act → World → Prop} {w w0 : World} {S : Nat → Prop} {L : List Res} {k : Nat} {N : FN} {env : Env} {α : Type} {inj : α → Value} {kt e : TypeId}
end
section
variable {P : Program} {c : Code} {Q : Exit → Act → World → Prop} {N : FN} {i : Nat} {env0 : Env} {wr : World} {sp : Nat → Spec}
end
theorem run_eqnil {P : Program} {t e : TypeId} (ht : P.underlying t = some (.slice e)) (A : Option Addr) (n c : Nat) (w : World) : (binOp .eql t (.slice A n c) (.slice none 0 0)).run P w = .ok (.bool A.isNone) w := by
  show ((do pure (.bool (← Op.equal t (.slice A n c) (.slice none 0 0))) : Sem Value)).run P w = _
  unfold Op.equal Op.maxDepth Op.equalIn
  cases A <;> simp [run_underlying ht]
section
variable {P : Program} {c : Code} {K : Act → World → Prop} {Q : Exit → Act → World → Prop} {w : World} {k : Nat} {N : FN} {env : Env}
theorem zen_ (t : TypeId) {e : TypeId} (A : Option Addr) (n cp : Nat) (ht : P.underlying t = some (.slice e)) (h : ∀ a, Fr a N (putE env (dstAt c k) (.bool A.isNone)) → From P c K Q (k + 1) a w)
    (hk : bnE c N env k = some (dstAt c k, .eql, t, .slice A n cp, .slice none 0 0) := by kernel_rfl) : ∀ a, Fr a N env → From P c K Q k a w := fun a hF => by
  generalize dstAt c k = d at h hk
  unfold bnE at hk
  split at hk
  · rename_i g0
    split at hk
    · rename_i g1 g2 g3 g4
      simp only [Option.some.injEq, Prod.mk.injEq] at hk
      obtain ⟨e1, e2, e3, e4, e5⟩ := hk
      refine From_same g0 hF g1 (by rw [e1] at g2; exact e1 ▸ g2) rfl (fun o ho => ?_) (by rw [e1]; exact fun a' _ => h a')
      unfold execOp
      rw [ho, e2, e3]
      have hq : ∀ x y, (eqGuard .eql t x y (.slice A n cp) (.slice none 0 0)).run P w = .ok () w := by
        intro x y
        simp [eqGuard]
      simp only [hF.ev g3, hF.ev g4, e4, e5, Sem.run_bind, hq, run_eqnil ht, Result.andThen_ok]
      rfl
    · cases hk
  · cases hk
end
end Go.Mor
namespace Go.Proofs.Ytejbeeaomokjpaa
open Go.Mor
theorem pure_c (op : Int) (w : World) :
    Calls Try.prog 53 #[(.int .i64 op)] w (Ret fun v w' => v = .bool (decide (pureQ op)) ∧ Mem noS w w' []) := by
 refine zen 19 [(.int .i64 op)] Try.func53 ?_
 have hM := Mem.init w
 refine zsp <| zsq <| zsp <| zbk 0 <| zsq <| zsp ?_
 obtain ⟨B1, hB1⟩ : ∃ B : Bool, B = ((op : Int) == 1) := ⟨_, rfl⟩
 refine zkp [(0, (.int .i64 op)), (3, (.int .i64 op)), (4, (.bool ((op : Int) == 1)))] ?_
 rw [← hB1]
 have iB1 : B1 = true ↔ ((op : Int) = 1) := by rw [hB1]; simp only [beq_iff_eq]
 clear hB1
 cases B1
 have c1 : ¬ ((op : Int) = 1) := (fun h => Bool.noConfusion (iB1.2 h) : ¬ ((op : Int) = 1))
 refine zcF <| zsp ?_
 obtain ⟨B2, hB2⟩ : ∃ B : Bool, B = ((op : Int) == 12) := ⟨_, rfl⟩
 refine zkp [(0, (.int .i64 op)), (3, (.int .i64 op)), (4, (.bool ((op : Int) == 12)))] ?_
 rw [← hB2]
 have iB2 : B2 = true ↔ ((op : Int) = 12) := by rw [hB2]; simp only [beq_iff_eq]
 clear hB2
 cases B2
 have c2 : ¬ ((op : Int) = 12) := (fun h => Bool.noConfusion (iB2.2 h) : ¬ ((op : Int) = 12))
 refine zcF <| zsp ?_
 obtain ⟨B3, hB3⟩ : ∃ B : Bool, B = ((op : Int) == 6) := ⟨_, rfl⟩
 refine zkp [(0, (.int .i64 op)), (3, (.int .i64 op)), (4, (.bool ((op : Int) == 6)))] ?_
 rw [← hB3]
 have iB3 : B3 = true ↔ ((op : Int) = 6) := by rw [hB3]; simp only [beq_iff_eq]
 clear hB3
 cases B3
 have c3 : ¬ ((op : Int) = 6) := (fun h => Bool.noConfusion (iB3.2 h) : ¬ ((op : Int) = 6))
 refine zcF <| zrp <| zcP ((op : Int) == 7) ((op : Int) = 7) (by simp only [beq_iff_eq]) (fun c4 => ?_) (fun c4 => ?_)
 refine zsp <| zre <| zbr <| zo1 (.bool true) ?_
 have hR : true = true ↔ True := by simp
 exact ⟨bool_dec hR (⟨fun h_ => by unfold pureQ; omega, fun h_ => by first | trivial | (unfold pureQ at h_; omega)⟩), hM⟩
 refine zsk <| zsr <| zpn 3 ?_
 obtain ⟨B5, hB5⟩ : ∃ B : Bool, B = decide ((op : Int) ≥ 16) := ⟨_, rfl⟩
 refine zkp [(0, (.int .i64 op)), (11, (.bool (decide ((op : Int) ≥ 16))))] ?_
 rw [← hB5]
 have iB5 : B5 = true ↔ ((op : Int) ≥ 16) := by rw [hB5]; simp only [decide_eq_true_eq]
 clear hB5
 intro aC fr
 refine zpk 4 7 [14, 15] fr (news := [(14, (.bool (B5 && ((op : Int) != 20)))), (15, (.bool (B5 && ((op : Int) != 20))))]) (by cases B5 <;> kernel_rfl) ?_
 intro aC fr
 obtain ⟨B10, hB10⟩ : ∃ B : Bool, B = (B5 && ((op : Int) != 20)) := ⟨_, rfl⟩
 revert aC
 refine zkp [(0, (.int .i64 op)), (15, (.bool (B5 && ((op : Int) != 20))))] ?_
 rw [← hB10]
 have iB10 : B10 = true ↔ (((op : Int) ≥ 16) ∧ ((op : Int) ≠ 20)) := by rw [hB10]; simp only [Bool.and_eq_true, bne_iff_ne, iB5]
 clear hB10
 intro aC fr
 refine zpk 4 11 [2, 18] fr (news := [(2, (.bool (B10 && ((op : Int) != 21)))), (18, (.bool (B10 && ((op : Int) != 21))))]) (by cases B10 <;> kernel_rfl) ?_
 intro aC fr
 revert aC
 refine zfe <| zre <| zo1 (.bool (B10 && ((op : Int) != 21))) ?_
 have hR : (B10 && ((op : Int) != 21)) = true ↔ ((((op : Int) ≥ 16) ∧ ((op : Int) ≠ 20)) ∧ ((op : Int) ≠ 21)) := by simp only [Bool.and_eq_true, bne_iff_ne, iB10]
 exact ⟨bool_dec hR (⟨fun h_ => by unfold pureQ; omega, fun h_ => by first | trivial | (unfold pureQ at h_; omega)⟩), hM⟩
 have c3 : ((op : Int) = 6) := iB3.1 rfl
 refine zcT <| zsk <| zcT <| zsp <| zre <| zbr <| zo1 (.bool true) ?_
 have hR : true = true ↔ True := by simp
 exact ⟨bool_dec hR (⟨fun h_ => by unfold pureQ; omega, fun h_ => by first | trivial | (unfold pureQ at h_; omega)⟩), hM⟩
 have c2 : ((op : Int) = 12) := iB2.1 rfl
 refine zcT <| zsk <| zcT <| zsp <| zre <| zbr <| zo1 (.bool true) ?_
 have hR : true = true ↔ True := by simp
 exact ⟨bool_dec hR (⟨fun h_ => by unfold pureQ; omega, fun h_ => by first | trivial | (unfold pureQ at h_; omega)⟩), hM⟩
 have c1 : ((op : Int) = 1) := iB1.1 rfl
 refine zcT <| zsk <| zcT <| zsp <| zre <| zbr <| zo1 (.bool true) ?_
 have hR : true = true ↔ True := by simp
 exact ⟨bool_dec hR (⟨fun h_ => by unfold pureQ; omega, fun h_ => by first | trivial | (unfold pureQ at h_; omega)⟩), hM⟩
theorem clone_c (l : List Int) (n : Nat) (A : Option Addr) (c : Nat) (w : World) (hn : l.length = n) (hl : l.length ≤ 1000000) (hA : RO noS w (.rd A (ints l))) :
    Calls Try.prog 86 #[(.slice A n c)] w (Ret fun v w' => ∃ A' c', v = .slice A' n c' ∧ Mem noS w w' [.row 3 1 A' n c' (ints l)]) := by
 refine zen 8 [(.slice A n c)] Try.func86 ?_
 have hM := Mem.init w
 refine zsp <| zsq <| zsr <| zpn 1 <| zen_ 37 A n c Try.underlying37 <| zfe <| zcP A.isNone (A.isNone = true) Iff.rfl (fun c1 => ?_) (fun c1 => ?_)
 refine zsp <| zre <| zo1 (.slice none 0 0) ?_
 obtain rfl : A = none := by cases A; rfl; exact absurd c1 (by simp)
 obtain rfl : l = [] := rd_none_nil hA.1
 subst hn; exact ⟨none, 0, rfl, hM.call (Mem.nilrow _ 3 1)⟩
 replace c1 : A.isNone = false := Bool.eq_false_iff.2 c1
 refine zsk <| zsr ?_
 intro aC fr
 refine From_build0 (by kernel_rfl : coreAt _ 0 = some (some 5, (.buildSlice 37 0 #[]), 37, none)) fr (by kernel_rfl) (by kernel_rfl) (k' := 1) rfl (e := 3) (size := 1) (by kernel_rfl) (by kernel_rfl) hM ?_
 intro b2 w3 hb2 _ M4 _ aC ea fr; clear ea
 replace M4 := M4.nf
 clear hM
 revert aC
 refine zpn 1 ?_
 intro aC fr
 refine zAp 7 (.tmp 5) (.tmp 6) 37 37 fr (e := 3) (size := 1) (bytes := 8) (z := (.int .i64 0)) (A := (sM b2)) (B := A) (n := 0) (cap := 0) (m := n) (cap' := c) (xs := []) (news := (ints l)) M4 0 rfl (M4.ro hA) (by rw [ints_len, Nat.mul_one]; exact hn) (ints_one _) (by omega) (by simp only [maxLen]; omega) ?_
 intro A9 c10 w11 M12 _ aC ea fr; clear ea
 replace M12 := M12.nf
 revert aC
 refine zpn 1 <| zfe <| zre <| zo1 (.slice A9 (0 + n) c10) ?_
 have M17 := M12.od [] 1
 subst hn; exact ⟨_, _, by rw [Nat.zero_add], M17.cast (by rw [Nat.zero_add])⟩
end Go.Proofs.Ytejbeeaomokjpaa
namespace Go.Proofs.Ytejbeeaomokjpaa
open Go.Mor
set_option maxHeartbeats 2000000 in
theorem from_c (nm : ByteArray) (wk : Bool) (pa va : Int) (A : Option Addr) (c : Nat) (fs : List FBlk) (w : World) (hN : fs.length ≤ 1000) (hsm : FSm fs) (hA : RO noS w (.fn A fs)) :
    Calls Try.prog 46 #[(fA nm wk pa va A c fs)] w (Ret fun v w' => ∃ q bA bn bc gA gc gs, v = .pointer (sM q) ∧ gs.map GBlk.k = fromK fs ∧ Mem noS w w' (gF q nm wk pa va bA bn bc gA gc gs)) := by
 refine zen 76 [(fA nm wk pa va A c fs)] Try.func46 ?_
 have hM := Mem.init w
 refine zsr <| zbx hM 24 (fA nm wk pa va A c fs) (fV nm wk pa va A c fs) fun b1 w2 hb1 M3 => ?_
 replace M3 := M3.nf
 clear hM
 refine zpn 1 <| zfe <| zsr <| zls ⟨b1, 0, none⟩ (fV nm wk pa va A c fs) (blk_cells (M3.get 0 rfl)) <| zcl (copy_c nm wk pa va A c fs w2 hN hsm (hA.at_ M3)) ?_
 rintro _ w4 ⟨B, cB, gd, rfl, hgd, M5x⟩
 have M5 := M3.cl M5x
 refine zss M5 0 [(.string nm), (.bool wk), (.int .i64 pa), (.int .i64 va), (.slice B ((bsOf gd).length) cB)] rfl fun w6 M7 => ?_
 replace M7 := M7.nf
 refine zfe <| zsr ?_
 have hgl : gd.length = fs.length := map_len hgd
 have hsg : FSm gd := hsm.alike hgd
 have hbg := bsOf_len gd
 refine zls ⟨b1, 0, none⟩ [(.string nm), (.bool wk), (.int .i64 pa), (.int .i64 va), (.slice B ((bsOf gd).length) cB)] (blk_cells (M7.get 0 rfl)) <| zcl (vs := #[(.agg #[(.string nm), (.bool wk), (.int .i64 pa), (.int .i64 va), (.slice B ((bsOf gd).length) cB)])]) (all_c _ _ _ _ B cB (bsOf gd) w6 (by omega) (RO.of (own_bs (M7.get 1 rfl)))) ?_
 rintro _ w8 ⟨sA, sc, rows, rfl, hrw, M9x⟩
 have M9 := M7.cl M9x
 refine zpn 1 <| zfe <| zsr <| zls ⟨b1, 0, none⟩ [(.string nm), (.bool wk), (.int .i64 pa), (.int .i64 va), (.slice B ((bsOf gd).length) cB)] (blk_cells (M9.get 0 rfl)) <| zpn 1 <| zbx M9 61 (.agg #[(.string nm), (.bool wk), (.int .i64 pa), (.int .i64 va), (.slice B ((bsOf gd).length) cB), (.slice none 0 0)]) [(.string nm), (.bool wk), (.int .i64 pa), (.int .i64 va), (.slice B ((bsOf gd).length) cB), (.slice none 0 0)] fun b10 w11 hb10 M12 => ?_
 replace M12 := M12.nf
 refine zpn 1 <| zfe <| zsq <| zsr <| zpn 1 <| zld ⟨b1, 4, none⟩ (.slice B ((bsOf gd).length) cB) (blk_cell (M12.get 0 rfl) rfl) <| zkp [(3, (.slice sA ((bsOf gd).length) sc)), (4, (pT b10 0)), (18, (.slice B ((bsOf gd).length) cB))] <| zpn 2 <| zfe <| zbk 0 ?_
 have M13 := M12.od [5, 5, 5, 5, 5] 5
 intro aC fr
 refine zlp (fun n_ a_ w_ => ∃ (k : Nat) (gs : List GBlk) (gA : Option Addr) (gc : Nat), n_ = gd.length - k ∧ Fr a_ 76 [(3, (.slice sA ((bsOf gd).length) sc)), (4, (pT b10 0)), (18, (.slice B ((bsOf gd).length) cB)), (19, (.int .i64 (((bsOf gd).length : Nat) : Int))), (20, (nV k))] ∧ Mem noS w w_ [blR B cB gd, .pk ((gd.drop k).map ownB), .fam 3 rows, .row 37 1 sA ((bsOf gd).length) sc (slv rows), .blk b10 61 [(.string nm), (.bool wk), (.int .i64 pa), (.int .i64 va), (.slice B ((bsOf gd).length) cB), (.slice gA gs.length gc)], .row 62 1 gA gs.length gc (ptrs gs), .pk (gs.map gB)] ∧ (k ≤ gd.length) ∧ (gs.map GBlk.k = (fromK gd).take k)) (n := _) ⟨0, [], none, 0, rfl, fr.kp [3, 4, 18, 19, 20], ((M13.call (Mem.nilrow _ 62 1)).call (Mem.nilpk _)), Nat.zero_le _, rfl⟩ ?_
 clear fr aC M13; rintro n aC w16 ⟨k, gs, gA, gc, rfl, fr, M17, hk, hgs⟩
 revert aC
 refine zsp <| zsq <| zcD (((k : Int) : Int) < (((bsOf gd).length : Nat) : Int)) (fun c20 => ?_) (fun c20 => ?_)
 refine zsk <| zsq <| zbk 1 <| zsr ?_
 obtain ⟨x, hx⟩ := get_of (l := gd) (i := k) (by omega)
 have hgsl : gs.length = k := by have h9 := congrArg List.length hgs; rw [List.length_map, List.length_take, fromK_len] at h9; omega
 have hxm := List.mem_of_getElem? hx
 have hl1 := hsg.lp x hxm
 have hl2 := hsg.li x hxm
 have M21 := M17.od [6, 6, 6, 6, 6, 5, 6] 7
 have M22 : Mem noS w w16 [ownB x, .pk ((gd.drop (k + 1)).map ownB), blR B cB gd, .fam 3 rows, .row 37 1 sA ((bsOf gd).length) sc (slv rows), .blk b10 61 [(.string nm), (.bool wk), (.int .i64 pa), (.int .i64 va), (.slice B ((bsOf gd).length) cB), (.slice gA gs.length gc)], .row 62 1 gA gs.length gc (ptrs gs), .pk (gs.map gB)] := (M21.cast (by rw [drop_map_at ownB hx])).pk_cons
 have M23 : Mem noS w w16 [phR x.pA x.pc x.phis, inR' x.iA x.ic x.insts, .pk (x.phis.map argP), .pk (x.insts.map argI), .pk ((gd.drop (k + 1)).map ownB), blR B cB gd, .fam 3 rows, .row 37 1 sA ((bsOf gd).length) sc (slv rows), .blk b10 61 [(.string nm), (.bool wk), (.int .i64 pa), (.int .i64 va), (.slice B ((bsOf gd).length) cB), (.slice gA gs.length gc)], .row 62 1 gA gs.length gc (ptrs gs), .pk (gs.map gB)] := Mem.unpack (l := ownL x) M22
 refine zpn 1 ?_
 obtain ⟨ad24, rfl⟩ := row_at (M23.get 5 rfl) (by have := flat_len (f := xV) (k := 6) xV_len gd; unfold blC; omega)
 refine zix ad24 ((bsOf gd).length) 6 (k : Int) <| zls ((ad24 : Addr).add (((k : Int)).toNat * 6)) (xV x) (own_blk (M23.get 5 rfl) rfl hx) <| zal M23 36 [(.slice none 0 0), (.slice none 0 0), (.int .i64 0), (.int .i64 0), (.int .i64 0), (.int .i64 0)] fun b25 w26 hb25 M27 => ?_
 replace M27 := M27.nf
 refine zpn 1 <| zss M27 11 (xV x) rfl fun w28 M29 => ?_
 replace M29 := M29.nf
 refine zfe <| zsr <| zpn 1 <| zld ⟨b25, 1, none⟩ (.slice x.iA x.insts.length x.ic) (blk_cell (M29.get 11 rfl) rfl) <| zpn 1 <| zld ⟨b25, 2, none⟩ (.int .i64 x.e) (blk_cell (M29.get 11 rfl) rfl) <| zpn 1 <| zld ⟨b25, 3, none⟩ (.int .i64 x.v) (blk_cell (M29.get 11 rfl) rfl) <| zkp [(3, (.slice sA ((bsOf gd).length) sc)), (4, (pT b10 0)), (5, (nV k)), (6, (pT b25 0)), (18, (.slice (some ad24) ((bsOf gd).length) cB)), (19, (.int .i64 (((bsOf gd).length : Nat) : Int))), (20, (nV k)), (26, (.slice x.iA x.insts.length x.ic)), (28, (.int .i64 x.e)), (30, (.int .i64 x.v))] <| zpn 1 ?_
 refine zld ⟨b25, 4, none⟩ (.int .i64 x.a) (blk_cell (M29.get 11 rfl) rfl) <| zpn 1 <| zld ⟨b25, 5, none⟩ (.int .i64 x.b) (blk_cell (M29.get 11 rfl) rfl) <| zpn 1 <| zbx M29 65 (.agg #[(.slice none 0 0), (.slice x.iA x.insts.length x.ic), (.int .i64 x.e), (.int .i64 x.v), (.int .i64 x.a), (.int .i64 x.b), (.bool false)]) [(.slice none 0 0), (.slice x.iA x.insts.length x.ic), (.int .i64 x.e), (.int .i64 x.v), (.int .i64 x.a), (.int .i64 x.b), (.bool false)] fun b30 w31 hb30 M32 => ?_
 replace M32 := M32.nf
 refine zpn 1 <| zfe <| zsq <| zsr <| zpn 1 <| zld ⟨b25, 0, none⟩ (.slice x.pA x.phis.length x.pc) (blk_cell (M32.get 11 rfl) rfl) <| zpn 2 <| zfe <| zbk 2 ?_
 have M33 := M32.od [12, 12, 12, 12, 12, 12, 12, 12, 12, 12, 12, 12, 12] 13
 intro aC fr
 refine zlp (fun n_ a_ w_ => ∃ (j : Nat) (pd : List GPhi) (pB : Option Addr) (pcB : Nat), n_ = x.phis.length - j ∧ Fr a_ 76 [(3, (.slice sA ((bsOf gd).length) sc)), (4, (pT b10 0)), (5, (nV k)), (7, (pT b30 0)), (18, (.slice (some ad24) ((bsOf gd).length) cB)), (19, (.int .i64 (((bsOf gd).length : Nat) : Int))), (20, (nV k)), (38, (.slice x.pA x.phis.length x.pc)), (39, (.int .i64 ((x.phis.length : Nat) : Int))), (40, (nV j))] ∧ Mem noS w w_ [phR x.pA x.pc x.phis, inR' x.iA x.ic x.insts, .pk ((x.phis.drop j).map argP), .pk (x.insts.map argI), .pk ((gd.drop (k + 1)).map ownB), blR (some ad24) cB gd, .fam 3 rows, .row 37 1 sA ((bsOf gd).length) sc (slv rows), .blk b10 61 [(.string nm), (.bool wk), (.int .i64 pa), (.int .i64 va), (.slice (some ad24) ((bsOf gd).length) cB), (.slice gA gs.length gc)], .row 62 1 gA gs.length gc (ptrs gs), .pk (gs.map gB), .blk b25 36 (xV x), .blk b30 65 [(.slice pB pd.length pcB), (.slice x.iA x.insts.length x.ic), (.int .i64 x.e), (.int .i64 x.v), (.int .i64 x.a), (.int .i64 x.b), (.bool false)], .row 67 3 pB pd.length pcB (gpC pd), .pk (pd.map frmP), .pk (pd.map argG)] ∧ (j ≤ x.phis.length) ∧ (pd.map GPhi.k = (x.phis.take j).map (fromP (srcs (bsOf gd) (k : Int))))) (n := _) ⟨0, [], none, 0, rfl, fr.kp [3, 4, 5, 7, 18, 19, 20, 38, 39, 40], (((M33.call (Mem.nilrow _ 67 3)).call (Mem.nilpk _)).call (Mem.nilpk _)), Nat.zero_le _, rfl⟩ ?_
 clear fr aC M33; rintro n aC w36 ⟨j, pd, pB, pcB, rfl, fr, M37, hj, hpd⟩
 revert aC
 refine zsp <| zsq <| zcD (((j : Int) : Int) < ((x.phis.length : Nat) : Int)) (fun c40 => ?_) (fun c40 => ?_)
 refine zsk <| zsq <| zbk 3 <| zsr ?_
 obtain ⟨p, hpx⟩ := get_of (l := x.phis) (i := j) (by omega)
 have hpl : pd.length = j := by have h9 := congrArg List.length hpd; rw [List.length_map, List.length_map, List.length_take] at h9; omega
 obtain ⟨sk, hsk⟩ : ∃ l, l = srcs (bsOf gd) (k : Int) := ⟨_, rfl⟩
 obtain ⟨kA, kc, hkr⟩ := hrw.get (allL_get (bs := bsOf gd) (t := k) (by omega))
 rw [← hsk] at hpd hkr
 have hskl : sk.length ≤ 1000 := by have h9 : (srcs (bsOf gd) (k : Int)).length ≤ (bsOf gd).length := srcsTo_len _ _ _; rw [← hsk] at h9; omega
 have M41 := M37.od [15, 15, 15, 15, 15, 15, 15, 15, 15, 15, 15, 15, 15, 14, 14, 15] 16
 have M42 : Mem noS w w36 [argP p, .pk ((x.phis.drop (j + 1)).map argP), phR x.pA x.pc x.phis, inR' x.iA x.ic x.insts, .pk (x.insts.map argI), .pk ((gd.drop (k + 1)).map ownB), blR (some ad24) cB gd, .fam 3 rows, .row 37 1 sA ((bsOf gd).length) sc (slv rows), .blk b10 61 [(.string nm), (.bool wk), (.int .i64 pa), (.int .i64 va), (.slice (some ad24) ((bsOf gd).length) cB), (.slice gA gs.length gc)], .row 62 1 gA gs.length gc (ptrs gs), .pk (gs.map gB), .blk b25 36 (xV x), .blk b30 65 [(.slice pB pd.length pcB), (.slice x.iA x.insts.length x.ic), (.int .i64 x.e), (.int .i64 x.v), (.int .i64 x.a), (.int .i64 x.b), (.bool false)], .row 67 3 pB pd.length pcB (gpC pd), .pk (pd.map frmP), .pk (pd.map argG)] := (M41.cast (by rw [drop_map_at argP hpx])).pk_cons
 obtain ⟨ad43, had44⟩ := row_at (M42.get 2 rfl) (by have := flat_len (f := FPhi.cells) (k := 2) phi_cells_len x.phis; unfold phC; omega)
 intro aC fr
 refine From_ixA (some 42) x.pA ad43 x.phis.length 2 (j : Int) fr (by kernel_rfl) had44 (by omega) (by omega) ?_
 intro aC fr
 revert aC
 refine zls ((ad43 : Addr).add (((j : Int)).toNat * 2)) (pV p) (own_phi (M42.get 2 rfl) had44 hpx) <| zal M42 79 [(.int .i64 0), (.slice none 0 0)] fun b49 w50 hb49 M51 => ?_
 replace M51 := M51.nf
 refine zss M51 17 (pV p) rfl fun w52 M53 => ?_
 replace M53 := M53.nf
 refine zfe ?_
 obtain ⟨ad54, rfl⟩ := row_some' (M53.get 8 rfl) (by omega)
 refine zkp [(3, (.slice (some ad54) ((bsOf gd).length) sc)), (4, (pT b10 0)), (5, (nV k)), (7, (pT b30 0)), (9, (pT b49 0)), (18, (.slice (some ad24) ((bsOf gd).length) cB)), (19, (.int .i64 (((bsOf gd).length : Nat) : Int))), (20, (nV k)), (38, (.slice x.pA x.phis.length x.pc)), (39, (.int .i64 ((x.phis.length : Nat) : Int))), (40, (nV j))] ?_
 intro aC fr
 refine zdj (N := 76) (env0 := [(3, (.slice (some ad54) ((bsOf gd).length) sc)), (4, (pT b10 0)), (5, (nV k)), (7, (pT b30 0)), (9, (pT b49 0)), (18, (.slice (some ad24) ((bsOf gd).length) cB)), (19, (.int .i64 (((bsOf gd).length : Nat) : Int))), (20, (nV k)), (38, (.slice x.pA x.phis.length x.pc)), (39, (.int .i64 ((x.phis.length : Nat) : Int))), (40, (nV j))]) (specAt [.det (pT b30 0), .det (pT b30 0), .det (pT b30 0), .det (pT b30 0), .det (.slice pB pd.length pcB), .det (pT b49 0), .det (.int .i64 p.dst), .det (.slice (some ad54) ((bsOf gd).length) sc), .det (nV k), .det (.pointer (some ((ad54 : Addr).add (((k : Int)).toNat * 1)))), .det (.slice kA sk.length kc), Spec.free, .det (pT b49 1), .det (.slice p.A p.args.length p.c), Spec.free, Spec.free, Spec.free, .det (pT b30 0), .det (pT b30 0), .det undef]) (fun ls vs w_ => match ls 19 with | true => (∃ (cA55 : Option Addr) (cc56 : Nat) (g57 : Nat) (A58 : Option Addr) (c59 : Nat), vs 11 = (.slice cA55 sk.length cc56) ∧ vs 14 = (.agg #[(.int .i64 p.dst), (.slice cA55 sk.length cc56), (.slice p.A p.args.length p.c)]) ∧ vs 15 = (.slice (sM g57) 1 1) ∧ vs 16 = (.slice A58 (pd.length + 1) c59) ∧ Mem noS w w_ [argP p, .pk ((x.phis.drop (j + 1)).map argP), phR x.pA x.pc x.phis, inR' x.iA x.ic x.insts, .pk (x.insts.map argI), .pk ((gd.drop (k + 1)).map ownB), blR (some ad24) cB gd, .fam 3 rows, .row 37 1 (some ad54) ((bsOf gd).length) sc (slv rows), .blk b10 61 [(.string nm), (.bool wk), (.int .i64 pa), (.int .i64 va), (.slice (some ad24) ((bsOf gd).length) cB), (.slice gA gs.length gc)], .row 62 1 gA gs.length gc (ptrs gs), .pk (gs.map gB), .blk b25 36 (xV x), .blk b30 65 [(.slice A58 (pd.length + 1) c59), (.slice x.iA x.insts.length x.ic), (.int .i64 x.e), (.int .i64 x.v), (.int .i64 x.a), (.int .i64 x.b), (.bool false)], .row 67 3 A58 (pd.length + 1) c59 ((gpC pd) ++ [(.int .i64 p.dst), (.slice cA55 sk.length cc56), (.slice p.A p.args.length p.c)]), .pk (pd.map frmP), .pk (pd.map argG), .blk b49 79 (pV p), .row 3 1 cA55 sk.length cc56 (ints sk), .row 67 3 (sM g57) 1 1 [(.int .i64 p.dst), (.slice cA55 sk.length cc56), (.slice p.A p.args.length p.c)]]) | false => (match ls 16 with | true => (∃ (cA55 : Option Addr) (cc56 : Nat) (g57 : Nat) (A58 : Option Addr) (c59 : Nat), vs 11 = (.slice cA55 sk.length cc56) ∧ vs 14 = (.agg #[(.int .i64 p.dst), (.slice cA55 sk.length cc56), (.slice p.A p.args.length p.c)]) ∧ vs 15 = (.slice (sM g57) 1 1) ∧ vs 16 = (.slice A58 (pd.length + 1) c59) ∧ Mem noS w w_ [argP p, .pk ((x.phis.drop (j + 1)).map argP), phR x.pA x.pc x.phis, inR' x.iA x.ic x.insts, .pk (x.insts.map argI), .pk ((gd.drop (k + 1)).map ownB), blR (some ad24) cB gd, .fam 3 rows, .row 37 1 (some ad54) ((bsOf gd).length) sc (slv rows), .blk b10 61 [(.string nm), (.bool wk), (.int .i64 pa), (.int .i64 va), (.slice (some ad24) ((bsOf gd).length) cB), (.slice gA gs.length gc)], .row 62 1 gA gs.length gc (ptrs gs), .pk (gs.map gB), .blk b25 36 (xV x), .blk b30 65 [(.slice pB pd.length pcB), (.slice x.iA x.insts.length x.ic), (.int .i64 x.e), (.int .i64 x.v), (.int .i64 x.a), (.int .i64 x.b), (.bool false)], .row 67 3 A58 (pd.length + 1) c59 ((gpC pd) ++ [(.int .i64 p.dst), (.slice cA55 sk.length cc56), (.slice p.A p.args.length p.c)]), .pk (pd.map frmP), .pk (pd.map argG), .blk b49 79 (pV p), .row 3 1 cA55 sk.length cc56 (ints sk), .row 67 3 (sM g57) 1 1 [(.int .i64 p.dst), (.slice cA55 sk.length cc56), (.slice p.A p.args.length p.c)]]) | false => (match ls 15 with | true => (∃ (cA55 : Option Addr) (cc56 : Nat) (g57 : Nat), vs 11 = (.slice cA55 sk.length cc56) ∧ vs 14 = (.agg #[(.int .i64 p.dst), (.slice cA55 sk.length cc56), (.slice p.A p.args.length p.c)]) ∧ vs 15 = (.slice (sM g57) 1 1) ∧ Mem noS w w_ [argP p, .pk ((x.phis.drop (j + 1)).map argP), phR x.pA x.pc x.phis, inR' x.iA x.ic x.insts, .pk (x.insts.map argI), .pk ((gd.drop (k + 1)).map ownB), blR (some ad24) cB gd, .fam 3 rows, .row 37 1 (some ad54) ((bsOf gd).length) sc (slv rows), .blk b10 61 [(.string nm), (.bool wk), (.int .i64 pa), (.int .i64 va), (.slice (some ad24) ((bsOf gd).length) cB), (.slice gA gs.length gc)], .row 62 1 gA gs.length gc (ptrs gs), .pk (gs.map gB), .blk b25 36 (xV x), .blk b30 65 [(.slice pB pd.length pcB), (.slice x.iA x.insts.length x.ic), (.int .i64 x.e), (.int .i64 x.v), (.int .i64 x.a), (.int .i64 x.b), (.bool false)], .row 67 3 pB pd.length pcB (gpC pd), .pk (pd.map frmP), .pk (pd.map argG), .blk b49 79 (pV p), .row 3 1 cA55 sk.length cc56 (ints sk), .row 67 3 (sM g57) 1 1 [(.int .i64 p.dst), (.slice cA55 sk.length cc56), (.slice p.A p.args.length p.c)]]) | false => (match ls 14 with | true => (∃ (cA55 : Option Addr) (cc56 : Nat), vs 11 = (.slice cA55 sk.length cc56) ∧ vs 14 = (.agg #[(.int .i64 p.dst), (.slice cA55 sk.length cc56), (.slice p.A p.args.length p.c)]) ∧ Mem noS w w_ [argP p, .pk ((x.phis.drop (j + 1)).map argP), phR x.pA x.pc x.phis, inR' x.iA x.ic x.insts, .pk (x.insts.map argI), .pk ((gd.drop (k + 1)).map ownB), blR (some ad24) cB gd, .fam 3 rows, .row 37 1 (some ad54) ((bsOf gd).length) sc (slv rows), .blk b10 61 [(.string nm), (.bool wk), (.int .i64 pa), (.int .i64 va), (.slice (some ad24) ((bsOf gd).length) cB), (.slice gA gs.length gc)], .row 62 1 gA gs.length gc (ptrs gs), .pk (gs.map gB), .blk b25 36 (xV x), .blk b30 65 [(.slice pB pd.length pcB), (.slice x.iA x.insts.length x.ic), (.int .i64 x.e), (.int .i64 x.v), (.int .i64 x.a), (.int .i64 x.b), (.bool false)], .row 67 3 pB pd.length pcB (gpC pd), .pk (pd.map frmP), .pk (pd.map argG), .blk b49 79 (pV p), .row 3 1 cA55 sk.length cc56 (ints sk)]) | false => (match ls 11 with | true => (∃ (cA55 : Option Addr) (cc56 : Nat), vs 11 = (.slice cA55 sk.length cc56) ∧ Mem noS w w_ [argP p, .pk ((x.phis.drop (j + 1)).map argP), phR x.pA x.pc x.phis, inR' x.iA x.ic x.insts, .pk (x.insts.map argI), .pk ((gd.drop (k + 1)).map ownB), blR (some ad24) cB gd, .fam 3 rows, .row 37 1 (some ad54) ((bsOf gd).length) sc (slv rows), .blk b10 61 [(.string nm), (.bool wk), (.int .i64 pa), (.int .i64 va), (.slice (some ad24) ((bsOf gd).length) cB), (.slice gA gs.length gc)], .row 62 1 gA gs.length gc (ptrs gs), .pk (gs.map gB), .blk b25 36 (xV x), .blk b30 65 [(.slice pB pd.length pcB), (.slice x.iA x.insts.length x.ic), (.int .i64 x.e), (.int .i64 x.v), (.int .i64 x.a), (.int .i64 x.b), (.bool false)], .row 67 3 pB pd.length pcB (gpC pd), .pk (pd.map frmP), .pk (pd.map argG), .blk b49 79 (pV p), .row 3 1 cA55 sk.length cc56 (ints sk)]) | false => (Mem noS w w_ [argP p, .pk ((x.phis.drop (j + 1)).map argP), phR x.pA x.pc x.phis, inR' x.iA x.ic x.insts, .pk (x.insts.map argI), .pk ((gd.drop (k + 1)).map ownB), blR (some ad24) cB gd, .fam 3 rows, .row 37 1 (some ad54) ((bsOf gd).length) sc (slv rows), .blk b10 61 [(.string nm), (.bool wk), (.int .i64 pa), (.int .i64 va), (.slice (some ad24) ((bsOf gd).length) cB), (.slice gA gs.length gc)], .row 62 1 gA gs.length gc (ptrs gs), .pk (gs.map gB), .blk b25 36 (xV x), .blk b30 65 [(.slice pB pd.length pcB), (.slice x.iA x.insts.length x.ic), (.int .i64 x.e), (.int .i64 x.v), (.int .i64 x.a), (.int .i64 x.b), (.bool false)], .row 67 3 pB pd.length pcB (gpC pd), .pk (pd.map frmP), .pk (pd.map argG), .blk b49 79 (pV p)])))))) fr (plain_ok (.det (.det (.det (.det (.det (.det (.det (.det (.det (.det (.det (.free (.det (.det (.free (.free (.free (.det (.det (.det .nil))))))))))))))))))))) (M53.then_ (Mem.drew _)) (la (la (la (la (la (la (la (la (la (la (la (la (la (la (la (la (la (la (la (la lz (dPJ fun _ _ _ _ h => h)) (dPJ fun _ _ _ _ h => h)) (dPJ fun _ _ _ _ h => h)) (dPJ fun _ _ _ _ h => h)) (dLJ ⟨b30, 0, none⟩ (.slice pB pd.length pcB) (fun _ _ _ _ h => h) ?_)) (dPJ fun _ _ _ _ h => h)) (dLJ ⟨b49, 0, none⟩ (.int .i64 p.dst) (fun _ _ _ _ h => h) ?_)) (dPJ fun _ _ _ _ h => h)) (dPJ fun _ _ _ _ h => h)) (dIJ ad54 ((bsOf gd).length) 1 (k : Int) fun _ _ _ _ h => h)) (dLJ ((ad54 : Addr).add (((k : Int)).toNat * 1)) (.slice kA sk.length kc) (fun _ _ _ _ h => h) ?_)) ?_) (dPJ fun _ _ _ _ h => h)) (dLJ ⟨b49, 1, none⟩ (.slice p.A p.args.length p.c) (fun _ _ _ _ h => h) ?_)) ?_) ?_) ?_) (dPJ fun _ _ _ _ h => h)) (dPJ fun _ _ _ _ h => h)) ?_) ?_
 intro w_ ls vs hJ hi_ hc_ hp
 have f16 : ls 16 = false := notyet hc_ hi_ (n := 20) (by kernel_rfl)
 have f19 : ls 19 = false := notyet hc_ hi_ (n := 20) (by kernel_rfl)
 have hM_ := hJ
 simp only [f16, f19] at hM_
 cases fu15 : ls 15
 simp only [fu15] at hM_
 cases fu14 : ls 14
 simp only [fu14] at hM_
 cases fu11 : ls 11
 simp only [fu11] at hM_
 exact (blk_cell (hM_.get 13 rfl) rfl)
 simp only [fu11] at hM_
 obtain ⟨_, _, _, hM_⟩ := hM_
 exact (blk_cell (hM_.get 13 rfl) rfl)
 simp only [fu14] at hM_
 obtain ⟨_, _, _, _, hM_⟩ := hM_
 exact (blk_cell (hM_.get 13 rfl) rfl)
 simp only [fu15] at hM_
 obtain ⟨_, _, _, _, _, _, hM_⟩ := hM_
 exact (blk_cell (hM_.get 13 rfl) rfl)
 intro w_ ls vs hJ hi_ hc_ hp
 have f14 : ls 14 = false := notyet hc_ hi_ (n := 20) (by kernel_rfl)
 have f15 : ls 15 = false := notyet hc_ hi_ (n := 20) (by kernel_rfl)
 have f16 : ls 16 = false := notyet hc_ hi_ (n := 20) (by kernel_rfl)
 have f19 : ls 19 = false := notyet hc_ hi_ (n := 20) (by kernel_rfl)
 have hM_ := hJ
 simp only [f14, f15, f16, f19] at hM_
 cases fu : ls 11
 simp only [fu] at hM_
 exact (blk_cell (hM_.get 17 rfl) rfl)
 simp only [fu] at hM_
 obtain ⟨_, _, _, hM_⟩ := hM_
 exact (blk_cell (hM_.get 17 rfl) rfl)
 intro w_ ls vs hJ hi_ hc_ hp
 have f11 : ls 11 = false := notyet hc_ hi_ (n := 20) (by kernel_rfl)
 have f14 : ls 14 = false := notyet hc_ hi_ (n := 20) (by kernel_rfl)
 have f15 : ls 15 = false := notyet hc_ hi_ (n := 20) (by kernel_rfl)
 have f16 : ls 16 = false := notyet hc_ hi_ (n := 20) (by kernel_rfl)
 have f19 : ls 19 = false := notyet hc_ hi_ (n := 20) (by kernel_rfl)
 have hM_ := hJ
 simp only [f11, f14, f15, f16, f19] at hM_
 exact (rd_get1 (row_rd (hM_.get 8 rfl)) rfl (slv_get hkr))
 intro aa_ w_ ls vs rest_ hJ hi_ hc_ hp hF
 refine okG (g0 := none) ?_
 replace hF : Fr aa_ 76 [(54, (.slice kA sk.length kc))] := hF.kp [54]
 have f11 : ls 11 = false := hi_
 have f14 : ls 14 = false := notyet hc_ hi_ (n := 20) (by kernel_rfl)
 have f15 : ls 15 = false := notyet hc_ hi_ (n := 20) (by kernel_rfl)
 have f16 : ls 16 = false := notyet hc_ hi_ (n := 20) (by kernel_rfl)
 have f19 : ls 19 = false := notyet hc_ hi_ (n := 20) (by kernel_rfl)
 have hM_ := hJ
 simp only [f11, f14, f15, f16, f19] at hM_
 refine From_call (by kernel_rfl : coreAt _ 0 = some (some 55, (.call { callee := (.value (.func 86)), args := #[(.tmp 54)], argTypes := #[37] }), 37, none)) hF (by kernel_rfl) (by kernel_rfl) (k' := 1) rfl (f := 86) (vs := [(.slice kA sk.length kc)]) (cap := []) (by kernel_rfl) (by kernel_rfl) (by kernel_rfl) (clone_c sk sk.length kA kc w_ rfl (by omega) (RO.of (fam_rd (hM_.get 7 rfl) hkr))) ?_
 rintro _ w2 ⟨cA55p, cc56p, rfl, hm2⟩ a2 ea _
 have hm3 := hM_.call hm2
 refine From_end (by kernel_rfl) ?_; refine op_doneJ (d := some 55) (by kernel_rfl) ea trivial ?_
 show match ls 19 with | true => _ | false => (match ls 16 with | true => _ | false => (match ls 15 with | true => _ | false => (match ls 14 with | true => _ | false => (∃ (cA55 : Option Addr) (cc56 : Nat), _))))
 rw [f19, f16, f15, f14]
 exact ⟨cA55p, cc56p, rfl, hm3⟩
 intro w_ ls vs hJ hi_ hc_ hp
 have f14 : ls 14 = false := notyet hc_ hi_ (n := 20) (by kernel_rfl)
 have f15 : ls 15 = false := notyet hc_ hi_ (n := 20) (by kernel_rfl)
 have f16 : ls 16 = false := notyet hc_ hi_ (n := 20) (by kernel_rfl)
 have f19 : ls 19 = false := notyet hc_ hi_ (n := 20) (by kernel_rfl)
 have hM_ := hJ
 simp only [f14, f15, f16, f19] at hM_
 cases fu : ls 11
 simp only [fu] at hM_
 exact (blk_cell (hM_.get 17 rfl) rfl)
 simp only [fu] at hM_
 obtain ⟨_, _, _, hM_⟩ := hM_
 exact (blk_cell (hM_.get 17 rfl) rfl)
 intro aa_ w_ ls vs rest_ hJ hi_ hc_ hp hF
 refine okG (g0 := none) ?_
 replace hF : Fr aa_ 76 [(50, (.int .i64 p.dst)), (55, vs 11), (57, (.slice p.A p.args.length p.c))] := hF.kp [50, 55, 57]
 have f11 : ls 11 = true := donebefore hc_ (fun k hk => (hp k hk).1) (n := 20) (by kernel_rfl)
 have f14 : ls 14 = false := hi_
 have f15 : ls 15 = false := notyet hc_ hi_ (n := 20) (by kernel_rfl)
 have f16 : ls 16 = false := notyet hc_ hi_ (n := 20) (by kernel_rfl)
 have f19 : ls 19 = false := notyet hc_ hi_ (n := 20) (by kernel_rfl)
 have hM_ := hJ
 simp only [f11, f14, f15, f16, f19] at hM_
 obtain ⟨cA55p, cc56p, e11_, hM_⟩ := hM_
 try rw [e11_] at hF
 have hm2 := hM_
 refine From_pure1 (by kernel_rfl : coreAt _ 0 = some (some 58, (.build 67 #[(0, (.tmp 50)), (1, (.tmp 55)), (2, (.tmp 57))]), 67, none)) hF (by kernel_rfl) (by kernel_rfl) (k' := 1) rfl (v := (.agg #[(.int .i64 p.dst), (.slice cA55p sk.length cc56p), (.slice p.A p.args.length p.c)])) (by kernel_rfl) ?_
 intro a2 ea _
 refine From_end (by kernel_rfl) ?_; refine op_doneJ (d := some 58) (by kernel_rfl) ea trivial ?_
 show match ls 19 with | true => _ | false => (match ls 16 with | true => _ | false => (match ls 15 with | true => _ | false => (∃ (cA55 : Option Addr) (cc56 : Nat), _)))
 rw [f19, f16, f15]
 exact ⟨cA55p, cc56p, e11_, rfl, hm2⟩
 intro aa_ w_ ls vs rest_ hJ hi_ hc_ hp hF
 refine okG (g0 := none) ?_
 replace hF : Fr aa_ 76 [(58, vs 14)] := hF.kp [58]
 have f11 : ls 11 = true := donebefore hc_ (fun k hk => (hp k hk).1) (n := 20) (by kernel_rfl)
 have f14 : ls 14 = true := donebefore hc_ (fun k hk => (hp k hk).1) (n := 20) (by kernel_rfl)
 have f15 : ls 15 = false := hi_
 have f16 : ls 16 = false := notyet hc_ hi_ (n := 20) (by kernel_rfl)
 have f19 : ls 19 = false := notyet hc_ hi_ (n := 20) (by kernel_rfl)
 have hM_ := hJ
 simp only [f11, f14, f15, f16, f19] at hM_
 obtain ⟨cA55p, cc56p, e11_, e14_, hM_⟩ := hM_
 try rw [e11_] at hF
 try rw [e14_] at hF
 refine zBs 59 63 1 #[(0, (.tmp 58))] 63 hF (e := 67) (size := 3) (zs := [(.int .i64 0), (.slice none 0 0), (.slice none 0 0)]) (vs := [(0, (.agg #[(.int .i64 p.dst), (.slice cA55p sk.length cc56p), (.slice p.A p.args.length p.c)]))]) (cs := [(.int .i64 p.dst), (.slice cA55p sk.length cc56p), (.slice p.A p.args.length p.c)]) hM_ ?_
 intro g57p w2 _ _ hm2 _ a2 ea _
 refine From_end (by kernel_rfl) ?_; refine op_doneJ (d := some 59) (by kernel_rfl) ea trivial ?_
 show match ls 19 with | true => _ | false => (match ls 16 with | true => _ | false => (∃ (cA55 : Option Addr) (cc56 : Nat) (g57 : Nat), _))
 rw [f19, f16]
 exact ⟨cA55p, cc56p, g57p, e11_, e14_, rfl, hm2⟩
 intro aa_ w_ ls vs rest_ hJ hi_ hc_ hp hF
 refine okG (g0 := none) ?_
 replace hF : Fr aa_ 76 [(48, (.slice pB pd.length pcB)), (59, vs 15)] := hF.kp [48, 59]
 have f11 : ls 11 = true := donebefore hc_ (fun k hk => (hp k hk).1) (n := 20) (by kernel_rfl)
 have f14 : ls 14 = true := donebefore hc_ (fun k hk => (hp k hk).1) (n := 20) (by kernel_rfl)
 have f15 : ls 15 = true := donebefore hc_ (fun k hk => (hp k hk).1) (n := 20) (by kernel_rfl)
 have f16 : ls 16 = false := hi_
 have f19 : ls 19 = false := notyet hc_ hi_ (n := 20) (by kernel_rfl)
 have hM_ := hJ
 simp only [f11, f14, f15, f16, f19] at hM_
 obtain ⟨cA55p, cc56p, g57p, e11_, e14_, e15_, hM_⟩ := hM_
 try rw [e11_] at hF
 try rw [e14_] at hF
 try rw [e15_] at hF
 refine zAp 60 (.tmp 48) (.tmp 59) 63 63 hF (e := 67) (size := 3) (bytes := 56) (z := (.agg #[(.int .i64 0), (.slice none 0 0), (.slice none 0 0)])) (A := pB) (B := (sM g57p)) (n := pd.length) (cap := pcB) (m := 1) (cap' := 1) (xs := (gpC pd)) (news := [(.int .i64 p.dst), (.slice cA55p sk.length cc56p), (.slice p.A p.args.length p.c)]) hM_ 14 rfl (row_rd (hM_.get 19 rfl)) rfl (by simp [Value.oneCell']) (by omega) (by simp only [maxLen]; omega) ?_
 intro A58p c59p w2 hm2 _ a2 ea _
 refine From_end (by kernel_rfl) ?_; refine op_doneJ (d := some 60) (by kernel_rfl) ea trivial ?_
 show match ls 19 with | true => _ | false => (∃ (cA55 : Option Addr) (cc56 : Nat) (g57 : Nat) (A58 : Option Addr) (c59 : Nat), _)
 rw [f19]
 exact ⟨cA55p, cc56p, g57p, A58p, c59p, e11_, e14_, e15_, rfl, hm2⟩
 intro aa_ w_ ls vs rest_ hJ hi_ hc_ hp hF
 refine okG (g0 := none) ?_
 replace hF : Fr aa_ 76 [(60, vs 16), (62, (pT b30 0))] := hF.kp [60, 62]
 have f11 : ls 11 = true := donebefore hc_ (fun k hk => (hp k hk).1) (n := 20) (by kernel_rfl)
 have f14 : ls 14 = true := donebefore hc_ (fun k hk => (hp k hk).1) (n := 20) (by kernel_rfl)
 have f15 : ls 15 = true := donebefore hc_ (fun k hk => (hp k hk).1) (n := 20) (by kernel_rfl)
 have f16 : ls 16 = true := donebefore hc_ (fun k hk => (hp k hk).1) (n := 20) (by kernel_rfl)
 have f19 : ls 19 = false := hi_
 have hM_ := hJ
 simp only [f11, f14, f15, f16, f19] at hM_
 obtain ⟨cA55p, cc56p, g57p, A58p, c59p, e11_, e14_, e15_, e16_, hM_⟩ := hM_
 try rw [e11_] at hF
 try rw [e14_] at hF
 try rw [e15_] at hF
 try rw [e16_] at hF
 refine From_store_blk (by kernel_rfl : coreAt _ 0 = some (none, (.store 63 (.tmp 62) (.tmp 60)), 0, none)) hF (by kernel_rfl) (by kernel_rfl) (k' := 1) rfl (b := b30) (off := 0) (t0 := 65) (v := (.slice A58p (pd.length + 1) c59p)) (cs := [(.slice pB pd.length pcB), (.slice x.iA x.insts.length x.ic), (.int .i64 x.e), (.int .i64 x.v), (.int .i64 x.a), (.int .i64 x.b), (.bool false)]) (by kernel_rfl) (by kernel_rfl) (by kernel_rfl) rfl hM_ 13 rfl (by simp) ?_
 intro w2 hm2 _ a2 ea _
 refine From_end (by kernel_rfl) ?_; refine op_doneJ (d := none) (by kernel_rfl) ea rfl ?_
 show ∃ (cA55 : Option Addr) (cc56 : Nat) (g57 : Nat) (A58 : Option Addr) (c59 : Nat), _
 exact ⟨cA55p, cc56p, g57p, A58p, c59p, e11_, e14_, e15_, e16_, hm2⟩
 intro aC w64 ls vs hall M65 hv fr
 simp only [show ls 19 = true from hall 19 (by decide)] at M65
 revert aC; refine zkp [(3, (.slice (some ad54) ((bsOf gd).length) sc)), (4, (pT b10 0)), (5, (nV k)), (7, (pT b30 0)), (18, (.slice (some ad24) ((bsOf gd).length) cB)), (19, (.int .i64 (((bsOf gd).length : Nat) : Int))), (20, (nV k)), (38, (.slice x.pA x.phis.length x.pc)), (39, (.int .i64 ((x.phis.length : Nat) : Int))), (40, (nV j))] ?_
 obtain ⟨cA55, cc56, g57, A58, c59, e11_, e14_, e15_, e16_, M65⟩ := M65
 try rw [e11_]
 try rw [e14_]
 try rw [e15_]
 try rw [e16_]
 clear e11_ e14_ e15_ e16_
 clear hall hv fr aC M53; clear vs ls
 refine zrg <| zar ((j : Int) + 1) <| zpn 1 <| zfe ?_
 have M66 := M65.od [14, 14, 14, 14, 14, 14, 14, 14, 14, 14, 14, 12, 14, 14, 14, 16, 18, 17] 18
 have M67 : Mem noS w w64 [.pk (pd.map frmP), frmP (⟨p.dst, cA55, cc56, sk, p.A, p.c, p.args⟩ : GPhi), .pk (pd.map argG), argG (⟨p.dst, cA55, cc56, sk, p.A, p.c, p.args⟩ : GPhi), phR x.pA x.pc x.phis, inR' x.iA x.ic x.insts, .pk ((x.phis.drop (j + 1)).map argP), .pk (x.insts.map argI), .pk ((gd.drop (k + 1)).map ownB), blR (some ad24) cB gd, .fam 3 rows, .row 37 1 (some ad54) ((bsOf gd).length) sc (slv rows), .blk b10 61 [(.string nm), (.bool wk), (.int .i64 pa), (.int .i64 va), (.slice (some ad24) ((bsOf gd).length) cB), (.slice gA gs.length gc)], .row 62 1 gA gs.length gc (ptrs gs), .pk (gs.map gB), .blk b25 36 (xV x), .blk b30 65 [(.slice A58 (pd.length + 1) c59), (.slice x.iA x.insts.length x.ic), (.int .i64 x.e), (.int .i64 x.v), (.int .i64 x.a), (.int .i64 x.b), (.bool false)], .row 67 3 A58 (pd.length + 1) c59 ((gpC pd) ++ [(.int .i64 p.dst), (.slice cA55 sk.length cc56), (.slice p.A p.args.length p.c)])] := M66
 have M68 : Mem noS w w64 [.pk (pd.map frmP ++ [frmP (⟨p.dst, cA55, cc56, sk, p.A, p.c, p.args⟩ : GPhi)]), .pk (pd.map argG), argG (⟨p.dst, cA55, cc56, sk, p.A, p.c, p.args⟩ : GPhi), phR x.pA x.pc x.phis, inR' x.iA x.ic x.insts, .pk ((x.phis.drop (j + 1)).map argP), .pk (x.insts.map argI), .pk ((gd.drop (k + 1)).map ownB), blR (some ad24) cB gd, .fam 3 rows, .row 37 1 (some ad54) ((bsOf gd).length) sc (slv rows), .blk b10 61 [(.string nm), (.bool wk), (.int .i64 pa), (.int .i64 va), (.slice (some ad24) ((bsOf gd).length) cB), (.slice gA gs.length gc)], .row 62 1 gA gs.length gc (ptrs gs), .pk (gs.map gB), .blk b25 36 (xV x), .blk b30 65 [(.slice A58 (pd.length + 1) c59), (.slice x.iA x.insts.length x.ic), (.int .i64 x.e), (.int .i64 x.v), (.int .i64 x.a), (.int .i64 x.b), (.bool false)], .row 67 3 A58 (pd.length + 1) c59 ((gpC pd) ++ [(.int .i64 p.dst), (.slice cA55 sk.length cc56), (.slice p.A p.args.length p.c)])] := M67.pk_push
 have M69 := M68.od [16, 16, 16, 16, 16, 16, 16, 16, 16, 16, 16, 16, 16, 16, 14, 16, 16] 17
 have M70 : Mem noS w w64 [.pk (pd.map argG ++ [argG (⟨p.dst, cA55, cc56, sk, p.A, p.c, p.args⟩ : GPhi)]), .pk (pd.map frmP ++ [frmP (⟨p.dst, cA55, cc56, sk, p.A, p.c, p.args⟩ : GPhi)]), phR x.pA x.pc x.phis, inR' x.iA x.ic x.insts, .pk ((x.phis.drop (j + 1)).map argP), .pk (x.insts.map argI), .pk ((gd.drop (k + 1)).map ownB), blR (some ad24) cB gd, .fam 3 rows, .row 37 1 (some ad54) ((bsOf gd).length) sc (slv rows), .blk b10 61 [(.string nm), (.bool wk), (.int .i64 pa), (.int .i64 va), (.slice (some ad24) ((bsOf gd).length) cB), (.slice gA gs.length gc)], .row 62 1 gA gs.length gc (ptrs gs), .pk (gs.map gB), .blk b25 36 (xV x), .blk b30 65 [(.slice A58 (pd.length + 1) c59), (.slice x.iA x.insts.length x.ic), (.int .i64 x.e), (.int .i64 x.v), (.int .i64 x.a), (.int .i64 x.b), (.bool false)], .row 67 3 A58 (pd.length + 1) c59 ((gpC pd) ++ [(.int .i64 p.dst), (.slice cA55 sk.length cc56), (.slice p.A p.args.length p.c)])] := M69.pk_push
 have M71 := M70.od [0, 1, 15, 15, 15, 15, 15, 15, 15, 15, 15, 15, 15, 15, 15, 15] 16
 have M72 : Mem noS w w64 [phR x.pA x.pc x.phis, inR' x.iA x.ic x.insts, .pk ((x.phis.drop (j + 1)).map argP), .pk (x.insts.map argI), .pk ((gd.drop (k + 1)).map ownB), blR (some ad24) cB gd, .fam 3 rows, .row 37 1 (some ad54) ((bsOf gd).length) sc (slv rows), .blk b10 61 [(.string nm), (.bool wk), (.int .i64 pa), (.int .i64 va), (.slice (some ad24) ((bsOf gd).length) cB), (.slice gA gs.length gc)], .row 62 1 gA gs.length gc (ptrs gs), .pk (gs.map gB), .blk b25 36 (xV x), .blk b30 65 [(.slice A58 ((pd ++ [(⟨p.dst, cA55, cc56, sk, p.A, p.c, p.args⟩ : GPhi)]).length) c59), (.slice x.iA x.insts.length x.ic), (.int .i64 x.e), (.int .i64 x.v), (.int .i64 x.a), (.int .i64 x.b), (.bool false)], .row 67 3 A58 ((pd ++ [(⟨p.dst, cA55, cc56, sk, p.A, p.c, p.args⟩ : GPhi)]).length) c59 (gpC (pd ++ [(⟨p.dst, cA55, cc56, sk, p.A, p.c, p.args⟩ : GPhi)])), .pk ((pd ++ [(⟨p.dst, cA55, cc56, sk, p.A, p.c, p.args⟩ : GPhi)]).map frmP), .pk ((pd ++ [(⟨p.dst, cA55, cc56, sk, p.A, p.c, p.args⟩ : GPhi)]).map argG)] := M71.cast (by simp only [len_snoc, gpC_snoc, map_snoc]; rfl)
 intro aC fr
 exact ⟨x.phis.length - (j + 1), by omega, j + 1, pd ++ [(⟨p.dst, cA55, cc56, sk, p.A, p.c, p.args⟩ : GPhi)], A58, c59, rfl, fr.kp [3, 4, 5, 7, 18, 19, 20, 38, 39, 40], M72, by omega, by rw [← hsk]; exact fromP_next hpd hpx rfl⟩
 refine zex 2 <| zbh <| zrg ?_
 rw [List.take_of_length_le (show x.phis.length ≤ j by omega)] at hpd
 have M75 := M37.od [11, 11, 11, 11, 11, 11, 11, 11, 10, 9, 11, 15, 15, 13, 15, 15] 16
 have M76 : Mem noS w w36 [gB (⟨b30, pB, pcB, pd, x.iA, x.ic, x.insts, x.e, x.v, x.a, x.b, false⟩ : GBlk), phR x.pA x.pc x.phis, .pk ((x.phis.drop j).map argP), .pk ((gd.drop (k + 1)).map ownB), blR (some ad24) cB gd, .fam 3 rows, .row 37 1 sA ((bsOf gd).length) sc (slv rows), .blk b10 61 [(.string nm), (.bool wk), (.int .i64 pa), (.int .i64 va), (.slice (some ad24) ((bsOf gd).length) cB), (.slice gA gs.length gc)], .row 62 1 gA gs.length gc (ptrs gs), .pk (gs.map gB), .blk b25 36 (xV x)] := Mem.pack (l := gL (⟨b30, pB, pcB, pd, x.iA, x.ic, x.insts, x.e, x.v, x.a, x.b, false⟩ : GBlk)) M75
 have M77 := M76.od [10, 9, 9, 9, 9, 9, 9, 9, 9, 9, 10] 11
 have M78 : Mem noS w w36 [.pk (gs.map gB ++ [gB (⟨b30, pB, pcB, pd, x.iA, x.ic, x.insts, x.e, x.v, x.a, x.b, false⟩ : GBlk)]), phR x.pA x.pc x.phis, .pk ((x.phis.drop j).map argP), .pk ((gd.drop (k + 1)).map ownB), blR (some ad24) cB gd, .fam 3 rows, .row 37 1 sA ((bsOf gd).length) sc (slv rows), .blk b10 61 [(.string nm), (.bool wk), (.int .i64 pa), (.int .i64 va), (.slice (some ad24) ((bsOf gd).length) cB), (.slice gA gs.length gc)], .row 62 1 gA gs.length gc (ptrs gs), .blk b25 36 (xV x)] := M77.pk_push
 refine zpn 4 <| zld ⟨b10, 5, none⟩ (.slice gA gs.length gc) (blk_cell (M78.get 7 rfl) rfl) <| zpn 1 ?_
 intro aC fr
 refine zBs 70 59 1 #[(0, (.tmp 69))] 59 fr (e := 62) (size := 1) (zs := [(.pointer none)]) (vs := [(0, (pT b30 0))]) (cs := [(pT b30 0)]) M78 ?_
 intro b79 w80 hb79 _ M81 _ aC ea fr; clear ea
 replace M81 := M81.nf
 refine zAp 71 (.tmp 68) (.tmp 70) 59 59 fr (e := 62) (size := 1) (bytes := 8) (z := (.pointer none)) (A := gA) (B := (sM b79)) (n := gs.length) (cap := gc) (m := 1) (cap' := 1) (xs := (ptrs gs)) (news := [(pT b30 0)]) M81 8 rfl (row_rd (M81.get 10 rfl)) rfl (by simp [Value.oneCell']) (by omega) (by simp only [maxLen]; omega) ?_
 intro A86 c87 w88 M89 _ aC ea fr; clear ea
 replace M89 := M89.nf
 have M92 := M89.od [9, 9, 9, 9, 9, 9, 9, 9, 9, 9] 10
 revert aC
 refine zpn 2 <| zsb (ho := (by simp)) M92 7 5 (.slice A86 (gs.length + 1) c87) rfl fun w93 M94 => ?_
 replace M94 := M94.nf
 refine zfe <| zrg <| zar ((k : Int) + 1) <| zpn 1 <| zfe ?_
 have M95 := M94.od [0, 8, 8, 8, 8, 7, 8] 7
 have M96 : Mem noS w w93 [blR (some ad24) cB gd, .pk ((gd.drop (k + 1)).map ownB), .fam 3 rows, .row 37 1 sA ((bsOf gd).length) sc (slv rows), .blk b10 61 [(.string nm), (.bool wk), (.int .i64 pa), (.int .i64 va), (.slice (some ad24) ((bsOf gd).length) cB), (.slice A86 ((gs ++ [(⟨b30, pB, pcB, pd, x.iA, x.ic, x.insts, x.e, x.v, x.a, x.b, false⟩ : GBlk)]).length) c87)], .row 62 1 A86 ((gs ++ [(⟨b30, pB, pcB, pd, x.iA, x.ic, x.insts, x.e, x.v, x.a, x.b, false⟩ : GBlk)]).length) c87 (ptrs (gs ++ [(⟨b30, pB, pcB, pd, x.iA, x.ic, x.insts, x.e, x.v, x.a, x.b, false⟩ : GBlk)])), .pk ((gs ++ [(⟨b30, pB, pcB, pd, x.iA, x.ic, x.insts, x.e, x.v, x.a, x.b, false⟩ : GBlk)]).map gB)] := M95.cast (by simp only [len_snoc, ptrs, map_snoc])
 intro aC fr
 exact ⟨gd.length - (k + 1), by omega, k + 1, gs ++ [(⟨b30, pB, pcB, pd, x.iA, x.ic, x.insts, x.e, x.v, x.a, x.b, false⟩ : GBlk)], A86, c87, rfl, fr.kp [3, 4, 18, 19, 20], M96, by omega, fromK_next hgs hx (by simp only [GBlk.k, fromB]; rw [hpd])⟩
 refine zex 0 <| zbh <| zsp <| zre <| zo1 (pT b10 0) ?_
 have M99 := M17.od [6, 6, 6] 3
 rw [List.take_of_length_le (by rw [fromK_len]; omega), fromK_alike hgd] at hgs
 exact ⟨b10, B, _, cB, gA, gc, gs, rfl, hgs, M99⟩
end Go.Proofs.Ytejbeeaomokjpaa
namespace Go.Proofs.Ytejbeeaomokjpaa
open Go.Mor
theorem tocmp_c (a b : Nat) (dst : Int) (ag : Value) (NA fA : Option Addr) (nc fc : Nat) (nl fl : List Int) (i j : Nat) (x y : Int) (w : World) (hb : RO noS w (.blk b 37 [.slice NA nl.length nc])) (ha : RO noS w (.blk a 67 [.int .i64 dst, .slice fA fl.length fc, ag])) (hn : RO noS w (.rd NA (ints nl))) (hf : RO noS w (.rd fA (ints fl))) (hi : fl[i]? = some x) (hj : fl[j]? = some y) (hx : 0 ≤ x ∧ x < (nl.length : Int)) (hy : 0 ≤ y ∧ y < (nl.length : Int)) (hr : ∀ k, 0 ≤ nl.getD k 0 ∧ nl.getD k 0 ≤ 1000000) :
    Calls Try.prog 123 #[(nV i), (nV j), (pT b 0), (pT a 0)] w (Ret fun v w' => v = .int .i64 (nl.getD x.toNat 0 - nl.getD y.toNat 0) ∧ Gw w w') := by
 have hil := (List.getElem?_eq_some_iff.1 hi).1
 have hjl := (List.getElem?_eq_some_iff.1 hj).1
 refine zen 24 [(nV i), (nV j), (pT b 0), (pT a 0)] Try.func123 ?_
 have hM := Gw.refl w
 refine zsp <| zsq ?_
 obtain ⟨ad1, rfl⟩ := rd_some (hf.1) (by rw [ints_len]; omega)
 obtain ⟨ad2, rfl⟩ := rd_some (hn.1) (by rw [ints_len]; omega)
 refine zkp [(0, (nV i)), (1, (nV j)), (2, (pT b 0)), (3, (pT a 0))] ?_
 intro aC fr
 refine zdj (N := 24) (env0 := [(0, (nV i)), (1, (nV j)), (2, (pT b 0)), (3, (pT a 0))]) (specAt [.det (.slice (some ad2) nl.length nc), .det (pT a 1), .det (.slice (some ad1) fl.length fc), .det (nV i), .det (.pointer (some ((ad1 : Addr).add (((i : Int)).toNat * 1)))), .det (.int .i64 x), .det (.pointer (some ((ad2 : Addr).add ((x).toNat * 1)))), .det (.int .i64 (nl.getD x.toNat 0)), .det (.slice (some ad2) nl.length nc), .det (pT a 1), .det (.slice (some ad1) fl.length fc), .det (nV j), .det (.pointer (some ((ad1 : Addr).add (((j : Int)).toNat * 1)))), .det (.int .i64 y), .det (.pointer (some ((ad2 : Addr).add ((y).toNat * 1)))), .det (.int .i64 (nl.getD y.toNat 0)), .det (.int .i64 ((nl.getD x.toNat 0) - (nl.getD y.toNat 0))), .det (.int .i64 ((nl.getD x.toNat 0) - (nl.getD y.toNat 0)))]) (fun ls vs w_ => Gw w w_) fr (plain_ok (.det (.det (.det (.det (.det (.det (.det (.det (.det (.det (.det (.det (.det (.det (.det (.det (.det (.det .nil))))))))))))))))))) hM.drew (la (la (la (la (la (la (la (la (la (la (la (la (la (la (la (la (la (la lz (dLJ ⟨b, 0, none⟩ (.slice (some ad2) nl.length nc) (fun _ _ _ _ h => h) ?_)) (dPJ fun _ _ _ _ h => h)) (dLJ ⟨a, 1, none⟩ (.slice (some ad1) fl.length fc) (fun _ _ _ _ h => h) ?_)) (dPJ fun _ _ _ _ h => h)) (dIJ ad1 fl.length 1 (i : Int) fun _ _ _ _ h => h)) (dLJ ((ad1 : Addr).add (((i : Int)).toNat * 1)) (.int .i64 x) (fun _ _ _ _ h => h) ?_)) (dIJ (h0 := hx.1) (h1 := hx.2) ad2 nl.length 1 x fun _ _ _ _ h => h)) (dLJ ((ad2 : Addr).add ((x).toNat * 1)) (.int .i64 (nl.getD x.toNat 0)) (fun _ _ _ _ h => h) ?_)) (dLJ ⟨b, 0, none⟩ (.slice (some ad2) nl.length nc) (fun _ _ _ _ h => h) ?_)) (dPJ fun _ _ _ _ h => h)) (dLJ ⟨a, 1, none⟩ (.slice (some ad1) fl.length fc) (fun _ _ _ _ h => h) ?_)) (dPJ fun _ _ _ _ h => h)) (dIJ ad1 fl.length 1 (j : Int) fun _ _ _ _ h => h)) (dLJ ((ad1 : Addr).add (((j : Int)).toNat * 1)) (.int .i64 y) (fun _ _ _ _ h => h) ?_)) (dIJ (h0 := hy.1) (h1 := hy.2) ad2 nl.length 1 y fun _ _ _ _ h => h)) (dLJ ((ad2 : Addr).add ((y).toNat * 1)) (.int .i64 (nl.getD y.toNat 0)) (fun _ _ _ _ h => h) ?_)) (dAJ (h1 := (by have := hr x.toNat; have := hr y.toNat; omega)) (h2 := (by have := hr x.toNat; have := hr y.toNat; omega)) ((nl.getD x.toNat 0) - (nl.getD y.toNat 0)) fun _ _ _ _ h => h)) (dPJ fun _ _ _ _ h => h)) ?_
 intro w_ ls vs hJ hi_ hc_ hp
 have hM_ := hJ
 exact (blk_cell (hM_.kp.ro hb) rfl)
 intro w_ ls vs hJ hi_ hc_ hp
 have hM_ := hJ
 exact (blk_cell (hM_.kp.ro ha) rfl)
 intro w_ ls vs hJ hi_ hc_ hp
 have hM_ := hJ
 exact (rd_at (hM_.kp.ro hf) rfl hi)
 intro w_ ls vs hJ hi_ hc_ hp
 have hM_ := hJ
 exact (rd_int (hM_.kp.ro hn) rfl hx.1 hx.2)
 intro w_ ls vs hJ hi_ hc_ hp
 have hM_ := hJ
 exact (blk_cell (hM_.kp.ro hb) rfl)
 intro w_ ls vs hJ hi_ hc_ hp
 have hM_ := hJ
 exact (blk_cell (hM_.kp.ro ha) rfl)
 intro w_ ls vs hJ hi_ hc_ hp
 have hM_ := hJ
 exact (rd_at (hM_.kp.ro hf) rfl hj)
 intro w_ ls vs hJ hi_ hc_ hp
 have hM_ := hJ
 exact (rd_int (hM_.kp.ro hn) rfl hy.1 hy.2)
 intro aC w7 ls vs hall M8 hv fr
 revert aC; refine zkp [(6, (.int .i64 ((nl.getD x.toNat 0) - (nl.getD y.toNat 0))))] ?_
 clear hall hv fr aC hM; clear vs ls
 refine zre <| zo1 (.int .i64 ((nl.getD x.toNat 0) - (nl.getD y.toNat 0))) ?_
 exact ⟨rfl, M8⟩
end Go.Proofs.Ytejbeeaomokjpaa
namespace Go.Proofs.Ytejbeeaomokjpaa
open Go.Shelf Go.Proofs
def Try.sortI_ren : Go.Shelf.Ren := ⟨fun | 6 => 122 | 15 => 133 | 14 => 132 | 28 => 145 | 29 => 146 | 20 => 137 | 21 => 138 | 22 => 139 | 23 => 140 | 24 => 141 | 25 => 142 | 26 => 143 | 27 => 144 | 46 => 147 | 47 => 148 | 48 => 149 | 49 => 150 | 50 => 151 | 57 => 152 | n => n, fun | 22 => 37 | 24 => 3 | 25 => 150 | 3 => 3 | 39 => 163 | 0 => 0 | 53 => 174 | 55 => 160 | 4 => 4 | 46 => 168 | 45 => 167 | 50 => 154 | 5 => 5 | 9 => 9 | 66 => 176 | 70 => 180 | 76 => 182 | 77 => 183 | n => n, fun | n => n⟩
theorem Try.sortI : Go.Proofs.SlLaysF.n6 Try.prog Try.sortI_ren := {
  mixed := (by kernel_rfl)
  f6 := ⟨Try.f122.name, by decide, Try.func122.trans (congrArg some (by kernel_rfl))⟩
  f14 := ⟨Try.f132.name, by decide, Try.func132.trans (congrArg some (by kernel_rfl))⟩
  f15 := Try.func133.trans (congrArg some (by kernel_rfl))
  f20 := ⟨Try.f137.name, by decide, Try.func137.trans (congrArg some (by kernel_rfl))⟩
  f21 := ⟨Try.f138.name, by decide, Try.func138.trans (congrArg some (by kernel_rfl))⟩
  f22 := ⟨Try.f139.name, by decide, Try.func139.trans (congrArg some (by kernel_rfl))⟩
  f23 := ⟨Try.f140.name, by decide, Try.func140.trans (congrArg some (by kernel_rfl))⟩
  f24 := ⟨Try.f141.name, by decide, Try.func141.trans (congrArg some (by kernel_rfl))⟩
  f25 := ⟨Try.f142.name, by decide, Try.func142.trans (congrArg some (by kernel_rfl))⟩
  f26 := ⟨Try.f143.name, by decide, Try.func143.trans (congrArg some (by kernel_rfl))⟩
  f27 := ⟨Try.f144.name, by decide, Try.func144.trans (congrArg some (by kernel_rfl))⟩
  f28 := Try.func145.trans (congrArg some (by kernel_rfl))
  f29 := Try.func146.trans (congrArg some (by kernel_rfl))
  f46 := ⟨Try.f147.name, by decide, Try.func147.trans (congrArg some (by kernel_rfl))⟩
  f47 := Try.func148.trans (congrArg some (by kernel_rfl))
  f48 := Try.func149.trans (congrArg some (by kernel_rfl))
  f49 := ⟨Try.f150.name, by decide, Try.func150.trans (congrArg some (by kernel_rfl))⟩
  f50 := ⟨Try.f151.name, by decide, Try.func151.trans (congrArg some (by kernel_rfl))⟩
  f57 := ⟨Try.f152.name, by decide, Try.func152.trans (congrArg some (by kernel_rfl))⟩
  t0 := Try.underlying0
  a0 := Try.isAgg0
  z0 := Try.sizeOf0
  v0 := Try.zeroValue0
  t3 := Try.underlying3
  a3 := Try.isAgg3
  z3 := Try.sizeOf3
  v3 := Try.zeroValue3
  t4 := Try.underlying4
  a4 := Try.isAgg4
  z4 := Try.sizeOf4
  v4 := Try.zeroValue4
  t5 := Try.underlying5
  a5 := Try.isAgg5
  z5 := Try.sizeOf5
  v5 := Try.zeroValue5
  t9 := Try.underlying9
  a9 := Try.isAgg9
  z9 := Try.sizeOf9
  v9 := Try.zeroValue9
  t22 := Try.underlying37
  a22 := Try.isAgg37
  z22 := Try.sizeOf37
  v22 := Try.zeroValue37
  a24 := Try.isAgg3
  z24 := Try.sizeOf3
  t25 := Try.underlying150
  a25 := Try.isAgg150
  z25 := Try.sizeOf150
  v25 := Try.zeroValue150
  t39 := Try.underlying163
  a39 := Try.isAgg163
  z39 := Try.sizeOf163
  v39 := Try.zeroValue163
  t45 := Try.underlying167
  a45 := Try.isAgg167
  z45 := Try.sizeOf167
  v45 := Try.zeroValue167
  t46 := Try.underlying168
  a46 := Try.isAgg168
  z46 := Try.sizeOf168
  v46 := Try.zeroValue168
  t50 := Try.underlying154
  a50 := Try.isAgg154
  z50 := Try.sizeOf154
  v50 := Try.zeroValue154
  t53 := Try.underlying174
  a53 := Try.isAgg174
  z53 := Try.sizeOf174
  v53 := Try.zeroValue174
  t55 := Try.underlying160
  a55 := Try.isAgg160
  z55 := Try.sizeOf160
  v55 := Try.zeroValue160
  t66 := Try.underlying176
  a66 := Try.isAgg176
  z66 := Try.sizeOf176
  v66 := Try.zeroValue176
  t70 := Try.underlying180
  a70 := Try.isAgg180
  z70 := Try.sizeOf180
  v70 := Try.zeroValue180
  t76 := Try.underlying182
  a76 := Try.isAgg182
  z76 := Try.sizeOf182
  v76 := Try.zeroValue182
  t77 := Try.underlying183
  a77 := Try.isAgg183
  z77 := Try.sizeOf183
  v77 := Try.zeroValue183 }
end Go.Proofs.Ytejbeeaomokjpaa
namespace Go.Proofs.Ytejbeeaomokjpaa
open Go.Mor Go.RowKit Go.Sort Go.Proofs
theorem sortf_c (g c b a nc fc : Nat) (dst : Int) (ag : Value) (NA fA : Option Addr) (nl fl : List Int) (w : World) (h0 : 0 < fl.length) (hN : fl.length ≤ 1000000)
    (hrow : (Res.row 3 1 (some ⟨g, 0, none⟩) fl.length c (ints (natsI (List.range fl.length)))).holds w)
    (hb : RO (Res.row 3 1 (some ⟨g, 0, none⟩) fl.length c (ints (natsI (List.range fl.length)))).fp w (.blk b 37 [.slice NA nl.length nc]))
    (ha : RO (Res.row 3 1 (some ⟨g, 0, none⟩) fl.length c (ints (natsI (List.range fl.length)))).fp w (.blk a 67 [.int .i64 dst, .slice fA fl.length fc, ag]))
    (hn : RO (Res.row 3 1 (some ⟨g, 0, none⟩) fl.length c (ints (natsI (List.range fl.length)))).fp w (.rd NA (ints nl)))
    (hf : RO (Res.row 3 1 (some ⟨g, 0, none⟩) fl.length c (ints (natsI (List.range fl.length)))).fp w (.rd fA (ints fl)))
    (hx : ∀ x, x ∈ fl → 0 ≤ x ∧ x < (nl.length : Int)) (hr : ∀ k, 0 ≤ nl.getD k 0 ∧ nl.getD k 0 ≤ 1000000) :
    Calls Try.prog 122 #[.slice (some ⟨g, 0, none⟩) fl.length c, .func (.func 123) #[] #[pT b 0, pT a 0]] w
      (Ret fun v w' => ∃ il, Sorted_ fl.length (keyI nl fl) il ∧ v = .tuple #[] ∧ Mem (Res.row 3 1 (some ⟨g, 0, none⟩) fl.length c (ints (natsI (List.range fl.length)))).fp w w' [.row 3 1 (some ⟨g, 0, none⟩) fl.length c (ints (natsI il))]) := by
  haveI : Inhabited (Fin fl.length) := ⟨⟨0, h0⟩⟩
  have e : (Array.ofFn (n := fl.length) id).size = fl.length := by simp
  have hlt : g < w.heap.size := Res.lt _ hrow ⟨⟨g, 0, none⟩, rfl, rfl⟩
  have eg : ∀ args w, (callFunc 123 args).run Try.prog w = .ok (.enter 123 args) w := enters_of Try.func123 (by kernel_rfl) rfl
  have hrow' : (Res.row 3 1 (some ⟨g, 0, none⟩) fl.length c (((Array.ofFn (n := fl.length) id).toList).map (encF fl.length))).holds w := by rw [finArr_map]; exact hrow
  have hget : ∀ i : Fin fl.length, fl[i.val]? = some (fl.getD i.val 0) := fun i => by simp [List.getD]
  have hcmp : CmpLays1 Try.prog 123 #[pT b 0, pT a 0] (encF fl.length) (cfF nl fl fl.length) g 0 (Array.ofFn (n := fl.length) id).size w := by
    intro m os dk hs x y
    have hm := sort_mem (encF fl.length) hrow m (hs.trans e) os
    have hc := tocmp_c a b dst ag NA fA nc fc nl fl x.val y.val _ _ _ (hb.at_ hm) (ha.at_ hm) (hn.at_ hm) (hf.at_ hm) (hget x) (hget y) (hx _ (List.mem_of_getElem? (hget x))) (hx _ (List.mem_of_getElem? (hget y))) hr
    refine hc.mono ?_
    rintro e w' ⟨v, he, hv, hg⟩
    subst hv
    exact ⟨he, hg⟩
  have hcon := Any.slices_SortFunc Try.sortI (encF fl.length) (fun _ => rfl) (cfF nl fl fl.length) (cfF_swo nl fl fl.length) 123 #[pT b 0, pT a 0] g 0 c (Array.ofFn (n := fl.length) id) w eg hcmp (row_Holds _ hrow') hlt (by rw [e]; omega)
  rw [e] at hcon
  refine Calls.mono hcon ?_
  rintro e' w' ⟨he, d', m, os, hp, hs, rfl⟩
  obtain ⟨h1, h2⟩ := sorted_out (by rw [e]; exact hp) (by rw [e]; exact hs)
  have hd : d'.size = fl.length := hp.1.trans e
  refine ⟨_, he, d'.toList.map (·.val), h1, rfl, ?_⟩
  have hm := sort_mem (encF fl.length) hrow m hd os
  rw [h2] at hm
  exact hm
end Go.Proofs.Ytejbeeaomokjpaa
namespace Go.Proofs.Ytejbeeaomokjpaa
open Go.Mor
theorem to_c (dst : Int) (NA fA aA : Option Addr) (nc fc ac : Nat) (nl fl al : List Int) (w : World) (h0 : 0 < fl.length) (hN : fl.length ≤ 20000) (hal : al.length = fl.length) (hn : RO noS w (.rd NA (ints nl))) (hf : RO noS w (.rd fA (ints fl))) (ha : RO noS w (.rd aA (ints al))) (hx : ∀ x, x ∈ fl → 0 ≤ x ∧ x < (nl.length : Int)) (hr : ∀ k, 0 ≤ nl.getD k 0 ∧ nl.getD k 0 ≤ 1000000) :
    Calls Try.prog 98 #[(.agg #[(.int .i64 dst), (.slice fA fl.length fc), (.slice aA al.length ac)]), (.slice NA nl.length nc)] w (Ret fun v w' => ∃ A' c' il, Sorted_ fl.length (keyI nl fl) il ∧ v = .agg #[.int .i64 dst, .slice A' fl.length c'] ∧ Mem noS w w' [.row 3 1 A' fl.length c' (ints (il.map (fun i => al.getD i 0)))]) := by
 refine zen 48 [(.agg #[(.int .i64 dst), (.slice fA fl.length fc), (.slice aA al.length ac)]), (.slice NA nl.length nc)] Try.func98 ?_
 have hM := Mem.init w
 refine zsr <| zbx hM 67 (.agg #[(.int .i64 dst), (.slice fA fl.length fc), (.slice aA al.length ac)]) [(.int .i64 dst), (.slice fA fl.length fc), (.slice aA al.length ac)] fun b1 w2 hb1 M3 => ?_
 replace M3 := M3.nf
 clear hM
 refine zbx M3 37 (.slice NA nl.length nc) [(.slice NA nl.length nc)] fun b4 w5 hb4 M6 => ?_
 replace M6 := M6.nf
 refine zal M6 79 [(.int .i64 0), (.slice none 0 0)] fun b7 w8 hb7 M9 => ?_
 replace M9 := M9.nf
 refine zfe <| zsr <| zpn 1 <| zld ⟨b1, 1, none⟩ (.slice fA fl.length fc) (blk_cell (M9.get 0 rfl) rfl) <| zpn 1 ?_
 intro aC fr
 refine zMk 13 37 (.tmp 12) (.tmp 12) 37 fr (e := 3) (bytes := 8) (z := (.int .i64 0)) (n := fl.length) (i := ((fl.length : Nat) : Int)) (by omega) (by simp only [maxLen]; omega) M9 ?_
 intro b10 w11 hb10 _ M12 _ aC ea fr; clear ea
 replace M12 := M12.nf
 revert aC
 refine zpn 1 <| zfe <| zsq <| zsp <| zbk 0 ?_
 have M17 := M12.od [2, 2, 2, 3] 4
 intro aC fr
 refine zlp (fun n_ a_ w_ => ∃ (j : Nat), n_ = fl.length - j ∧ Fr a_ 48 [(2, (pT b1 0)), (3, (pT b4 0)), (4, (pT b7 0)), (5, (.slice (sM b10) fl.length fl.length)), (15, (.int .i64 ((fl.length : Nat) : Int))), (16, (nV j))] ∧ Mem noS w w_ [.row 3 1 (sM b10) fl.length fl.length (ints (fillN fl.length j)), .blk b1 67 [(.int .i64 dst), (.slice fA fl.length fc), (.slice aA al.length ac)], .blk b4 37 [(.slice NA nl.length nc)], .blk b7 79 [(.int .i64 0), (.slice none 0 0)]] ∧ (j ≤ fl.length)) (n := _) ⟨0, rfl, fr.kp [2, 3, 4, 5, 15, 16], (M17.cast (by rw [fillN_zero])), Nat.zero_le _⟩ ?_
 clear fr aC M17; rintro n aC w20 ⟨j, rfl, fr, M21, hj⟩
 revert aC
 refine zsp <| zsq <| zcD (((j : Int) : Int) < ((fl.length : Nat) : Int)) (fun c24 => ?_) (fun c24 => ?_)
 refine zsk <| zsq <| zbk 1 <| zsp <| zrg <| zpn 3 <| zix ⟨b10, 0, none⟩ fl.length 1 (j : Int) <| zsw M21 0 ((⟨b10, 0, none⟩ : Addr).add (((j : Int)).toNat * 1)) (((j : Int)).toNat * 1) (nV j) rfl rfl (by omega) fun w25 M26 => ?_
 replace M26 := M26.nf
 refine zfe <| zrg <| zar ((j : Int) + 1) <| zpn 1 <| zfe ?_
 intro aC fr
 exact ⟨fl.length - (j + 1), by omega, j + 1, rfl, fr.kp [2, 3, 4, 5, 15, 16], (M26.cast (by rw [Int.toNat_natCast, Nat.mul_one, fillN_next (by omega)])), by omega⟩
 refine zex 0 <| zbh <| zsr ?_
 have M29 : Mem noS w w20 [.row 3 1 (sM b10) fl.length fl.length (ints (natsI (List.range fl.length))), .blk b1 67 [(.int .i64 dst), (.slice fA fl.length fc), (.slice aA al.length ac)], .blk b4 37 [(.slice NA nl.length nc)], .blk b7 79 [(.int .i64 0), (.slice none 0 0)]] := M21.cast (by rw [show j = fl.length by omega, fillN_all])
 refine zpn 2 <| zcl (vs := #[(.slice (sM b10) fl.length fl.length), (.func (.func 123) #[] #[(pT b4 0), (pT b1 0)])]) ((by have h9 := sortf_c b10 fl.length b4 b1 nc fc dst _ NA fA nl fl w20 h0 (by omega) (M29.get 0 rfl) (M29.own_but 2 0 rfl rfl (by decide)) (M29.own_but 1 0 rfl rfl (by decide)) (hn.but M29 0 rfl) (hf.but M29 0 rfl) hx hr; exact h9)) ?_
 rintro _ w30 ⟨il, hil, rfl, M31x⟩
 have M31 := M29.md 0 rfl M31x
 refine zfe <| zsr <| zpn 1 <| zld ⟨b1, 0, none⟩ (.int .i64 dst) (blk_cell (M31.get 1 rfl) rfl) <| zpn 1 <| zal M31 79 [(.int .i64 0), (.slice none 0 0)] fun b32 w33 hb32 M34 => ?_
 replace M34 := M34.nf
 refine zss M34 4 [(.int .i64 dst), (.slice none 0 0)] rfl fun w35 M36 => ?_
 replace M36 := M36.nf
 refine zfe <| zsq <| zsp <| zbk 2 ?_
 have hill : il.length = fl.length := by have := hil.1.length_eq; rw [List.length_range] at this; exact this
 have M37 := M36.od [4, 4, 4, 4, 4] 5
 intro aC fr
 refine zlp (fun n_ a_ w_ => ∃ (j2 : Nat) (xA : Option Addr) (xc : Nat), n_ = fl.length - j2 ∧ Fr a_ 48 [(2, (pT b1 0)), (4, (pT b7 0)), (7, (pT b32 0)), (30, (.slice (sM b10) fl.length fl.length)), (31, (.int .i64 ((fl.length : Nat) : Int))), (32, (nV j2))] ∧ Mem noS w w_ [.row 3 1 (sM b10) fl.length fl.length (ints (natsI il)), .blk b1 67 [(.int .i64 dst), (.slice fA fl.length fc), (.slice aA al.length ac)], .blk b4 37 [(.slice NA nl.length nc)], .blk b7 79 [(.int .i64 0), (.slice none 0 0)], .blk b32 79 [(.int .i64 dst), (.slice xA j2 xc)], .row 3 1 xA j2 xc (ints ((il.take j2).map (fun i => al.getD i 0)))] ∧ (j2 ≤ fl.length)) (n := _) ⟨0, none, 0, rfl, fr.kp [2, 4, 7, 30, 31, 32], (M37.call (Mem.nilrow _ 3 1)), Nat.zero_le _⟩ ?_
 clear fr aC M37; rintro n aC w40 ⟨j2, xA, xc, rfl, fr, M41, hj2⟩
 revert aC
 refine zsp <| zsq <| zcD (((j2 : Int) : Int) < ((fl.length : Nat) : Int)) (fun c44 => ?_) (fun c44 => ?_)
 refine zsk <| zsq <| zbk 3 <| zsr ?_
 obtain ⟨i, hi⟩ := get_of (l := il) (i := j2) (by omega)
 have hir := List.mem_range.1 (hil.1.mem_iff.1 (List.mem_of_getElem? hi))
 obtain ⟨y, hy⟩ := get_of (l := al) (i := i) (by omega)
 have hyd : al.getD i 0 = y := getD_of hy
 refine zix ⟨b10, 0, none⟩ fl.length 1 (j2 : Int) <| zld ((⟨b10, 0, none⟩ : Addr).add (((j2 : Int)).toNat * 1)) (nV i) (rd_at (row_rd (M41.get 0 rfl)) rfl (natsI_get hi)) <| zpn 1 <| zfe ?_
 obtain ⟨ad45, rfl⟩ := rd_some (M41.ro ha) (by rw [ints_len]; omega)
 refine zkp [(2, (pT b1 0)), (4, (pT b7 0)), (7, (pT b32 0)), (9, (nV i)), (30, (.slice (sM b10) fl.length fl.length)), (31, (.int .i64 ((fl.length : Nat) : Int))), (32, (nV j2))] ?_
 intro aC fr
 refine zdj (N := 48) (env0 := [(2, (pT b1 0)), (4, (pT b7 0)), (7, (pT b32 0)), (9, (nV i)), (30, (.slice (sM b10) fl.length fl.length)), (31, (.int .i64 ((fl.length : Nat) : Int))), (32, (nV j2))]) (specAt [.det (pT b32 1), .det (.slice xA j2 xc), .det (pT b1 2), .det (.slice (some ad45) al.length ac), .det (nV i), .det (.pointer (some ((ad45 : Addr).add (((i : Int)).toNat * 1)))), .det (.int .i64 (al.getD i 0)), Spec.free, Spec.free, .det (pT b32 1), .det undef]) (fun ls vs w_ => match ls 10 with | true => (∃ (g46 : Nat) (A47 : Option Addr) (c48 : Nat), vs 7 = (.slice (sM g46) 1 1) ∧ vs 8 = (.slice A47 (j2 + 1) c48) ∧ Mem noS w w_ [.row 3 1 (sM b10) fl.length fl.length (ints (natsI il)), .blk b1 67 [(.int .i64 dst), (.slice fA fl.length fc), (.slice (some ad45) al.length ac)], .blk b4 37 [(.slice NA nl.length nc)], .blk b7 79 [(.int .i64 0), (.slice none 0 0)], .blk b32 79 [(.int .i64 dst), (.slice A47 (j2 + 1) c48)], .row 3 1 A47 (j2 + 1) c48 ((ints ((il.take j2).map (fun i => al.getD i 0))) ++ [(.int .i64 (al.getD i 0))]), .row 3 1 (sM g46) 1 1 [(.int .i64 (al.getD i 0))]]) | false => (match ls 8 with | true => (∃ (g46 : Nat) (A47 : Option Addr) (c48 : Nat), vs 7 = (.slice (sM g46) 1 1) ∧ vs 8 = (.slice A47 (j2 + 1) c48) ∧ Mem noS w w_ [.row 3 1 (sM b10) fl.length fl.length (ints (natsI il)), .blk b1 67 [(.int .i64 dst), (.slice fA fl.length fc), (.slice (some ad45) al.length ac)], .blk b4 37 [(.slice NA nl.length nc)], .blk b7 79 [(.int .i64 0), (.slice none 0 0)], .blk b32 79 [(.int .i64 dst), (.slice xA j2 xc)], .row 3 1 A47 (j2 + 1) c48 ((ints ((il.take j2).map (fun i => al.getD i 0))) ++ [(.int .i64 (al.getD i 0))]), .row 3 1 (sM g46) 1 1 [(.int .i64 (al.getD i 0))]]) | false => (match ls 7 with | true => (∃ (g46 : Nat), vs 7 = (.slice (sM g46) 1 1) ∧ Mem noS w w_ [.row 3 1 (sM b10) fl.length fl.length (ints (natsI il)), .blk b1 67 [(.int .i64 dst), (.slice fA fl.length fc), (.slice (some ad45) al.length ac)], .blk b4 37 [(.slice NA nl.length nc)], .blk b7 79 [(.int .i64 0), (.slice none 0 0)], .blk b32 79 [(.int .i64 dst), (.slice xA j2 xc)], .row 3 1 xA j2 xc (ints ((il.take j2).map (fun i => al.getD i 0))), .row 3 1 (sM g46) 1 1 [(.int .i64 (al.getD i 0))]]) | false => (Mem noS w w_ [.row 3 1 (sM b10) fl.length fl.length (ints (natsI il)), .blk b1 67 [(.int .i64 dst), (.slice fA fl.length fc), (.slice (some ad45) al.length ac)], .blk b4 37 [(.slice NA nl.length nc)], .blk b7 79 [(.int .i64 0), (.slice none 0 0)], .blk b32 79 [(.int .i64 dst), (.slice xA j2 xc)], .row 3 1 xA j2 xc (ints ((il.take j2).map (fun i => al.getD i 0)))])))) fr (plain_ok (.det (.det (.det (.det (.det (.det (.det (.free (.free (.det (.det .nil)))))))))))) (M41.then_ (Mem.drew _)) (la (la (la (la (la (la (la (la (la (la (la lz (dPJ fun _ _ _ _ h => h)) (dLJ ⟨b32, 1, none⟩ (.slice xA j2 xc) (fun _ _ _ _ h => h) ?_)) (dPJ fun _ _ _ _ h => h)) (dLJ ⟨b1, 2, none⟩ (.slice (some ad45) al.length ac) (fun _ _ _ _ h => h) ?_)) (dPJ fun _ _ _ _ h => h)) (dIJ ad45 al.length 1 (i : Int) fun _ _ _ _ h => h)) (dLJ ((ad45 : Addr).add (((i : Int)).toNat * 1)) (.int .i64 (al.getD i 0)) (fun _ _ _ _ h => h) ?_)) ?_) ?_) (dPJ fun _ _ _ _ h => h)) ?_) ?_
 intro w_ ls vs hJ hi_ hc_ hp
 have f8 : ls 8 = false := notyet hc_ hi_ (n := 11) (by kernel_rfl)
 have f10 : ls 10 = false := notyet hc_ hi_ (n := 11) (by kernel_rfl)
 have hM_ := hJ
 simp only [f8, f10] at hM_
 cases fu : ls 7
 simp only [fu] at hM_
 exact (blk_cell (hM_.get 4 rfl) rfl)
 simp only [fu] at hM_
 obtain ⟨_, _, hM_⟩ := hM_
 exact (blk_cell (hM_.get 4 rfl) rfl)
 intro w_ ls vs hJ hi_ hc_ hp
 have f7 : ls 7 = false := notyet hc_ hi_ (n := 11) (by kernel_rfl)
 have f8 : ls 8 = false := notyet hc_ hi_ (n := 11) (by kernel_rfl)
 have f10 : ls 10 = false := notyet hc_ hi_ (n := 11) (by kernel_rfl)
 have hM_ := hJ
 simp only [f7, f8, f10] at hM_
 exact (blk_cell (hM_.get 1 rfl) rfl)
 intro w_ ls vs hJ hi_ hc_ hp
 have f7 : ls 7 = false := notyet hc_ hi_ (n := 11) (by kernel_rfl)
 have f8 : ls 8 = false := notyet hc_ hi_ (n := 11) (by kernel_rfl)
 have f10 : ls 10 = false := notyet hc_ hi_ (n := 11) (by kernel_rfl)
 have hM_ := hJ
 simp only [f7, f8, f10] at hM_
 exact (by rw [hyd]; exact rd_at (hM_.ro ha) rfl hy)
 intro aa_ w_ ls vs rest_ hJ hi_ hc_ hp hF
 refine okG (g0 := none) ?_
 replace hF : Fr aa_ 48 [(42, (.int .i64 (al.getD i 0)))] := hF.kp [42]
 have f7 : ls 7 = false := hi_
 have f8 : ls 8 = false := notyet hc_ hi_ (n := 11) (by kernel_rfl)
 have f10 : ls 10 = false := notyet hc_ hi_ (n := 11) (by kernel_rfl)
 have hM_ := hJ
 simp only [f7, f8, f10] at hM_
 refine zBs 43 37 1 #[(0, (.tmp 42))] 37 hF (e := 3) (size := 1) (zs := [(.int .i64 0)]) (vs := [(0, (.int .i64 (al.getD i 0)))]) (cs := [(.int .i64 (al.getD i 0))]) hM_ ?_
 intro g46p w2 _ _ hm2 _ a2 ea _
 refine From_end (by kernel_rfl) ?_; refine op_doneJ (d := some 43) (by kernel_rfl) ea trivial ?_
 show match ls 10 with | true => _ | false => (match ls 8 with | true => _ | false => (∃ (g46 : Nat), _))
 rw [f10, f8]
 exact ⟨g46p, rfl, hm2⟩
 intro aa_ w_ ls vs rest_ hJ hi_ hc_ hp hF
 refine okG (g0 := none) ?_
 replace hF : Fr aa_ 48 [(37, (.slice xA j2 xc)), (43, vs 7)] := hF.kp [37, 43]
 have f7 : ls 7 = true := donebefore hc_ (fun k hk => (hp k hk).1) (n := 11) (by kernel_rfl)
 have f8 : ls 8 = false := hi_
 have f10 : ls 10 = false := notyet hc_ hi_ (n := 11) (by kernel_rfl)
 have hM_ := hJ
 simp only [f7, f8, f10] at hM_
 obtain ⟨g46p, e7_, hM_⟩ := hM_
 try rw [e7_] at hF
 refine zAp 44 (.tmp 37) (.tmp 43) 37 37 hF (e := 3) (size := 1) (bytes := 8) (z := (.int .i64 0)) (A := xA) (B := (sM g46p)) (n := j2) (cap := xc) (m := 1) (cap' := 1) (xs := (ints ((il.take j2).map (fun i => al.getD i 0)))) (news := [(.int .i64 (al.getD i 0))]) hM_ 5 rfl (row_rd (hM_.get 6 rfl)) rfl (by simp [Value.oneCell']) (by omega) (by simp only [maxLen]; omega) ?_
 intro A47p c48p w2 hm2 _ a2 ea _
 refine From_end (by kernel_rfl) ?_; refine op_doneJ (d := some 44) (by kernel_rfl) ea trivial ?_
 show match ls 10 with | true => _ | false => (∃ (g46 : Nat) (A47 : Option Addr) (c48 : Nat), _)
 rw [f10]
 exact ⟨g46p, A47p, c48p, e7_, rfl, hm2⟩
 intro aa_ w_ ls vs rest_ hJ hi_ hc_ hp hF
 refine okG (g0 := none) ?_
 replace hF : Fr aa_ 48 [(44, vs 8), (45, (pT b32 1))] := hF.kp [44, 45]
 have f7 : ls 7 = true := donebefore hc_ (fun k hk => (hp k hk).1) (n := 11) (by kernel_rfl)
 have f8 : ls 8 = true := donebefore hc_ (fun k hk => (hp k hk).1) (n := 11) (by kernel_rfl)
 have f10 : ls 10 = false := hi_
 have hM_ := hJ
 simp only [f7, f8, f10] at hM_
 obtain ⟨g46p, A47p, c48p, e7_, e8_, hM_⟩ := hM_
 try rw [e7_] at hF
 try rw [e8_] at hF
 refine From_store_blk (by kernel_rfl : coreAt _ 0 = some (none, (.store 37 (.tmp 45) (.tmp 44)), 0, none)) hF (by kernel_rfl) (by kernel_rfl) (k' := 1) rfl (b := b32) (off := 1) (t0 := 79) (v := (.slice A47p (j2 + 1) c48p)) (cs := [(.int .i64 dst), (.slice xA j2 xc)]) (by kernel_rfl) (by kernel_rfl) (by kernel_rfl) rfl hM_ 4 rfl (by simp) ?_
 intro w2 hm2 _ a2 ea _
 refine From_end (by kernel_rfl) ?_; refine op_doneJ (d := none) (by kernel_rfl) ea rfl ?_
 show ∃ (g46 : Nat) (A47 : Option Addr) (c48 : Nat), _
 exact ⟨g46p, A47p, c48p, e7_, e8_, hm2⟩
 intro aC w53 ls vs hall M54 hv fr
 simp only [show ls 10 = true from hall 10 (by decide)] at M54
 revert aC; refine zkp [(2, (pT b1 0)), (4, (pT b7 0)), (7, (pT b32 0)), (30, (.slice (sM b10) fl.length fl.length)), (31, (.int .i64 ((fl.length : Nat) : Int))), (32, (nV j2))] ?_
 obtain ⟨g46, A47, c48, e7_, e8_, M54⟩ := M54
 try rw [e7_]
 try rw [e8_]
 clear e7_ e8_
 clear hall hv fr aC M41; clear vs ls
 refine zrg <| zar ((j2 : Int) + 1) <| zpn 1 <| zfe ?_
 have M55 := M54.od [5, 5, 5, 5, 5, 5] 6
 have M56 : Mem noS w w53 [.row 3 1 (sM b10) fl.length fl.length (ints (natsI il)), .blk b1 67 [(.int .i64 dst), (.slice fA fl.length fc), (.slice (some ad45) al.length ac)], .blk b4 37 [(.slice NA nl.length nc)], .blk b7 79 [(.int .i64 0), (.slice none 0 0)], .blk b32 79 [(.int .i64 dst), (.slice A47 (j2 + 1) c48)], .row 3 1 A47 (j2 + 1) c48 (ints ((il.take (j2 + 1)).map (fun i => al.getD i 0)))] := M55.cast (by rw [nati_next hi, ints_append]; rfl)
 intro aC fr
 exact ⟨fl.length - (j2 + 1), by omega, j2 + 1, A47, c48, rfl, fr.kp [2, 4, 7, 30, 31, 32], M56, by omega⟩
 refine zex 2 <| zbh <| zsr <| zls ⟨b32, 0, none⟩ [(.int .i64 dst), (.slice xA j2 xc)] (blk_cells (M41.get 4 rfl)) <| zss M41 3 [(.int .i64 dst), (.slice xA j2 xc)] rfl fun w59 M60 => ?_
 replace M60 := M60.nf
 refine zfe <| zre ?_
 intro aC fr
 refine outC (ad := ⟨b7, 0, none⟩) (vs := [(.int .i64 dst), (.slice xA j2 xc)]) fr rfl (by kernel_rfl) (by kernel_rfl) (blk_cells (M60.get 3 rfl)) ?_
 refine ⟨_, rfl, ?_⟩
 have M63 := M60.od [5] 1
 obtain rfl : j2 = fl.length := by omega
 rw [List.take_of_length_le (show il.length ≤ fl.length by omega)] at M63
 exact ⟨xA, xc, il, hil, rfl, M63⟩
end Go.Proofs.Ytejbeeaomokjpaa
namespace Go.Mor
open Go.RowKit
section
variable {P : Program} {c : Code} {K : Act → World → Prop} {Q : Exit → Act → World → Prop} {w : World} {N : FN} {env : Env} {a : Act}
end
section
variable {P : Program} {c : Code} {Q : Exit → Act → World → Prop} {N : FN} {env0 : Env} {wr : World} {sp : Nat → Spec} {i : Nat}
end
section
variable {P : Program} {c : Code} {K : Act → World → Prop} {Q : Exit → Act → World → Prop} {w w0 : World} {N : FN} {env : Env} {a : Act} {S : Nat → Prop} {L : List Res}
end
theorem blk_cells_at {w : World} {g t : Nat} {cs vs : List Value} (h : (Res.blk g t cs).holds w) (off : Nat) (he : (cs.drop off).take vs.length = vs) (j : Nat) (v : Value) (hj : vs[j]? = some v) : w.cell? ((⟨g, off, none⟩ : Addr).add j) = some v := by
  have h1 : cs[off + j]? = some v := by
    have h2 := hj
    rw [← he, List.getElem?_take_of_lt (List.getElem?_eq_some_iff.1 hj).1, List.getElem?_drop] at h2
    exact h2
  have e : (⟨g, off, none⟩ : Addr).add j = ⟨g, off + j, none⟩ := by unfold Addr.add; split <;> simp_all
  rw [e]
  exact blk_cell h h1
end Go.Mor
namespace Go.Proofs.Ytejbeeaomokjpaa
open Go.Mor
set_option maxHeartbeats 2000000 in
theorem To_c (q : Nat) (nm : ByteArray) (wk : Bool) (pa va : Int) (bA : Option Addr) (bn bc : Nat) (gA : Option Addr) (gc : Nat) (gs : List GBlk) (w : World) (hN : gs.length ≤ 1000) (hok : ∀ x, x ∈ (gs.map GBlk.k) → ToOk (gs.length : Int) x) (hm : (Res.pk (gF q nm wk pa va bA bn bc gA gc gs)).holds w) :
    Calls Try.prog 51 #[(pT q 0)] w (Ret fun v w' => ∃ B cB fd, v = fA nm wk pa va B cB fd ∧ ToQ (gs.map GBlk.k) fd ∧ Mem (Res.pk (gF q nm wk pa va bA bn bc gA gc gs)).fp w w' (ownF B cB fd)) := by
 refine zen 137 [(pT q 0)] Try.func51 ?_
 have hM := Mem.unpk hm
 refine zsr <| zal hM 24 [(.string ⟨#[]⟩), (.bool false), (.int .i64 0), (.int .i64 0), (.slice none 0 0)] fun b1 w2 hb1 M3 => ?_
 replace M3 := M3.nf
 clear hM
 refine zfe <| zsr <| zpn 3 <| zls ⟨q, 0, none⟩ [(.string nm), (.bool wk), (.int .i64 pa), (.int .i64 va), (.slice bA bn bc)] (blk_cells_at (M3.get 0 rfl) 0 rfl) <| zal M3 24 [(.string ⟨#[]⟩), (.bool false), (.int .i64 0), (.int .i64 0), (.slice none 0 0)] fun b4 w5 hb4 M6 => ?_
 replace M6 := M6.nf
 refine zss M6 4 [(.string nm), (.bool wk), (.int .i64 pa), (.int .i64 va), (.slice bA bn bc)] rfl fun w7 M8 => ?_
 replace M8 := M8.nf
 refine zfe <| zsr <| zpn 1 <| zsb (ho := (by simp)) M8 4 4 (.slice none 0 0) rfl fun w9 M10 => ?_
 replace M10 := M10.nf
 refine zfe <| zsr <| zpn 3 <| zld ⟨q, 5, none⟩ (.slice gA gs.length gc) (blk_cell (M10.get 0 rfl) rfl) <| zpn 1 ?_
 intro aC fr
 refine zMk 23 37 (.tmp 22) (.tmp 22) 37 fr (e := 3) (bytes := 8) (z := (.int .i64 0)) (n := gs.length) (i := ((gs.length : Nat) : Int)) (by omega) (by simp only [maxLen]; omega) M10 ?_
 intro b11 w12 hb11 _ M13 _ aC ea fr; clear ea
 replace M13 := M13.nf
 revert aC
 refine zpn 1 <| zfe <| zsp <| zsq <| zsr <| zpn 3 <| zld ⟨q, 5, none⟩ (.slice gA gs.length gc) (blk_cell (M13.get 0 rfl) rfl) <| zkp [(0, (pT q 0)), (2, (pT b1 0)), (3, (pT b4 0)), (4, (.slice (sM b11) gs.length gs.length)), (5, (.int .i64 0)), (27, (.slice gA gs.length gc))] <| zpn 2 <| zfe ?_
 refine zbk 0 ?_
 have M18 := M13.od [4, 4, 5, 5, 5, 5] 6
 have hgl := goneL_len (gs.map GBlk.k)
 rw [List.length_map] at hgl
 intro aC fr
 refine zlp (fun n_ a_ w_ => ∃ (k : Nat) (cn : Nat), n_ = gs.length - k ∧ Fr a_ 137 [(0, (pT q 0)), (2, (pT b1 0)), (3, (pT b4 0)), (4, (.slice (sM b11) gs.length gs.length)), (5, (nV cn)), (27, (.slice gA gs.length gc)), (28, (.int .i64 ((gs.length : Nat) : Int))), (29, (nV k))] ∧ Mem (Res.pk (gF q nm wk pa va bA bn bc gA gc gs)).fp w w_ [.blk q 61 [(.string nm), (.bool wk), (.int .i64 pa), (.int .i64 va), (.slice bA bn bc), (.slice gA gs.length gc)], ptR gA gc gs, .pk (gs.map gB), .row 3 1 (sM b11) gs.length gs.length (ints (numT (goneL (gs.map GBlk.k)) k)), .blk b1 24 [(.string ⟨#[]⟩), (.bool false), (.int .i64 0), (.int .i64 0), (.slice none 0 0)], .blk b4 24 [(.string nm), (.bool wk), (.int .i64 pa), (.int .i64 va), (.slice none 0 0)]] ∧ (k ≤ gs.length) ∧ (cn = cntL (goneL (gs.map GBlk.k)) k)) (n := _) ⟨0, 0, rfl, fr.kp [0, 2, 3, 4, 5, 27, 28, 29], (M18.cast (by rw [numT_zero, hgl])), Nat.zero_le _, rfl⟩ ?_
 clear fr aC M18; rintro n aC w21 ⟨k, cn, rfl, fr, M22, hk, hcn⟩
 revert aC
 refine zsp <| zsq <| zcD (((k : Int) : Int) < ((gs.length : Nat) : Int)) (fun c25 => ?_) (fun c25 => ?_)
 refine zsk <| zsq <| zbk 1 <| zsr ?_
 obtain ⟨x, hx⟩ := get_of (l := gs) (i := k) (by omega)
 have hgx := gone_at hx
 have hcl := cntL_le (goneL (gs.map GBlk.k)) k
 refine zpn 1 ?_
 obtain ⟨ad26, rfl⟩ := row_at (M22.get 1 rfl) (by unfold ptrs; rw [List.length_map]; omega)
 refine zix ad26 gs.length 1 (k : Int) <| zld ((ad26 : Addr).add (((k : Int)).toNat * 1)) (.pointer (some ⟨x.g, 0, none⟩)) (own_ptr (M22.get 1 rfl) rfl hx) <| zpn 2 <| zfe <| zsr <| zpn 3 <| zld ⟨x.g, 6, none⟩ (.bool x.gone) (gB_cell (M22.get 2 rfl) hx (j := 6) rfl) <| zpn 1 <| zfe <| zcP (!x.gone) (¬ (x.gone = true)) (by simp only [notT]) (fun c27 => ?_) (fun c27 => ?_)
 replace c27 : x.gone = false := Bool.eq_false_iff.2 c27
 have hgk : (goneL (gs.map GBlk.k))[k]? = some false := by rw [hgx, c27]
 refine zsr <| zpn 3 <| zix (h0 := (by omega)) (h1 := (by omega)) ⟨b11, 0, none⟩ gs.length 1 (k : Int) <| zsw M22 3 ((⟨b11, 0, none⟩ : Addr).add (((k : Int)).toNat * 1)) (((k : Int)).toNat * 1) (nV cn) rfl rfl (by omega) fun w28 M29 => ?_
 replace M29 := M29.nf
 refine zfe <| zrg <| zpn 1 <| zar ((cn : Int) + 1) <| zkp [(0, (pT q 0)), (2, (pT b1 0)), (3, (pT b4 0)), (4, (.slice (sM b11) gs.length gs.length)), (27, (.slice (some ad26) gs.length gc)), (28, (.int .i64 ((gs.length : Nat) : Int))), (29, (nV k)), (44, (.int .i64 ((cn : Int) + 1)))] <| zpn 1 <| zfe <| zrg <| zar ((k : Int) + 1) <| zpn 1 ?_
 refine zfe ?_
 have M30 := M29.od [5, 5, 5, 5, 5, 5] 6
 intro aC fr
 exact ⟨gs.length - (k + 1), by omega, k + 1, (cn + 1), rfl, fr.kp [0, 2, 3, 4, 5, 27, 28, 29], (M30.cast (by rw [Int.toNat_natCast, Nat.mul_one, hcn, numT_yes hgk])), by omega, by rw [hcn, cntL_yes hgk]⟩
 replace c27 : x.gone = true := Classical.not_not.1 c27
 have hgk : (goneL (gs.map GBlk.k))[k]? = some true := by rw [hgx, c27]
 refine zsk <| zrg <| zar ((k : Int) + 1) <| zpn 1 <| zfe ?_
 have M33 := M22.od [5, 5, 5, 5, 5, 5] 6
 intro aC fr
 exact ⟨gs.length - (k + 1), by omega, k + 1, cn, rfl, fr.kp [0, 2, 3, 4, 5, 27, 28, 29], (M33.cast (by rw [numT_no hgk])), by omega, by rw [hcn, cntL_no hgk]⟩
 refine zex 0 <| zbh <| zsq <| zsr ?_
 obtain ⟨nl, hnl⟩ : ∃ nl, nl = numL (goneL (gs.map GBlk.k)) := ⟨_, rfl⟩
 have hnll : nl.length = gs.length := by rw [hnl]; unfold numL; rw [numT_len]; exact hgl
 have hnr : ∀ j, 0 ≤ nl.getD j 0 ∧ nl.getD j 0 ≤ 1000000 := by intro j; rw [hnl]; exact numL_rng _ j (by omega)
 have M36 : Mem (Res.pk (gF q nm wk pa va bA bn bc gA gc gs)).fp w w21 [.blk q 61 [(.string nm), (.bool wk), (.int .i64 pa), (.int .i64 va), (.slice bA bn bc), (.slice gA gs.length gc)], ptR gA gc gs, .pk (gs.map gB), .row 3 1 (sM b11) gs.length gs.length (ints nl), .blk b1 24 [(.string ⟨#[]⟩), (.bool false), (.int .i64 0), (.int .i64 0), (.slice none 0 0)], .blk b4 24 [(.string nm), (.bool wk), (.int .i64 pa), (.int .i64 va), (.slice none 0 0)]] := M22.cast (by rw [show numT (goneL (gs.map GBlk.k)) k = nl by rw [hnl]; unfold numL; rw [hgl, show k = gs.length by omega]])
 refine zpn 3 <| zld ⟨q, 5, none⟩ (.slice gA gs.length gc) (blk_cell (M36.get 0 rfl) rfl) <| zpn 2 <| zfe <| zbk 2 ?_
 intro aC fr
 refine zlp (fun n_ a_ w_ => ∃ (k : Nat) (fd : List FBlk) (B : Option Addr) (cB : Nat), n_ = gs.length - k ∧ Fr a_ 137 [(2, (pT b1 0)), (3, (pT b4 0)), (4, (.slice (sM b11) gs.length gs.length)), (49, (.slice gA gs.length gc)), (50, (.int .i64 ((gs.length : Nat) : Int))), (51, (nV k))] ∧ Mem (Res.pk (gF q nm wk pa va bA bn bc gA gc gs)).fp w w_ [.blk q 61 [(.string nm), (.bool wk), (.int .i64 pa), (.int .i64 va), (.slice bA bn bc), (.slice gA gs.length gc)], ptR gA gc gs, .pk ((gs.drop k).map gB), .row 3 1 (sM b11) gs.length gs.length (ints nl), .blk b1 24 [(.string ⟨#[]⟩), (.bool false), (.int .i64 0), (.int .i64 0), (.slice none 0 0)], .blk b4 24 [(.string nm), (.bool wk), (.int .i64 pa), (.int .i64 va), (.slice B fd.length cB)], .row 36 6 B fd.length cB (blC fd), .pk (fd.map ownB)] ∧ (k ≤ gs.length) ∧ (AllR (ToB nl) (liveK ((gs.map GBlk.k).take k)) fd)) (n := _) ⟨0, [], none, 0, rfl, fr.kp [2, 3, 4, 49, 50, 51], ((M36.call (Mem.nilrow _ 36 6)).call (Mem.nilpk _)), Nat.zero_le _, AllR.nil⟩ ?_
 clear fr aC M36; rintro n aC w39 ⟨k, fd, B, cB, rfl, fr, M40, hk, hfd⟩
 revert aC
 refine zsp <| zsq <| zcD (((k : Int) : Int) < ((gs.length : Nat) : Int)) (fun c43 => ?_) (fun c43 => ?_)
 refine zsk <| zsq <| zbk 3 <| zsr ?_
 obtain ⟨x, hx⟩ := get_of (l := gs) (i := k) (by omega)
 have hkx : (gs.map GBlk.k)[k]? = some x.k := by rw [List.getElem?_map, hx]; rfl
 have hox := hok x.k (List.mem_map.2 ⟨x, List.mem_of_getElem? hx, rfl⟩)
 have hfl : fd.length ≤ k := by have h9 := hfd.1; have h8 : (liveK ((gs.map GBlk.k).take k)).length ≤ k := Nat.le_trans (List.length_filter_le _ _) (by rw [List.length_take]; omega); omega
 have M44 := M40.od [7, 7, 7, 7, 7, 6, 6, 7] 8
 have M45 : Mem (Res.pk (gF q nm wk pa va bA bn bc gA gc gs)).fp w w39 [gB x, .pk ((gs.drop (k + 1)).map gB), .blk q 61 [(.string nm), (.bool wk), (.int .i64 pa), (.int .i64 va), (.slice bA bn bc), (.slice gA gs.length gc)], ptR gA gc gs, .row 3 1 (sM b11) gs.length gs.length (ints nl), .blk b1 24 [(.string ⟨#[]⟩), (.bool false), (.int .i64 0), (.int .i64 0), (.slice none 0 0)], .blk b4 24 [(.string nm), (.bool wk), (.int .i64 pa), (.int .i64 va), (.slice B fd.length cB)], .row 36 6 B fd.length cB (blC fd), .pk (fd.map ownB)] := (M44.cast (by rw [drop_map_at gB hx])).pk_cons
 have M46 : Mem (Res.pk (gF q nm wk pa va bA bn bc gA gc gs)).fp w w39 [.blk x.g 65 [(.slice x.pA x.phis.length x.pc), (.slice x.iA x.insts.length x.ic), (.int .i64 x.e), (.int .i64 x.v), (.int .i64 x.a), (.int .i64 x.b), (.bool x.gone)], gpR x.pA x.pc x.phis, inR' x.iA x.ic x.insts, .pk (x.phis.map frmP), .pk (x.phis.map argG), .pk (x.insts.map argI), .pk ((gs.drop (k + 1)).map gB), .blk q 61 [(.string nm), (.bool wk), (.int .i64 pa), (.int .i64 va), (.slice bA bn bc), (.slice gA gs.length gc)], ptR gA gc gs, .row 3 1 (sM b11) gs.length gs.length (ints nl), .blk b1 24 [(.string ⟨#[]⟩), (.bool false), (.int .i64 0), (.int .i64 0), (.slice none 0 0)], .blk b4 24 [(.string nm), (.bool wk), (.int .i64 pa), (.int .i64 va), (.slice B fd.length cB)], .row 36 6 B fd.length cB (blC fd), .pk (fd.map ownB)] := Mem.unpack (l := gL x) M45
 obtain ⟨ad47, rfl⟩ := row_at (M46.get 8 rfl) (by unfold ptrs; rw [List.length_map]; omega)
 refine zix ad47 gs.length 1 (k : Int) <| zld ((ad47 : Addr).add (((k : Int)).toNat * 1)) (.pointer (some ⟨x.g, 0, none⟩)) (own_ptr (M46.get 8 rfl) rfl hx) <| zpn 1 <| zfe <| zsq <| zsr <| zpn 3 <| zld ⟨x.g, 6, none⟩ (.bool x.gone) (blk_cell (M46.get 0 rfl) rfl) <| zfe <| zcP x.gone (x.gone = true) Iff.rfl (fun c48 => ?_) (fun c48 => ?_)
 have hgo : x.k.gone = true := c48
 refine zex 3 <| zbh <| zrg <| zar ((k : Int) + 1) <| zpn 1 <| zfe ?_
 have M49 := M46.od [13, 13, 13, 13, 13, 11, 13, 13] 8
 intro aC fr
 exact ⟨gs.length - (k + 1), by omega, k + 1, fd, B, cB, rfl, fr.kp [2, 3, 4, 49, 50, 51], M49, by omega, by rw [live_no hkx hgo]; exact hfd⟩
 replace c48 : x.gone = false := Bool.eq_false_iff.2 c48
 have hgo : x.k.gone = false := c48
 refine zsk <| zsq <| zkp [(2, (pT b1 0)), (3, (pT b4 0)), (4, (.slice (sM b11) gs.length gs.length)), (9, (.pointer (some ⟨x.g, 0, none⟩))), (49, (.slice (some ad47) gs.length gc)), (50, (.int .i64 ((gs.length : Nat) : Int))), (51, (nV k))] ?_
 intro aC fr
 refine zdj (N := 137) (env0 := [(2, (pT b1 0)), (3, (pT b4 0)), (4, (.slice (sM b11) gs.length gs.length)), (9, (.pointer (some ⟨x.g, 0, none⟩))), (49, (.slice (some ad47) gs.length gc)), (50, (.int .i64 ((gs.length : Nat) : Int))), (51, (nV k))]) (specAt [.det (.pointer (some ⟨x.g, 0, none⟩)), .det (.pointer (some ⟨x.g, 0, none⟩)), .det (.pointer (some ⟨x.g, 1, none⟩)), .det (.slice x.iA x.insts.length x.ic), .det (.pointer (some ⟨x.g, 0, none⟩)), .det (.pointer (some ⟨x.g, 0, none⟩)), .det (.pointer (some ⟨x.g, 2, none⟩)), .det (.int .i64 x.e), .det (.pointer (some ⟨x.g, 0, none⟩)), .det (.pointer (some ⟨x.g, 0, none⟩)), .det (.pointer (some ⟨x.g, 3, none⟩)), .det (.int .i64 x.v), .det (.agg #[(.slice none 0 0), (.slice x.iA x.insts.length x.ic), (.int .i64 x.e), (.int .i64 x.v), (.int .i64 0), (.int .i64 0)]), Spec.free, .det undef]) (fun ls vs w_ => match ls 14 with | true => (∃ (b52 : Nat), vs 13 = (pT b52 0) ∧ Mem (Res.pk (gF q nm wk pa va bA bn bc (some ad47) gc gs)).fp w w_ [.blk x.g 65 [(.slice x.pA x.phis.length x.pc), (.slice x.iA x.insts.length x.ic), (.int .i64 x.e), (.int .i64 x.v), (.int .i64 x.a), (.int .i64 x.b), (.bool x.gone)], gpR x.pA x.pc x.phis, inR' x.iA x.ic x.insts, .pk (x.phis.map frmP), .pk (x.phis.map argG), .pk (x.insts.map argI), .pk ((gs.drop (k + 1)).map gB), .blk q 61 [(.string nm), (.bool wk), (.int .i64 pa), (.int .i64 va), (.slice bA bn bc), (.slice (some ad47) gs.length gc)], ptR (some ad47) gc gs, .row 3 1 (sM b11) gs.length gs.length (ints nl), .blk b1 24 [(.string ⟨#[]⟩), (.bool false), (.int .i64 0), (.int .i64 0), (.slice none 0 0)], .blk b4 24 [(.string nm), (.bool wk), (.int .i64 pa), (.int .i64 va), (.slice B fd.length cB)], .row 36 6 B fd.length cB (blC fd), .pk (fd.map ownB), .blk b52 36 [(.slice none 0 0), (.slice x.iA x.insts.length x.ic), (.int .i64 x.e), (.int .i64 x.v), (.int .i64 0), (.int .i64 0)]]) | false => (∃ (b52 : Nat), (ls 13 = true → vs 13 = (pT b52 0)) ∧ Mem (Res.pk (gF q nm wk pa va bA bn bc (some ad47) gc gs)).fp w w_ ([.blk x.g 65 [(.slice x.pA x.phis.length x.pc), (.slice x.iA x.insts.length x.ic), (.int .i64 x.e), (.int .i64 x.v), (.int .i64 x.a), (.int .i64 x.b), (.bool x.gone)], gpR x.pA x.pc x.phis, inR' x.iA x.ic x.insts, .pk (x.phis.map frmP), .pk (x.phis.map argG), .pk (x.insts.map argI), .pk ((gs.drop (k + 1)).map gB), .blk q 61 [(.string nm), (.bool wk), (.int .i64 pa), (.int .i64 va), (.slice bA bn bc), (.slice (some ad47) gs.length gc)], ptR (some ad47) gc gs, .row 3 1 (sM b11) gs.length gs.length (ints nl), .blk b1 24 [(.string ⟨#[]⟩), (.bool false), (.int .i64 0), (.int .i64 0), (.slice none 0 0)], .blk b4 24 [(.string nm), (.bool wk), (.int .i64 pa), (.int .i64 va), (.slice B fd.length cB)], .row 36 6 B fd.length cB (blC fd), .pk (fd.map ownB)] ++ groupL [(ls 13, .blk b52 36 [(.slice none 0 0), (.slice none 0 0), (.int .i64 0), (.int .i64 0), (.int .i64 0), (.int .i64 0)])]))) fr (plain_ok (.det (.det (.det (.det (.det (.det (.det (.det (.det (.det (.det (.det (.det (.free (.det .nil)))))))))))))))) ⟨0, fun h => Bool.noConfusion h, M46.then_ (Mem.drew _)⟩ (la (la (la (la (la (la (la (la (la (la (la (la (la (la (la lz (dPJ fun _ _ _ _ h => h)) (dPJ fun _ _ _ _ h => h)) (dPJ fun _ _ _ _ h => h)) (dLJ ⟨x.g, 1, none⟩ (.slice x.iA x.insts.length x.ic) (fun _ _ _ _ h => h) ?_)) (dPJ fun _ _ _ _ h => h)) (dPJ fun _ _ _ _ h => h)) (dPJ fun _ _ _ _ h => h)) (dLJ ⟨x.g, 2, none⟩ (.int .i64 x.e) (fun _ _ _ _ h => h) ?_)) (dPJ fun _ _ _ _ h => h)) (dPJ fun _ _ _ _ h => h)) (dPJ fun _ _ _ _ h => h)) (dLJ ⟨x.g, 3, none⟩ (.int .i64 x.v) (fun _ _ _ _ h => h) ?_)) (dPJ fun _ _ _ _ h => h)) ?_) ?_) ?_
 intro w_ ls vs hJ hi_ hc_ hp
 have f14 : ls 14 = false := notyet hc_ hi_ (n := 15) (by kernel_rfl)
 have hM_ := hJ
 simp only [f14] at hM_
 obtain ⟨_, _, hM_⟩ := hM_
 exact (blk_cell (hM_.get 0 rfl) rfl)
 intro w_ ls vs hJ hi_ hc_ hp
 have f14 : ls 14 = false := notyet hc_ hi_ (n := 15) (by kernel_rfl)
 have hM_ := hJ
 simp only [f14] at hM_
 obtain ⟨_, _, hM_⟩ := hM_
 exact (blk_cell (hM_.get 0 rfl) rfl)
 intro w_ ls vs hJ hi_ hc_ hp
 have f14 : ls 14 = false := notyet hc_ hi_ (n := 15) (by kernel_rfl)
 have hM_ := hJ
 simp only [f14] at hM_
 obtain ⟨_, _, hM_⟩ := hM_
 exact (blk_cell (hM_.get 0 rfl) rfl)
 intro aa_ w_ ls vs rest_ hJ hi_ hc_ hp hF
 refine okG (g0 := none) ?_
 replace hF : Fr aa_ 137 [] := hF.kp []
 have f14 : ls 14 = false := notyet hc_ hi_ (n := 15) (by kernel_rfl)
 have f13 : ls 13 = false := hi_
 have hM_ := hJ
 simp only [f14] at hM_
 obtain ⟨b52p, e13_, hM_⟩ := hM_
 rw [f13] at hM_
 refine From_alloc (by kernel_rfl : coreAt _ 0 = some (some 10, (.alloc 36), 0, none)) hF (by kernel_rfl) (by kernel_rfl) (k' := 1) rfl (cs := [(.slice none 0 0), (.slice none 0 0), (.int .i64 0), (.int .i64 0), (.int .i64 0), (.int .i64 0)]) (by kernel_rfl) hM_ ?_
 intro b52q w2 _ _ hm2 _ a2 ea _
 refine From_end (by kernel_rfl) ?_; refine op_doneJ (d := some 10) (by kernel_rfl) ea trivial ?_
 show match ls 14 with | true => (∃ (b52 : Nat), ((pT b52q 0) : Value) = (pT b52 0) ∧ Mem (Res.pk (gF q nm wk pa va bA bn bc (some ad47) gc gs)).fp w w2 [.blk x.g 65 [(.slice x.pA x.phis.length x.pc), (.slice x.iA x.insts.length x.ic), (.int .i64 x.e), (.int .i64 x.v), (.int .i64 x.a), (.int .i64 x.b), (.bool x.gone)], gpR x.pA x.pc x.phis, inR' x.iA x.ic x.insts, .pk (x.phis.map frmP), .pk (x.phis.map argG), .pk (x.insts.map argI), .pk ((gs.drop (k + 1)).map gB), .blk q 61 [(.string nm), (.bool wk), (.int .i64 pa), (.int .i64 va), (.slice bA bn bc), (.slice (some ad47) gs.length gc)], ptR (some ad47) gc gs, .row 3 1 (sM b11) gs.length gs.length (ints nl), .blk b1 24 [(.string ⟨#[]⟩), (.bool false), (.int .i64 0), (.int .i64 0), (.slice none 0 0)], .blk b4 24 [(.string nm), (.bool wk), (.int .i64 pa), (.int .i64 va), (.slice B fd.length cB)], .row 36 6 B fd.length cB (blC fd), .pk (fd.map ownB), .blk b52 36 [(.slice none 0 0), (.slice x.iA x.insts.length x.ic), (.int .i64 x.e), (.int .i64 x.v), (.int .i64 0), (.int .i64 0)]]) | false => (∃ (b52 : Nat), (true = true → ((pT b52q 0) : Value) = (pT b52 0)) ∧ Mem (Res.pk (gF q nm wk pa va bA bn bc (some ad47) gc gs)).fp w w2 ([.blk x.g 65 [(.slice x.pA x.phis.length x.pc), (.slice x.iA x.insts.length x.ic), (.int .i64 x.e), (.int .i64 x.v), (.int .i64 x.a), (.int .i64 x.b), (.bool x.gone)], gpR x.pA x.pc x.phis, inR' x.iA x.ic x.insts, .pk (x.phis.map frmP), .pk (x.phis.map argG), .pk (x.insts.map argI), .pk ((gs.drop (k + 1)).map gB), .blk q 61 [(.string nm), (.bool wk), (.int .i64 pa), (.int .i64 va), (.slice bA bn bc), (.slice (some ad47) gs.length gc)], ptR (some ad47) gc gs, .row 3 1 (sM b11) gs.length gs.length (ints nl), .blk b1 24 [(.string ⟨#[]⟩), (.bool false), (.int .i64 0), (.int .i64 0), (.slice none 0 0)], .blk b4 24 [(.string nm), (.bool wk), (.int .i64 pa), (.int .i64 va), (.slice B fd.length cB)], .row 36 6 B fd.length cB (blC fd), .pk (fd.map ownB)] ++ groupL [(true, .blk b52 36 [(.slice none 0 0), (.slice none 0 0), (.int .i64 0), (.int .i64 0), (.int .i64 0), (.int .i64 0)])]))
 rw [f14]
 exact ⟨b52q, fun _ => rfl, hm2.group 0 rfl⟩
 intro aa_ w_ ls vs rest_ hJ hi_ hc_ hp hF
 refine okG (g0 := none) ?_
 replace hF : Fr aa_ 137 [(10, vs 13), (71, (.agg #[(.slice none 0 0), (.slice x.iA x.insts.length x.ic), (.int .i64 x.e), (.int .i64 x.v), (.int .i64 0), (.int .i64 0)]))] := hF.kp [10, 71]
 have f14 : ls 14 = false := hi_
 have f13 : ls 13 = true := donebefore hc_ (fun k hk => (hp k hk).1) (n := 15) (by kernel_rfl)
 have hM_ := hJ
 simp only [f14] at hM_
 obtain ⟨b52p, e13_, hM_⟩ := hM_
 replace e13_ := e13_ f13; try rw [e13_] at hF
 rw [f13] at hM_
 change Mem (Res.pk (gF q nm wk pa va bA bn bc (some ad47) gc gs)).fp w w_ [.blk x.g 65 [(.slice x.pA x.phis.length x.pc), (.slice x.iA x.insts.length x.ic), (.int .i64 x.e), (.int .i64 x.v), (.int .i64 x.a), (.int .i64 x.b), (.bool x.gone)], gpR x.pA x.pc x.phis, inR' x.iA x.ic x.insts, .pk (x.phis.map frmP), .pk (x.phis.map argG), .pk (x.insts.map argI), .pk ((gs.drop (k + 1)).map gB), .blk q 61 [(.string nm), (.bool wk), (.int .i64 pa), (.int .i64 va), (.slice bA bn bc), (.slice (some ad47) gs.length gc)], ptR (some ad47) gc gs, .row 3 1 (sM b11) gs.length gs.length (ints nl), .blk b1 24 [(.string ⟨#[]⟩), (.bool false), (.int .i64 0), (.int .i64 0), (.slice none 0 0)], .blk b4 24 [(.string nm), (.bool wk), (.int .i64 pa), (.int .i64 va), (.slice B fd.length cB)], .row 36 6 B fd.length cB (blC fd), .pk (fd.map ownB), .blk b52p 36 [(.slice none 0 0), (.slice none 0 0), (.int .i64 0), (.int .i64 0), (.int .i64 0), (.int .i64 0)]] at hM_
 refine From_storeS_blk (by kernel_rfl : coreAt _ 0 = some (none, (.store 36 (.tmp 10) (.tmp 71)), 0, none)) hF (by kernel_rfl) (by kernel_rfl) (k' := 1) rfl (b := b52p) (t0 := 36) (vs := [(.slice none 0 0), (.slice x.iA x.insts.length x.ic), (.int .i64 x.e), (.int .i64 x.v), (.int .i64 0), (.int .i64 0)]) (cs := [(.slice none 0 0), (.slice none 0 0), (.int .i64 0), (.int .i64 0), (.int .i64 0), (.int .i64 0)]) (by kernel_rfl) (by kernel_rfl) (by kernel_rfl) (by simp only [List.mem_cons, List.not_mem_nil, or_false]; intro v hv; rcases hv with rfl | rfl | rfl | rfl | rfl | rfl <;> first | rfl | assumption) hM_ 14 rfl rfl ?_
 intro w2 hm2 _ a2 ea _
 refine From_end (by kernel_rfl) ?_; refine op_doneJ (d := none) (by kernel_rfl) ea rfl ?_
 show ∃ (b52 : Nat), _
 exact ⟨b52p, e13_, hm2⟩
 intro aC w57 ls vs hall M58 hv fr
 simp only [show ls 14 = true from hall 14 (by decide)] at M58
 revert aC; refine zkp [(2, (pT b1 0)), (3, (pT b4 0)), (4, (.slice (sM b11) gs.length gs.length)), (9, (.pointer (some ⟨x.g, 0, none⟩))), (10, vs 13), (49, (.slice (some ad47) gs.length gc)), (50, (.int .i64 ((gs.length : Nat) : Int))), (51, (nV k))] ?_
 obtain ⟨b52, e13_, M58⟩ := M58
 try rw [e13_]
 clear e13_
 clear hall hv fr aC M46; clear vs ls
 refine zsq <| zsr <| zpn 3 <| zld ⟨x.g, 2, none⟩ (.int .i64 x.e) (blk_cell (M58.get 0 rfl) rfl) <| zfe ?_
 intro aC fr
 refine W_cut (fun a_ w_ => ∃ (aa : Int) (bb : Int), Fr a_ 137 [(2, (pT b1 0)), (3, (pT b4 0)), (4, (.slice (sM b11) gs.length gs.length)), (9, (.pointer (some ⟨x.g, 0, none⟩))), (10, (pT b52 0)), (49, (.slice (some ad47) gs.length gc)), (50, (.int .i64 ((gs.length : Nat) : Int))), (51, (nV k))] ∧ Mem (Res.pk (gF q nm wk pa va bA bn bc (some ad47) gc gs)).fp w w_ [.blk x.g 65 [(.slice x.pA x.phis.length x.pc), (.slice x.iA x.insts.length x.ic), (.int .i64 x.e), (.int .i64 x.v), (.int .i64 x.a), (.int .i64 x.b), (.bool x.gone)], gpR x.pA x.pc x.phis, inR' x.iA x.ic x.insts, .pk (x.phis.map frmP), .pk (x.phis.map argG), .pk (x.insts.map argI), .pk ((gs.drop (k + 1)).map gB), .blk q 61 [(.string nm), (.bool wk), (.int .i64 pa), (.int .i64 va), (.slice bA bn bc), (.slice (some ad47) gs.length gc)], ptR (some ad47) gc gs, .row 3 1 (sM b11) gs.length gs.length (ints nl), .blk b1 24 [(.string ⟨#[]⟩), (.bool false), (.int .i64 0), (.int .i64 0), (.slice none 0 0)], .blk b4 24 [(.string nm), (.bool wk), (.int .i64 pa), (.int .i64 va), (.slice B fd.length cB)], .row 36 6 B fd.length cB (blC fd), .pk (fd.map ownB), .blk b52 36 [(.slice none 0 0), (.slice x.iA x.insts.length x.ic), (.int .i64 x.e), (.int .i64 x.v), (.int .i64 aa), (.int .i64 bb)]] ∧ (aa = toA nl x.k.e x.k.a) ∧ (bb = toBb nl x.k.e x.k.b)) ?_ ?_
 clear fr aC M58; rintro aC w61 ⟨aa, bb, fr, M62, hA9, hB9⟩
 revert aC
 refine zsq <| zsr <| zpn 3 <| zld ⟨x.g, 0, none⟩ (.slice x.pA x.phis.length x.pc) (blk_cell (M62.get 0 rfl) rfl) <| zpn 2 <| zfe <| zbk 5 ?_
 have M65 := M62.od [14, 14, 14, 14, 14, 14, 14, 14, 14, 14, 14, 14, 14, 14, 14] 15
 intro aC fr
 refine zlp (fun n_ a_ w_ => ∃ (j : Nat) (pd : List FPhi) (pB : Option Addr) (pcB : Nat), n_ = x.phis.length - j ∧ Fr a_ 137 [(2, (pT b1 0)), (3, (pT b4 0)), (4, (.slice (sM b11) gs.length gs.length)), (10, (pT b52 0)), (49, (.slice (some ad47) gs.length gc)), (50, (.int .i64 ((gs.length : Nat) : Int))), (51, (nV k)), (114, (.slice x.pA x.phis.length x.pc)), (115, (.int .i64 ((x.phis.length : Nat) : Int))), (116, (nV j))] ∧ Mem (Res.pk (gF q nm wk pa va bA bn bc (some ad47) gc gs)).fp w w_ [.blk x.g 65 [(.slice x.pA x.phis.length x.pc), (.slice x.iA x.insts.length x.ic), (.int .i64 x.e), (.int .i64 x.v), (.int .i64 x.a), (.int .i64 x.b), (.bool x.gone)], gpR x.pA x.pc x.phis, inR' x.iA x.ic x.insts, .pk (x.phis.map frmP), .pk (x.phis.map argG), .pk (x.insts.map argI), .pk ((gs.drop (k + 1)).map gB), .blk q 61 [(.string nm), (.bool wk), (.int .i64 pa), (.int .i64 va), (.slice bA bn bc), (.slice (some ad47) gs.length gc)], ptR (some ad47) gc gs, .row 3 1 (sM b11) gs.length gs.length (ints nl), .blk b1 24 [(.string ⟨#[]⟩), (.bool false), (.int .i64 0), (.int .i64 0), (.slice none 0 0)], .blk b4 24 [(.string nm), (.bool wk), (.int .i64 pa), (.int .i64 va), (.slice B fd.length cB)], .row 36 6 B fd.length cB (blC fd), .pk (fd.map ownB), .blk b52 36 [(.slice pB pd.length pcB), (.slice x.iA x.insts.length x.ic), (.int .i64 x.e), (.int .i64 x.v), (.int .i64 aa), (.int .i64 bb)], .row 79 2 pB pd.length pcB (phC pd), .pk (pd.map argP)] ∧ (j ≤ x.phis.length) ∧ (AllR (ToP nl) (x.k.phis.take j) pd)) (n := _) ⟨0, [], none, 0, rfl, fr.kp [2, 3, 4, 10, 49, 50, 51, 114, 115, 116], ((M65.call (Mem.nilrow _ 79 2)).call (Mem.nilpk _)), Nat.zero_le _, AllR.nil⟩ ?_
 clear fr aC M65; rintro n aC w68 ⟨j, pd, pB, pcB, rfl, fr, M69, hj, hpd⟩
 revert aC
 refine zsp <| zsq <| zcD (((j : Int) : Int) < ((x.phis.length : Nat) : Int)) (fun c72 => ?_) (fun c72 => ?_)
 refine zsk <| zsq <| zbk 6 <| zsr ?_
 obtain ⟨p, hpx⟩ := get_of (l := x.phis) (i := j) (by omega)
 have hpm := List.mem_of_getElem? hpx
 have hpo := hox.phis p.k (List.mem_map.2 ⟨p, hpm, rfl⟩)
 simp only [GPhi.k] at hpo
 have hpl : pd.length = j := by have h9 := hpd.1; rw [List.length_take, GBlk.k, List.length_map] at h9; omega
 have hxl := hox.lp
 rw [GBlk.k, List.length_map] at hxl
 obtain ⟨ad73, had74⟩ := row_at (M69.get 1 rfl) (by have := flat_len (f := GPhi.cells) (k := 3) gp_cells_len x.phis; unfold gpC; omega)
 intro aC fr
 refine From_ixA (some 118) x.pA ad73 x.phis.length 3 (j : Int) fr (by kernel_rfl) had74 (by omega) (by omega) ?_
 intro aC fr
 revert aC
 refine zls ((ad73 : Addr).add (((j : Int)).toNat * 3)) [(.int .i64 p.dst), (.slice p.fA p.from_.length p.fc), (.slice p.aA p.args.length p.ac)] (own_gp (M69.get 1 rfl) had74 hpx) <| zal M69 67 [(.int .i64 0), (.slice none 0 0), (.slice none 0 0)] fun b79 w80 hb79 M81 => ?_
 replace M81 := M81.nf
 refine zss M81 17 [(.int .i64 p.dst), (.slice p.fA p.from_.length p.fc), (.slice p.aA p.args.length p.ac)] rfl fun w82 M83 => ?_
 replace M83 := M83.nf
 refine zfe <| zkp [(2, (pT b1 0)), (3, (pT b4 0)), (4, (.slice (sM b11) gs.length gs.length)), (10, (pT b52 0)), (12, (pT b79 0)), (49, (.slice (some ad47) gs.length gc)), (50, (.int .i64 ((gs.length : Nat) : Int))), (51, (nV k)), (114, (.slice x.pA x.phis.length x.pc)), (115, (.int .i64 ((x.phis.length : Nat) : Int))), (116, (nV j))] ?_
 intro aC fr
 refine zdj (N := 137) (env0 := [(2, (pT b1 0)), (3, (pT b4 0)), (4, (.slice (sM b11) gs.length gs.length)), (10, (pT b52 0)), (12, (pT b79 0)), (49, (.slice (some ad47) gs.length gc)), (50, (.int .i64 ((gs.length : Nat) : Int))), (51, (nV k)), (114, (.slice x.pA x.phis.length x.pc)), (115, (.int .i64 ((x.phis.length : Nat) : Int))), (116, (nV j))]) (specAt [.det (pT b52 0), .det (.slice pB pd.length pcB), .det (.agg #[(.int .i64 p.dst), (.slice p.fA p.from_.length p.fc), (.slice p.aA p.args.length p.ac)]), .det (.slice (sM b11) gs.length gs.length), Spec.free, Spec.free, Spec.free, .det (pT b52 0), .det undef]) (fun ls vs w_ => match ls 8 with | true => (∃ (tA84 : Option Addr) (tc85 : Nat) (il86 : List Nat) (g87 : Nat) (A88 : Option Addr) (c89 : Nat), vs 4 = (.agg #[(.int .i64 p.dst), (.slice tA84 p.from_.length tc85)]) ∧ vs 5 = (.slice (sM g87) 1 1) ∧ vs 6 = (.slice A88 (pd.length + 1) c89) ∧ (Sorted_ p.from_.length (keyI nl p.from_) il86) ∧ Mem (Res.pk (gF q nm wk pa va bA bn bc (some ad47) gc gs)).fp w w_ [.blk x.g 65 [(.slice x.pA x.phis.length x.pc), (.slice x.iA x.insts.length x.ic), (.int .i64 x.e), (.int .i64 x.v), (.int .i64 x.a), (.int .i64 x.b), (.bool x.gone)], gpR x.pA x.pc x.phis, inR' x.iA x.ic x.insts, .pk (x.phis.map frmP), .pk (x.phis.map argG), .pk (x.insts.map argI), .pk ((gs.drop (k + 1)).map gB), .blk q 61 [(.string nm), (.bool wk), (.int .i64 pa), (.int .i64 va), (.slice bA bn bc), (.slice (some ad47) gs.length gc)], ptR (some ad47) gc gs, .row 3 1 (sM b11) gs.length gs.length (ints nl), .blk b1 24 [(.string ⟨#[]⟩), (.bool false), (.int .i64 0), (.int .i64 0), (.slice none 0 0)], .blk b4 24 [(.string nm), (.bool wk), (.int .i64 pa), (.int .i64 va), (.slice B fd.length cB)], .row 36 6 B fd.length cB (blC fd), .pk (fd.map ownB), .blk b52 36 [(.slice A88 (pd.length + 1) c89), (.slice x.iA x.insts.length x.ic), (.int .i64 x.e), (.int .i64 x.v), (.int .i64 aa), (.int .i64 bb)], .row 79 2 A88 (pd.length + 1) c89 ((phC pd) ++ [(.int .i64 p.dst), (.slice tA84 p.from_.length tc85)]), .pk (pd.map argP), .blk b79 67 [(.int .i64 p.dst), (.slice p.fA p.from_.length p.fc), (.slice p.aA p.args.length p.ac)], .row 3 1 tA84 p.from_.length tc85 (ints (il86.map (fun i => p.args.getD i 0))), .row 79 2 (sM g87) 1 1 [(.int .i64 p.dst), (.slice tA84 p.from_.length tc85)]]) | false => (match ls 6 with | true => (∃ (tA84 : Option Addr) (tc85 : Nat) (il86 : List Nat) (g87 : Nat) (A88 : Option Addr) (c89 : Nat), vs 4 = (.agg #[(.int .i64 p.dst), (.slice tA84 p.from_.length tc85)]) ∧ vs 5 = (.slice (sM g87) 1 1) ∧ vs 6 = (.slice A88 (pd.length + 1) c89) ∧ (Sorted_ p.from_.length (keyI nl p.from_) il86) ∧ Mem (Res.pk (gF q nm wk pa va bA bn bc (some ad47) gc gs)).fp w w_ [.blk x.g 65 [(.slice x.pA x.phis.length x.pc), (.slice x.iA x.insts.length x.ic), (.int .i64 x.e), (.int .i64 x.v), (.int .i64 x.a), (.int .i64 x.b), (.bool x.gone)], gpR x.pA x.pc x.phis, inR' x.iA x.ic x.insts, .pk (x.phis.map frmP), .pk (x.phis.map argG), .pk (x.insts.map argI), .pk ((gs.drop (k + 1)).map gB), .blk q 61 [(.string nm), (.bool wk), (.int .i64 pa), (.int .i64 va), (.slice bA bn bc), (.slice (some ad47) gs.length gc)], ptR (some ad47) gc gs, .row 3 1 (sM b11) gs.length gs.length (ints nl), .blk b1 24 [(.string ⟨#[]⟩), (.bool false), (.int .i64 0), (.int .i64 0), (.slice none 0 0)], .blk b4 24 [(.string nm), (.bool wk), (.int .i64 pa), (.int .i64 va), (.slice B fd.length cB)], .row 36 6 B fd.length cB (blC fd), .pk (fd.map ownB), .blk b52 36 [(.slice pB pd.length pcB), (.slice x.iA x.insts.length x.ic), (.int .i64 x.e), (.int .i64 x.v), (.int .i64 aa), (.int .i64 bb)], .row 79 2 A88 (pd.length + 1) c89 ((phC pd) ++ [(.int .i64 p.dst), (.slice tA84 p.from_.length tc85)]), .pk (pd.map argP), .blk b79 67 [(.int .i64 p.dst), (.slice p.fA p.from_.length p.fc), (.slice p.aA p.args.length p.ac)], .row 3 1 tA84 p.from_.length tc85 (ints (il86.map (fun i => p.args.getD i 0))), .row 79 2 (sM g87) 1 1 [(.int .i64 p.dst), (.slice tA84 p.from_.length tc85)]]) | false => (match ls 5 with | true => (∃ (tA84 : Option Addr) (tc85 : Nat) (il86 : List Nat) (g87 : Nat), vs 4 = (.agg #[(.int .i64 p.dst), (.slice tA84 p.from_.length tc85)]) ∧ vs 5 = (.slice (sM g87) 1 1) ∧ (Sorted_ p.from_.length (keyI nl p.from_) il86) ∧ Mem (Res.pk (gF q nm wk pa va bA bn bc (some ad47) gc gs)).fp w w_ [.blk x.g 65 [(.slice x.pA x.phis.length x.pc), (.slice x.iA x.insts.length x.ic), (.int .i64 x.e), (.int .i64 x.v), (.int .i64 x.a), (.int .i64 x.b), (.bool x.gone)], gpR x.pA x.pc x.phis, inR' x.iA x.ic x.insts, .pk (x.phis.map frmP), .pk (x.phis.map argG), .pk (x.insts.map argI), .pk ((gs.drop (k + 1)).map gB), .blk q 61 [(.string nm), (.bool wk), (.int .i64 pa), (.int .i64 va), (.slice bA bn bc), (.slice (some ad47) gs.length gc)], ptR (some ad47) gc gs, .row 3 1 (sM b11) gs.length gs.length (ints nl), .blk b1 24 [(.string ⟨#[]⟩), (.bool false), (.int .i64 0), (.int .i64 0), (.slice none 0 0)], .blk b4 24 [(.string nm), (.bool wk), (.int .i64 pa), (.int .i64 va), (.slice B fd.length cB)], .row 36 6 B fd.length cB (blC fd), .pk (fd.map ownB), .blk b52 36 [(.slice pB pd.length pcB), (.slice x.iA x.insts.length x.ic), (.int .i64 x.e), (.int .i64 x.v), (.int .i64 aa), (.int .i64 bb)], .row 79 2 pB pd.length pcB (phC pd), .pk (pd.map argP), .blk b79 67 [(.int .i64 p.dst), (.slice p.fA p.from_.length p.fc), (.slice p.aA p.args.length p.ac)], .row 3 1 tA84 p.from_.length tc85 (ints (il86.map (fun i => p.args.getD i 0))), .row 79 2 (sM g87) 1 1 [(.int .i64 p.dst), (.slice tA84 p.from_.length tc85)]]) | false => (match ls 4 with | true => (∃ (tA84 : Option Addr) (tc85 : Nat) (il86 : List Nat), vs 4 = (.agg #[(.int .i64 p.dst), (.slice tA84 p.from_.length tc85)]) ∧ (Sorted_ p.from_.length (keyI nl p.from_) il86) ∧ Mem (Res.pk (gF q nm wk pa va bA bn bc (some ad47) gc gs)).fp w w_ [.blk x.g 65 [(.slice x.pA x.phis.length x.pc), (.slice x.iA x.insts.length x.ic), (.int .i64 x.e), (.int .i64 x.v), (.int .i64 x.a), (.int .i64 x.b), (.bool x.gone)], gpR x.pA x.pc x.phis, inR' x.iA x.ic x.insts, .pk (x.phis.map frmP), .pk (x.phis.map argG), .pk (x.insts.map argI), .pk ((gs.drop (k + 1)).map gB), .blk q 61 [(.string nm), (.bool wk), (.int .i64 pa), (.int .i64 va), (.slice bA bn bc), (.slice (some ad47) gs.length gc)], ptR (some ad47) gc gs, .row 3 1 (sM b11) gs.length gs.length (ints nl), .blk b1 24 [(.string ⟨#[]⟩), (.bool false), (.int .i64 0), (.int .i64 0), (.slice none 0 0)], .blk b4 24 [(.string nm), (.bool wk), (.int .i64 pa), (.int .i64 va), (.slice B fd.length cB)], .row 36 6 B fd.length cB (blC fd), .pk (fd.map ownB), .blk b52 36 [(.slice pB pd.length pcB), (.slice x.iA x.insts.length x.ic), (.int .i64 x.e), (.int .i64 x.v), (.int .i64 aa), (.int .i64 bb)], .row 79 2 pB pd.length pcB (phC pd), .pk (pd.map argP), .blk b79 67 [(.int .i64 p.dst), (.slice p.fA p.from_.length p.fc), (.slice p.aA p.args.length p.ac)], .row 3 1 tA84 p.from_.length tc85 (ints (il86.map (fun i => p.args.getD i 0)))]) | false => (Mem (Res.pk (gF q nm wk pa va bA bn bc (some ad47) gc gs)).fp w w_ [.blk x.g 65 [(.slice x.pA x.phis.length x.pc), (.slice x.iA x.insts.length x.ic), (.int .i64 x.e), (.int .i64 x.v), (.int .i64 x.a), (.int .i64 x.b), (.bool x.gone)], gpR x.pA x.pc x.phis, inR' x.iA x.ic x.insts, .pk (x.phis.map frmP), .pk (x.phis.map argG), .pk (x.insts.map argI), .pk ((gs.drop (k + 1)).map gB), .blk q 61 [(.string nm), (.bool wk), (.int .i64 pa), (.int .i64 va), (.slice bA bn bc), (.slice (some ad47) gs.length gc)], ptR (some ad47) gc gs, .row 3 1 (sM b11) gs.length gs.length (ints nl), .blk b1 24 [(.string ⟨#[]⟩), (.bool false), (.int .i64 0), (.int .i64 0), (.slice none 0 0)], .blk b4 24 [(.string nm), (.bool wk), (.int .i64 pa), (.int .i64 va), (.slice B fd.length cB)], .row 36 6 B fd.length cB (blC fd), .pk (fd.map ownB), .blk b52 36 [(.slice pB pd.length pcB), (.slice x.iA x.insts.length x.ic), (.int .i64 x.e), (.int .i64 x.v), (.int .i64 aa), (.int .i64 bb)], .row 79 2 pB pd.length pcB (phC pd), .pk (pd.map argP), .blk b79 67 [(.int .i64 p.dst), (.slice p.fA p.from_.length p.fc), (.slice p.aA p.args.length p.ac)]]))))) fr (plain_ok (.det (.det (.det (.det (.free (.free (.free (.det (.det .nil)))))))))) (M83.then_ (Mem.drew _)) (la (la (la (la (la (la (la (la (la lz (dPJ fun _ _ _ _ h => h)) (dLJ ⟨b52, 0, none⟩ (.slice pB pd.length pcB) (fun _ _ _ _ h => h) ?_)) ?_) (dPJ fun _ _ _ _ h => h)) ?_) ?_) ?_) (dPJ fun _ _ _ _ h => h)) ?_) ?_
 intro w_ ls vs hJ hi_ hc_ hp
 have f6 : ls 6 = false := notyet hc_ hi_ (n := 9) (by kernel_rfl)
 have f8 : ls 8 = false := notyet hc_ hi_ (n := 9) (by kernel_rfl)
 have hM_ := hJ
 simp only [f6, f8] at hM_
 cases fu5 : ls 5
 simp only [fu5] at hM_
 cases fu4 : ls 4
 simp only [fu4] at hM_
 exact (blk_cell (hM_.get 14 rfl) rfl)
 simp only [fu4] at hM_
 obtain ⟨_, _, _, _, _, hM_⟩ := hM_
 exact (blk_cell (hM_.get 14 rfl) rfl)
 simp only [fu5] at hM_
 obtain ⟨_, _, _, _, _, _, _, hM_⟩ := hM_
 exact (blk_cell (hM_.get 14 rfl) rfl)
 intro aa_ w_ ls vs rest_ hJ hi_ hc_ hp hF
 refine okG (g0 := none) ?_
 replace hF : Fr aa_ 137 [(12, (pT b79 0))] := hF.kp [12]
 have f4 : ls 4 = false := notyet hc_ hi_ (n := 9) (by kernel_rfl)
 have f5 : ls 5 = false := notyet hc_ hi_ (n := 9) (by kernel_rfl)
 have f6 : ls 6 = false := notyet hc_ hi_ (n := 9) (by kernel_rfl)
 have f8 : ls 8 = false := notyet hc_ hi_ (n := 9) (by kernel_rfl)
 have hM_ := hJ
 simp only [f4, f5, f6, f8] at hM_
 refine From_loadS (by kernel_rfl : coreAt _ 0 = some (some 122, (.load 67 (.tmp 12)), 67, none)) hF (by kernel_rfl) (by kernel_rfl) (k' := 1) rfl (ad := ⟨b79, 0, none⟩) (vs := [(.int .i64 p.dst), (.slice p.fA p.from_.length p.fc), (.slice p.aA p.args.length p.ac)]) (by kernel_rfl) (by kernel_rfl) (blk_cells (hM_.get 17 rfl)) ?_
 intro a2 ea _
 refine From_end (by kernel_rfl) ?_; exact op_doneJ (d := some 122) (by kernel_rfl) ea rfl hJ
 intro aa_ w_ ls vs rest_ hJ hi_ hc_ hp hF
 refine okG (g0 := none) ?_
 replace hF : Fr aa_ 137 [(122, (.agg #[(.int .i64 p.dst), (.slice p.fA p.from_.length p.fc), (.slice p.aA p.args.length p.ac)])), (123, (.slice (sM b11) gs.length gs.length))] := hF.kp [122, 123]
 have f4 : ls 4 = false := hi_
 have f5 : ls 5 = false := notyet hc_ hi_ (n := 9) (by kernel_rfl)
 have f6 : ls 6 = false := notyet hc_ hi_ (n := 9) (by kernel_rfl)
 have f8 : ls 8 = false := notyet hc_ hi_ (n := 9) (by kernel_rfl)
 have hM_ := hJ
 simp only [f4, f5, f6, f8] at hM_
 refine From_call (by kernel_rfl : coreAt _ 0 = some (some 124, (.call { callee := (.value (.func 98)), args := #[(.tmp 122), (.tmp 123)], argTypes := #[67, 37] }), 79, none)) hF (by kernel_rfl) (by kernel_rfl) (k' := 1) rfl (f := 98) (vs := [(.agg #[(.int .i64 p.dst), (.slice p.fA p.from_.length p.fc), (.slice p.aA p.args.length p.ac)]), (.slice (sM b11) gs.length gs.length)]) (cap := []) (by kernel_rfl) (by kernel_rfl) (by kernel_rfl) ((by have h9 := to_c p.dst (sM b11) p.fA p.aA gs.length p.fc p.ac nl p.from_ p.args w_ hpo.1 hpo.2.1 hpo.2.2.1 (RO.row_rd (hM_.own_ro 9 rfl)) (RO.row_rd (RO.pk_sub (hM_.own_ro 3 rfl) (List.mem_map.2 ⟨p, hpm, rfl⟩) : RO noS _ (frmP p))) (RO.row_rd (RO.pk_sub (hM_.own_ro 4 rfl) (List.mem_map.2 ⟨p, hpm, rfl⟩) : RO noS _ (argG p))) (by intro z_ hz_; rw [hnll]; exact hpo.2.2.2 z_ hz_) hnr; rw [hnll] at h9; exact h9)) ?_
 rintro _ w2 ⟨tA84p, tc85p, il86p, hil86, rfl, hm2⟩ a2 ea _
 have hm3 := hM_.call hm2
 refine From_end (by kernel_rfl) ?_; refine op_doneJ (d := some 124) (by kernel_rfl) ea trivial ?_
 show match ls 8 with | true => _ | false => (match ls 6 with | true => _ | false => (match ls 5 with | true => _ | false => (∃ (tA84 : Option Addr) (tc85 : Nat) (il86 : List Nat), _)))
 rw [f8, f6, f5]
 exact ⟨tA84p, tc85p, il86p, rfl, hil86, hm3⟩
 intro aa_ w_ ls vs rest_ hJ hi_ hc_ hp hF
 refine okG (g0 := none) ?_
 replace hF : Fr aa_ 137 [(124, vs 4)] := hF.kp [124]
 have f4 : ls 4 = true := donebefore hc_ (fun k hk => (hp k hk).1) (n := 9) (by kernel_rfl)
 have f5 : ls 5 = false := hi_
 have f6 : ls 6 = false := notyet hc_ hi_ (n := 9) (by kernel_rfl)
 have f8 : ls 8 = false := notyet hc_ hi_ (n := 9) (by kernel_rfl)
 have hM_ := hJ
 simp only [f4, f5, f6, f8] at hM_
 obtain ⟨tA84p, tc85p, il86p, e4_, hil86, hM_⟩ := hM_
 try rw [e4_] at hF
 refine zBs 125 33 1 #[(0, (.tmp 124))] 33 hF (e := 79) (size := 2) (zs := [(.int .i64 0), (.slice none 0 0)]) (vs := [(0, (.agg #[(.int .i64 p.dst), (.slice tA84p p.from_.length tc85p)]))]) (cs := [(.int .i64 p.dst), (.slice tA84p p.from_.length tc85p)]) hM_ ?_
 intro g87p w2 _ _ hm2 _ a2 ea _
 refine From_end (by kernel_rfl) ?_; refine op_doneJ (d := some 125) (by kernel_rfl) ea trivial ?_
 show match ls 8 with | true => _ | false => (match ls 6 with | true => _ | false => (∃ (tA84 : Option Addr) (tc85 : Nat) (il86 : List Nat) (g87 : Nat), _))
 rw [f8, f6]
 exact ⟨tA84p, tc85p, il86p, g87p, e4_, rfl, hil86, hm2⟩
 intro aa_ w_ ls vs rest_ hJ hi_ hc_ hp hF
 refine okG (g0 := none) ?_
 replace hF : Fr aa_ 137 [(121, (.slice pB pd.length pcB)), (125, vs 5)] := hF.kp [121, 125]
 have f4 : ls 4 = true := donebefore hc_ (fun k hk => (hp k hk).1) (n := 9) (by kernel_rfl)
 have f5 : ls 5 = true := donebefore hc_ (fun k hk => (hp k hk).1) (n := 9) (by kernel_rfl)
 have f6 : ls 6 = false := hi_
 have f8 : ls 8 = false := notyet hc_ hi_ (n := 9) (by kernel_rfl)
 have hM_ := hJ
 simp only [f4, f5, f6, f8] at hM_
 obtain ⟨tA84p, tc85p, il86p, g87p, e4_, e5_, hil86, hM_⟩ := hM_
 try rw [e4_] at hF
 try rw [e5_] at hF
 refine zAp 126 (.tmp 121) (.tmp 125) 33 33 hF (e := 79) (size := 2) (bytes := 32) (z := (.agg #[(.int .i64 0), (.slice none 0 0)])) (A := pB) (B := (sM g87p)) (n := pd.length) (cap := pcB) (m := 1) (cap' := 1) (xs := (phC pd)) (news := [(.int .i64 p.dst), (.slice tA84p p.from_.length tc85p)]) hM_ 15 rfl (row_rd (hM_.get 19 rfl)) rfl (by simp [Value.oneCell']) (by omega) (by simp only [maxLen]; omega) ?_
 intro A88p c89p w2 hm2 _ a2 ea _
 refine From_end (by kernel_rfl) ?_; refine op_doneJ (d := some 126) (by kernel_rfl) ea trivial ?_
 show match ls 8 with | true => _ | false => (∃ (tA84 : Option Addr) (tc85 : Nat) (il86 : List Nat) (g87 : Nat) (A88 : Option Addr) (c89 : Nat), _)
 rw [f8]
 exact ⟨tA84p, tc85p, il86p, g87p, A88p, c89p, e4_, e5_, rfl, hil86, hm2⟩
 intro aa_ w_ ls vs rest_ hJ hi_ hc_ hp hF
 refine okG (g0 := none) ?_
 replace hF : Fr aa_ 137 [(126, vs 6), (127, (pT b52 0))] := hF.kp [126, 127]
 have f4 : ls 4 = true := donebefore hc_ (fun k hk => (hp k hk).1) (n := 9) (by kernel_rfl)
 have f5 : ls 5 = true := donebefore hc_ (fun k hk => (hp k hk).1) (n := 9) (by kernel_rfl)
 have f6 : ls 6 = true := donebefore hc_ (fun k hk => (hp k hk).1) (n := 9) (by kernel_rfl)
 have f8 : ls 8 = false := hi_
 have hM_ := hJ
 simp only [f4, f5, f6, f8] at hM_
 obtain ⟨tA84p, tc85p, il86p, g87p, A88p, c89p, e4_, e5_, e6_, hil86, hM_⟩ := hM_
 try rw [e4_] at hF
 try rw [e5_] at hF
 try rw [e6_] at hF
 refine From_store_blk (by kernel_rfl : coreAt _ 0 = some (none, (.store 33 (.tmp 127) (.tmp 126)), 0, none)) hF (by kernel_rfl) (by kernel_rfl) (k' := 1) rfl (b := b52) (off := 0) (t0 := 36) (v := (.slice A88p (pd.length + 1) c89p)) (cs := [(.slice pB pd.length pcB), (.slice x.iA x.insts.length x.ic), (.int .i64 x.e), (.int .i64 x.v), (.int .i64 aa), (.int .i64 bb)]) (by kernel_rfl) (by kernel_rfl) (by kernel_rfl) rfl hM_ 14 rfl (by simp) ?_
 intro w2 hm2 _ a2 ea _
 refine From_end (by kernel_rfl) ?_; refine op_doneJ (d := none) (by kernel_rfl) ea rfl ?_
 show ∃ (tA84 : Option Addr) (tc85 : Nat) (il86 : List Nat) (g87 : Nat) (A88 : Option Addr) (c89 : Nat), _
 exact ⟨tA84p, tc85p, il86p, g87p, A88p, c89p, e4_, e5_, e6_, hil86, hm2⟩
 intro aC w94 ls vs hall M95 hv fr
 simp only [show ls 8 = true from hall 8 (by decide)] at M95
 revert aC; refine zkp [(2, (pT b1 0)), (3, (pT b4 0)), (4, (.slice (sM b11) gs.length gs.length)), (10, (pT b52 0)), (49, (.slice (some ad47) gs.length gc)), (50, (.int .i64 ((gs.length : Nat) : Int))), (51, (nV k)), (114, (.slice x.pA x.phis.length x.pc)), (115, (.int .i64 ((x.phis.length : Nat) : Int))), (116, (nV j))] ?_
 obtain ⟨tA84, tc85, il86, g87, A88, c89, e4_, e5_, e6_, hil86, M95⟩ := M95
 try rw [e4_]
 try rw [e5_]
 try rw [e6_]
 clear e4_ e5_ e6_
 clear hall hv fr aC M83; clear vs ls
 refine zrg ?_
 have hlil86 : (il86.map (fun i => p.args.getD i 0)).length = p.from_.length := by have h9 := hil86.1.length_eq; rw [List.length_range] at h9; rw [List.length_map]; exact h9
 refine zar ((j : Int) + 1) <| zpn 1 <| zfe ?_
 have M96 := M95.od [15, 15, 15, 15, 15, 15, 15, 15, 15, 15, 15, 15, 15, 15, 15, 15, 18, 17] 18
 have M97 : Mem (Res.pk (gF q nm wk pa va bA bn bc (some ad47) gc gs)).fp w w94 [.pk (pd.map argP), argP (⟨p.dst, tA84, tc85, il86.map (fun i => p.args.getD i 0)⟩ : FPhi), .blk x.g 65 [(.slice x.pA x.phis.length x.pc), (.slice x.iA x.insts.length x.ic), (.int .i64 x.e), (.int .i64 x.v), (.int .i64 x.a), (.int .i64 x.b), (.bool x.gone)], gpR x.pA x.pc x.phis, inR' x.iA x.ic x.insts, .pk (x.phis.map frmP), .pk (x.phis.map argG), .pk (x.insts.map argI), .pk ((gs.drop (k + 1)).map gB), .blk q 61 [(.string nm), (.bool wk), (.int .i64 pa), (.int .i64 va), (.slice bA bn bc), (.slice (some ad47) gs.length gc)], ptR (some ad47) gc gs, .row 3 1 (sM b11) gs.length gs.length (ints nl), .blk b1 24 [(.string ⟨#[]⟩), (.bool false), (.int .i64 0), (.int .i64 0), (.slice none 0 0)], .blk b4 24 [(.string nm), (.bool wk), (.int .i64 pa), (.int .i64 va), (.slice B fd.length cB)], .row 36 6 B fd.length cB (blC fd), .pk (fd.map ownB), .blk b52 36 [(.slice A88 (pd.length + 1) c89), (.slice x.iA x.insts.length x.ic), (.int .i64 x.e), (.int .i64 x.v), (.int .i64 aa), (.int .i64 bb)], .row 79 2 A88 (pd.length + 1) c89 ((phC pd) ++ [(.int .i64 p.dst), (.slice tA84 p.from_.length tc85)])] := M96.cast (by unfold argP; rw [hlil86])
 have M98 : Mem (Res.pk (gF q nm wk pa va bA bn bc (some ad47) gc gs)).fp w w94 [.pk (pd.map argP ++ [argP (⟨p.dst, tA84, tc85, il86.map (fun i => p.args.getD i 0)⟩ : FPhi)]), .blk x.g 65 [(.slice x.pA x.phis.length x.pc), (.slice x.iA x.insts.length x.ic), (.int .i64 x.e), (.int .i64 x.v), (.int .i64 x.a), (.int .i64 x.b), (.bool x.gone)], gpR x.pA x.pc x.phis, inR' x.iA x.ic x.insts, .pk (x.phis.map frmP), .pk (x.phis.map argG), .pk (x.insts.map argI), .pk ((gs.drop (k + 1)).map gB), .blk q 61 [(.string nm), (.bool wk), (.int .i64 pa), (.int .i64 va), (.slice bA bn bc), (.slice (some ad47) gs.length gc)], ptR (some ad47) gc gs, .row 3 1 (sM b11) gs.length gs.length (ints nl), .blk b1 24 [(.string ⟨#[]⟩), (.bool false), (.int .i64 0), (.int .i64 0), (.slice none 0 0)], .blk b4 24 [(.string nm), (.bool wk), (.int .i64 pa), (.int .i64 va), (.slice B fd.length cB)], .row 36 6 B fd.length cB (blC fd), .pk (fd.map ownB), .blk b52 36 [(.slice A88 (pd.length + 1) c89), (.slice x.iA x.insts.length x.ic), (.int .i64 x.e), (.int .i64 x.v), (.int .i64 aa), (.int .i64 bb)], .row 79 2 A88 (pd.length + 1) c89 ((phC pd) ++ [(.int .i64 p.dst), (.slice tA84 p.from_.length tc85)])] := M97.pk_push
 have M99 := M98.od [0, 16, 16, 16, 16, 16, 16, 16, 16, 16, 16, 16, 16, 16, 16, 16, 16] 17
 have M100 : Mem (Res.pk (gF q nm wk pa va bA bn bc (some ad47) gc gs)).fp w w94 [.blk x.g 65 [(.slice x.pA x.phis.length x.pc), (.slice x.iA x.insts.length x.ic), (.int .i64 x.e), (.int .i64 x.v), (.int .i64 x.a), (.int .i64 x.b), (.bool x.gone)], gpR x.pA x.pc x.phis, inR' x.iA x.ic x.insts, .pk (x.phis.map frmP), .pk (x.phis.map argG), .pk (x.insts.map argI), .pk ((gs.drop (k + 1)).map gB), .blk q 61 [(.string nm), (.bool wk), (.int .i64 pa), (.int .i64 va), (.slice bA bn bc), (.slice (some ad47) gs.length gc)], ptR (some ad47) gc gs, .row 3 1 (sM b11) gs.length gs.length (ints nl), .blk b1 24 [(.string ⟨#[]⟩), (.bool false), (.int .i64 0), (.int .i64 0), (.slice none 0 0)], .blk b4 24 [(.string nm), (.bool wk), (.int .i64 pa), (.int .i64 va), (.slice B fd.length cB)], .row 36 6 B fd.length cB (blC fd), .pk (fd.map ownB), .blk b52 36 [(.slice A88 ((pd ++ [(⟨p.dst, tA84, tc85, il86.map (fun i => p.args.getD i 0)⟩ : FPhi)]).length) c89), (.slice x.iA x.insts.length x.ic), (.int .i64 x.e), (.int .i64 x.v), (.int .i64 aa), (.int .i64 bb)], .row 79 2 A88 ((pd ++ [(⟨p.dst, tA84, tc85, il86.map (fun i => p.args.getD i 0)⟩ : FPhi)]).length) c89 (phC (pd ++ [(⟨p.dst, tA84, tc85, il86.map (fun i => p.args.getD i 0)⟩ : FPhi)])), .pk ((pd ++ [(⟨p.dst, tA84, tc85, il86.map (fun i => p.args.getD i 0)⟩ : FPhi)]).map argP)] := M99.cast (by simp only [len_snoc, phC_snoc, map_snoc, FPhi.cells, hlil86])
 intro aC fr
 exact ⟨x.phis.length - (j + 1), by omega, j + 1, pd ++ [(⟨p.dst, tA84, tc85, il86.map (fun i => p.args.getD i 0)⟩ : FPhi)], A88, c89, rfl, fr.kp [2, 3, 4, 10, 49, 50, 51, 114, 115, 116], M100, by omega, hpd.next (x := p.k) (by show (x.phis.map GPhi.k)[j]? = _; rw [List.getElem?_map, hpx]; rfl) ⟨rfl, _, hil86, rfl⟩⟩
 refine zex 5 <| zbh <| zrg ?_
 have hpr : AllR (ToP nl) x.k.phis pd := by have h9 := hpd; rw [List.take_of_length_le (by rw [GBlk.k, List.length_map]; omega)] at h9; exact h9
 refine zpn 1 <| zld ⟨b4, 4, none⟩ (.slice B fd.length cB) (blk_cell (M69.get 11 rfl) rfl) <| zls ⟨b52, 0, none⟩ [(.slice pB pd.length pcB), (.slice x.iA x.insts.length x.ic), (.int .i64 x.e), (.int .i64 x.v), (.int .i64 aa), (.int .i64 bb)] (blk_cells (M69.get 14 rfl)) ?_
 intro aC fr
 refine zBs 132 22 1 #[(0, (.tmp 131))] 22 fr (e := 36) (size := 6) (zs := [(.slice none 0 0), (.slice none 0 0), (.int .i64 0), (.int .i64 0), (.int .i64 0), (.int .i64 0)]) (vs := [(0, (.agg #[(.slice pB pd.length pcB), (.slice x.iA x.insts.length x.ic), (.int .i64 x.e), (.int .i64 x.v), (.int .i64 aa), (.int .i64 bb)]))]) (cs := [(.slice pB pd.length pcB), (.slice x.iA x.insts.length x.ic), (.int .i64 x.e), (.int .i64 x.v), (.int .i64 aa), (.int .i64 bb)]) M69 ?_
 intro b103 w104 hb103 _ M105 _ aC ea fr; clear ea
 replace M105 := M105.nf
 refine zAp 133 (.tmp 130) (.tmp 132) 22 22 fr (e := 36) (size := 6) (bytes := 80) (z := (.agg #[(.slice none 0 0), (.slice none 0 0), (.int .i64 0), (.int .i64 0), (.int .i64 0), (.int .i64 0)])) (A := B) (B := (sM b103)) (n := fd.length) (cap := cB) (m := 1) (cap' := 1) (xs := (blC fd)) (news := [(.slice pB pd.length pcB), (.slice x.iA x.insts.length x.ic), (.int .i64 x.e), (.int .i64 x.v), (.int .i64 aa), (.int .i64 bb)]) M105 12 rfl (row_rd (M105.get 17 rfl)) rfl (by simp [Value.oneCell']) (by omega) (by simp only [maxLen]; omega) ?_
 intro A110 c111 w112 M113 _ aC ea fr; clear ea
 replace M113 := M113.nf
 have M116 := M113.od [16, 16, 16, 16, 16, 16, 16, 16, 16, 16, 16, 16, 16, 16, 16, 16, 16] 17
 revert aC
 refine zpn 1 <| zsb (ho := (by simp)) M116 11 4 (.slice A110 (fd.length + 1) c111) rfl fun w117 M118 => ?_
 replace M118 := M118.nf
 refine zfe <| zrg ?_
 have M119 := M118.od [14, 14, 14, 14, 14, 14, 14, 14, 14, 13, 13, 12, 12, 14, 16, 15, 16] 17
 have M120 : Mem (Res.pk (gF q nm wk pa va bA bn bc (some ad47) gc gs)).fp w w117 [ownB (⟨pB, pcB, pd, x.iA, x.ic, x.insts, x.e, x.v, aa, bb⟩ : FBlk), .blk x.g 65 [(.slice x.pA x.phis.length x.pc), (.slice x.iA x.insts.length x.ic), (.int .i64 x.e), (.int .i64 x.v), (.int .i64 x.a), (.int .i64 x.b), (.bool x.gone)], gpR x.pA x.pc x.phis, .pk (x.phis.map frmP), .pk (x.phis.map argG), .pk ((gs.drop (k + 1)).map gB), .blk q 61 [(.string nm), (.bool wk), (.int .i64 pa), (.int .i64 va), (.slice bA bn bc), (.slice (some ad47) gs.length gc)], ptR (some ad47) gc gs, .row 3 1 (sM b11) gs.length gs.length (ints nl), .blk b1 24 [(.string ⟨#[]⟩), (.bool false), (.int .i64 0), (.int .i64 0), (.slice none 0 0)], .blk b4 24 [(.string nm), (.bool wk), (.int .i64 pa), (.int .i64 va), (.slice A110 (fd.length + 1) c111)], .row 36 6 A110 (fd.length + 1) c111 ((blC fd) ++ [(.slice pB pd.length pcB), (.slice x.iA x.insts.length x.ic), (.int .i64 x.e), (.int .i64 x.v), (.int .i64 aa), (.int .i64 bb)]), .pk (fd.map ownB), .blk b52 36 [(.slice pB pd.length pcB), (.slice x.iA x.insts.length x.ic), (.int .i64 x.e), (.int .i64 x.v), (.int .i64 aa), (.int .i64 bb)]] := Mem.pack (l := ownL (⟨pB, pcB, pd, x.iA, x.ic, x.insts, x.e, x.v, aa, bb⟩ : FBlk)) M119
 have M121 := M120.od [13, 12, 12, 12, 12, 12, 12, 12, 12, 12, 12, 12, 12, 13] 14
 have M122 : Mem (Res.pk (gF q nm wk pa va bA bn bc (some ad47) gc gs)).fp w w117 [.pk (fd.map ownB ++ [ownB (⟨pB, pcB, pd, x.iA, x.ic, x.insts, x.e, x.v, aa, bb⟩ : FBlk)]), .blk x.g 65 [(.slice x.pA x.phis.length x.pc), (.slice x.iA x.insts.length x.ic), (.int .i64 x.e), (.int .i64 x.v), (.int .i64 x.a), (.int .i64 x.b), (.bool x.gone)], gpR x.pA x.pc x.phis, .pk (x.phis.map frmP), .pk (x.phis.map argG), .pk ((gs.drop (k + 1)).map gB), .blk q 61 [(.string nm), (.bool wk), (.int .i64 pa), (.int .i64 va), (.slice bA bn bc), (.slice (some ad47) gs.length gc)], ptR (some ad47) gc gs, .row 3 1 (sM b11) gs.length gs.length (ints nl), .blk b1 24 [(.string ⟨#[]⟩), (.bool false), (.int .i64 0), (.int .i64 0), (.slice none 0 0)], .blk b4 24 [(.string nm), (.bool wk), (.int .i64 pa), (.int .i64 va), (.slice A110 (fd.length + 1) c111)], .row 36 6 A110 (fd.length + 1) c111 ((blC fd) ++ [(.slice pB pd.length pcB), (.slice x.iA x.insts.length x.ic), (.int .i64 x.e), (.int .i64 x.v), (.int .i64 aa), (.int .i64 bb)]), .blk b52 36 [(.slice pB pd.length pcB), (.slice x.iA x.insts.length x.ic), (.int .i64 x.e), (.int .i64 x.v), (.int .i64 aa), (.int .i64 bb)]] := M121.pk_push
 refine zar ((k : Int) + 1) <| zpn 1 <| zfe ?_
 have M123 := M122.od [0, 11, 11, 11, 11, 9, 11, 11] 8
 have M124 : Mem (Res.pk (gF q nm wk pa va bA bn bc (some ad47) gc gs)).fp w w117 [.blk q 61 [(.string nm), (.bool wk), (.int .i64 pa), (.int .i64 va), (.slice bA bn bc), (.slice (some ad47) gs.length gc)], ptR (some ad47) gc gs, .pk ((gs.drop (k + 1)).map gB), .row 3 1 (sM b11) gs.length gs.length (ints nl), .blk b1 24 [(.string ⟨#[]⟩), (.bool false), (.int .i64 0), (.int .i64 0), (.slice none 0 0)], .blk b4 24 [(.string nm), (.bool wk), (.int .i64 pa), (.int .i64 va), (.slice A110 ((fd ++ [(⟨pB, pcB, pd, x.iA, x.ic, x.insts, x.e, x.v, aa, bb⟩ : FBlk)]).length) c111)], .row 36 6 A110 ((fd ++ [(⟨pB, pcB, pd, x.iA, x.ic, x.insts, x.e, x.v, aa, bb⟩ : FBlk)]).length) c111 (blC (fd ++ [(⟨pB, pcB, pd, x.iA, x.ic, x.insts, x.e, x.v, aa, bb⟩ : FBlk)])), .pk ((fd ++ [(⟨pB, pcB, pd, x.iA, x.ic, x.insts, x.e, x.v, aa, bb⟩ : FBlk)]).map ownB)] := M123.cast (by simp only [len_snoc, blC_snoc, map_snoc])
 intro aC fr
 exact ⟨gs.length - (k + 1), by omega, k + 1, fd ++ [(⟨pB, pcB, pd, x.iA, x.ic, x.insts, x.e, x.v, aa, bb⟩ : FBlk)], A110, c111, rfl, fr.kp [2, 3, 4, 49, 50, 51], M124, by omega, by rw [live_yes hkx hgo]; exact hfd.snoc ⟨hpr, rfl, rfl, rfl, hA9, hB9⟩⟩
 revert aC
 refine zbk 4 <| zsp <| zcP ((x.e : Int) == 0) ((x.e : Int) = 0) (by simp only [beq_iff_eq]) (fun c127 => ?_) (fun c127 => ?_)
 have h0a := hox.e0 c127
 simp only [GBlk.k] at h0a
 refine zrg <| zpn 4 <| zld ⟨x.g, 4, none⟩ (.int .i64 x.a) (blk_cell (M58.get 0 rfl) rfl) <| zix (h0 := h0a.1) (h1 := h0a.2) ⟨b11, 0, none⟩ gs.length 1 x.a <| zld ((⟨b11, 0, none⟩ : Addr).add ((x.a).toNat * 1)) (.int .i64 (nl.getD x.a.toNat 0)) (rd_int (row_rd (M58.get 9 rfl)) rfl h0a.1 (by omega)) <| zpn 1 <| zsb (ho := (by simp)) M58 14 4 (.int .i64 (nl.getD x.a.toNat 0)) rfl fun w128 M129 => ?_
 replace M129 := M129.nf
 refine zfe ?_
 have M130 := M129.od [14, 14, 14, 14, 14, 14, 14, 14, 14, 14, 14, 14, 14, 14, 14] 15
 intro aC fr
 exact ⟨(nl.getD x.a.toNat 0), 0, fr.kp [2, 3, 4, 9, 10, 49, 50, 51], M130, by unfold toA; rw [if_pos (.inl (show x.k.e = 0 from c127))]; rfl, by unfold toBb; rw [if_neg (by have : x.k.e = 0 := c127; omega)]⟩
 refine zsp <| zcP ((x.e : Int) == 1) ((x.e : Int) = 1) (by simp only [beq_iff_eq]) (fun c133 => ?_) (fun c133 => ?_)
 obtain ⟨h0a, h0b⟩ := hox.e1 c133
 simp only [GBlk.k] at h0a h0b
 refine zkp [(2, (pT b1 0)), (3, (pT b4 0)), (4, (.slice (sM b11) gs.length gs.length)), (9, (.pointer (some ⟨x.g, 0, none⟩))), (10, (pT b52 0)), (49, (.slice (some ad47) gs.length gc)), (50, (.int .i64 ((gs.length : Nat) : Int))), (51, (nV k)), (75, (.int .i64 x.e))] ?_
 intro aC fr
 refine zdj (N := 137) (env0 := [(2, (pT b1 0)), (3, (pT b4 0)), (4, (.slice (sM b11) gs.length gs.length)), (9, (.pointer (some ⟨x.g, 0, none⟩))), (10, (pT b52 0)), (49, (.slice (some ad47) gs.length gc)), (50, (.int .i64 ((gs.length : Nat) : Int))), (51, (nV k)), (75, (.int .i64 x.e))]) (specAt [.det (.slice (sM b11) gs.length gs.length), .det (.pointer (some ⟨x.g, 0, none⟩)), .det (.pointer (some ⟨x.g, 0, none⟩)), .det (.pointer (some ⟨x.g, 4, none⟩)), .det (.int .i64 x.a), .det (.pointer (some ((⟨b11, 0, none⟩ : Addr).add ((x.a).toNat * 1)))), .det (.int .i64 (nl.getD x.a.toNat 0)), .det (.slice (sM b11) gs.length gs.length), .det (.pointer (some ⟨x.g, 0, none⟩)), .det (.pointer (some ⟨x.g, 0, none⟩)), .det (.pointer (some ⟨x.g, 5, none⟩)), .det (.int .i64 x.b), .det (.pointer (some ((⟨b11, 0, none⟩ : Addr).add ((x.b).toNat * 1)))), .det (.int .i64 (nl.getD x.b.toNat 0)), .det (pT b52 4), .det undef, .det (pT b52 5), .det undef]) (fun ls vs w_ => match ls 17 with | true => (Mem (Res.pk (gF q nm wk pa va bA bn bc (some ad47) gc gs)).fp w w_ [.blk x.g 65 [(.slice x.pA x.phis.length x.pc), (.slice x.iA x.insts.length x.ic), (.int .i64 x.e), (.int .i64 x.v), (.int .i64 x.a), (.int .i64 x.b), (.bool x.gone)], gpR x.pA x.pc x.phis, inR' x.iA x.ic x.insts, .pk (x.phis.map frmP), .pk (x.phis.map argG), .pk (x.insts.map argI), .pk ((gs.drop (k + 1)).map gB), .blk q 61 [(.string nm), (.bool wk), (.int .i64 pa), (.int .i64 va), (.slice bA bn bc), (.slice (some ad47) gs.length gc)], ptR (some ad47) gc gs, .row 3 1 (sM b11) gs.length gs.length (ints nl), .blk b1 24 [(.string ⟨#[]⟩), (.bool false), (.int .i64 0), (.int .i64 0), (.slice none 0 0)], .blk b4 24 [(.string nm), (.bool wk), (.int .i64 pa), (.int .i64 va), (.slice B fd.length cB)], .row 36 6 B fd.length cB (blC fd), .pk (fd.map ownB), .blk b52 36 [(.slice none 0 0), (.slice x.iA x.insts.length x.ic), (.int .i64 x.e), (.int .i64 x.v), (.int .i64 (nl.getD x.a.toNat 0)), (.int .i64 (nl.getD x.b.toNat 0))]]) | false => (match ls 15 with | true => (Mem (Res.pk (gF q nm wk pa va bA bn bc (some ad47) gc gs)).fp w w_ [.blk x.g 65 [(.slice x.pA x.phis.length x.pc), (.slice x.iA x.insts.length x.ic), (.int .i64 x.e), (.int .i64 x.v), (.int .i64 x.a), (.int .i64 x.b), (.bool x.gone)], gpR x.pA x.pc x.phis, inR' x.iA x.ic x.insts, .pk (x.phis.map frmP), .pk (x.phis.map argG), .pk (x.insts.map argI), .pk ((gs.drop (k + 1)).map gB), .blk q 61 [(.string nm), (.bool wk), (.int .i64 pa), (.int .i64 va), (.slice bA bn bc), (.slice (some ad47) gs.length gc)], ptR (some ad47) gc gs, .row 3 1 (sM b11) gs.length gs.length (ints nl), .blk b1 24 [(.string ⟨#[]⟩), (.bool false), (.int .i64 0), (.int .i64 0), (.slice none 0 0)], .blk b4 24 [(.string nm), (.bool wk), (.int .i64 pa), (.int .i64 va), (.slice B fd.length cB)], .row 36 6 B fd.length cB (blC fd), .pk (fd.map ownB), .blk b52 36 [(.slice none 0 0), (.slice x.iA x.insts.length x.ic), (.int .i64 x.e), (.int .i64 x.v), (.int .i64 (nl.getD x.a.toNat 0)), (.int .i64 0)]]) | false => (Mem (Res.pk (gF q nm wk pa va bA bn bc (some ad47) gc gs)).fp w w_ [.blk x.g 65 [(.slice x.pA x.phis.length x.pc), (.slice x.iA x.insts.length x.ic), (.int .i64 x.e), (.int .i64 x.v), (.int .i64 x.a), (.int .i64 x.b), (.bool x.gone)], gpR x.pA x.pc x.phis, inR' x.iA x.ic x.insts, .pk (x.phis.map frmP), .pk (x.phis.map argG), .pk (x.insts.map argI), .pk ((gs.drop (k + 1)).map gB), .blk q 61 [(.string nm), (.bool wk), (.int .i64 pa), (.int .i64 va), (.slice bA bn bc), (.slice (some ad47) gs.length gc)], ptR (some ad47) gc gs, .row 3 1 (sM b11) gs.length gs.length (ints nl), .blk b1 24 [(.string ⟨#[]⟩), (.bool false), (.int .i64 0), (.int .i64 0), (.slice none 0 0)], .blk b4 24 [(.string nm), (.bool wk), (.int .i64 pa), (.int .i64 va), (.slice B fd.length cB)], .row 36 6 B fd.length cB (blC fd), .pk (fd.map ownB), .blk b52 36 [(.slice none 0 0), (.slice x.iA x.insts.length x.ic), (.int .i64 x.e), (.int .i64 x.v), (.int .i64 0), (.int .i64 0)]]))) fr (plain_ok (.det (.det (.det (.det (.det (.det (.det (.det (.det (.det (.det (.det (.det (.det (.det (.det (.det (.det .nil))))))))))))))))))) (M58.then_ (Mem.drew _)) (la (la (la (la (la (la (la (la (la (la (la (la (la (la (la (la (la (la lz (dPJ fun _ _ _ _ h => h)) (dPJ fun _ _ _ _ h => h)) (dPJ fun _ _ _ _ h => h)) (dPJ fun _ _ _ _ h => h)) (dLJ ⟨x.g, 4, none⟩ (.int .i64 x.a) (fun _ _ _ _ h => h) ?_)) (dIJ (h0 := h0a.1) (h1 := h0a.2) ⟨b11, 0, none⟩ gs.length 1 x.a fun _ _ _ _ h => h)) (dLJ ((⟨b11, 0, none⟩ : Addr).add ((x.a).toNat * 1)) (.int .i64 (nl.getD x.a.toNat 0)) (fun _ _ _ _ h => h) ?_)) (dPJ fun _ _ _ _ h => h)) (dPJ fun _ _ _ _ h => h)) (dPJ fun _ _ _ _ h => h)) (dPJ fun _ _ _ _ h => h)) (dLJ ⟨x.g, 5, none⟩ (.int .i64 x.b) (fun _ _ _ _ h => h) ?_)) (dIJ (h0 := h0b.1) (h1 := h0b.2) ⟨b11, 0, none⟩ gs.length 1 x.b fun _ _ _ _ h => h)) (dLJ ((⟨b11, 0, none⟩ : Addr).add ((x.b).toNat * 1)) (.int .i64 (nl.getD x.b.toNat 0)) (fun _ _ _ _ h => h) ?_)) (dPJ fun _ _ _ _ h => h)) ?_) (dPJ fun _ _ _ _ h => h)) ?_) ?_
 intro w_ ls vs hJ hi_ hc_ hp
 have f15 : ls 15 = false := notyet hc_ hi_ (n := 18) (by kernel_rfl)
 have f17 : ls 17 = false := notyet hc_ hi_ (n := 18) (by kernel_rfl)
 have hM_ := hJ
 simp only [f15, f17] at hM_
 exact (blk_cell (hM_.get 0 rfl) rfl)
 intro w_ ls vs hJ hi_ hc_ hp
 have f15 : ls 15 = false := notyet hc_ hi_ (n := 18) (by kernel_rfl)
 have f17 : ls 17 = false := notyet hc_ hi_ (n := 18) (by kernel_rfl)
 have hM_ := hJ
 simp only [f15, f17] at hM_
 exact (rd_int (row_rd (hM_.get 9 rfl)) rfl h0a.1 (by omega))
 intro w_ ls vs hJ hi_ hc_ hp
 have f17 : ls 17 = false := notyet hc_ hi_ (n := 18) (by kernel_rfl)
 have hM_ := hJ
 simp only [f17] at hM_
 cases fu : ls 15
 simp only [fu] at hM_
 exact (blk_cell (hM_.get 0 rfl) rfl)
 simp only [fu] at hM_
 exact (blk_cell (hM_.get 0 rfl) rfl)
 intro w_ ls vs hJ hi_ hc_ hp
 have f17 : ls 17 = false := notyet hc_ hi_ (n := 18) (by kernel_rfl)
 have hM_ := hJ
 simp only [f17] at hM_
 cases fu : ls 15
 simp only [fu] at hM_
 exact (rd_int (row_rd (hM_.get 9 rfl)) rfl h0b.1 (by omega))
 simp only [fu] at hM_
 exact (rd_int (row_rd (hM_.get 9 rfl)) rfl h0b.1 (by omega))
 intro aa_ w_ ls vs rest_ hJ hi_ hc_ hp hF
 refine okG (g0 := none) ?_
 replace hF : Fr aa_ 137 [(94, (.int .i64 (nl.getD x.a.toNat 0))), (102, (pT b52 4))] := hF.kp [94, 102]
 have f15 : ls 15 = false := hi_
 have f17 : ls 17 = false := notyet hc_ hi_ (n := 18) (by kernel_rfl)
 have hM_ := hJ
 simp only [f15, f17] at hM_
 refine From_store_blk (by kernel_rfl : coreAt _ 0 = some (none, (.store 3 (.tmp 102) (.tmp 94)), 0, none)) hF (by kernel_rfl) (by kernel_rfl) (k' := 1) rfl (b := b52) (off := 4) (t0 := 36) (v := (.int .i64 (nl.getD x.a.toNat 0))) (cs := [(.slice none 0 0), (.slice x.iA x.insts.length x.ic), (.int .i64 x.e), (.int .i64 x.v), (.int .i64 0), (.int .i64 0)]) (by kernel_rfl) (by kernel_rfl) (by kernel_rfl) rfl hM_ 14 rfl (by simp) ?_
 intro w2 hm2 _ a2 ea _
 refine From_end (by kernel_rfl) ?_; refine op_doneJ (d := none) (by kernel_rfl) ea rfl ?_
 show match ls 17 with | true => _ | false => (_)
 rw [f17]
 exact hm2
 intro aa_ w_ ls vs rest_ hJ hi_ hc_ hp hF
 refine okG (g0 := none) ?_
 replace hF : Fr aa_ 137 [(101, (.int .i64 (nl.getD x.b.toNat 0))), (103, (pT b52 5))] := hF.kp [101, 103]
 have f15 : ls 15 = true := donebefore hc_ (fun k hk => (hp k hk).1) (n := 18) (by kernel_rfl)
 have f17 : ls 17 = false := hi_
 have hM_ := hJ
 simp only [f15, f17] at hM_
 refine From_store_blk (by kernel_rfl : coreAt _ 0 = some (none, (.store 3 (.tmp 103) (.tmp 101)), 0, none)) hF (by kernel_rfl) (by kernel_rfl) (k' := 1) rfl (b := b52) (off := 5) (t0 := 36) (v := (.int .i64 (nl.getD x.b.toNat 0))) (cs := [(.slice none 0 0), (.slice x.iA x.insts.length x.ic), (.int .i64 x.e), (.int .i64 x.v), (.int .i64 (nl.getD x.a.toNat 0)), (.int .i64 0)]) (by kernel_rfl) (by kernel_rfl) (by kernel_rfl) rfl hM_ 14 rfl (by simp) ?_
 intro w2 hm2 _ a2 ea _
 refine From_end (by kernel_rfl) ?_; refine op_doneJ (d := none) (by kernel_rfl) ea rfl ?_
 show _
 exact hm2
 intro aC w138 ls vs hall M139 hv fr
 simp only [show ls 17 = true from hall 17 (by decide)] at M139
 revert aC; refine zkp [(2, (pT b1 0)), (3, (pT b4 0)), (4, (.slice (sM b11) gs.length gs.length)), (9, (.pointer (some ⟨x.g, 0, none⟩))), (10, (pT b52 0)), (49, (.slice (some ad47) gs.length gc)), (50, (.int .i64 ((gs.length : Nat) : Int))), (51, (nV k))] ?_
 clear hall hv fr aC M58; clear vs ls
 have M140 := M139.od [14, 14, 14, 14, 14, 14, 14, 14, 14, 14, 14, 14, 14, 14, 14] 15
 intro aC fr
 exact ⟨(nl.getD x.a.toNat 0), (nl.getD x.b.toNat 0), fr.kp [2, 3, 4, 9, 10, 49, 50, 51], M140, by unfold toA; rw [if_pos (.inr (show x.k.e = 1 from c133))]; rfl, by unfold toBb; rw [if_pos (show x.k.e = 1 from c133)]; rfl⟩
 refine zsp <| zcP ((x.e : Int) == 3) ((x.e : Int) = 3) (by simp only [beq_iff_eq]) (fun c143 => ?_) (fun c143 => ?_)
 refine zrg <| zpn 3 <| zld ⟨x.g, 4, none⟩ (.int .i64 x.a) (blk_cell (M58.get 0 rfl) rfl) <| zpn 1 <| zsb (ho := (by simp)) M58 14 4 (.int .i64 x.a) rfl fun w144 M145 => ?_
 replace M145 := M145.nf
 refine zfe ?_
 have M146 := M145.od [14, 14, 14, 14, 14, 14, 14, 14, 14, 14, 14, 14, 14, 14, 14] 15
 intro aC fr
 exact ⟨x.a, 0, fr.kp [2, 3, 4, 9, 10, 49, 50, 51], M146, by unfold toA; rw [if_neg (by simp only [GBlk.k]; omega), if_pos (show x.k.e = 3 from c143)]; rfl, by unfold toBb; rw [if_neg (by simp only [GBlk.k]; omega)]⟩
 refine zsk ?_
 have M149 := M58.od [14, 14, 14, 14, 14, 14, 14, 14, 14, 14, 14, 14, 14, 14, 14] 15
 intro aC fr
 exact ⟨0, 0, fr.kp [2, 3, 4, 9, 10, 49, 50, 51], M149, by unfold toA; rw [if_neg (by simp only [GBlk.k]; omega), if_neg (by simp only [GBlk.k]; omega)], by unfold toBb; rw [if_neg (by simp only [GBlk.k]; omega)]⟩
 refine zex 2 <| zbh <| zsr <| zls ⟨b4, 0, none⟩ [(.string nm), (.bool wk), (.int .i64 pa), (.int .i64 va), (.slice B fd.length cB)] (blk_cells (M40.get 5 rfl)) <| zss M40 4 [(.string nm), (.bool wk), (.int .i64 pa), (.int .i64 va), (.slice B fd.length cB)] rfl fun w152 M153 => ?_
 replace M153 := M153.nf
 refine zfe <| zre ?_
 intro aC fr
 refine outC (ad := ⟨b1, 0, none⟩) (vs := [(.string nm), (.bool wk), (.int .i64 pa), (.int .i64 va), (.slice B fd.length cB)]) fr rfl (by kernel_rfl) (by kernel_rfl) (blk_cells (M153.get 4 rfl)) ?_
 refine ⟨_, rfl, ?_⟩
 have M156 := M153.od [7, 7] 2
 rw [List.take_of_length_le (by rw [List.length_map]; omega), hnl] at hfd
 refine ⟨B, cB, fd, ?_, hfd, M156⟩
 show _ = Value.agg #[.string nm, .bool wk, .int .i64 pa, .int .i64 va, .slice B (bsOf fd).length cB]; rw [bsOf_len]
end Go.Proofs.Ytejbeeaomokjpaa
namespace Go.Proofs.Ytejbeeaomokjpaa
open Go.Mor
theorem dphi_c (x : GPhi) (q n rc : Nat) (Ar : Option Addr) (rl : List Bool) (w : World) (hrl : rl.length = n) (hq : RO noS w (.blk q 46 [.slice Ar n rc])) (hr : RO noS w (.rd Ar (bools rl))) (h0 : 0 ≤ x.dst) (h1 : x.dst < n) :
    Calls Try.prog 55 #[(.agg #[(.int .i64 x.dst), (.slice x.fA x.from_.length x.fc), (.slice x.aA x.args.length x.ac)]), (pT q 0)] w (Ret fun v w' => v = .bool (delP rl x) ∧ Mem noS w w' []) := by
 refine zen 10 [(.agg #[(.int .i64 x.dst), (.slice x.fA x.from_.length x.fc), (.slice x.aA x.args.length x.ac)]), (pT q 0)] Try.func55 ?_
 have hM := Mem.init w
 refine zsr <| zbx hM 67 (.agg #[(.int .i64 x.dst), (.slice x.fA x.from_.length x.fc), (.slice x.aA x.args.length x.ac)]) [(.int .i64 x.dst), (.slice x.fA x.from_.length x.fc), (.slice x.aA x.args.length x.ac)] fun b1 w2 hb1 M3 => ?_
 replace M3 := M3.nf
 clear hM
 refine zpn 1 <| zfe <| zsr <| zld ⟨q, 0, none⟩ (.slice Ar n rc) (blk_cell (M3.ro hq) rfl) <| zpn 1 <| zld ⟨b1, 0, none⟩ (.int .i64 x.dst) (blk_cell (M3.get 0 rfl) rfl) ?_
 obtain ⟨ad4, rfl⟩ := rd_some (M3.ro hr) (by rw [bools_len]; omega)
 refine zix ad4 n 1 x.dst <| zld ((ad4 : Addr).add ((x.dst).toNat * 1)) (.bool (rl.getD x.dst.toNat false)) (rd_bool_ (M3.ro hr) rfl (by omega) (by omega)) <| zpn 2 <| zfe <| zre <| zo1 (.bool (!(rl.getD x.dst.toNat false))) ?_
 have M5 := M3.od [] 0
 exact ⟨rfl, M5⟩
theorem dins_c (x : FIns) (q n rc : Nat) (Ar : Option Addr) (rl : List Bool) (w : World) (hrl : rl.length = n) (hq : RO noS w (.blk q 46 [.slice Ar n rc])) (hr : RO noS w (.rd Ar (bools rl))) (hd : pureQ x.op → 0 ≤ x.dst ∧ x.dst < n) :
    Calls Try.prog 57 #[(iG x), (pT q 0)] w (Ret fun v w' => v = .bool (delI rl x) ∧ Mem noS w w' []) := by
 refine zen 15 [(iG x), (pT q 0)] Try.func57 ?_
 have hM := Mem.init w
 refine zsr <| zbx hM 39 (iG x) (iV x) fun b1 w2 hb1 M3 => ?_
 replace M3 := M3.nf
 clear hM
 refine zpn 1 <| zfe <| zsr <| zpn 1 <| zld ⟨b1, 0, none⟩ (.int .i64 x.op) (blk_cell (M3.get 0 rfl) rfl) <| zcl (pure_c x.op w2) ?_
 rintro _ w4 ⟨rfl, M5x⟩
 have M5 := M3.cl M5x
 refine zpn 1 ?_
 obtain ⟨B6, hB6⟩ : ∃ B : Bool, B = decide (pureQ x.op) := ⟨_, rfl⟩
 refine zkp [(1, (pT q 0)), (2, (pT b1 0)), (7, (.bool (decide (pureQ x.op))))] ?_
 rw [← hB6]
 have iB6 : B6 = true ↔ (pureQ x.op) := by rw [hB6]; simp only [decide_eq_true_eq]
 clear hB6
 cases B6
 have c6 : ¬ (pureQ x.op) := (fun h => Bool.noConfusion (iB6.2 h) : ¬ (pureQ x.op))
 refine zpn 8 <| zfe <| zre <| zo1 (.bool false) ?_
 have M7 := M5.od [] 0
 exact ⟨by unfold delI; rw [decide_eq_false c6, Bool.false_and], M7⟩
 have c6 : (pureQ x.op) := iB6.1 rfl
 refine zld ⟨q, 0, none⟩ (.slice Ar n rc) (blk_cell (M5.ro hq) rfl) <| zpn 1 <| zld ⟨b1, 1, none⟩ (.int .i64 x.dst) (blk_cell (M5.get 0 rfl) rfl) ?_
 obtain ⟨ad8, rfl⟩ := rd_some (M5.ro hr) (by have := hd c6; rw [bools_len]; omega)
 refine zix (h0 := (by have := hd c6; omega)) (h1 := (by have := hd c6; omega)) ad8 n 1 x.dst <| zld ((ad8 : Addr).add ((x.dst).toNat * 1)) (.bool (rl.getD x.dst.toNat false)) (rd_bool_ (M5.ro hr) rfl (by have := hd c6; omega) (by have := hd c6; omega)) <| zpn 3 <| zfe <| zre <| zo1 (.bool (!(rl.getD x.dst.toNat false))) ?_
 have M9 := M5.od [] 0
 exact ⟨by unfold delI; rw [decide_eq_true c6, Bool.true_and], M9⟩
end Go.Proofs.Ytejbeeaomokjpaa
namespace Go.Proofs.Ytejbeeaomokjpaa
open Go.Mor
theorem dphi_ix (l : List GPhi) (B : Option Addr) (d : Nat) (q n rc : Nat) (Ar : Option Addr) (rl : List Bool) (w : World) (hll : l.length ≤ 1000000) (hl : RO noS w (.rd B (l.flatMap GPhi.cells))) (hrl : rl.length = n) (hq : RO noS w (.blk q 46 [.slice Ar n rc])) (hr : RO noS w (.rd Ar (bools rl))) (hd : ∀ x, x ∈ l → 0 ≤ x.dst ∧ x.dst < n) :
    Calls Try.prog 99 #[(.slice B l.length d), (.func (.func 55) #[] #[(pT q 0)])] w (Ret fun v w' => v = .int .i64 (fidxG (delP rl) l) ∧ Mem noS w w' []) := by
 refine zen 19 [(.slice B l.length d), (.func (.func 55) #[] #[(pT q 0)])] Try.func99 ?_
 have hM := Mem.init w
 refine zsp <| zsq <| zsp <| zbk 0 ?_
 intro aC fr
 refine zlp (fun n_ a_ w_ => ∃ (j : Nat), n_ = l.length - j ∧ Fr a_ 19 [(0, (.slice B l.length d)), (1, (.func (.func 55) #[] #[(pT q 0)])), (7, (.int .i64 ((l.length : Nat) : Int))), (8, (nV j))] ∧ Mem noS w w_ [] ∧ (j ≤ l.length) ∧ ((l.take j).any (delP rl) = false)) (n := _) ⟨0, rfl, fr.kp [0, 1, 7, 8], hM, Nat.zero_le _, by simp⟩ ?_
 clear fr aC hM; rintro n aC w3 ⟨j, rfl, fr, M4, hj, hn⟩
 revert aC
 refine zsp <| zsq <| zcD (((j : Int) : Int) < ((l.length : Nat) : Int)) (fun c7 => ?_) (fun c7 => ?_)
 refine zsk <| zsq <| zbk 1 <| zsp <| zsr ?_
 obtain ⟨x, hx⟩ := get_of (l := l) (i := j) (by omega)
 refine zpn 3 ?_
 obtain ⟨ad8, rfl⟩ := rd_some (M4.ro hl) (by rw [flat_len (f := GPhi.cells) (k := 3) (fun _ => rfl)]; omega)
 refine zix ad8 l.length 3 (j : Int) <| zls ((ad8 : Addr).add (((j : Int)).toNat * 3)) [(.int .i64 x.dst), (.slice x.fA x.from_.length x.fc), (.slice x.aA x.args.length x.ac)] (rds_get (cs := GPhi.cells x) (rd_rds (f := GPhi.cells) (fun _ => rfl) (by omega) (M4.ro hl)) rfl (by rw [List.getElem?_map, Int.toNat_natCast, hx]; rfl)) ?_
 refine zcl (dphi_c x q n rc Ar rl w3 hrl (hq.at_ M4) (hr.at_ M4) (hd x (List.mem_of_getElem? hx)).1 (hd x (List.mem_of_getElem? hx)).2) ?_
 rintro _ w9 ⟨rfl, M10x⟩
 have M10 := M4.cl M10x
 refine zfe <| zcP (delP rl x) ((delP rl x) = true) Iff.rfl (fun c11 => ?_) (fun c11 => ?_)
 refine zsp <| zre <| zbr <| zbr <| zo1 (nV j) ?_
 exact ⟨by rw [fidxG_hit hn hx c11], M10⟩
 replace c11 : (delP rl x) = false := Bool.eq_false_iff.2 c11
 refine zsk <| zrg <| zar ((j : Int) + 1) <| zpn 1 <| zfe ?_
 intro aC fr
 exact ⟨l.length - (j + 1), by omega, j + 1, rfl, fr.kp [0, 1, 7, 8], M10, by omega, anyG_next hn hx c11⟩
 refine zex 0 <| zbh <| zsp <| zre <| zo1 (.int .i64 (-1)) ?_
 exact ⟨by rw [fidxG_miss hn (by omega)], M4⟩
theorem dphi_dl (l : List GPhi) (B : Option Addr) (d : Nat) (q n rc : Nat) (Ar : Option Addr) (rl : List Bool) (w : World) (hll : l.length ≤ 1000000) (hl : (Res.row 67 3 B l.length d (l.flatMap GPhi.cells)).holds w) (hrl : rl.length = n) (hq : RO (Res.row 67 3 B l.length d (l.flatMap GPhi.cells)).fp w (.blk q 46 [.slice Ar n rc])) (hr : RO (Res.row 67 3 B l.length d (l.flatMap GPhi.cells)).fp w (.rd Ar (bools rl))) (hd : ∀ x, x ∈ l → 0 ≤ x.dst ∧ x.dst < n) :
    Calls Try.prog 54 #[(.slice B l.length d), (.func (.func 55) #[] #[(pT q 0)])] w (Ret fun v w' => ∃ B' d', v = .slice B' (l.filter (fun x => !(delP rl) x)).length d' ∧ Mem (Res.row 67 3 B l.length d (l.flatMap GPhi.cells)).fp w w' [.row 67 3 B' (l.filter (fun x => !(delP rl) x)).length d' ((l.filter (fun x => !(delP rl) x)).flatMap GPhi.cells)]) := by
 refine zen 42 [(.slice B l.length d), (.func (.func 55) #[] #[(pT q 0)])] Try.func54 ?_
 have hM := Mem.initS hl
 refine zsp <| zsr <| zpn 2 <| zcl (dphi_ix l B d q n rc Ar rl w hll (RO.row_rd (hM.own_ro 0 rfl)) hrl (hq.at_ hM) (hr.at_ hM) hd) ?_
 rintro _ w1 ⟨rfl, M2x⟩
 have M2 := hM.cl M2x
 clear M2x hM
 refine zpn 1 <| zfe <| zsq <| zsp <| zcP (((fidxG (delP rl) l) : Int) == (-1)) (((fidxG (delP rl) l) : Int) = (-1)) (by simp only [beq_iff_eq]) (fun c3 => ?_) (fun c3 => ?_)
 refine zsp <| zre <| zo1 (.slice B l.length d) ?_
 have M4 := M2.od [] 1
 exact ⟨B, d, by rw [anyG_filter c3], M4.cast (by rw [anyG_filter c3])⟩
 refine zsk <| zsq <| zsr <| zpn 1 <| zar (h1 := (by have := fidxG_lt (delP rl) l; omega)) (h2 := (by have := fidxG_lt (delP rl) l; omega)) ((fidxG (delP rl) l) + 1) <| zpn 1 <| zfe <| zbk 0 ?_
 obtain ⟨i0, hi0, hil, hk0⟩ := keptG_start c3
 refine zkp [(0, (.slice B l.length d)), (1, (.func (.func 55) #[] #[(pT q 0)])), (5, (.int .i64 (fidxG (delP rl) l))), (6, (.int .i64 ((fidxG (delP rl) l) + 1)))] ?_
 intro aC fr
 rw [hi0] at fr
 obtain ⟨g0, hg0⟩ := row_some (M2.get 0 rfl) (show 0 < l.length by omega)
 subst hg0
 have hle := row_le (M2.get 0 rfl)
 have hlen0 : (keptG (delP rl) l (i0 + 1)).length = i0 := by rw [hk0]; simp; omega
 have hc1 : ((i0 + 1 : Nat) : Int) = (i0 : Int) + 1 := by omega
 replace fr : Fr aC 42 [(0, .slice (sM g0) l.length d), (1, ((.func (.func 55) #[] #[(pT q 0)]))), (5, (.int .i64 ((keptG (delP rl) l (i0 + 1)).length : Int))), (6, (.int .i64 ((i0 + 1 : Nat) : Int)))] := by rw [hlen0]; exact fr.keep (keep := [0, 1, 5, 6]) (by kernel_rfl)
 refine zlp (fun n_ a_ w_ => ∃ (j : Nat) (m : List GPhi), n_ = l.length - j ∧ Fr a_ 42 [(0, (.slice (sM g0) l.length d)), (1, (.func (.func 55) #[] #[(pT q 0)])), (5, (.int .i64 ((keptG (delP rl) l j).length : Int))), (6, (nV j))] ∧ Mem (Res.row 67 3 (sM g0) l.length d (l.flatMap GPhi.cells)).fp w w_ [.row 67 3 (sM g0) l.length d (m.flatMap GPhi.cells)] ∧ (j ≤ l.length) ∧ (HalfG l m (keptG (delP rl) l j) j)) (n := _) ⟨i0 + 1, l, rfl, fr.kp [0, 1, 5, 6], M2, by omega, by rw [hk0]; exact halfG_start hil⟩ ?_
 clear fr aC M2; rintro n aC w7 ⟨j, m, rfl, fr, M8, hj, hh⟩
 revert aC
 refine zsq <| zsp <| zcD (((j : Int) : Int) < ((l.length : Nat) : Int)) (fun c11 => ?_) (fun c11 => ?_)
 refine zsk <| zsq <| zbk 1 <| zsr ?_
 obtain ⟨x, hx⟩ := get_of (l := l) (i := j) (by omega)
 have hkj := hh.2.2.2
 have hml := hh.1
 refine zpn 2 <| zix ⟨g0, 0, none⟩ l.length 3 (j : Int) <| zls ((⟨g0, 0, none⟩ : Addr).add (((j : Int)).toNat * 3)) [(.int .i64 x.dst), (.slice x.fA x.from_.length x.fc), (.slice x.aA x.args.length x.ac)] (rds_get (cs := GPhi.cells x) (rd_rds (f := GPhi.cells) (fun _ => rfl) (by omega) (row_rd (M8.get 0 rfl))) rfl (by rw [List.getElem?_map, Int.toNat_natCast, halfG_get hh, hx]; rfl)) ?_
 refine zal M8 67 [(.int .i64 0), (.slice none 0 0), (.slice none 0 0)] fun b12 w13 hb12 M14 => ?_
 replace M14 := M14.nf
 refine zss M14 1 [(.int .i64 x.dst), (.slice x.fA x.from_.length x.fc), (.slice x.aA x.args.length x.ac)] rfl fun w15 M16 => ?_
 replace M16 := M16.nf
 refine zfe <| zsr <| zpn 1 <| zls ⟨b12, 0, none⟩ [(.int .i64 x.dst), (.slice x.fA x.from_.length x.fc), (.slice x.aA x.args.length x.ac)] (blk_cells (M16.get 1 rfl)) ?_
 refine zcl (dphi_c x q n rc Ar rl w15 hrl (hq.at_ M16) (hr.at_ M16) (hd x (List.mem_of_getElem? hx)).1 (hd x (List.mem_of_getElem? hx)).2) ?_
 rintro _ w17 ⟨rfl, M18x⟩
 have M18 := M16.cl M18x
 refine zpn 1 <| zfe <| zcP (!(delP rl x)) (¬ ((delP rl x) = true)) (by simp only [notT]) (fun c19 => ?_) (fun c19 => ?_)
 replace c19 : (delP rl x) = false := Bool.eq_false_iff.2 c19
 refine zsr <| zpn 2 <| zls ⟨b12, 0, none⟩ [(.int .i64 x.dst), (.slice x.fA x.from_.length x.fc), (.slice x.aA x.args.length x.ac)] (blk_cells (M18.get 1 rfl)) <| zkp [(0, (.slice (sM g0) l.length d)), (1, (.func (.func 55) #[] #[(pT q 0)])), (5, (.int .i64 ((keptG (delP rl) l j).length : Int))), (6, (nV j)), (30, (.slice (sM g0) l.length d)), (31, (.int .i64 ((keptG (delP rl) l j).length : Int))), (32, (.agg #[(.int .i64 x.dst), (.slice x.fA x.from_.length x.fc), (.slice x.aA x.args.length x.ac)]))] <| zix ⟨g0, 0, none⟩ l.length 3 ((keptG (delP rl) l j).length : Int) ?_
 intro aC fr
 refine From_storeS_row (by kernel_rfl : coreAt _ 4 = some (none, (.store 67 (.tmp 33) (.tmp 32)), 0, none)) fr (by kernel_rfl) (by kernel_rfl) (k' := 5) rfl (ad := (⟨g0, 0, none⟩ : Addr)) (j := ((((keptG (delP rl) l j).length : Int)).toNat * 3)) (e := 67) (size := 3) (n := l.length) (cap := d) (vs := [(.int .i64 x.dst), (.slice x.fA x.from_.length x.fc), (.slice x.aA x.args.length x.ac)]) (xs := (m.flatMap GPhi.cells)) (ad' := ((⟨g0, 0, none⟩ : Addr).add ((((keptG (delP rl) l j).length : Int)).toNat * 3))) (by kernel_rfl) rfl (by kernel_rfl) (by kernel_rfl) (by simp only [List.mem_cons, List.not_mem_nil, or_false]; intro v hv; rcases hv with rfl | rfl | rfl <;> rfl) M18 0 rfl (by rw [Int.toNat_natCast]; have h9 := Nat.mul_le_mul_right 3 (show (keptG (delP rl) l j).length + 1 ≤ l.length by omega); simp only [List.length_cons, List.length_nil]; omega) ?_
 intro w20 M21 _ aC ea fr; clear ea
 replace M21 := M21.nf
 have M26 : Mem (Res.row 67 3 (sM g0) l.length d (l.flatMap GPhi.cells)).fp w w20 [.row 67 3 (sM g0) l.length d ((m.set (keptG (delP rl) l j).length x).flatMap GPhi.cells), .blk b12 67 [(.int .i64 x.dst), (.slice x.fA x.from_.length x.fc), (.slice x.aA x.args.length x.ac)]] := M21.cast (congrArg (fun z_ => ([.row 67 3 (sM g0) l.length d z_, .blk b12 67 [(.int .i64 x.dst), (.slice x.fA x.from_.length x.fc), (.slice x.aA x.args.length x.ac)]] : List Res)) (by rw [Int.toNat_natCast]; exact setAt_flat (f := GPhi.cells) (fun _ => rfl) x m _ (by omega)))
 revert aC
 refine zfe <| zrg <| zpn 1 <| zar (((keptG (delP rl) l j).length : Int) + 1) <| zpn 1 <| zfe <| zrg <| zpn 1 <| zar ((j : Int) + 1) <| zpn 1 ?_
 refine zfe ?_
 intro aC fr
 have M29 := M26.od [] 1
 have hks := keptG_yes (p := delP rl) hx c19
 replace fr : Fr aC 42 [(0, .slice (sM g0) l.length d), (1, ((.func (.func 55) #[] #[(pT q 0)]))), (5, (.int .i64 ((keptG (delP rl) l (j + 1)).length : Int))), (6, (.int .i64 ((j : Int) + 1)))] := by rw [hks, List.length_append]; exact fr.keep (keep := [0, 1, 5, 6]) (by kernel_rfl)
 exact ⟨l.length - (j + 1), by omega, j + 1, m.set (keptG (delP rl) l j).length x, rfl, fr.kp [0, 1, 5, 6], M29, by omega, by rw [hks]; exact halfG_yes hh (by omega) _⟩
 replace c19 : (delP rl x) = true := Classical.not_not.1 c19
 refine zsk <| zrg <| zpn 1 <| zar ((j : Int) + 1) <| zkp [(0, (.slice (sM g0) l.length d)), (1, (.func (.func 55) #[] #[(pT q 0)])), (5, (.int .i64 ((keptG (delP rl) l j).length : Int))), (21, (.int .i64 ((j : Int) + 1)))] <| zpn 1 <| zfe ?_
 intro aC fr
 have M32 := M18.od [] 1
 have hks := keptG_no (p := delP rl) hx c19
 replace fr : Fr aC 42 [(0, .slice (sM g0) l.length d), (1, ((.func (.func 55) #[] #[(pT q 0)]))), (5, (.int .i64 ((keptG (delP rl) l (j + 1)).length : Int))), (6, (.int .i64 ((j : Int) + 1)))] := by rw [hks]; exact fr.keep (keep := [0, 1, 5, 6]) (by kernel_rfl)
 exact ⟨l.length - (j + 1), by omega, j + 1, m, rfl, fr.kp [0, 1, 5, 6], M32, by omega, by rw [hks]; exact halfG_no hh⟩
 refine zex 0 <| zbh <| zsr <| zpn 2 <| zkp [(0, (.slice (sM g0) l.length d)), (5, (.int .i64 ((keptG (delP rl) l j).length : Int))), (36, (.slice (sM g0) l.length d)), (37, (.int .i64 ((keptG (delP rl) l j).length : Int)))] ?_
 intro aC fr
 have hjl : j = l.length := by omega
 have hkl := hh.2.2.2
 refine From_sliceLo (by kernel_rfl : coreAt _ 2 = some (some 38, (.slice 63 (.tmp 36) (some (.tmp 37)) none none), 63, none)) fr (by kernel_rfl) (by kernel_rfl) (k' := 3) rfl (A := (sM g0)) (n := l.length) (cap := d) (e := 67) (size := 3) (kd := .i64) (i := ((keptG (delP rl) l j).length : Int)) (keptG (delP rl) l j).length (by kernel_rfl) (by kernel_rfl) rfl (by kernel_rfl) (by kernel_rfl) (by omega) ?_
 intro aC ea fr; clear ea
 rw [if_neg (show ¬ (d = (keptG (delP rl) l j).length) by omega)] at fr
 refine From_clearS (by kernel_rfl : coreAt _ 3 = some (none, (.call { callee := (.builtin .clear), args := #[(.tmp 38)], argTypes := #[63] }), 0, none)) fr (by kernel_rfl) (by kernel_rfl) (k' := 4) rfl (e := 67) (size := 3) (z := (.agg #[(.int .i64 0), (.slice none 0 0), (.slice none 0 0)])) (zs := [(.int .i64 0), (.slice none 0 0), (.slice none 0 0)]) (by kernel_rfl) (by kernel_rfl) (by kernel_rfl) rfl (by omega) (by simp [Value.oneCell']) (ad := ⟨g0, 0, none⟩) (off := (keptG (delP rl) l j).length) (m := l.length - (keptG (delP rl) l j).length) (cap' := d - (keptG (delP rl) l j).length) (n := l.length) (cap := d) (xs := m.flatMap GPhi.cells) (by kernel_rfl) M8 0 rfl (by omega) ?_
 intro w37 M38 _ aC ea fr; clear ea
 replace M38 := M38.nf
 revert aC
 refine zfe <| zsr <| zpn 2 <| zkp [(39, (.slice (sM g0) l.length d)), (40, (.int .i64 ((keptG (delP rl) l j).length : Int)))] ?_
 intro aC fr
 refine From_sliceHi (by kernel_rfl : coreAt _ 2 = some (some 41, (.slice 63 (.tmp 39) none (some (.tmp 40)) none), 63, none)) fr (by kernel_rfl) (by kernel_rfl) (k' := 3) rfl (A := (sM g0)) (n := l.length) (cap := d) (e := 67) (size := 3) (kd := .i64) (i := ((keptG (delP rl) l j).length : Int)) (keptG (delP rl) l j).length (by kernel_rfl) (by kernel_rfl) rfl (by kernel_rfl) (by kernel_rfl) (by omega) ?_
 intro aC ea fr; clear ea
 revert aC
 refine zpn 1 <| zfe <| zre <| zo1 (.slice (sM g0) ((keptG (delP rl) l j).length) d) ?_
 have M45 := M38.od [] 1
 have hm2 := M45.take_row 0 rfl (keptG (delP rl) l j).length (by omega)
 refine ⟨some ⟨g0, 0, none⟩, d, by rw [← keptG_all (p := delP rl) (show l.length ≤ j by omega)], hm2.cast ?_⟩
 rw [← keptG_all (p := delP rl) (show l.length ≤ j by omega)]
 show [_] = _; rw [clearedG (f := GPhi.cells) (fun _ => rfl) hh.2.1]
theorem dins_ix (l : List FIns) (B : Option Addr) (d : Nat) (q n rc : Nat) (Ar : Option Addr) (rl : List Bool) (w : World) (hll : l.length ≤ 1000000) (hl : RO noS w (.rd B (l.flatMap FIns.cells))) (hrl : rl.length = n) (hq : RO noS w (.blk q 46 [.slice Ar n rc])) (hr : RO noS w (.rd Ar (bools rl))) (hd : ∀ x, x ∈ l → pureQ x.op → 0 ≤ x.dst ∧ x.dst < n) :
    Calls Try.prog 100 #[(.slice B l.length d), (.func (.func 57) #[] #[(pT q 0)])] w (Ret fun v w' => v = .int .i64 (fidxG (delI rl) l) ∧ Mem noS w w' []) := by
 refine zen 19 [(.slice B l.length d), (.func (.func 57) #[] #[(pT q 0)])] Try.func100 ?_
 have hM := Mem.init w
 refine zsp <| zsq <| zsp <| zbk 0 ?_
 intro aC fr
 refine zlp (fun n_ a_ w_ => ∃ (j : Nat), n_ = l.length - j ∧ Fr a_ 19 [(0, (.slice B l.length d)), (1, (.func (.func 57) #[] #[(pT q 0)])), (7, (.int .i64 ((l.length : Nat) : Int))), (8, (nV j))] ∧ Mem noS w w_ [] ∧ (j ≤ l.length) ∧ ((l.take j).any (delI rl) = false)) (n := _) ⟨0, rfl, fr.kp [0, 1, 7, 8], hM, Nat.zero_le _, by simp⟩ ?_
 clear fr aC hM; rintro n aC w3 ⟨j, rfl, fr, M4, hj, hn⟩
 revert aC
 refine zsp <| zsq <| zcD (((j : Int) : Int) < ((l.length : Nat) : Int)) (fun c7 => ?_) (fun c7 => ?_)
 refine zsk <| zsq <| zbk 1 <| zsp <| zsr ?_
 obtain ⟨x, hx⟩ := get_of (l := l) (i := j) (by omega)
 refine zpn 3 ?_
 obtain ⟨ad8, rfl⟩ := rd_some (M4.ro hl) (by rw [flat_len (f := FIns.cells) (k := 5) (fun _ => rfl)]; omega)
 refine zix ad8 l.length 5 (j : Int) <| zls ((ad8 : Addr).add (((j : Int)).toNat * 5)) (iV x) (rds_get (cs := FIns.cells x) (rd_rds (f := FIns.cells) (fun _ => rfl) (by omega) (M4.ro hl)) rfl (by rw [List.getElem?_map, Int.toNat_natCast, hx]; rfl)) ?_
 refine zcl (dins_c x q n rc Ar rl w3 hrl (hq.at_ M4) (hr.at_ M4) (hd x (List.mem_of_getElem? hx))) ?_
 rintro _ w9 ⟨rfl, M10x⟩
 have M10 := M4.cl M10x
 refine zfe <| zcP (delI rl x) ((delI rl x) = true) Iff.rfl (fun c11 => ?_) (fun c11 => ?_)
 refine zsp <| zre <| zbr <| zbr <| zo1 (nV j) ?_
 exact ⟨by rw [fidxG_hit hn hx c11], M10⟩
 replace c11 : (delI rl x) = false := Bool.eq_false_iff.2 c11
 refine zsk <| zrg <| zar ((j : Int) + 1) <| zpn 1 <| zfe ?_
 intro aC fr
 exact ⟨l.length - (j + 1), by omega, j + 1, rfl, fr.kp [0, 1, 7, 8], M10, by omega, anyG_next hn hx c11⟩
 refine zex 0 <| zbh <| zsp <| zre <| zo1 (.int .i64 (-1)) ?_
 exact ⟨by rw [fidxG_miss hn (by omega)], M4⟩
theorem dins_dl (l : List FIns) (B : Option Addr) (d : Nat) (q n rc : Nat) (Ar : Option Addr) (rl : List Bool) (w : World) (hll : l.length ≤ 1000000) (hl : (Res.row 39 5 B l.length d (l.flatMap FIns.cells)).holds w) (hrl : rl.length = n) (hq : RO (Res.row 39 5 B l.length d (l.flatMap FIns.cells)).fp w (.blk q 46 [.slice Ar n rc])) (hr : RO (Res.row 39 5 B l.length d (l.flatMap FIns.cells)).fp w (.rd Ar (bools rl))) (hd : ∀ x, x ∈ l → pureQ x.op → 0 ≤ x.dst ∧ x.dst < n) :
    Calls Try.prog 56 #[(.slice B l.length d), (.func (.func 57) #[] #[(pT q 0)])] w (Ret fun v w' => ∃ B' d', v = .slice B' (l.filter (fun x => !(delI rl) x)).length d' ∧ Mem (Res.row 39 5 B l.length d (l.flatMap FIns.cells)).fp w w' [.row 39 5 B' (l.filter (fun x => !(delI rl) x)).length d' ((l.filter (fun x => !(delI rl) x)).flatMap FIns.cells)]) := by
 refine zen 42 [(.slice B l.length d), (.func (.func 57) #[] #[(pT q 0)])] Try.func56 ?_
 have hM := Mem.initS hl
 refine zsp <| zsr <| zpn 2 <| zcl (dins_ix l B d q n rc Ar rl w hll (RO.row_rd (hM.own_ro 0 rfl)) hrl (hq.at_ hM) (hr.at_ hM) hd) ?_
 rintro _ w1 ⟨rfl, M2x⟩
 have M2 := hM.cl M2x
 clear M2x hM
 refine zpn 1 <| zfe <| zsq <| zsp <| zcP (((fidxG (delI rl) l) : Int) == (-1)) (((fidxG (delI rl) l) : Int) = (-1)) (by simp only [beq_iff_eq]) (fun c3 => ?_) (fun c3 => ?_)
 refine zsp <| zre <| zo1 (.slice B l.length d) ?_
 have M4 := M2.od [] 1
 exact ⟨B, d, by rw [anyG_filter c3], M4.cast (by rw [anyG_filter c3])⟩
 refine zsk <| zsq <| zsr <| zpn 1 <| zar (h1 := (by have := fidxG_lt (delI rl) l; omega)) (h2 := (by have := fidxG_lt (delI rl) l; omega)) ((fidxG (delI rl) l) + 1) <| zpn 1 <| zfe <| zbk 0 ?_
 obtain ⟨i0, hi0, hil, hk0⟩ := keptG_start c3
 refine zkp [(0, (.slice B l.length d)), (1, (.func (.func 57) #[] #[(pT q 0)])), (5, (.int .i64 (fidxG (delI rl) l))), (6, (.int .i64 ((fidxG (delI rl) l) + 1)))] ?_
 intro aC fr
 rw [hi0] at fr
 obtain ⟨g0, hg0⟩ := row_some (M2.get 0 rfl) (show 0 < l.length by omega)
 subst hg0
 have hle := row_le (M2.get 0 rfl)
 have hlen0 : (keptG (delI rl) l (i0 + 1)).length = i0 := by rw [hk0]; simp; omega
 have hc1 : ((i0 + 1 : Nat) : Int) = (i0 : Int) + 1 := by omega
 replace fr : Fr aC 42 [(0, .slice (sM g0) l.length d), (1, ((.func (.func 57) #[] #[(pT q 0)]))), (5, (.int .i64 ((keptG (delI rl) l (i0 + 1)).length : Int))), (6, (.int .i64 ((i0 + 1 : Nat) : Int)))] := by rw [hlen0]; exact fr.keep (keep := [0, 1, 5, 6]) (by kernel_rfl)
 refine zlp (fun n_ a_ w_ => ∃ (j : Nat) (m : List FIns), n_ = l.length - j ∧ Fr a_ 42 [(0, (.slice (sM g0) l.length d)), (1, (.func (.func 57) #[] #[(pT q 0)])), (5, (.int .i64 ((keptG (delI rl) l j).length : Int))), (6, (nV j))] ∧ Mem (Res.row 39 5 (sM g0) l.length d (l.flatMap FIns.cells)).fp w w_ [.row 39 5 (sM g0) l.length d (m.flatMap FIns.cells)] ∧ (j ≤ l.length) ∧ (HalfG l m (keptG (delI rl) l j) j)) (n := _) ⟨i0 + 1, l, rfl, fr.kp [0, 1, 5, 6], M2, by omega, by rw [hk0]; exact halfG_start hil⟩ ?_
 clear fr aC M2; rintro n aC w7 ⟨j, m, rfl, fr, M8, hj, hh⟩
 revert aC
 refine zsq <| zsp <| zcD (((j : Int) : Int) < ((l.length : Nat) : Int)) (fun c11 => ?_) (fun c11 => ?_)
 refine zsk <| zsq <| zbk 1 <| zsr ?_
 obtain ⟨x, hx⟩ := get_of (l := l) (i := j) (by omega)
 have hkj := hh.2.2.2
 have hml := hh.1
 refine zpn 2 <| zix ⟨g0, 0, none⟩ l.length 5 (j : Int) <| zls ((⟨g0, 0, none⟩ : Addr).add (((j : Int)).toNat * 5)) (iV x) (rds_get (cs := FIns.cells x) (rd_rds (f := FIns.cells) (fun _ => rfl) (by omega) (row_rd (M8.get 0 rfl))) rfl (by rw [List.getElem?_map, Int.toNat_natCast, halfG_get hh, hx]; rfl)) ?_
 refine zal M8 39 [(.int .i64 0), (.int .i64 0), (.int .i64 0), (.string ⟨#[]⟩), (.slice none 0 0)] fun b12 w13 hb12 M14 => ?_
 replace M14 := M14.nf
 refine zss M14 1 (iV x) rfl fun w15 M16 => ?_
 replace M16 := M16.nf
 refine zfe <| zsr <| zpn 1 <| zls ⟨b12, 0, none⟩ (iV x) (blk_cells (M16.get 1 rfl)) ?_
 refine zcl (dins_c x q n rc Ar rl w15 hrl (hq.at_ M16) (hr.at_ M16) (hd x (List.mem_of_getElem? hx))) ?_
 rintro _ w17 ⟨rfl, M18x⟩
 have M18 := M16.cl M18x
 refine zpn 1 <| zfe <| zcP (!(delI rl x)) (¬ ((delI rl x) = true)) (by simp only [notT]) (fun c19 => ?_) (fun c19 => ?_)
 replace c19 : (delI rl x) = false := Bool.eq_false_iff.2 c19
 refine zsr <| zpn 2 <| zls ⟨b12, 0, none⟩ (iV x) (blk_cells (M18.get 1 rfl)) <| zkp [(0, (.slice (sM g0) l.length d)), (1, (.func (.func 57) #[] #[(pT q 0)])), (5, (.int .i64 ((keptG (delI rl) l j).length : Int))), (6, (nV j)), (30, (.slice (sM g0) l.length d)), (31, (.int .i64 ((keptG (delI rl) l j).length : Int))), (32, (iG x))] <| zix ⟨g0, 0, none⟩ l.length 5 ((keptG (delI rl) l j).length : Int) ?_
 intro aC fr
 refine From_storeS_row (by kernel_rfl : coreAt _ 4 = some (none, (.store 39 (.tmp 33) (.tmp 32)), 0, none)) fr (by kernel_rfl) (by kernel_rfl) (k' := 5) rfl (ad := (⟨g0, 0, none⟩ : Addr)) (j := ((((keptG (delI rl) l j).length : Int)).toNat * 5)) (e := 39) (size := 5) (n := l.length) (cap := d) (vs := (iV x)) (xs := (m.flatMap FIns.cells)) (ad' := ((⟨g0, 0, none⟩ : Addr).add ((((keptG (delI rl) l j).length : Int)).toNat * 5))) (by kernel_rfl) rfl (by kernel_rfl) (by kernel_rfl) (by simp only [List.mem_cons, List.not_mem_nil, or_false]; intro v hv; rcases hv with rfl | rfl | rfl | rfl | rfl <;> rfl) M18 0 rfl (by rw [Int.toNat_natCast]; have h9 := Nat.mul_le_mul_right 5 (show (keptG (delI rl) l j).length + 1 ≤ l.length by omega); simp only [List.length_cons, List.length_nil]; omega) ?_
 intro w20 M21 _ aC ea fr; clear ea
 replace M21 := M21.nf
 have M26 : Mem (Res.row 39 5 (sM g0) l.length d (l.flatMap FIns.cells)).fp w w20 [.row 39 5 (sM g0) l.length d ((m.set (keptG (delI rl) l j).length x).flatMap FIns.cells), .blk b12 39 (iV x)] := M21.cast (congrArg (fun z_ => ([.row 39 5 (sM g0) l.length d z_, .blk b12 39 (iV x)] : List Res)) (by rw [Int.toNat_natCast]; exact setAt_flat (f := FIns.cells) (fun _ => rfl) x m _ (by omega)))
 revert aC
 refine zfe <| zrg <| zpn 1 <| zar (((keptG (delI rl) l j).length : Int) + 1) <| zpn 1 <| zfe <| zrg <| zpn 1 <| zar ((j : Int) + 1) <| zpn 1 ?_
 refine zfe ?_
 intro aC fr
 have M29 := M26.od [] 1
 have hks := keptG_yes (p := delI rl) hx c19
 replace fr : Fr aC 42 [(0, .slice (sM g0) l.length d), (1, ((.func (.func 57) #[] #[(pT q 0)]))), (5, (.int .i64 ((keptG (delI rl) l (j + 1)).length : Int))), (6, (.int .i64 ((j : Int) + 1)))] := by rw [hks, List.length_append]; exact fr.keep (keep := [0, 1, 5, 6]) (by kernel_rfl)
 exact ⟨l.length - (j + 1), by omega, j + 1, m.set (keptG (delI rl) l j).length x, rfl, fr.kp [0, 1, 5, 6], M29, by omega, by rw [hks]; exact halfG_yes hh (by omega) _⟩
 replace c19 : (delI rl x) = true := Classical.not_not.1 c19
 refine zsk <| zrg <| zpn 1 <| zar ((j : Int) + 1) <| zkp [(0, (.slice (sM g0) l.length d)), (1, (.func (.func 57) #[] #[(pT q 0)])), (5, (.int .i64 ((keptG (delI rl) l j).length : Int))), (21, (.int .i64 ((j : Int) + 1)))] <| zpn 1 <| zfe ?_
 intro aC fr
 have M32 := M18.od [] 1
 have hks := keptG_no (p := delI rl) hx c19
 replace fr : Fr aC 42 [(0, .slice (sM g0) l.length d), (1, ((.func (.func 57) #[] #[(pT q 0)]))), (5, (.int .i64 ((keptG (delI rl) l (j + 1)).length : Int))), (6, (.int .i64 ((j : Int) + 1)))] := by rw [hks]; exact fr.keep (keep := [0, 1, 5, 6]) (by kernel_rfl)
 exact ⟨l.length - (j + 1), by omega, j + 1, m, rfl, fr.kp [0, 1, 5, 6], M32, by omega, by rw [hks]; exact halfG_no hh⟩
 refine zex 0 <| zbh <| zsr <| zpn 2 <| zkp [(0, (.slice (sM g0) l.length d)), (5, (.int .i64 ((keptG (delI rl) l j).length : Int))), (36, (.slice (sM g0) l.length d)), (37, (.int .i64 ((keptG (delI rl) l j).length : Int)))] ?_
 intro aC fr
 have hjl : j = l.length := by omega
 have hkl := hh.2.2.2
 refine From_sliceLo (by kernel_rfl : coreAt _ 2 = some (some 38, (.slice 34 (.tmp 36) (some (.tmp 37)) none none), 34, none)) fr (by kernel_rfl) (by kernel_rfl) (k' := 3) rfl (A := (sM g0)) (n := l.length) (cap := d) (e := 39) (size := 5) (kd := .i64) (i := ((keptG (delI rl) l j).length : Int)) (keptG (delI rl) l j).length (by kernel_rfl) (by kernel_rfl) rfl (by kernel_rfl) (by kernel_rfl) (by omega) ?_
 intro aC ea fr; clear ea
 rw [if_neg (show ¬ (d = (keptG (delI rl) l j).length) by omega)] at fr
 refine From_clearS (by kernel_rfl : coreAt _ 3 = some (none, (.call { callee := (.builtin .clear), args := #[(.tmp 38)], argTypes := #[34] }), 0, none)) fr (by kernel_rfl) (by kernel_rfl) (k' := 4) rfl (e := 39) (size := 5) (z := (.agg #[(.int .i64 0), (.int .i64 0), (.int .i64 0), (.string ⟨#[]⟩), (.slice none 0 0)])) (zs := [(.int .i64 0), (.int .i64 0), (.int .i64 0), (.string ⟨#[]⟩), (.slice none 0 0)]) (by kernel_rfl) (by kernel_rfl) (by kernel_rfl) rfl (by omega) (by simp [Value.oneCell']) (ad := ⟨g0, 0, none⟩) (off := (keptG (delI rl) l j).length) (m := l.length - (keptG (delI rl) l j).length) (cap' := d - (keptG (delI rl) l j).length) (n := l.length) (cap := d) (xs := m.flatMap FIns.cells) (by kernel_rfl) M8 0 rfl (by omega) ?_
 intro w37 M38 _ aC ea fr; clear ea
 replace M38 := M38.nf
 revert aC
 refine zfe <| zsr <| zpn 2 <| zkp [(39, (.slice (sM g0) l.length d)), (40, (.int .i64 ((keptG (delI rl) l j).length : Int)))] ?_
 intro aC fr
 refine From_sliceHi (by kernel_rfl : coreAt _ 2 = some (some 41, (.slice 34 (.tmp 39) none (some (.tmp 40)) none), 34, none)) fr (by kernel_rfl) (by kernel_rfl) (k' := 3) rfl (A := (sM g0)) (n := l.length) (cap := d) (e := 39) (size := 5) (kd := .i64) (i := ((keptG (delI rl) l j).length : Int)) (keptG (delI rl) l j).length (by kernel_rfl) (by kernel_rfl) rfl (by kernel_rfl) (by kernel_rfl) (by omega) ?_
 intro aC ea fr; clear ea
 revert aC
 refine zpn 1 <| zfe <| zre <| zo1 (.slice (sM g0) ((keptG (delI rl) l j).length) d) ?_
 have M45 := M38.od [] 1
 have hm2 := M45.take_row 0 rfl (keptG (delI rl) l j).length (by omega)
 refine ⟨some ⟨g0, 0, none⟩, d, by rw [← keptG_all (p := delI rl) (show l.length ≤ j by omega)], hm2.cast ?_⟩
 rw [← keptG_all (p := delI rl) (show l.length ≤ j by omega)]
 show [_] = _; rw [clearedG (f := FIns.cells) (fun _ => rfl) hh.2.1]
end Go.Proofs.Ytejbeeaomokjpaa
namespace Go.Proofs.Ytejbeeaomokjpaa
open Go.Mor
theorem reads_c9 (l ls : List Int) (q u n rc lc c : Nat) (A Ar Al : Option Addr) (rl : List Bool) (w : World) (hll : l.length ≤ 1000000) (hrl : rl.length = n) (hn : n ≤ 1000000) (hls : ls.length ≤ cntB rl) (hln : ∀ v, v ∈ l → v < (n : Int)) (hm : (Res.pk [.blk q 46 [(.slice Ar n rc)], .row 4 1 Ar n rc (bools rl), .blk u 37 [(.slice Al ls.length lc)], .row 3 1 Al ls.length lc (ints ls)]).holds w) (hl : RO (Res.pk [.blk q 46 [(.slice Ar n rc)], .row 4 1 Ar n rc (bools rl), .blk u 37 [(.slice Al ls.length lc)], .row 3 1 Al ls.length lc (ints ls)]).fp w (.rd A (ints l))) :
    Calls Try.prog 52 #[(.slice A l.length c), (pT q 0), (pT u 0)] w (Ret fun v w' => ∃ A' c', v = .tuple #[] ∧ Mem (Res.pk [.blk q 46 [(.slice Ar n rc)], .row 4 1 Ar n rc (bools rl), .blk u 37 [(.slice Al ls.length lc)], .row 3 1 Al ls.length lc (ints ls)]).fp w w' [.blk q 46 [(.slice Ar n rc)], .row 4 1 Ar n rc (bools (readsS l (rl, ls)).1), .blk u 37 [.slice A' (readsS l (rl, ls)).2.length c'], .row 3 1 A' (readsS l (rl, ls)).2.length c' (ints (readsS l (rl, ls)).2)]) := by
 refine zen 29 [(.slice A l.length c), (pT q 0), (pT u 0)] Try.func52 ?_
 have hM := Mem.unpk hm
 refine zsp <| zbk 0 ?_
 intro aC fr
 refine zlp (fun n_ a_ w_ => ∃ (j : Nat) (Au : Option Addr) (uc : Nat), n_ = l.length - j ∧ Fr a_ 29 [(1, (pT q 0)), (2, (pT u 0)), (6, (.slice A l.length c)), (7, (.int .i64 ((l.length : Nat) : Int))), (8, (nV j))] ∧ Mem (Res.pk [.blk q 46 [(.slice Ar n rc)], .row 4 1 Ar n rc (bools rl), .blk u 37 [(.slice Al ls.length lc)], .row 3 1 Al ls.length lc (ints ls)]).fp w w_ [.blk q 46 [(.slice Ar n rc)], .row 4 1 Ar n rc (bools (readsS (l.take j) (rl, ls)).1), .blk u 37 [(.slice Au ((readsS (l.take j) (rl, ls)).2.length) uc)], .row 3 1 Au ((readsS (l.take j) (rl, ls)).2.length) uc (ints ((readsS (l.take j) (rl, ls)).2))] ∧ (j ≤ l.length)) (n := _) ⟨0, Al, lc, rfl, fr.kp [1, 2, 6, 7, 8], hM, Nat.zero_le _⟩ ?_
 clear fr aC hM; rintro n aC w3 ⟨j, Au, uc, rfl, fr, M4, hj⟩
 revert aC
 refine zsp <| zsq <| zcD (((j : Int) : Int) < ((l.length : Nat) : Int)) (fun c7 => ?_) (fun c7 => ?_)
 refine zsk <| zsq <| zbk 1 <| zsr ?_
 obtain ⟨v, hv⟩ := get_of (l := l) (i := j) (by omega)
 have hvn := hln v (List.mem_of_getElem? hv)
 have hrj : (readsS (l.take j) (rl, ls)).1.length = n := by rw [readsS_len]; exact hrl
 have hcj := readsS_cnt (l.take j) (rl, ls) (fun u hu => by have := hln u (List.mem_of_mem_take hu); simp only; omega)
 have hcb := cntB_le (readsS (l.take j) (rl, ls)).1
 simp only at hcj
 obtain ⟨ad8, rfl⟩ := rd_some (M4.ro hl) (by rw [ints_len]; omega)
 refine zix ad8 l.length 1 (j : Int) <| zld ((ad8 : Addr).add (((j : Int)).toNat * 1)) (.int .i64 v) (rd_at (M4.ro hl) rfl hv) <| zpn 1 <| zfe <| zsr <| zpn 3 ?_
 obtain ⟨B9, hB9⟩ : ∃ B : Bool, B = decide ((v : Int) ≥ 0) := ⟨_, rfl⟩
 refine zkp [(1, (pT q 0)), (2, (pT u 0)), (5, (.int .i64 v)), (6, (.slice (some ad8) l.length c)), (7, (.int .i64 ((l.length : Nat) : Int))), (8, (nV j)), (14, (.bool (decide ((v : Int) ≥ 0))))] ?_
 rw [← hB9]
 have iB9 : B9 = true ↔ ((v : Int) ≥ 0) := by rw [hB9]; simp only [decide_eq_true_eq]
 clear hB9
 cases B9
 have c9 : ¬ ((v : Int) ≥ 0) := (fun h => Bool.noConfusion (iB9.2 h) : ¬ ((v : Int) ≥ 0))
 refine zpn 6 <| zfe <| zcF <| zsk <| zrg <| zar ((j : Int) + 1) <| zpn 1 <| zfe ?_
 have M10 := M4.od [3, 3, 3, 3] 4
 have hnx := readsS_at (s := (rl, ls)) hv
 rw [if_neg (fun h_ => by omega)] at hnx
 have M11 : Mem (Res.pk [.blk q 46 [(.slice Ar n rc)], .row 4 1 Ar n rc (bools rl), .blk u 37 [(.slice Al ls.length lc)], .row 3 1 Al ls.length lc (ints ls)]).fp w w3 [.blk q 46 [(.slice Ar n rc)], .row 4 1 Ar n rc (bools (readsS (l.take (j + 1)) (rl, ls)).1), .blk u 37 [(.slice Au ((readsS (l.take (j + 1)) (rl, ls)).2.length) uc)], .row 3 1 Au ((readsS (l.take (j + 1)) (rl, ls)).2.length) uc (ints ((readsS (l.take (j + 1)) (rl, ls)).2))] := M10.cast (by rw [hnx])
 intro aC fr
 exact ⟨l.length - (j + 1), by omega, j + 1, Au, uc, rfl, fr.kp [1, 2, 6, 7, 8], M11, by omega⟩
 have c9 : ((v : Int) ≥ 0) := iB9.1 rfl
 refine zld ⟨q, 0, none⟩ (.slice Ar n rc) (blk_cell (M4.get 0 rfl) rfl) <| zpn 1 ?_
 obtain ⟨ad14, rfl⟩ := row_some' (M4.get 1 rfl) (by omega)
 refine zix (h0 := (by omega)) (h1 := (by omega)) ad14 n 1 v <| zld ((ad14 : Addr).add ((v).toNat * 1)) (.bool ((readsS (l.take j) (rl, ls)).1.getD v.toNat false)) (rd_bool_ (row_rd (M4.get 1 rfl)) rfl (by omega) (by omega)) <| zpn 2 <| zfe <| zcP (!((readsS (l.take j) (rl, ls)).1.getD v.toNat false)) (¬ (((readsS (l.take j) (rl, ls)).1.getD v.toNat false) = true)) (by simp only [notT]) (fun c15 => ?_) (fun c15 => ?_)
 replace c15 : ((readsS (l.take j) (rl, ls)).1.getD v.toNat false) = false := Bool.eq_false_iff.2 c15
 refine zsr <| zld ⟨q, 0, none⟩ (.slice (some ad14) n rc) (blk_cell (M4.get 0 rfl) rfl) <| zpn 1 <| zix (h0 := (by omega)) (h1 := (by omega)) ad14 n 1 v <| zsw M4 1 ((ad14 : Addr).add ((v).toNat * 1)) ((v).toNat * 1) (.bool true) rfl rfl (by omega) fun w16 M17 => ?_
 replace M17 := M17.nf
 refine zfe <| zrg <| zld ⟨u, 0, none⟩ (.slice Au ((readsS (l.take j) (rl, ls)).2.length) uc) (blk_cell (M17.get 2 rfl) rfl) <| zpn 1 ?_
 intro aC fr
 refine zBs 26 37 1 #[(0, (.tmp 25))] 37 fr (e := 3) (size := 1) (zs := [(.int .i64 0)]) (vs := [(0, (.int .i64 v))]) (cs := [(.int .i64 v)]) M17 ?_
 intro b18 w19 hb18 _ M20 _ aC ea fr; clear ea
 replace M20 := M20.nf
 revert aC
 refine zkp [(1, (pT q 0)), (2, (pT u 0)), (6, (.slice (some ad8) l.length c)), (7, (.int .i64 ((l.length : Nat) : Int))), (8, (nV j)), (24, (.slice Au ((readsS (l.take j) (rl, ls)).2.length) uc)), (26, (.slice (sM b18) 1 1))] ?_
 intro aC fr
 refine zAp 27 (.tmp 24) (.tmp 26) 37 37 fr (e := 3) (size := 1) (bytes := 8) (z := (.int .i64 0)) (A := Au) (B := (sM b18)) (n := ((readsS (l.take j) (rl, ls)).2.length)) (cap := uc) (m := 1) (cap' := 1) (xs := (ints ((readsS (l.take j) (rl, ls)).2))) (news := [(.int .i64 v)]) M20 3 rfl (row_rd (M20.get 4 rfl)) rfl (by simp [Value.oneCell']) (by omega) (by simp only [maxLen]; omega) ?_
 intro A25 c26 w27 M28 _ aC ea fr; clear ea
 replace M28 := M28.nf
 have M33 := M28.od [3, 3, 3, 3] 4
 revert aC
 refine zsb (ho := (by simp)) M33 2 0 (.slice A25 (((readsS (l.take j) (rl, ls)).2.length) + 1) c26) rfl fun w34 M35 => ?_
 replace M35 := M35.nf
 refine zfe <| zrg <| zar ((j : Int) + 1) <| zpn 1 <| zfe ?_
 have M36 := M35.od [3, 3, 3, 3] 4
 have hnx := readsS_at (s := (rl, ls)) hv
 rw [if_pos ⟨c9, c15⟩] at hnx
 have M37 : Mem (Res.pk [.blk q 46 [(.slice (some ad14) n rc)], .row 4 1 (some ad14) n rc (bools rl), .blk u 37 [(.slice Al ls.length lc)], .row 3 1 Al ls.length lc (ints ls)]).fp w w34 [.blk q 46 [(.slice (some ad14) n rc)], .row 4 1 (some ad14) n rc (bools (readsS (l.take (j + 1)) (rl, ls)).1), .blk u 37 [(.slice A25 ((readsS (l.take (j + 1)) (rl, ls)).2.length) c26)], .row 3 1 A25 ((readsS (l.take (j + 1)) (rl, ls)).2.length) c26 (ints ((readsS (l.take (j + 1)) (rl, ls)).2))] := M36.cast (by rw [hnx]; simp only [len_snoc, bools_set, Nat.mul_one, ints_append]; rfl)
 intro aC fr
 exact ⟨l.length - (j + 1), by omega, j + 1, A25, c26, rfl, fr.kp [1, 2, 6, 7, 8], M37, by omega⟩
 replace c15 : ((readsS (l.take j) (rl, ls)).1.getD v.toNat false) = true := Classical.not_not.1 c15
 refine zsk <| zrg <| zar ((j : Int) + 1) <| zpn 1 <| zfe ?_
 have M40 := M4.od [3, 3, 3, 3] 4
 have hnx := readsS_at (s := (rl, ls)) hv
 rw [if_neg (fun h_ => Bool.noConfusion (h_.2.symm.trans c15))] at hnx
 have M41 : Mem (Res.pk [.blk q 46 [(.slice (some ad14) n rc)], .row 4 1 (some ad14) n rc (bools rl), .blk u 37 [(.slice Al ls.length lc)], .row 3 1 Al ls.length lc (ints ls)]).fp w w3 [.blk q 46 [(.slice (some ad14) n rc)], .row 4 1 (some ad14) n rc (bools (readsS (l.take (j + 1)) (rl, ls)).1), .blk u 37 [(.slice Au ((readsS (l.take (j + 1)) (rl, ls)).2.length) uc)], .row 3 1 Au ((readsS (l.take (j + 1)) (rl, ls)).2.length) uc (ints ((readsS (l.take (j + 1)) (rl, ls)).2))] := M40.cast (by rw [hnx])
 intro aC fr
 exact ⟨l.length - (j + 1), by omega, j + 1, Au, uc, rfl, fr.kp [1, 2, 6, 7, 8], M41, by omega⟩
 refine zex 0 <| zbh <| zo0 ?_
 rw [List.take_of_length_le (show l.length ≤ j by omega)] at M4
 exact ⟨_, _, rfl, M4⟩
end Go.Proofs.Ytejbeeaomokjpaa
namespace Go.Proofs.Ytejbeeaomokjpaa
open Go.Mor
set_option maxHeartbeats 4000000 in
theorem dead_c (nm : ByteArray) (wk : Bool) (pa va : Int) (A : Option Addr) (c : Nat) (fs : List FBlk) (w : World) (hN : fs.length ≤ 1000) (hok : FOk fs) (hA : RO noS w (.fn A fs)) :
    Calls Try.prog 22 #[(fA nm wk pa va A c fs)] w (Ret fun v w' => (validN nm pa va fs ≠ 0 ∧ v = .tuple #[(.agg #[(.string ⟨#[]⟩), (.bool false), (.int .i64 0), (.int .i64 0), (.slice none 0 0)]), .int .i64 (validN nm pa va fs)] ∧ Mem noS w w' []) ∨ (validN nm pa va fs = 0 ∧ ∃ B cB fd, v = .tuple #[fA nm wk pa va B cB fd, .int .i64 0] ∧ AlikeF fd (deadF fs) ∧ Mem noS w w' (ownF B cB fd))) := by
 have hbl := bsOf_len fs
 have hm : (bsOf fs).length ≤ 1000000 := by omega
 have hB := hA.bs
 refine zen 152 [(fA nm wk pa va A c fs)] Try.func22 ?_
 have hM := Mem.init w
 refine zsr <| zbx hM 24 (fA nm wk pa va A c fs) (fV nm wk pa va A c fs) fun b1 w2 hb1 M3 => ?_
 replace M3 := M3.nf
 clear hM
 refine zal M3 24 [(.string ⟨#[]⟩), (.bool false), (.int .i64 0), (.int .i64 0), (.slice none 0 0)] fun b4 w5 hb4 M6 => ?_
 replace M6 := M6.nf
 refine zpn 1 <| zfe <| zsq <| zsr <| zls ⟨b1, 0, none⟩ (fV nm wk pa va A c fs) (blk_cells (M6.get 0 rfl)) <| zcl (vs := #[(fA nm wk pa va A c fs)]) (valid_c _ _ _ _ A c fs w5 hN hok (hA.at_ M6)) ?_
 rintro _ w7 ⟨rfl, M8x⟩
 have M8 := M6.cl M8x
 refine zpn 1 <| zfe <| zsp <| zcP (((validN nm pa va fs) : Int) != 0) (((validN nm pa va fs) : Int) ≠ 0) (by simp only [bne_iff_ne]) (fun c9 => ?_) (fun c9 => ?_)
 refine zsr <| zpn 2 ?_
 intro aC fr
 refine From_storeS_blk (by kernel_rfl : coreAt _ 2 = some (none, (.store 24 (.tmp 2) (.tmp 23)), 0, none)) fr (by kernel_rfl) (by kernel_rfl) (k' := 3) rfl (b := b4) (t0 := 24) (vs := [(.string ⟨#[]⟩), (.bool false), (.int .i64 0), (.int .i64 0), (.slice none 0 0)]) (cs := [(.string ⟨#[]⟩), (.bool false), (.int .i64 0), (.int .i64 0), (.slice none 0 0)]) (by kernel_rfl) (by kernel_rfl) (by kernel_rfl) (by simp only [List.mem_cons, List.not_mem_nil, or_false]; intro v hv; rcases hv with rfl | rfl | rfl | rfl | rfl <;> first | rfl | assumption) M8 1 rfl rfl ?_
 intro w10 M11 _ aC ea fr; clear ea
 replace M11 := M11.nf
 revert aC
 refine zpn 1 <| zfe <| zre <| zoct ⟨b4, 0, none⟩ 24 [(.string ⟨#[]⟩), (.bool false), (.int .i64 0), (.int .i64 0), (.slice none 0 0)] (.int .i64 (validN nm pa va fs)) (blk_cells (M11.get 1 rfl)) ?_
 have M16 := M11.od [] 0
 exact .inl ⟨c9, rfl, M16⟩
 have hv0 : validN nm pa va fs = 0 := Classical.not_not.1 c9
 obtain ⟨hgood, hvl, hszl⟩ := valid_good hv0
 have hsm := good_sm hv0 hN
 have hpar := hgood.par
 obtain ⟨n, hva⟩ := Int.eq_ofNat_of_zero_le (show 0 ≤ va by omega)
 refine zsk <| zsr <| zls ⟨b1, 0, none⟩ (fV nm wk pa va A c fs) (blk_cells (M8.get 0 rfl)) <| zcl (from_c nm wk pa va A c fs w7 (by omega) hsm (hA.at_ M8)) ?_
 rintro _ w17 ⟨q, bA, bn, bc, gA, gc, gs, rfl, hgs, M18x⟩
 have M18 := M8.cl M18x
 have hgl : gs.length = fs.length := by have h9 := congrArg List.length hgs; rwa [List.length_map, fromK_len] at h9
 have hgi := good_gin hv0 hN hva hgs
 have hgood2 : GoodQ nm pa va (gs.map GBlk.f) := good_alike (fz_alike hgs) hgood
 refine zpn 1 <| zfe <| zsr <| zpn 1 <| zld ⟨b1, 3, none⟩ (.int .i64 va) (blk_cell (M18.get 0 rfl) rfl) <| zkp [(1, (pT b1 0)), (2, (pT b4 0)), (5, (pT q 0)), (28, (.int .i64 va))] ?_
 intro aC fr
 refine From_make1 (by kernel_rfl : coreAt _ 2 = some (some 29, (.makeSlice 57 (.tmp 28) (.tmp 28)), 57, none)) fr (by kernel_rfl) (by kernel_rfl) (k' := 3) rfl (e := 37) (bytes := 24) (z := (.slice none 0 0)) (n := n) (i := va) (by kernel_rfl) (by kernel_rfl) hva (by kernel_rfl) (by kernel_rfl) rfl (by omega) (by simp only [maxLen]; omega) M18 ?_
 intro b19 w20 hb19 _ M21 _ aC ea fr; clear ea
 replace M21 := M21.nf
 revert aC
 refine zpn 1 <| zfe <| zsr <| zpn 1 <| zld ⟨b1, 3, none⟩ (.int .i64 va) (blk_cell (M21.get 0 rfl) rfl) ?_
 intro aC fr
 refine From_make1 (by kernel_rfl : coreAt _ 2 = some (some 32, (.makeSlice 46 (.tmp 31) (.tmp 31)), 46, none)) fr (by kernel_rfl) (by kernel_rfl) (k' := 3) rfl (e := 4) (bytes := 1) (z := (.bool false)) (n := n) (i := va) (by kernel_rfl) (by kernel_rfl) hva (by kernel_rfl) (by kernel_rfl) rfl (by omega) (by simp only [maxLen]; omega) M21 ?_
 intro b26 w27 hb26 _ M28 _ aC ea fr; clear ea
 replace M28 := M28.nf
 revert aC
 refine zal M28 46 [(.slice none 0 0)] fun b33 w34 hb33 M35 => ?_
 replace M35 := M35.nf
 refine zsb (ho := (by simp)) M35 7 0 (.slice (sM b26) n n) rfl fun w36 M37 => ?_
 replace M37 := M37.nf
 refine zfe <| zsr <| zal M37 37 [(.slice none 0 0)] fun b38 w39 hb38 M40 => ?_
 replace M40 := M40.nf
 refine zfe <| zsp <| zsq <| zsr <| zpn 3 <| zld ⟨q, 5, none⟩ (.slice gA gs.length gc) (blk_cell (M40.get 2 rfl) rfl) <| zpn 2 <| zfe <| zbk 0 ?_
 have M41 := M40.cl (Mem.nilrow _ 3 1)
 have M42 := M41.od [5, 5, 5, 5, 5, 9, 9, 8, 9] 9
 intro aC fr
 refine zlp (fun n_ a_ w_ => ∃ (k : Nat) (fc : List FrE) (rl : List Bool) (ls : List Int) (Al : Option Addr) (lc : Nat), n_ = gs.length - k ∧ Fr a_ 152 [(2, (pT b4 0)), (5, (pT q 0)), (6, (.slice (sM b19) n n)), (7, (pT b33 0)), (8, (pT b38 0)), (9, (.func (.func 52) #[] #[(pT b33 0), (pT b38 0)])), (37, (.slice gA gs.length gc)), (38, (.int .i64 ((gs.length : Nat) : Int))), (39, (nV k))] ∧ Mem noS w w_ [.blk b33 46 [(.slice (sM b26) n n)], .row 4 1 (sM b26) n n (bools rl), .blk b38 37 [(.slice Al ls.length lc)], .row 3 1 Al ls.length lc (ints ls), .blk b4 24 [(.string ⟨#[]⟩), (.bool false), (.int .i64 0), (.int .i64 0), (.slice none 0 0)], .blk q 61 [(.string nm), (.bool wk), (.int .i64 pa), (.int .i64 va), (.slice bA bn bc), (.slice gA gs.length gc)], ptR gA gc gs, .pk (gs.map gB), .row 37 1 (sM b19) n n (frC fc)] ∧ (k ≤ gs.length) ∧ (fc.length = n) ∧ (FrS gs fc) ∧ (∀ (i : Nat) (y : GBlk), i < k → gs[i]? = some y → DefQ gs fc y y.phis.length y.insts.length) ∧ (Wk gs n [] rl ls) ∧ (AllOn n rl ls) ∧ (∀ (i : Nat) (y : GBlk), i < k → gs[i]? = some y → RootA rl y)) (n := _) ⟨0, List.replicate n (none, 0, []), List.replicate n false, [], none, 0, rfl, fr.kp [2, 5, 6, 7, 8, 9, 37, 38, 39], (M42.cast (by rw [frC_zero, bools_rep]; rfl)), Nat.zero_le _, by simp, FrS.zero n, fun _ _ h_ => absurd h_ (Nat.not_lt_zero _), Wk.start gs n [], AllOn.start n, fun _ _ h_ => absurd h_ (Nat.not_lt_zero _)⟩ ?_
 clear fr aC M42; rintro n aC w45 ⟨k, fc, rl, ls, Al, lc, rfl, fr, M46, hk, hfl, hfs, hfd, hwk, hao, hrt⟩
 revert aC
 refine zsp <| zsq <| zcD (((k : Int) : Int) < ((gs.length : Nat) : Int)) (fun c49 => ?_) (fun c49 => ?_)
 refine zsk <| zsq <| zbk 1 <| zsr ?_
 obtain ⟨x, hx⟩ := get_of (l := gs) (i := k) (by omega)
 have hxm := List.mem_of_getElem? hx
 have hxi := hgi x hxm
 have hlp := hxi.lp
 have hli := hxi.li
 have hnn : NonNegD x := ⟨fun p hp => (hxi.phis p hp).1.1, fun i hi hp => ((hxi.insts i hi).1 hp).1⟩
 obtain ⟨ad50, rfl⟩ := row_at (M46.get 6 rfl) (by unfold ptrs; rw [List.length_map]; omega)
 refine zix ad50 gs.length 1 (k : Int) <| zld ((ad50 : Addr).add (((k : Int)).toNat * 1)) (.pointer (some ⟨x.g, 0, none⟩)) (own_ptr (M46.get 6 rfl) rfl hx) <| zpn 1 <| zfe <| zsq <| zsr <| zpn 3 <| zld ⟨x.g, 0, none⟩ (.slice x.pA x.phis.length x.pc) (gB_cell (M46.get 7 rfl) hx (j := 0) rfl) <| zpn 2 <| zfe ?_
 refine zbk 2 ?_
 have M51 := M46.od [8, 8, 8, 8, 8, 8, 8, 8, 8] 9
 intro aC fr
 refine zlp (fun n_ a_ w_ => ∃ (j : Nat) (fc2 : List FrE), n_ = x.phis.length - j ∧ Fr a_ 152 [(2, (pT b4 0)), (5, (pT q 0)), (6, (.slice (sM b19) n n)), (7, (pT b33 0)), (8, (pT b38 0)), (9, (.func (.func 52) #[] #[(pT b33 0), (pT b38 0)])), (11, (.pointer (some ⟨x.g, 0, none⟩))), (37, (.slice (some ad50) gs.length gc)), (38, (.int .i64 ((gs.length : Nat) : Int))), (39, (nV k)), (46, (.slice x.pA x.phis.length x.pc)), (47, (.int .i64 ((x.phis.length : Nat) : Int))), (48, (nV j))] ∧ Mem noS w w_ [.blk b33 46 [(.slice (sM b26) n n)], .row 4 1 (sM b26) n n (bools rl), .blk b38 37 [(.slice Al ls.length lc)], .row 3 1 Al ls.length lc (ints ls), .blk b4 24 [(.string ⟨#[]⟩), (.bool false), (.int .i64 0), (.int .i64 0), (.slice none 0 0)], .blk q 61 [(.string nm), (.bool wk), (.int .i64 pa), (.int .i64 va), (.slice bA bn bc), (.slice (some ad50) gs.length gc)], ptR (some ad50) gc gs, .pk (gs.map gB), .row 37 1 (sM b19) n n (frC fc2)] ∧ (j ≤ x.phis.length) ∧ (fc2.length = n) ∧ (FrS gs fc2) ∧ (∀ (i : Nat) (y : GBlk), i < k → gs[i]? = some y → DefQ gs fc2 y y.phis.length y.insts.length) ∧ (DefQ gs fc2 x j 0)) (n := _) ⟨0, fc, rfl, fr.kp [2, 5, 6, 7, 8, 9, 11, 37, 38, 39, 46, 47, 48], M51, Nat.zero_le _, hfl, hfs, hfd, ⟨fun _ _ h_ => absurd h_ (Nat.not_lt_zero _), fun _ _ h_ => absurd h_ (Nat.not_lt_zero _)⟩⟩ ?_
 clear fr aC M51; rintro n aC w54 ⟨j, fc2, rfl, fr, M55, hj, hfl2, hfs2, hfd2, hdq⟩
 revert aC
 refine zsp <| zsq <| zcD (((j : Int) : Int) < ((x.phis.length : Nat) : Int)) (fun c58 => ?_) (fun c58 => ?_)
 refine zsk <| zsq <| zbk 3 <| zsr ?_
 obtain ⟨p, hpx⟩ := get_of (l := x.phis) (i := j) (by omega)
 have hpm := List.mem_of_getElem? hpx
 have hpi := hxi.phis p hpm
 have hpd := hpi.1
 have hnnA : ∀ y, y ∈ gs → NonNegD y := fun y hy => ⟨fun p hp => ((hgi y hy).phis p hp).1.1, fun i hi hp => (((hgi y hy).insts i hi).1 hp).1⟩
 obtain ⟨ad59, had60⟩ := row_at (gB_of (M55.get 7 rfl) hx (r := gpR x.pA x.pc x.phis) (by simp)) (by have := flat_len (f := GPhi.cells) (k := 3) gp_cells_len x.phis; unfold gpC; omega)
 intro aC fr
 refine From_ixA (some 50) x.pA ad59 x.phis.length 3 (j : Int) fr (by kernel_rfl) had60 (by omega) (by omega) ?_
 intro aC fr
 revert aC
 refine zls ((ad59 : Addr).add (((j : Int)).toNat * 3)) [(.int .i64 p.dst), (.slice p.fA p.from_.length p.fc), (.slice p.aA p.args.length p.ac)] (own_gp (gB_of (M55.get 7 rfl) hx (r := gpR x.pA x.pc x.phis) (by simp)) had60 hpx) <| zal M55 67 [(.int .i64 0), (.slice none 0 0), (.slice none 0 0)] fun b65 w66 hb65 M67 => ?_
 replace M67 := M67.nf
 refine zss M67 9 [(.int .i64 p.dst), (.slice p.fA p.from_.length p.fc), (.slice p.aA p.args.length p.ac)] rfl fun w68 M69 => ?_
 replace M69 := M69.nf
 refine zfe <| zrg <| zpn 2 <| zld ⟨b65, 0, none⟩ (.int .i64 p.dst) (blk_cell (M69.get 9 rfl) rfl) <| zpn 1 <| zld ⟨b65, 2, none⟩ (.slice p.aA p.args.length p.ac) (blk_cell (M69.get 9 rfl) rfl) <| zix (h0 := hpd.1) (h1 := hpd.2) ⟨b19, 0, none⟩ n 1 p.dst <| zsw M69 8 ((⟨b19, 0, none⟩ : Addr).add ((p.dst).toNat * 1)) ((p.dst).toNat * 1) (.slice p.aA p.args.length p.ac) rfl rfl (by omega) fun w70 M71 => ?_
 replace M71 := M71.nf
 refine zfe <| zrg <| zar ((j : Int) + 1) <| zkp [(2, (pT b4 0)), (5, (pT q 0)), (6, (.slice (sM b19) n n)), (7, (pT b33 0)), (8, (pT b38 0)), (9, (.func (.func 52) #[] #[(pT b33 0), (pT b38 0)])), (11, (.pointer (some ⟨x.g, 0, none⟩))), (37, (.slice (some ad50) gs.length gc)), (38, (.int .i64 ((gs.length : Nat) : Int))), (39, (nV k)), (46, (.slice x.pA x.phis.length x.pc)), (47, (.int .i64 ((x.phis.length : Nat) : Int))), (58, (.int .i64 ((j : Int) + 1)))] <| zpn 1 <| zfe ?_
 have M72 := M71.od [8, 8, 8, 8, 8, 8, 8, 8, 8] 9
 intro aC fr
 exact ⟨x.phis.length - (j + 1), by omega, j + 1, fc2.set p.dst.toNat (p.aA, p.ac, p.args), rfl, fr.kp [2, 5, 6, 7, 8, 9, 11, 37, 38, 39, 46, 47, 48], (M72.cast (by rw [frC_set, Nat.mul_one]; rfl)), by omega, by rw [List.length_set]; exact hfl2, hfs2.set hpd.1 (.phi hxm hpm rfl), fun i y hi hy => (hfd2 i y hi hy).set (hnnA y (List.mem_of_getElem? hy)) hpd.1 (.phi hxm hpm rfl), hdq.phi hnn hxm hpx (by omega)⟩
 refine zex 2 <| zbh <| zsq <| zsr <| zpn 3 <| zld ⟨x.g, 1, none⟩ (.slice x.iA x.insts.length x.ic) (gB_cell (M55.get 7 rfl) hx (j := 1) rfl) <| zpn 2 <| zfe <| zbk 4 ?_
 have M75 := M55.od [8, 8, 8, 8, 8, 8, 8, 8, 8] 9
 have hdq0 : DefQ gs fc2 x x.phis.length 0 := by have h9 := hdq; rwa [show j = x.phis.length by omega] at h9
 intro aC fr
 refine zlp (fun n_ a_ w_ => ∃ (m : Nat) (fc3 : List FrE) (rl3 : List Bool) (ls3 : List Int) (Al3 : Option Addr) (lc3 : Nat), n_ = x.insts.length - m ∧ Fr a_ 152 [(2, (pT b4 0)), (5, (pT q 0)), (6, (.slice (sM b19) n n)), (7, (pT b33 0)), (8, (pT b38 0)), (9, (.func (.func 52) #[] #[(pT b33 0), (pT b38 0)])), (11, (.pointer (some ⟨x.g, 0, none⟩))), (37, (.slice (some ad50) gs.length gc)), (38, (.int .i64 ((gs.length : Nat) : Int))), (39, (nV k)), (62, (.slice x.iA x.insts.length x.ic)), (63, (.int .i64 ((x.insts.length : Nat) : Int))), (64, (nV m))] ∧ Mem noS w w_ [.blk b33 46 [(.slice (sM b26) n n)], .row 4 1 (sM b26) n n (bools rl3), .blk b38 37 [(.slice Al3 ls3.length lc3)], .row 3 1 Al3 ls3.length lc3 (ints ls3), .blk b4 24 [(.string ⟨#[]⟩), (.bool false), (.int .i64 0), (.int .i64 0), (.slice none 0 0)], .blk q 61 [(.string nm), (.bool wk), (.int .i64 pa), (.int .i64 va), (.slice bA bn bc), (.slice (some ad50) gs.length gc)], ptR (some ad50) gc gs, .pk (gs.map gB), .row 37 1 (sM b19) n n (frC fc3)] ∧ (m ≤ x.insts.length) ∧ (fc3.length = n) ∧ (FrS gs fc3) ∧ (∀ (i : Nat) (y : GBlk), i < k → gs[i]? = some y → DefQ gs fc3 y y.phis.length y.insts.length) ∧ (DefQ gs fc3 x x.phis.length m) ∧ (Wk gs n [] rl3 ls3) ∧ (AllOn n rl3 ls3) ∧ (∀ (i : Nat) (y : GBlk), i < k → gs[i]? = some y → RootA rl3 y) ∧ (RootQ rl3 x m)) (n := _) ⟨0, fc2, rl, ls, Al, lc, rfl, fr.kp [2, 5, 6, 7, 8, 9, 11, 37, 38, 39, 62, 63, 64], M75, Nat.zero_le _, hfl2, hfs2, hfd2, hdq0, hwk, hao, hrt, fun _ _ h_ => absurd h_ (Nat.not_lt_zero _)⟩ ?_
 clear fr aC M75; rintro n aC w78 ⟨m, fc3, rl3, ls3, Al3, lc3, rfl, fr, M79, hm9, hfl3, hfs3, hfd3, hdq3, hwk3, hao3, hrt3, hrq3⟩
 revert aC
 refine zsp <| zsq <| zcD (((m : Int) : Int) < ((x.insts.length : Nat) : Int)) (fun c82 => ?_) (fun c82 => ?_)
 refine zsk <| zsq <| zbk 5 <| zsr ?_
 obtain ⟨i, hi⟩ := get_of (l := x.insts) (i := m) (by omega)
 have him := List.mem_of_getElem? hi
 have hii := hxi.insts i him
 have hial : ∀ a, a ∈ i.args → a < (n : Int) := fun a ha => (hii.2.2 a ha).2
 have hnnA : ∀ y, y ∈ gs → NonNegD y := fun y hy => ⟨fun p hp => ((hgi y hy).phis p hp).1.1, fun i hi hp => (((hgi y hy).insts i hi).1 hp).1⟩
 have hrl3 := hwk3.len
 obtain ⟨ad83, had84⟩ := row_at (gB_of (M79.get 7 rfl) hx (r := inR' x.iA x.ic x.insts) (by simp)) (by have := flat_len (f := FIns.cells) (k := 5) ins_cells_len x.insts; unfold inC; omega)
 intro aC fr
 refine From_ixA (some 66) x.iA ad83 x.insts.length 5 (m : Int) fr (by kernel_rfl) had84 (by omega) (by omega) ?_
 intro aC fr
 revert aC
 refine zls ((ad83 : Addr).add (((m : Int)).toNat * 5)) (iV i) (own_ins (gB_of (M79.get 7 rfl) hx (r := inR' x.iA x.ic x.insts) (by simp)) had84 hi) <| zal M79 39 [(.int .i64 0), (.int .i64 0), (.int .i64 0), (.string ⟨#[]⟩), (.slice none 0 0)] fun b89 w90 hb89 M91 => ?_
 replace M91 := M91.nf
 refine zss M91 9 (iV i) rfl fun w92 M93 => ?_
 replace M93 := M93.nf
 refine zfe <| zsr <| zpn 1 <| zld ⟨b89, 0, none⟩ (.int .i64 i.op) (blk_cell (M93.get 9 rfl) rfl) <| zcl (pure_c i.op w92) ?_
 rintro _ w94 ⟨rfl, M95x⟩
 have M95 := M93.cl M95x
 refine zfe <| zcD (pureQ i.op) (fun c96 => ?_) (fun c96 => ?_)
 have hid := hii.1 c96
 refine zrg <| zpn 2 <| zld ⟨b89, 1, none⟩ (.int .i64 i.dst) (blk_cell (M95.get 9 rfl) rfl) <| zpn 1 <| zld ⟨b89, 4, none⟩ (.slice i.A i.args.length i.c) (blk_cell (M95.get 9 rfl) rfl) <| zkp [(2, (pT b4 0)), (5, (pT q 0)), (6, (.slice (sM b19) n n)), (7, (pT b33 0)), (8, (pT b38 0)), (9, (.func (.func 52) #[] #[(pT b33 0), (pT b38 0)])), (11, (.pointer (some ⟨x.g, 0, none⟩))), (37, (.slice (some ad50) gs.length gc)), (38, (.int .i64 ((gs.length : Nat) : Int))), (39, (nV k)), (62, (.slice x.iA x.insts.length x.ic)), (63, (.int .i64 ((x.insts.length : Nat) : Int))), (64, (nV m)), (71, (.slice (sM b19) n n)), (73, (.int .i64 i.dst)), (75, (.slice i.A i.args.length i.c))] <| zix (h0 := hid.1) (h1 := hid.2) ⟨b19, 0, none⟩ n 1 i.dst <| zsw M95 8 ((⟨b19, 0, none⟩ : Addr).add ((i.dst).toNat * 1)) ((i.dst).toNat * 1) (.slice i.A i.args.length i.c) rfl rfl (by omega) fun w97 M98 => ?_
 replace M98 := M98.nf
 refine zfe <| zrg <| zar ((m : Int) + 1) <| zpn 1 <| zfe ?_
 have M99 := M98.od [8, 8, 8, 8, 8, 8, 8, 8, 8] 9
 intro aC fr
 exact ⟨x.insts.length - (m + 1), by omega, m + 1, fc3.set i.dst.toNat (i.A, i.c, i.args), rl3, ls3, Al3, lc3, rfl, fr.kp [2, 5, 6, 7, 8, 9, 11, 37, 38, 39, 62, 63, 64], (M99.cast (by rw [frC_set, Nat.mul_one]; rfl)), by omega, by rw [List.length_set]; exact hfl3, hfs3.set hid.1 (.inst hxm him c96 rfl), fun a y ha hy => (hfd3 a y ha hy).set (hnnA y (List.mem_of_getElem? hy)) hid.1 (.inst hxm him c96 rfl), hdq3.ins hnn hxm hi c96 (by omega), hwk3, hao3, hrt3, hrq3.pure hi c96⟩
 refine zrg <| zpn 2 <| zld ⟨b89, 4, none⟩ (.slice i.A i.args.length i.c) (blk_cell (M95.get 9 rfl) rfl) <| zcl (reads_c9 i.args ls3 b33 b38 n n lc3 i.c i.A (sM b26) Al3 rl3 w94 (by first | omega | simp) hwk3.len (by omega) hwk3.cnt hial (Mem.pk_holds (l := [.blk b33 46 [(.slice (sM b26) n n)], .row 4 1 (sM b26) n n (bools rl3), .blk b38 37 [(.slice Al3 ls3.length lc3)], .row 3 1 Al3 ls3.length lc3 (ints ls3)]) (L := [.blk b4 24 [(.string ⟨#[]⟩), (.bool false), (.int .i64 0), (.int .i64 0), (.slice none 0 0)], .blk q 61 [(.string nm), (.bool wk), (.int .i64 pa), (.int .i64 va), (.slice bA bn bc), (.slice (some ad50) gs.length gc)], ptR (some ad50) gc gs, .pk (gs.map gB), .row 37 1 (sM b19) n n (frC fc3), .blk b89 39 (iV i)]) M95) (RO.gins (RO.pk_own (l := [.blk b33 46 [(.slice (sM b26) n n)], .row 4 1 (sM b26) n n (bools rl3), .blk b38 37 [(.slice Al3 ls3.length lc3)], .row 3 1 Al3 ls3.length lc3 (ints ls3)]) (L := [.blk b4 24 [(.string ⟨#[]⟩), (.bool false), (.int .i64 0), (.int .i64 0), (.slice none 0 0)], .blk q 61 [(.string nm), (.bool wk), (.int .i64 pa), (.int .i64 va), (.slice bA bn bc), (.slice (some ad50) gs.length gc)], ptR (some ad50) gc gs, .pk (gs.map gB), .row 37 1 (sM b19) n n (frC fc3), .blk b89 39 (iV i)]) M95 3 rfl) hxm him)) ?_
 rintro _ w104 ⟨Al102, lc103, rfl, M105x⟩
 have M105 : Mem noS w w104 [.blk b33 46 [(.slice (sM b26) n n)], .row 4 1 (sM b26) n n (bools ((readsS i.args (rl3, ls3)).1)), .blk b38 37 [(.slice Al102 (((readsS i.args (rl3, ls3)).2).length) lc103)], .row 3 1 Al102 (((readsS i.args (rl3, ls3)).2).length) lc103 (ints ((readsS i.args (rl3, ls3)).2)), .blk b4 24 [(.string ⟨#[]⟩), (.bool false), (.int .i64 0), (.int .i64 0), (.slice none 0 0)], .blk q 61 [(.string nm), (.bool wk), (.int .i64 pa), (.int .i64 va), (.slice bA bn bc), (.slice (some ad50) gs.length gc)], ptR (some ad50) gc gs, .pk (gs.map gB), .row 37 1 (sM b19) n n (frC fc3), .blk b89 39 (iV i)] := M95.mdk M105x
 refine zfe <| zrg <| zar ((m : Int) + 1) <| zkp [(2, (pT b4 0)), (5, (pT q 0)), (6, (.slice (sM b19) n n)), (7, (pT b33 0)), (8, (pT b38 0)), (9, (.func (.func 52) #[] #[(pT b33 0), (pT b38 0)])), (11, (.pointer (some ⟨x.g, 0, none⟩))), (37, (.slice (some ad50) gs.length gc)), (38, (.int .i64 ((gs.length : Nat) : Int))), (39, (nV k)), (62, (.slice x.iA x.insts.length x.ic)), (63, (.int .i64 ((x.insts.length : Nat) : Int))), (81, (.int .i64 ((m : Int) + 1)))] <| zpn 1 <| zfe ?_
 have M106 := M105.od [8, 8, 8, 8, 8, 8, 8, 8, 8] 9
 intro aC fr
 exact ⟨x.insts.length - (m + 1), by omega, m + 1, fc3, (readsS i.args (rl3, ls3)).1, (readsS i.args (rl3, ls3)).2, Al102, lc103, rfl, fr.kp [2, 5, 6, 7, 8, 9, 11, 37, 38, 39, 62, 63, 64], M106, by omega, hfl3, hfs3, hfd3, hdq3.not hi c96, hwk3.reads hial (fun v_ h_ h0_ => .inst (i := i.e0) (List.mem_map.2 ⟨x, hxm, rfl⟩) (List.mem_map.2 ⟨i, him, rfl⟩) c96 h_ h0_), hao3.reads hrl3 hial, fun a y ha hy => (hrt3 a y ha hy).keep hrl3 hial, hrq3.read hi hrl3 hial⟩
 refine zex 4 <| zbh <| zsr ?_
 have M109 := M79.od [8, 8, 8, 8, 8, 8, 8, 8, 8] 9
 have hrq9 : RootQ rl3 x x.insts.length := by have h9 := hrq3; rwa [show m = x.insts.length by omega] at h9
 have hdq9 : DefQ gs fc3 x x.phis.length x.insts.length := by have h9 := hdq3; rwa [show m = x.insts.length by omega] at h9
 have hfd9 := all_done hfd3 hx hdq9
 have hrl3 := hwk3.len
 refine zpn 3 <| zld ⟨x.g, 2, none⟩ (.int .i64 x.e) (gB_cell (M109.get 7 rfl) hx (j := 2) rfl) <| zpn 2 ?_
 obtain ⟨B110, hB110⟩ : ∃ B : Bool, B = ((x.e : Int) == 1) := ⟨_, rfl⟩
 refine zkp [(2, (pT b4 0)), (5, (pT q 0)), (6, (.slice (sM b19) n n)), (7, (pT b33 0)), (8, (pT b38 0)), (9, (.func (.func 52) #[] #[(pT b33 0), (pT b38 0)])), (11, (.pointer (some ⟨x.g, 0, none⟩))), (37, (.slice (some ad50) gs.length gc)), (38, (.int .i64 ((gs.length : Nat) : Int))), (39, (nV k)), (87, (.bool ((x.e : Int) == 1)))] ?_
 rw [← hB110]
 have iB110 : B110 = true ↔ ((x.e : Int) = 1) := by rw [hB110]; simp only [beq_iff_eq]
 clear hB110
 intro aC fr
 refine zpk 3 9 [90] fr (news := [(90, (cond (!B110) (.pointer (some ⟨x.g, 2, none⟩)) undef))]) (by cases B110 <;> kernel_rfl) ?_
 intro aC fr
 cases B110
 have c110 : ¬ ((x.e : Int) = 1) := (fun h => Bool.noConfusion (iB110.2 h) : ¬ ((x.e : Int) = 1))
 revert aC
 refine zld ⟨x.g, 2, none⟩ (.int .i64 x.e) (gB_cell (M109.get 7 rfl) hx (j := 2) rfl) <| zpn 2 <| zfe <| zcP ((x.e : Int) == 2) ((x.e : Int) = 2) (by simp only [beq_iff_eq]) (fun c115 => ?_) (fun c115 => ?_)
 have hfn := hxi.fin (.inr c115)
 have hvl9 : ∀ a, a ∈ [x.v] → a < (n : Int) := by intro a ha; simp only [List.mem_singleton] at ha; subst ha; omega
 refine zrg <| zpn 4 <| zld ⟨x.g, 3, none⟩ (.int .i64 x.v) (gB_cell (M109.get 7 rfl) hx (j := 3) rfl) ?_
 intro aC fr
 refine zBs 99 37 1 #[(0, (.tmp 98))] 37 fr (e := 3) (size := 1) (zs := [(.int .i64 0)]) (vs := [(0, (.int .i64 x.v))]) (cs := [(.int .i64 x.v)]) M109 ?_
 intro b116 w117 hb116 _ M118 _ aC ea fr; clear ea
 replace M118 := M118.nf
 revert aC
 refine zcl (reads_c9 [x.v] ls3 b33 b38 n n lc3 1 (sM b116) (sM b26) Al3 rl3 w117 (by first | omega | simp) hwk3.len (by omega) hwk3.cnt hvl9 (Mem.pk_holds (l := [.blk b33 46 [(.slice (sM b26) n n)], .row 4 1 (sM b26) n n (bools rl3), .blk b38 37 [(.slice Al3 ls3.length lc3)], .row 3 1 Al3 ls3.length lc3 (ints ls3)]) (L := [.blk b4 24 [(.string ⟨#[]⟩), (.bool false), (.int .i64 0), (.int .i64 0), (.slice none 0 0)], .blk q 61 [(.string nm), (.bool wk), (.int .i64 pa), (.int .i64 va), (.slice bA bn bc), (.slice (some ad50) gs.length gc)], ptR (some ad50) gc gs, .pk (gs.map gB), .row 37 1 (sM b19) n n (frC fc3), .row 3 1 (sM b116) 1 1 [(.int .i64 x.v)]]) M118) (RO.row_rd (RO.pk_own (l := [.blk b33 46 [(.slice (sM b26) n n)], .row 4 1 (sM b26) n n (bools rl3), .blk b38 37 [(.slice Al3 ls3.length lc3)], .row 3 1 Al3 ls3.length lc3 (ints ls3)]) (L := [.blk b4 24 [(.string ⟨#[]⟩), (.bool false), (.int .i64 0), (.int .i64 0), (.slice none 0 0)], .blk q 61 [(.string nm), (.bool wk), (.int .i64 pa), (.int .i64 va), (.slice bA bn bc), (.slice (some ad50) gs.length gc)], ptR (some ad50) gc gs, .pk (gs.map gB), .row 37 1 (sM b19) n n (frC fc3), .row 3 1 (sM b116) 1 1 [(.int .i64 x.v)]]) M118 5 rfl))) ?_
 rintro _ w125 ⟨Al123, lc124, rfl, M126x⟩
 have M126 : Mem noS w w125 [.blk b33 46 [(.slice (sM b26) n n)], .row 4 1 (sM b26) n n (bools ((readsS [x.v] (rl3, ls3)).1)), .blk b38 37 [(.slice Al123 (((readsS [x.v] (rl3, ls3)).2).length) lc124)], .row 3 1 Al123 (((readsS [x.v] (rl3, ls3)).2).length) lc124 (ints ((readsS [x.v] (rl3, ls3)).2)), .blk b4 24 [(.string ⟨#[]⟩), (.bool false), (.int .i64 0), (.int .i64 0), (.slice none 0 0)], .blk q 61 [(.string nm), (.bool wk), (.int .i64 pa), (.int .i64 va), (.slice bA bn bc), (.slice (some ad50) gs.length gc)], ptR (some ad50) gc gs, .pk (gs.map gB), .row 37 1 (sM b19) n n (frC fc3), .row 3 1 (sM b116) 1 1 [(.int .i64 x.v)]] := M118.mdk M126x
 refine zfe <| zrg <| zar ((k : Int) + 1) <| zpn 1 <| zfe ?_
 have M127 := M126.od [8, 8, 8, 8, 8, 8, 8, 8, 8] 9
 intro aC fr
 exact ⟨gs.length - (k + 1), by omega, k + 1, fc3, (readsS [x.v] (rl3, ls3)).1, (readsS [x.v] (rl3, ls3)).2, Al123, lc124, rfl, fr.kp [2, 5, 6, 7, 8, 9, 37, 38, 39], M127, by omega, hfl3, hfs3, hfd9, hwk3.reads hvl9 (fun v_ h_ h0_ => by simp only [List.mem_singleton] at h_; subst h_; exact .fin (x := x.f) (List.mem_map.2 ⟨x, hxm, rfl⟩) (.inr c115) h0_), hao3.reads hrl3 hvl9, all_done (fun a y ha hy => (hrt3 a y ha hy).keep hrl3 hvl9) hx ⟨hrq9.keep hrl3 hvl9, fun _ h0_ => marks_new hrl3 hvl9 (List.mem_singleton_self _) h0_⟩⟩
 refine zsk <| zrg <| zar ((k : Int) + 1) <| zpn 1 <| zfe ?_
 have M130 := M109.od [8, 8, 8, 8, 8, 8, 8, 8, 8] 9
 intro aC fr
 exact ⟨gs.length - (k + 1), by omega, k + 1, fc3, rl3, ls3, Al3, lc3, rfl, fr.kp [2, 5, 6, 7, 8, 9, 37, 38, 39], M130, by omega, hfl3, hfs3, hfd9, hwk3, hao3, all_done hrt3 hx ⟨hrq9, fun h_ => absurd h_ (not_or.2 ⟨c110, c115⟩)⟩⟩
 have c110 : ((x.e : Int) = 1) := iB110.1 rfl
 have hfn := hxi.fin (.inl c110)
 have hvl9 : ∀ a, a ∈ [x.v] → a < (n : Int) := by intro a ha; simp only [List.mem_singleton] at ha; subst ha; omega
 revert aC
 refine zpn 3 <| zfe <| zcT <| zrg <| zpn 4 <| zld ⟨x.g, 3, none⟩ (.int .i64 x.v) (gB_cell (M109.get 7 rfl) hx (j := 3) rfl) ?_
 intro aC fr
 refine zBs 99 37 1 #[(0, (.tmp 98))] 37 fr (e := 3) (size := 1) (zs := [(.int .i64 0)]) (vs := [(0, (.int .i64 x.v))]) (cs := [(.int .i64 x.v)]) M109 ?_
 intro b133 w134 hb133 _ M135 _ aC ea fr; clear ea
 replace M135 := M135.nf
 revert aC
 refine zcl (reads_c9 [x.v] ls3 b33 b38 n n lc3 1 (sM b133) (sM b26) Al3 rl3 w134 (by first | omega | simp) hwk3.len (by omega) hwk3.cnt hvl9 (Mem.pk_holds (l := [.blk b33 46 [(.slice (sM b26) n n)], .row 4 1 (sM b26) n n (bools rl3), .blk b38 37 [(.slice Al3 ls3.length lc3)], .row 3 1 Al3 ls3.length lc3 (ints ls3)]) (L := [.blk b4 24 [(.string ⟨#[]⟩), (.bool false), (.int .i64 0), (.int .i64 0), (.slice none 0 0)], .blk q 61 [(.string nm), (.bool wk), (.int .i64 pa), (.int .i64 va), (.slice bA bn bc), (.slice (some ad50) gs.length gc)], ptR (some ad50) gc gs, .pk (gs.map gB), .row 37 1 (sM b19) n n (frC fc3), .row 3 1 (sM b133) 1 1 [(.int .i64 x.v)]]) M135) (RO.row_rd (RO.pk_own (l := [.blk b33 46 [(.slice (sM b26) n n)], .row 4 1 (sM b26) n n (bools rl3), .blk b38 37 [(.slice Al3 ls3.length lc3)], .row 3 1 Al3 ls3.length lc3 (ints ls3)]) (L := [.blk b4 24 [(.string ⟨#[]⟩), (.bool false), (.int .i64 0), (.int .i64 0), (.slice none 0 0)], .blk q 61 [(.string nm), (.bool wk), (.int .i64 pa), (.int .i64 va), (.slice bA bn bc), (.slice (some ad50) gs.length gc)], ptR (some ad50) gc gs, .pk (gs.map gB), .row 37 1 (sM b19) n n (frC fc3), .row 3 1 (sM b133) 1 1 [(.int .i64 x.v)]]) M135 5 rfl))) ?_
 rintro _ w142 ⟨Al140, lc141, rfl, M143x⟩
 have M143 : Mem noS w w142 [.blk b33 46 [(.slice (sM b26) n n)], .row 4 1 (sM b26) n n (bools ((readsS [x.v] (rl3, ls3)).1)), .blk b38 37 [(.slice Al140 (((readsS [x.v] (rl3, ls3)).2).length) lc141)], .row 3 1 Al140 (((readsS [x.v] (rl3, ls3)).2).length) lc141 (ints ((readsS [x.v] (rl3, ls3)).2)), .blk b4 24 [(.string ⟨#[]⟩), (.bool false), (.int .i64 0), (.int .i64 0), (.slice none 0 0)], .blk q 61 [(.string nm), (.bool wk), (.int .i64 pa), (.int .i64 va), (.slice bA bn bc), (.slice (some ad50) gs.length gc)], ptR (some ad50) gc gs, .pk (gs.map gB), .row 37 1 (sM b19) n n (frC fc3), .row 3 1 (sM b133) 1 1 [(.int .i64 x.v)]] := M135.mdk M143x
 refine zfe <| zrg <| zar ((k : Int) + 1) <| zpn 1 <| zfe ?_
 have M144 := M143.od [8, 8, 8, 8, 8, 8, 8, 8, 8] 9
 intro aC fr
 exact ⟨gs.length - (k + 1), by omega, k + 1, fc3, (readsS [x.v] (rl3, ls3)).1, (readsS [x.v] (rl3, ls3)).2, Al140, lc141, rfl, fr.kp [2, 5, 6, 7, 8, 9, 37, 38, 39], M144, by omega, hfl3, hfs3, hfd9, hwk3.reads hvl9 (fun v_ h_ h0_ => by simp only [List.mem_singleton] at h_; subst h_; exact .fin (x := x.f) (List.mem_map.2 ⟨x, hxm, rfl⟩) (.inl c110) h0_), hao3.reads hrl3 hvl9, all_done (fun a y ha hy => (hrt3 a y ha hy).keep hrl3 hvl9) hx ⟨hrq9.keep hrl3 hvl9, fun _ h0_ => marks_new hrl3 hvl9 (List.mem_singleton_self _) h0_⟩⟩
 refine zex 0 <| zbh <| zsq <| zbk 6 ?_
 have hwk1 : Wk gs n fc rl ls := hwk.begin hao
 have hfdA := all_all hfd (by omega)
 have hrtA := all_all hrt (by omega)
 have M147 := M46.od [8, 8, 8, 8, 8, 8, 8, 8, 8] 9
 intro aC fr
 refine zlp (fun n_ a_ w_ => ∃ (rl4 : List Bool) (ls4 : List Int) (Al4 : Option Addr) (lc4 : Nat), n_ = 2 * (n - cntB rl4) + ls4.length ∧ Fr a_ 152 [(2, (pT b4 0)), (5, (pT q 0)), (6, (.slice (sM b19) n n)), (7, (pT b33 0)), (8, (pT b38 0)), (9, (.func (.func 52) #[] #[(pT b33 0), (pT b38 0)]))] ∧ Mem noS w w_ [.blk b33 46 [(.slice (sM b26) n n)], .row 4 1 (sM b26) n n (bools rl4), .blk b38 37 [(.slice Al4 ls4.length lc4)], .row 3 1 Al4 ls4.length lc4 (ints ls4), .blk b4 24 [(.string ⟨#[]⟩), (.bool false), (.int .i64 0), (.int .i64 0), (.slice none 0 0)], .blk q 61 [(.string nm), (.bool wk), (.int .i64 pa), (.int .i64 va), (.slice bA bn bc), (.slice gA gs.length gc)], ptR gA gc gs, .pk (gs.map gB), .row 37 1 (sM b19) n n (frC fc)] ∧ (Wk gs n fc rl4 ls4) ∧ (∀ y, y ∈ gs → RootA rl4 y)) (n := _) ⟨rl, ls, Al, lc, rfl, fr.kp [2, 5, 6, 7, 8, 9], M147, hwk1, hrtA⟩ ?_
 clear fr aC M147; rintro n aC w150 ⟨rl4, ls4, Al4, lc4, rfl, fr, M151, hwk4, hrt4⟩
 revert aC
 refine zsq <| zsr <| zld ⟨b38, 0, none⟩ (.slice Al4 ls4.length lc4) (blk_cell (M151.get 2 rfl) rfl) <| zpn 2 <| zfe <| zcD ((((ls4.length : Nat) : Int) : Int) > 0) (fun c154 => ?_) (fun c154 => ?_)
 refine zsk <| zbk 7 <| zsr ?_
 have hrl4 := hwk4.len
 obtain ⟨ls5, v, hl45⟩ := snoc_of (l := ls4) (by omega)
 have hls5 : ls4.length = ls5.length + 1 := by rw [hl45]; exact len_snoc _ _
 have hwk6 : Wk gs n fc rl4 (ls5 ++ [v]) := hl45 ▸ hwk4
 obtain ⟨hv0_, hvn, hvm⟩ := hwk6.lst v (by simp)
 obtain ⟨e, he⟩ := get_of (l := fc) (i := v.toNat) (by omega)
 have heg : e = (none, 0, []) ∨ GArg gs v e := by have h9 := hfs v.toNat e he; rwa [Int.toNat_of_nonneg hv0_] at h9
 have hel : ∀ a, a ∈ e.2.2 → a < (n : Int) := by
           rcases heg with rfl | hg_
           · intro a ha; cases ha
           · intro a ha
             cases hg_ with
             | @phi x p hx hp ed => exact ((((hgi x hx).phis p hp).2.2.1) a ha).2
             | @inst x i hx hi hp ed => exact ((((hgi x hx).insts i hi).2.2) a ha).2
 have hell : e.2.2.length ≤ 20000 := by
           rcases heg with rfl | hg_
           · simp
           · cases hg_ with
             | @phi x p hx hp ed => exact ((hgi x hx).phis p hp).2.1
             | @inst x i hx hi hp ed => exact ((hgi x hx).insts i hi).2.1
 have hcb4 := cntB_le rl4
 have hcn4 := hwk4.cnt
 refine zld ⟨b38, 0, none⟩ (.slice Al4 ls4.length lc4) (blk_cell (M151.get 2 rfl) rfl) <| zld ⟨b38, 0, none⟩ (.slice Al4 ls4.length lc4) (blk_cell (M151.get 2 rfl) rfl) <| zpn 1 ?_
 intro aC fr
 refine From_ar (some 108) ((ls5.length : Nat) : Int) fr (z0 := ((ls4.length : Nat) : Int) - 1) (by kernel_rfl) (by omega) (by omega) (by omega) ?_
 intro aC fr
 obtain ⟨ad159, rfl⟩ := row_some' (M151.get 3 rfl) (by omega)
 revert aC
 refine zix (h0 := (by omega)) (h1 := (by omega)) ad159 ls4.length 1 ((ls5.length : Nat) : Int) ?_
 refine zld ((ad159 : Addr).add ((((ls5.length : Nat) : Int)).toNat * 1)) (.int .i64 v) (rd_int_at (row_rd (M151.get 3 rfl)) (by rw [hl45, List.getElem?_append_right (Nat.le_refl _), Nat.sub_self]; rfl)) ?_
 refine zpn 1 <| zfe <| zsr <| zld ⟨b38, 0, none⟩ (.slice (some ad159) ls4.length lc4) (blk_cell (M151.get 2 rfl) rfl) <| zld ⟨b38, 0, none⟩ (.slice (some ad159) ls4.length lc4) (blk_cell (M151.get 2 rfl) rfl) <| zpn 1 ?_
 intro aC fr
 refine From_ar (some 114) ((ls5.length : Nat) : Int) fr (z0 := ((ls4.length : Nat) : Int) - 1) (by kernel_rfl) (by omega) (by omega) (by omega) ?_
 intro aC fr
 revert aC
 refine zkp [(2, (pT b4 0)), (5, (pT q 0)), (6, (.slice (sM b19) n n)), (7, (pT b33 0)), (8, (pT b38 0)), (9, (.func (.func 52) #[] #[(pT b33 0), (pT b38 0)])), (16, (.int .i64 v)), (111, (.slice (some ad159) ls4.length lc4)), (114, (.int .i64 ((ls5.length : Nat) : Int)))] ?_
 have hcl4 := row_le (M151.get 3 rfl)
 refine zhi (A := (some ad159)) (cap := lc4) (i := ((ls5.length : Nat) : Int)) ls5.length rfl (by omega) ?_ (by kernel_rfl)
 refine zsb (ho := (by simp)) M151 2 0 (.slice (some ad159) ls5.length lc4) rfl fun w164 M165 => ?_
 replace M165 := M165.nf
 refine zfe <| zrg ?_
 have hMt := (M165.take_row 3 rfl ls5.length (by omega)).nf
 have M166 : Mem noS w w164 [.blk b33 46 [(.slice (sM b26) n n)], .row 4 1 (sM b26) n n (bools rl4), .blk b38 37 [(.slice (some ad159) ls5.length lc4)], .row 3 1 (some ad159) ls5.length lc4 (ints ls5), .blk b4 24 [(.string ⟨#[]⟩), (.bool false), (.int .i64 0), (.int .i64 0), (.slice none 0 0)], .blk q 61 [(.string nm), (.bool wk), (.int .i64 pa), (.int .i64 va), (.slice bA bn bc), (.slice gA gs.length gc)], ptR gA gc gs, .pk (gs.map gB), .row 37 1 (sM b19) n n (frC fc)] := hMt.cast (by rw [Nat.mul_one, hl45, ints_take_snoc])
 clear hMt
 have hwk5 : ls5.length ≤ cntB rl4 := by omega
 refine zpn 3 <| zix (h0 := hv0_) (h1 := hvn) ⟨b19, 0, none⟩ n 1 v <| zld ((⟨b19, 0, none⟩ : Addr).add ((v).toNat * 1)) (.slice e.1 e.2.2.length e.2.1) (rd_get1 (row_rd (M166.get 8 rfl)) rfl (frC_at he)) <| zcl (reads_c9 e.2.2 ls5 b33 b38 n n lc4 e.2.1 e.1 (sM b26) (some ad159) rl4 w164 (by first | omega | simp) hwk4.len (by omega) hwk5 hel (Mem.pk_holds (l := [.blk b33 46 [(.slice (sM b26) n n)], .row 4 1 (sM b26) n n (bools rl4), .blk b38 37 [(.slice (some ad159) ls5.length lc4)], .row 3 1 (some ad159) ls5.length lc4 (ints ls5)]) (L := [.blk b4 24 [(.string ⟨#[]⟩), (.bool false), (.int .i64 0), (.int .i64 0), (.slice none 0 0)], .blk q 61 [(.string nm), (.bool wk), (.int .i64 pa), (.int .i64 va), (.slice bA bn bc), (.slice gA gs.length gc)], ptR gA gc gs, .pk (gs.map gB), .row 37 1 (sM b19) n n (frC fc)]) M166) ((by rcases heg with rfl | hg_; exact RO.nil_; exact RO.garg (RO.pk_own (l := [.blk b33 46 [(.slice (sM b26) n n)], .row 4 1 (sM b26) n n (bools rl4), .blk b38 37 [(.slice (some ad159) ls5.length lc4)], .row 3 1 (some ad159) ls5.length lc4 (ints ls5)]) (L := [.blk b4 24 [(.string ⟨#[]⟩), (.bool false), (.int .i64 0), (.int .i64 0), (.slice none 0 0)], .blk q 61 [(.string nm), (.bool wk), (.int .i64 pa), (.int .i64 va), (.slice bA bn bc), (.slice gA gs.length gc)], ptR gA gc gs, .pk (gs.map gB), .row 37 1 (sM b19) n n (frC fc)]) M166 3 rfl) hg_))) ?_
 rintro _ w169 ⟨Al167, lc168, rfl, M170x⟩
 have M170 : Mem noS w w169 [.blk b33 46 [(.slice (sM b26) n n)], .row 4 1 (sM b26) n n (bools ((readsS e.2.2 (rl4, ls5)).1)), .blk b38 37 [(.slice Al167 (((readsS e.2.2 (rl4, ls5)).2).length) lc168)], .row 3 1 Al167 (((readsS e.2.2 (rl4, ls5)).2).length) lc168 (ints ((readsS e.2.2 (rl4, ls5)).2)), .blk b4 24 [(.string ⟨#[]⟩), (.bool false), (.int .i64 0), (.int .i64 0), (.slice none 0 0)], .blk q 61 [(.string nm), (.bool wk), (.int .i64 pa), (.int .i64 va), (.slice bA bn bc), (.slice gA gs.length gc)], ptR gA gc gs, .pk (gs.map gB), .row 37 1 (sM b19) n n (frC fc)] := M166.mdk M170x
 refine zfe ?_
 have M171 := M170.od [8, 8, 8, 8, 8, 8, 8, 8, 8] 9
 intro aC fr
 exact ⟨2 * (n - cntB (readsS e.2.2 (rl4, ls5)).1) + (readsS e.2.2 (rl4, ls5)).2.length, by have h1_ := readsS_cnt e.2.2 (rl4, ls5) (by show ∀ a, a ∈ e.2.2 → a < (rl4.length : Int); rw [hrl4]; exact hel); have h2_ := readsS_mono e.2.2 (rl4, ls5); have h3_ := cntB_le (readsS e.2.2 (rl4, ls5)).1; rw [readsS_len] at h3_; simp only at h1_ h2_ h3_; omega, (readsS e.2.2 (rl4, ls5)).1, (readsS e.2.2 (rl4, ls5)).2, Al167, lc168, rfl, fr.kp [2, 5, 6, 7, 8, 9], M171, hwk6.pop he heg hel, fun y hy => ⟨(hrt4 y hy).1.keep hrl4 hel, fun a_ b_ => marks_keep hrl4 hel ((hrt4 y hy).2 a_ b_)⟩⟩
 refine zex 6 <| zbh <| zsq <| zsr ?_
 have hls4 : ls4 = [] := List.length_eq_zero_iff.1 (by omega)
 have hmk : Marks gs rl4 := marks_all (hls4 ▸ hwk4) hgood2 (fun v hv => rd_lt hgi hv) hfdA hrt4
 have hrln := hwk4.len
 refine zpn 3 <| zld ⟨q, 5, none⟩ (.slice gA gs.length gc) (blk_cell (M151.get 5 rfl) rfl) <| zpn 2 <| zfe <| zbk 8 ?_
 have M174 := M151.od [8, 8, 8, 8, 8, 8, 8, 8, 8] 9
 intro aC fr
 refine zlp (fun n_ a_ w_ => ∃ (k : Nat) (hd : List GBlk), n_ = gs.length - k ∧ Fr a_ 152 [(2, (pT b4 0)), (5, (pT q 0)), (7, (pT b33 0)), (125, (.slice gA gs.length gc)), (126, (.int .i64 ((gs.length : Nat) : Int))), (127, (nV k))] ∧ Mem noS w w_ [.blk b33 46 [(.slice (sM b26) n n)], .row 4 1 (sM b26) n n (bools rl4), .blk b38 37 [(.slice Al4 ls4.length lc4)], .row 3 1 Al4 ls4.length lc4 (ints ls4), .blk b4 24 [(.string ⟨#[]⟩), (.bool false), (.int .i64 0), (.int .i64 0), (.slice none 0 0)], .blk q 61 [(.string nm), (.bool wk), (.int .i64 pa), (.int .i64 va), (.slice bA bn bc), (.slice gA gs.length gc)], ptR gA gc gs, .pk ((gs.drop k).map gB), .row 37 1 (sM b19) n n (frC fc), .pk (hd.map gB)] ∧ (k ≤ gs.length) ∧ (hd.map GBlk.k = (gs.take k).map (fun x => (delG rl4 x).k)) ∧ (hd.map (fun x => x.g) = (gs.take k).map (fun x => x.g))) (n := _) ⟨0, [], rfl, fr.kp [2, 5, 7, 125, 126, 127], (M174.call (Mem.nilpk _)), Nat.zero_le _, rfl, rfl⟩ ?_
 clear fr aC M174; rintro n aC w177 ⟨k, hd, rfl, fr, M178, hk, hhd, hhg⟩
 revert aC
 refine zsp <| zsq <| zcD (((k : Int) : Int) < ((gs.length : Nat) : Int)) (fun c181 => ?_) (fun c181 => ?_)
 refine zsk <| zsq <| zbk 9 <| zsr ?_
 obtain ⟨x, hx⟩ := get_of (l := gs) (i := k) (by omega)
 have hxm := List.mem_of_getElem? hx
 have hxi := hgi x hxm
 have hlp := hxi.lp
 have hli := hxi.li
 have M182 := M178.od [9, 9, 8, 8, 8, 8, 8, 8, 8, 9] 10
 have M183 : Mem noS w w177 [gB x, .pk ((gs.drop (k + 1)).map gB), .blk b33 46 [(.slice (sM b26) n n)], .row 4 1 (sM b26) n n (bools rl4), .blk b38 37 [(.slice Al4 ls4.length lc4)], .row 3 1 Al4 ls4.length lc4 (ints ls4), .blk b4 24 [(.string ⟨#[]⟩), (.bool false), (.int .i64 0), (.int .i64 0), (.slice none 0 0)], .blk q 61 [(.string nm), (.bool wk), (.int .i64 pa), (.int .i64 va), (.slice bA bn bc), (.slice gA gs.length gc)], ptR gA gc gs, .row 37 1 (sM b19) n n (frC fc), .pk (hd.map gB)] := (M182.cast (by rw [drop_map_at gB hx])).pk_cons
 have M184 : Mem noS w w177 [.blk x.g 65 [(.slice x.pA x.phis.length x.pc), (.slice x.iA x.insts.length x.ic), (.int .i64 x.e), (.int .i64 x.v), (.int .i64 x.a), (.int .i64 x.b), (.bool x.gone)], gpR x.pA x.pc x.phis, inR' x.iA x.ic x.insts, .pk (x.phis.map frmP), .pk (x.phis.map argG), .pk (x.insts.map argI), .pk ((gs.drop (k + 1)).map gB), .blk b33 46 [(.slice (sM b26) n n)], .row 4 1 (sM b26) n n (bools rl4), .blk b38 37 [(.slice Al4 ls4.length lc4)], .row 3 1 Al4 ls4.length lc4 (ints ls4), .blk b4 24 [(.string ⟨#[]⟩), (.bool false), (.int .i64 0), (.int .i64 0), (.slice none 0 0)], .blk q 61 [(.string nm), (.bool wk), (.int .i64 pa), (.int .i64 va), (.slice bA bn bc), (.slice gA gs.length gc)], ptR gA gc gs, .row 37 1 (sM b19) n n (frC fc), .pk (hd.map gB)] := Mem.unpack (l := gL x) M183
 have M185 : Mem noS w w177 [.blk x.g 65 [(.slice x.pA x.phis.length x.pc), (.slice x.iA x.insts.length x.ic), (.int .i64 x.e), (.int .i64 x.v), (.int .i64 x.a), (.int .i64 x.b), (.bool x.gone)], .row 67 3 x.pA x.phis.length x.pc (x.phis.flatMap GPhi.cells), .row 39 5 x.iA x.insts.length x.ic (x.insts.flatMap FIns.cells), .pk (x.phis.map frmP), .pk (x.phis.map argG), .pk (x.insts.map argI), .pk ((gs.drop (k + 1)).map gB), .blk b33 46 [(.slice (sM b26) n n)], .row 4 1 (sM b26) n n (bools rl4), .blk b38 37 [(.slice Al4 ls4.length lc4)], .row 3 1 Al4 ls4.length lc4 (ints ls4), .blk b4 24 [(.string ⟨#[]⟩), (.bool false), (.int .i64 0), (.int .i64 0), (.slice none 0 0)], .blk q 61 [(.string nm), (.bool wk), (.int .i64 pa), (.int .i64 va), (.slice bA bn bc), (.slice gA gs.length gc)], ptR gA gc gs, .row 37 1 (sM b19) n n (frC fc), .pk (hd.map gB)] := M184
 obtain ⟨ad186, rfl⟩ := row_at (M185.get 13 rfl) (by unfold ptrs; rw [List.length_map]; omega)
 refine zix ad186 gs.length 1 (k : Int) <| zld ((ad186 : Addr).add (((k : Int)).toNat * 1)) (.pointer (some ⟨x.g, 0, none⟩)) (own_ptr (M185.get 13 rfl) rfl hx) <| zpn 1 <| zfe <| zsr <| zpn 4 <| zld ⟨x.g, 0, none⟩ (.slice x.pA x.phis.length x.pc) (blk_cell (M185.get 0 rfl) rfl) <| zpn 1 <| zcl (dphi_dl x.phis x.pA x.pc b33 n n (sM b26) rl4 w177 (by omega) (M185.get 1 rfl) hrln (Mem.own_but M185 7 1 rfl rfl (by omega)) (RO.row_rd (Mem.own_but M185 8 1 rfl rfl (by omega))) (fun p hp => (hxi.phis p hp).1)) ?_
 rintro _ w189 ⟨dA187, dc188, rfl, M190x⟩
 have M190 := M185.md 1 rfl M190x
 refine zpn 2 <| zsb (ho := (by simp)) M190 0 0 (.slice dA187 ((x.phis.filter (fun p => !delP rl4 p)).length) dc188) rfl fun w191 M192 => ?_
 replace M192 := M192.nf
 refine zfe <| zrg <| zpn 4 <| zld ⟨x.g, 1, none⟩ (.slice x.iA x.insts.length x.ic) (blk_cell (M192.get 0 rfl) rfl) <| zkp [(2, (pT b4 0)), (5, (pT q 0)), (7, (pT b33 0)), (125, (.slice (some ad186) gs.length gc)), (126, (.int .i64 ((gs.length : Nat) : Int))), (127, (nV k)), (140, (.pointer (some ⟨x.g, 0, none⟩))), (144, (.slice x.iA x.insts.length x.ic))] <| zpn 1 <| zcl (dins_dl x.insts x.iA x.ic b33 n n (sM b26) rl4 w191 (by omega) (M192.get 2 rfl) hrln (Mem.own_but M192 7 2 rfl rfl (by omega)) (RO.row_rd (Mem.own_but M192 8 2 rfl rfl (by omega))) (fun i hi hp => (hxi.insts i hi).1 hp)) ?_
 rintro _ w195 ⟨dA193, dc194, rfl, M196x⟩
 have M196 := M192.md 2 rfl M196x
 refine zpn 2 <| zsb (ho := (by simp)) M196 0 1 (.slice dA193 ((x.insts.filter (fun i => !delI rl4 i)).length) dc194) rfl fun w197 M198 => ?_
 replace M198 := M198.nf
 refine zfe <| zrg ?_
 have M199 := M198.od [15, 15, 15, 15, 15, 15, 15, 15, 15, 15, 15, 15, 14, 14, 14, 15] 16
 have M200 : Mem noS w w197 [.pk ((x.phis.filter (fun p => !delP rl4 p)).map frmP), .blk x.g 65 [(.slice dA187 ((x.phis.filter (fun p => !delP rl4 p)).length) dc188), (.slice dA193 ((x.insts.filter (fun i => !delI rl4 i)).length) dc194), (.int .i64 x.e), (.int .i64 x.v), (.int .i64 x.a), (.int .i64 x.b), (.bool x.gone)], .row 67 3 dA187 ((x.phis.filter (fun p => !delP rl4 p)).length) dc188 ((x.phis.filter (fun p => !delP rl4 p)).flatMap GPhi.cells), .row 39 5 dA193 ((x.insts.filter (fun i => !delI rl4 i)).length) dc194 ((x.insts.filter (fun i => !delI rl4 i)).flatMap FIns.cells), .pk (x.phis.map argG), .pk (x.insts.map argI), .pk ((gs.drop (k + 1)).map gB), .blk b33 46 [(.slice (sM b26) n n)], .row 4 1 (sM b26) n n (bools rl4), .blk b38 37 [(.slice Al4 ls4.length lc4)], .row 3 1 Al4 ls4.length lc4 (ints ls4), .blk b4 24 [(.string ⟨#[]⟩), (.bool false), (.int .i64 0), (.int .i64 0), (.slice none 0 0)], .blk q 61 [(.string nm), (.bool wk), (.int .i64 pa), (.int .i64 va), (.slice bA bn bc), (.slice (some ad186) gs.length gc)], ptR (some ad186) gc gs, .row 37 1 (sM b19) n n (frC fc), .pk (hd.map gB)] := M199.pk_sub (List.filter_sublist.map frmP)
 have M201 := M200.od [15, 15, 15, 15, 15, 15, 15, 15, 15, 15, 15, 14, 14, 14, 14, 15] 16
 have M202 : Mem noS w w197 [.pk ((x.phis.filter (fun p => !delP rl4 p)).map argG), .pk ((x.phis.filter (fun p => !delP rl4 p)).map frmP), .blk x.g 65 [(.slice dA187 ((x.phis.filter (fun p => !delP rl4 p)).length) dc188), (.slice dA193 ((x.insts.filter (fun i => !delI rl4 i)).length) dc194), (.int .i64 x.e), (.int .i64 x.v), (.int .i64 x.a), (.int .i64 x.b), (.bool x.gone)], .row 67 3 dA187 ((x.phis.filter (fun p => !delP rl4 p)).length) dc188 ((x.phis.filter (fun p => !delP rl4 p)).flatMap GPhi.cells), .row 39 5 dA193 ((x.insts.filter (fun i => !delI rl4 i)).length) dc194 ((x.insts.filter (fun i => !delI rl4 i)).flatMap FIns.cells), .pk (x.insts.map argI), .pk ((gs.drop (k + 1)).map gB), .blk b33 46 [(.slice (sM b26) n n)], .row 4 1 (sM b26) n n (bools rl4), .blk b38 37 [(.slice Al4 ls4.length lc4)], .row 3 1 Al4 ls4.length lc4 (ints ls4), .blk b4 24 [(.string ⟨#[]⟩), (.bool false), (.int .i64 0), (.int .i64 0), (.slice none 0 0)], .blk q 61 [(.string nm), (.bool wk), (.int .i64 pa), (.int .i64 va), (.slice bA bn bc), (.slice (some ad186) gs.length gc)], ptR (some ad186) gc gs, .row 37 1 (sM b19) n n (frC fc), .pk (hd.map gB)] := M201.pk_sub (List.filter_sublist.map argG)
 have M203 := M202.od [15, 15, 15, 15, 15, 15, 15, 15, 15, 15, 14, 14, 14, 14, 14, 15] 16
 have M204 : Mem noS w w197 [.pk ((x.insts.filter (fun i => !delI rl4 i)).map argI), .pk ((x.phis.filter (fun p => !delP rl4 p)).map argG), .pk ((x.phis.filter (fun p => !delP rl4 p)).map frmP), .blk x.g 65 [(.slice dA187 ((x.phis.filter (fun p => !delP rl4 p)).length) dc188), (.slice dA193 ((x.insts.filter (fun i => !delI rl4 i)).length) dc194), (.int .i64 x.e), (.int .i64 x.v), (.int .i64 x.a), (.int .i64 x.b), (.bool x.gone)], .row 67 3 dA187 ((x.phis.filter (fun p => !delP rl4 p)).length) dc188 ((x.phis.filter (fun p => !delP rl4 p)).flatMap GPhi.cells), .row 39 5 dA193 ((x.insts.filter (fun i => !delI rl4 i)).length) dc194 ((x.insts.filter (fun i => !delI rl4 i)).flatMap FIns.cells), .pk ((gs.drop (k + 1)).map gB), .blk b33 46 [(.slice (sM b26) n n)], .row 4 1 (sM b26) n n (bools rl4), .blk b38 37 [(.slice Al4 ls4.length lc4)], .row 3 1 Al4 ls4.length lc4 (ints ls4), .blk b4 24 [(.string ⟨#[]⟩), (.bool false), (.int .i64 0), (.int .i64 0), (.slice none 0 0)], .blk q 61 [(.string nm), (.bool wk), (.int .i64 pa), (.int .i64 va), (.slice bA bn bc), (.slice (some ad186) gs.length gc)], ptR (some ad186) gc gs, .row 37 1 (sM b19) n n (frC fc), .pk (hd.map gB)] := M203.pk_sub (List.filter_sublist.map argI)
 have M205 := M204.od [15, 15, 15, 15, 15, 15, 15, 15, 15, 15, 10, 11, 12, 15, 15, 15] 16
 have M206 : Mem noS w w197 [gB (⟨x.g, dA187, dc188, (x.phis.filter (fun p => !delP rl4 p)), dA193, dc194, (x.insts.filter (fun i => !delI rl4 i)), x.e, x.v, x.a, x.b, x.gone⟩ : GBlk), .pk ((gs.drop (k + 1)).map gB), .blk b33 46 [(.slice (sM b26) n n)], .row 4 1 (sM b26) n n (bools rl4), .blk b38 37 [(.slice Al4 ls4.length lc4)], .row 3 1 Al4 ls4.length lc4 (ints ls4), .blk b4 24 [(.string ⟨#[]⟩), (.bool false), (.int .i64 0), (.int .i64 0), (.slice none 0 0)], .blk q 61 [(.string nm), (.bool wk), (.int .i64 pa), (.int .i64 va), (.slice bA bn bc), (.slice (some ad186) gs.length gc)], ptR (some ad186) gc gs, .row 37 1 (sM b19) n n (frC fc), .pk (hd.map gB)] := Mem.pack (l := gL (⟨x.g, dA187, dc188, (x.phis.filter (fun p => !delP rl4 p)), dA193, dc194, (x.insts.filter (fun i => !delI rl4 i)), x.e, x.v, x.a, x.b, x.gone⟩ : GBlk)) M205
 have M207 := M206.od [9, 9, 9, 9, 9, 9, 9, 9, 9, 9, 10] 11
 have M208 : Mem noS w w197 [.pk (hd.map gB ++ [gB (⟨x.g, dA187, dc188, (x.phis.filter (fun p => !delP rl4 p)), dA193, dc194, (x.insts.filter (fun i => !delI rl4 i)), x.e, x.v, x.a, x.b, x.gone⟩ : GBlk)]), .pk ((gs.drop (k + 1)).map gB), .blk b33 46 [(.slice (sM b26) n n)], .row 4 1 (sM b26) n n (bools rl4), .blk b38 37 [(.slice Al4 ls4.length lc4)], .row 3 1 Al4 ls4.length lc4 (ints ls4), .blk b4 24 [(.string ⟨#[]⟩), (.bool false), (.int .i64 0), (.int .i64 0), (.slice none 0 0)], .blk q 61 [(.string nm), (.bool wk), (.int .i64 pa), (.int .i64 va), (.slice bA bn bc), (.slice (some ad186) gs.length gc)], ptR (some ad186) gc gs, .row 37 1 (sM b19) n n (frC fc)] := M207.pk_push
 refine zar ((k : Int) + 1) <| zpn 1 <| zfe ?_
 have M209 := M208.od [0, 9, 2, 9, 9, 9, 9, 9, 9, 9] 10
 have M210 : Mem noS w w197 [.blk b33 46 [(.slice (sM b26) n n)], .row 4 1 (sM b26) n n (bools rl4), .blk b38 37 [(.slice Al4 ls4.length lc4)], .row 3 1 Al4 ls4.length lc4 (ints ls4), .blk b4 24 [(.string ⟨#[]⟩), (.bool false), (.int .i64 0), (.int .i64 0), (.slice none 0 0)], .blk q 61 [(.string nm), (.bool wk), (.int .i64 pa), (.int .i64 va), (.slice bA bn bc), (.slice (some ad186) gs.length gc)], ptR (some ad186) gc gs, .pk ((gs.drop (k + 1)).map gB), .row 37 1 (sM b19) n n (frC fc), .pk ((hd ++ [(⟨x.g, dA187, dc188, (x.phis.filter (fun p => !delP rl4 p)), dA193, dc194, (x.insts.filter (fun i => !delI rl4 i)), x.e, x.v, x.a, x.b, x.gone⟩ : GBlk)]).map gB)] := M209.cast (by rw [map_snoc])
 intro aC fr
 exact ⟨gs.length - (k + 1), by omega, k + 1, hd ++ [(⟨x.g, dA187, dc188, (x.phis.filter (fun p => !delP rl4 p)), dA193, dc194, (x.insts.filter (fun i => !delI rl4 i)), x.e, x.v, x.a, x.b, x.gone⟩ : GBlk)], rfl, fr.kp [2, 5, 7, 125, 126, 127], M210, by omega, take_map_snoc hhd hx rfl, take_map_snoc hhg hx rfl⟩
 refine zex 8 <| zbh <| zsr ?_
 rw [List.take_of_length_le (by omega)] at hhd hhg
 have hptr := ptR_same hhg gA gc
 have hhl : hd.length = gs.length := by have h9 := congrArg List.length hhg; simpa using h9
 have htk : ∀ y, y ∈ hd.map GBlk.k → ToOk (hd.length : Int) y := by rw [hhd, hhl]; exact del_ok (by omega) hgi
 have M213 := M178.od [8, 8, 6, 6, 6, 6, 6, 9, 9, 9] 10
 have M214 : Mem noS w w177 [.blk q 61 [(.string nm), (.bool wk), (.int .i64 pa), (.int .i64 va), (.slice bA bn bc), (.slice gA hd.length gc)], ptR gA gc hd, .pk (hd.map gB), .blk b33 46 [(.slice (sM b26) n n)], .row 4 1 (sM b26) n n (bools rl4), .blk b38 37 [(.slice Al4 ls4.length lc4)], .row 3 1 Al4 ls4.length lc4 (ints ls4), .blk b4 24 [(.string ⟨#[]⟩), (.bool false), (.int .i64 0), (.int .i64 0), (.slice none 0 0)], .pk ((gs.drop k).map gB), .row 37 1 (sM b19) n n (frC fc)] := M213.cast (by rw [hptr, hhl])
 refine zpn 1 <| zcl (To_c q nm wk pa va bA bn bc gA gc hd w177 (by omega) htk (Mem.pk_holds (l := [.blk q 61 [(.string nm), (.bool wk), (.int .i64 pa), (.int .i64 va), (.slice bA bn bc), (.slice gA hd.length gc)], ptR gA gc hd, .pk (hd.map gB)]) (L := [.blk b33 46 [(.slice (sM b26) n n)], .row 4 1 (sM b26) n n (bools rl4), .blk b38 37 [(.slice Al4 ls4.length lc4)], .row 3 1 Al4 ls4.length lc4 (ints ls4), .blk b4 24 [(.string ⟨#[]⟩), (.bool false), (.int .i64 0), (.int .i64 0), (.slice none 0 0)], .pk ((gs.drop k).map gB), .row 37 1 (sM b19) n n (frC fc)]) M214)) ?_
 rintro _ w215 ⟨B, cB, fd, rfl, hto, M216x⟩
 have M216 : Mem noS w w215 [blR B cB fd, .pk (fd.map ownB), .blk b33 46 [(.slice (sM b26) n n)], .row 4 1 (sM b26) n n (bools rl4), .blk b38 37 [(.slice Al4 ls4.length lc4)], .row 3 1 Al4 ls4.length lc4 (ints ls4), .blk b4 24 [(.string ⟨#[]⟩), (.bool false), (.int .i64 0), (.int .i64 0), (.slice none 0 0)], .pk ((gs.drop k).map gB), .row 37 1 (sM b19) n n (frC fc)] := M214.mdk M216x
 refine zss M216 6 [(.string nm), (.bool wk), (.int .i64 pa), (.int .i64 va), (.slice B ((bsOf fd).length) cB)] rfl fun w217 M218 => ?_
 replace M218 := M218.nf
 refine zpn 1 <| zfe <| zre <| zoct ⟨b4, 0, none⟩ 24 [(.string nm), (.bool wk), (.int .i64 pa), (.int .i64 va), (.slice B ((bsOf fd).length) cB)] (.int .i64 0) (blk_cells (M218.get 6 rfl)) ?_
 have M219 := M218.od [1, 1] 2
 exact .inr ⟨hv0, B, cB, fd, rfl, dead_to hgs hmk hgi (hhd ▸ hto), M219⟩
end Go.Proofs.Ytejbeeaomokjpaa
namespace Go.Proofs.Ytejbeeaomokjpaa
open Go.Mor
theorem great19_c (nm : ByteArray) (wk : Bool) (pa va : Int) (A : Option Addr) (c : Nat) (fs : List FBlk) (w : World) (hok : FOk fs) (hA : RO noS w (.fn A fs)) :
    Calls Try.prog 36 #[(fA nm wk pa va A c fs)] w (Ret fun v w' => v = .bool (decide (greatQ va fs)) ∧ Mem noS w w' []) := by
 have hbl := bsOf_len fs
 have hB := hA.bs
 refine zen 51 [(fA nm wk pa va A c fs)] Try.func36 ?_
 have hM := Mem.init w
 refine zsr <| zbx hM 24 (fA nm wk pa va A c fs) (fV nm wk pa va A c fs) fun b1 w2 hb1 M3 => ?_
 replace M3 := M3.nf
 clear hM
 refine zpn 1 <| zfe <| zsq <| zsr <| zpn 1 <| zld ⟨b1, 4, none⟩ (.slice A ((bsOf fs).length) c) (blk_cell (M3.get 0 rfl) rfl) <| zpn 3 ?_
 obtain ⟨B4, hB4⟩ : ∃ B : Bool, B = decide (((((bsOf fs).length : Nat) : Int) : Int) > 60) := ⟨_, rfl⟩
 refine zkp [(1, (pT b1 0)), (9, (.bool (decide (((((bsOf fs).length : Nat) : Int) : Int) > 60))))] ?_
 rw [← hB4]
 have iB4 : B4 = true ↔ (((((bsOf fs).length : Nat) : Int) : Int) > 60) := by rw [hB4]; simp only [decide_eq_true_eq]
 clear hB4
 intro aC fr
 refine zpk 1 6 [10] fr (news := [(10, (cond (!B4) (pT b1 3) undef))]) (by cases B4 <;> kernel_rfl) ?_
 intro aC fr
 refine From_either (B := (!B4)) (d := (some 11)) (.int .i64 va) fr (by cases B4 <;> kernel_rfl) (fun hB hh => ?_) ?_
 cases B4 <;> first | (exact absurd hB (by decide)) | skip
 have c4 : ¬ (((((bsOf fs).length : Nat) : Int) : Int) > 60) := (fun h => Bool.noConfusion (iB4.2 h) : ¬ (((((bsOf fs).length : Nat) : Int) : Int) > 60))
 exact From_ld (some 11) ⟨b1, 3, none⟩ fr (by kernel_rfl) (.int .i64 va) (blk_cell (M3.get 0 rfl) rfl) hh
 intro aC fr
 refine zpk 2 9 [13] fr (news := [(13, (.bool (B4 || decide ((va : Int) > 3000))))]) (by cases B4 <;> kernel_rfl) ?_
 intro aC fr
 revert aC
 refine zfe <| zcP (B4 || decide ((va : Int) > 3000)) ((((((bsOf fs).length : Nat) : Int) : Int) > 60) ∨ ((va : Int) > 3000)) (by simp only [Bool.or_eq_true, decide_eq_true_eq, iB4]) (fun c13 => ?_) (fun c13 => ?_)
 refine zsr <| zpn 1 <| zld ⟨b1, 3, none⟩ (.int .i64 va) (blk_cell (M3.get 0 rfl) rfl) <| zpn 2 ?_
 obtain ⟨B14, hB14⟩ : ∃ B : Bool, B = decide ((va : Int) ≤ 20000) := ⟨_, rfl⟩
 refine zkp [(1, (pT b1 0)), (17, (.bool (decide ((va : Int) ≤ 20000))))] ?_
 rw [← hB14]
 have iB14 : B14 = true ↔ ((va : Int) ≤ 20000) := by rw [hB14]; simp only [decide_eq_true_eq]
 clear hB14
 intro aC fr
 refine zpk 1 5 [18] fr (news := [(18, (cond (!B14) (pT b1 4) undef))]) (by cases B14 <;> kernel_rfl) ?_
 intro aC fr
 refine From_either (B := (!B14)) (d := (some 19)) (.slice A ((bsOf fs).length) c) fr (by cases B14 <;> kernel_rfl) (fun hB hh => ?_) ?_
 cases B14 <;> first | (exact absurd hB (by decide)) | skip
 have c14 : ¬ ((va : Int) ≤ 20000) := (fun h => Bool.noConfusion (iB14.2 h) : ¬ ((va : Int) ≤ 20000))
 exact From_ld (some 19) ⟨b1, 4, none⟩ fr (by kernel_rfl) (.slice A ((bsOf fs).length) c) (blk_cell (M3.get 0 rfl) rfl) hh
 intro aC fr
 refine zpk 4 10 [2, 22] fr (news := [(2, (.bool (B14 || decide (((((bsOf fs).length : Nat) : Int) : Int) > 60)))), (22, (.bool (B14 || decide (((((bsOf fs).length : Nat) : Int) : Int) > 60))))]) (by cases B14 <;> kernel_rfl) ?_
 intro aC fr
 revert aC
 refine zfe <| zre <| zo1 (.bool (B14 || decide (((((bsOf fs).length : Nat) : Int) : Int) > 60))) ?_
 have hR : (B14 || decide (((((bsOf fs).length : Nat) : Int) : Int) > 60)) = true ↔ (((va : Int) ≤ 20000) ∨ (((((bsOf fs).length : Nat) : Int) : Int) > 60)) := by simp only [Bool.or_eq_true, decide_eq_true_eq, iB14]
 have M23 := M3.od [] 0
 exact ⟨bool_dec hR (by unfold greatQ; omega), M23⟩
 have hl60 : fs.length ≤ 60 := by omega
 refine zsk <| zsp <| zsq <| zsp <| zbk 0 ?_
 intro aC fr
 refine zlp (fun n_ a_ w_ => ∃ (k : Nat), n_ = fs.length - k ∧ Fr a_ 51 [(1, (pT b1 0)), (3, (.int .i64 ((greatTo fs k : Nat) : Int))), (4, (nV k))] ∧ Mem noS w w_ [.blk b1 24 (fV nm wk pa va A c fs)] ∧ (k ≤ fs.length)) (n := _) ⟨0, rfl, fr.kp [1, 3, 4], M3, by omega⟩ ?_
 clear fr aC M3; rintro n aC w26 ⟨k, rfl, fr, M27, hk⟩
 revert aC
 refine zsq <| zsr <| zpn 2 <| zld ⟨b1, 4, none⟩ (.slice A ((bsOf fs).length) c) (blk_cell (M27.get 0 rfl) rfl) <| zpn 2 <| zfe <| zcD (((k : Int) : Int) < (((bsOf fs).length : Nat) : Int)) (fun c30 => ?_) (fun c30 => ?_)
 refine zsk <| zsq <| zbk 1 ?_
 obtain ⟨x, hx⟩ := get_of (l := fs) (i := k) (by omega)
 have hl1 : x.phis.length ≤ 281474976710656 := (hok.get hx).lp
 have hl2 : x.insts.length ≤ 281474976710656 := (hok.get hx).li
 have hgl := greatTo_le fs k hk
 have hgs := greatTo_succ hx
 obtain ⟨ad31, rfl⟩ := blocks_some (M27.ro hB) (bsOf_get hx)
 refine zkp [(1, (pT b1 0)), (3, (.int .i64 ((greatTo fs k : Nat) : Int))), (4, (nV k))] ?_
 intro aC fr
 refine zdr (N := 51) (env0 := [(1, (pT b1 0)), (3, (.int .i64 ((greatTo fs k : Nat) : Int))), (4, (nV k))]) (specAt [.det (.int .i64 ((greatTo fs k : Nat) : Int)), .det (pT b1 4), .det (.slice (some ad31) ((bsOf fs).length) c), .det (nV k), .det (.pointer (some ((ad31 : Addr).add (((k : Int)).toNat * 6)))), .det (.pointer (some ((ad31 : Addr).add (((k : Int)).toNat * 6)))), .det (.slice x.pA x.phis.length x.pc), .det (.int .i64 ((x.phis.length : Nat) : Int)), .det (.int .i64 ((min x.phis.length 5000 : Nat) : Int)), .det (.int .i64 (((greatTo fs k : Nat) : Int) + ((min x.phis.length 5000 : Nat) : Int))), .det (pT b1 4), .det (.slice (some ad31) ((bsOf fs).length) c), .det (nV k), .det (.pointer (some ((ad31 : Addr).add (((k : Int)).toNat * 6)))), .det (.pointer (some (((ad31 : Addr).add (((k : Int)).toNat * 6)).add 1))), .det (.slice x.iA x.insts.length x.ic), .det (.int .i64 ((x.insts.length : Nat) : Int)), .det (.int .i64 ((min x.insts.length 5000 : Nat) : Int)), .det (.int .i64 (((greatTo fs (k + 1) : Nat) : Int))), .det (.int .i64 (((greatTo fs (k + 1) : Nat) : Int)))]) fr (la (la (la (la (la (la (la (la (la (la (la (la (la (la (la (la (la (la (la (la lz dP) dP) (dL ⟨b1, 4, none⟩ (.slice (some ad31) ((bsOf fs).length) c) fun w_ hK => (blk_cell ((M27.then_ hK).get 0 rfl) rfl))) dP) (dI ad31 ((bsOf fs).length) 6 (k : Int))) dP) (dL ((ad31 : Addr).add (((k : Int)).toNat * 6)) (.slice x.pA x.phis.length x.pc) fun w_ hK => (fblk_get ((M27.then_ hK).ro hB) rfl hx 0 _ rfl))) dP) (dMN .i64 ((x.phis.length : Nat) : Int) 5000 ((min x.phis.length 5000 : Nat) : Int) (.tmp 37) (.const (.int .i64 5000)) #[3, 3] 3 none (by split <;> omega))) (dA (((greatTo fs k : Nat) : Int) + ((min x.phis.length 5000 : Nat) : Int)))) dP) (dL ⟨b1, 4, none⟩ (.slice (some ad31) ((bsOf fs).length) c) fun w_ hK => (blk_cell ((M27.then_ hK).get 0 rfl) rfl))) dP) (dI ad31 ((bsOf fs).length) 6 (k : Int))) dP) (dL (((ad31 : Addr).add (((k : Int)).toNat * 6)).add 1) (.slice x.iA x.insts.length x.ic) fun w_ hK => (fblk_get ((M27.then_ hK).ro hB) rfl hx 1 _ rfl))) dP) (dMN .i64 ((x.insts.length : Nat) : Int) 5000 ((min x.insts.length 5000 : Nat) : Int) (.tmp 46) (.const (.int .i64 5000)) #[3, 3] 3 none (by split <;> omega))) ?_) dP) ?_
 intro aa_ w_ vs rest_ hK hp hF
 refine okG (g0 := none) ?_
 replace hF : Fr aa_ 51 [(39, (.int .i64 (((greatTo fs k : Nat) : Int) + ((min x.phis.length 5000 : Nat) : Int)))), (47, (.int .i64 ((min x.insts.length 5000 : Nat) : Int)))] := hF.kp [39, 47]
 refine From_arith (by kernel_rfl : coreAt _ 0 = some (some 48, (.binOp .add 3 (.tmp 39) (.tmp 47) 3), 3, none)) hF (by kernel_rfl) (by kernel_rfl) (k' := 1) rfl (i := (((greatTo fs k : Nat) : Int) + ((min x.phis.length 5000 : Nat) : Int))) (j := ((min x.insts.length 5000 : Nat) : Int)) (z := (((greatTo fs (k + 1) : Nat) : Int))) (by kernel_rfl) (by kernel_rfl) (congrArg some (by omega)) (by omega) (by omega) ?_
 intro a2 ea _
 refine From_end (by kernel_rfl) ?_; exact op_done (d := some 48) (by kernel_rfl) ea (Kp.refl _) rfl
 intro aC w36 vs hK hv fr
 revert aC; refine zkp [(1, (pT b1 0)), (3, (.int .i64 (((greatTo fs (k + 1) : Nat) : Int)))), (4, (nV k))] ?_
 have M37 := M27.then_ hK
 clear hK hv fr aC M27; clear vs
 refine zrg <| zpn 1 <| zar ((k : Int) + 1) <| zpn 1 <| zfe ?_
 intro aC fr
 exact ⟨fs.length - (k + 1), by omega, k + 1, rfl, fr.kp [1, 3, 4], M37, by omega⟩
 refine zex 0 <| zbh <| zsp <| zre <| zo1 (.bool (decide ((((greatTo fs k : Nat) : Int) : Int) > 3000))) ?_
 have hR : decide ((((greatTo fs k : Nat) : Int) : Int) > 3000) = true ↔ ((((greatTo fs k : Nat) : Int) : Int) > 3000) := by simp only [decide_eq_true_eq]
 have M40 := M27.od [] 0
 exact ⟨bool_dec hR (by unfold greatQ; (try rw [show k = fs.length by omega]); omega), M40⟩
end Go.Proofs.Ytejbeeaomokjpaa
namespace Go.Mor
def caseQ (i : FIns) (lo mo : Int) (bn bm : Bool) : Prop :=
  (makesQ i.op ∨ i.dst = -1) ∧ (bn = true ∧ (bm = true ↔ i.name.size ≠ 0) ∧ (bm = true → nameQ i.name) ∧ lo ≤ (i.args.length : Int) ∧ (i.args.length : Int) ≤ mo)
section
variable {i : FIns} {lo mo : Int} {bn bm : Bool} {N : Prop}
theorem caseF (hn : bn = true ↔ N) : caseQ i lo mo bn false ↔ ((makesQ i.op ∨ i.dst = -1) ∧ N ∧ i.name.size = 0 ∧ lo ≤ (i.args.length : Int) ∧ (i.args.length : Int) ≤ mo) := by
  unfold caseQ
  rw [hn]
  simp only [Bool.false_eq_true, false_iff, ne_eq, Decidable.not_not, false_implies, true_and]
theorem caseT (hn : bn = true ↔ N) : caseQ i lo mo bn true ↔ ((makesQ i.op ∨ i.dst = -1) ∧ N ∧ nameQ i.name ∧ lo ≤ (i.args.length : Int) ∧ (i.args.length : Int) ≤ mo) := by
  unfold caseQ
  rw [hn]
  simp only [true_iff, ne_eq, true_implies]
  constructor
  · rintro ⟨h1, h2, h3, h4, h5⟩; exact ⟨h1, h2, h4, h5⟩
  · rintro ⟨h1, h2, h3, h4⟩; exact ⟨h1, h2, by unfold nameQ at h3; omega, h3, h4⟩
theorem rshape_fin {x : Bool} (hx : (x = true) = (i.name.size = 0)) (hs : shapeQ i ↔ caseQ i lo mo bn bm) (hc : ¬ (¬ makesQ i.op ∧ i.dst ≠ -1)) :
    (((((bn = true) ∧ (bm = (!x))) ∧ ((¬ (bm = true)) ∨ (nameQ i.name))) ∧ ((i.args.length : Int) ≥ lo)) ∧ ((i.args.length : Int) ≤ mo)) ↔ shapeQ i := by
  rw [hs]
  have hc' : makesQ i.op ∨ i.dst = -1 := by
    by_cases h : makesQ i.op
    · exact .inl h
    · exact .inr (Classical.not_not.1 (fun e => hc ⟨h, e⟩))
  cases bm with
  | false =>
    rw [caseF Iff.rfl, ← hx]
    cases x
    · simp
    · simp only [Bool.not_true, Bool.false_eq_true, not_false_eq_true, true_or, and_true, true_and, hc']
      constructor
      · rintro ⟨⟨h1, h2⟩, h3⟩; exact ⟨h1, h2, h3⟩
      · rintro ⟨h1, h2, h3⟩; exact ⟨⟨h1, h2⟩, h3⟩
  | true =>
    rw [caseT Iff.rfl]
    have hne : nameQ i.name → x = false := by
      intro h
      rw [Bool.eq_false_iff]
      intro e
      rw [hx] at e
      unfold nameQ at h
      omega
    constructor
    · rintro ⟨⟨⟨⟨h1, h2⟩, h3⟩, h4⟩, h5⟩
      rcases h3 with h3 | h3
      · exact absurd rfl h3
      · exact ⟨hc', h1, h3, h4, h5⟩
    · rintro ⟨_, h1, h3, h4, h5⟩
      exact ⟨⟨⟨⟨h1, by rw [hne h3]; rfl⟩, .inr h3⟩, h4⟩, h5⟩
theorem rshape_no (hc : ¬ makesQ i.op ∧ i.dst ≠ -1) : ¬ shapeQ i := fun h => h.1.elim hc.1 hc.2
theorem litT : (true = true) ↔ True := by simp
theorem litF : (false = true) ↔ False := by simp
end
end Go.Mor
