/-
  Texts of the proof, part 11.
-/
import Derived.Test.YtdcgcjibgihbbaaZg10
import Derived.Scope
set_option maxRecDepth 10000
namespace Go.Mor
open Go.RowKit
def scOf : Code → Code
  | .scope (.seq (.label _) c) => c
  | c => c
def isSc : Code → Bool
  | .scope (.seq (.label _) _) => true
  | _ => false
section
variable {P : Program} {c : Code} {K : Act → World → Prop} {Q : Exit → Act → World → Prop} {w : World} {N : FN} {env : Env}
theorem W_sc {a : Act} (hk : isSc c = true) (h : W P (scOf c) K (Exit.noGoto Q) a w) : W P c K Q a w := by
  unfold isSc at hk
  split at hk
  · refine wp_scope_straight (wp_seq (wp_label ?_))
    refine wp_mono h ?_
    intro e a w he
    cases e <;> exact he
  · cases hk
theorem zsc (h : ∀ a, Fr a N env → W P (scOf c) K (Exit.noGoto Q) a w) (hk : isSc c = true := by kernel_rfl) : ∀ a, Fr a N env → W P c K Q a w := fun a hF => W_sc hk (h a hF)
theorem zng (h : ∀ a, Fr a N env → Q .ret a w) : ∀ a, Fr a N env → Exit.noGoto Q .ret a w := h
theorem noG_pan {a : Act} {v : Value} (h : Q (pan v) a w) : Exit.noGoto Q (pan v) a w := h
end
end Go.Mor
namespace Go.Proofs.Ytdcgcjibgihbbaa
open Go.Mor
set_option maxHeartbeats 4000000 in
theorem texpr_c (C : TC) (s : PSt) (oA : Option Addr) (oc : Nat) (w : World) (hC : C.WF) (hG : TGood C s) (hR : (Res.pk (tunL C s oA oc)).holds w) (hA : RO (tS C s oA oc) w C.ro) (g : Nat) (hE : ExOk Try.prog C 90 (exS C.E g) (g : Int)) (hK : CallT Try.prog C 55 (callT C.E g) (g : Int)) (e : MEx) (f : Frm) (cb lq m : Nat) (hb : C.E.fuel - s.steps < (g : Int) + 1) (hse : SubE C.T e) (hwe : ExW (m : Int) e) (hfl : f.loc.length = m) (hFB : RO (tS C s oA oc) w (frmB cb lq m f)) (hFR : RO (tS C s oA oc) w (.rd (sM lq) (ints f.loc))) :
    TCalls Try.prog C s oA oc w 90 [(pT C.r 0), (pT cb 0), (.agg (EC e).toArray)] intV (exprF C.E (callT C.E g) (exS C.E g f.loc) f.loc e s) := by
 have exF_eq : exprF C.E (callT C.E g) (exS C.E g f.loc) f.loc e s = (stepS C.E.toEnv0 s).bind fun _ s => exprB C.E (callT C.E g) (exS C.E g f.loc) f.loc e s := rfl
 refine xen 224 [(pT C.r 0), (pT cb 0), (.agg (EC e).toArray)] Try.func90 ?_
 have hM := Mem.unpk hR
 refine zsr <| zbx hM 53 (.agg (EC e).toArray) (EC e) fun b1 w2 hb1 M3 => ?_
 replace M3 := M3.nf
 clear hM
 refine zpn 1 <| zfe <| zsr <| zpn 1 <| zce (tstep_c C s oA oc w2 hC hG (Mem.pk_holds (l := tunL C s oA oc) M3)) (fun _ w2_ ⟨k_, c_, s_, oA_, oc_, hg_, hv_, hG_, hx_⟩ a_ hf_ => by subst hv_; exact xpp hf_ ⟨k_, c_, s_, oA_, oc_, by rw [exF_eq, gbind_stop hg_], rfl, hG_, Mem.tk (Mem.mdk (l := tunL C s oA oc) M3 hx_) 3⟩) ?_
 rintro _ w9 ⟨u8, s4, oA5, oc6, hg7, rfl, hGs4, M10x⟩
 have M10 : Mem (tS C s oA oc) w w9 [tb_ C s4 oA5 oc6, tm_ C s4, to_ s4 oA5 oc6, .blk b1 53 (EC e)] := M3.mdk M10x
 obtain ⟨hss4, hos4⟩ := stepT_steps hg7
 refine zfe <| zsq <| zsr <| zpn 1 <| zld ⟨b1, 0, none⟩ (vI e.op) (blk_cell (M10.get 3 rfl) rfl) <| zfe <| zbk 0 <| zsp <| zcQ e.op 1 (fun c11 => ?_) (fun c11 => ?_)
 refine zsr <| zpn 1 <| zld ⟨b1, 1, none⟩ (vI e.n) (blk_cell (M10.get 3 rfl) rfl) <| zpn 1 <| zfe <| zre <| zbr <| xo1 (vI e.n) ?_
 exact ⟨_, s4, oA5, oc6, by rw [exF_eq, gbind_ok hg7, ex_1 (by omega)], rfl, hGs4, M10.tk 3⟩
 refine zsp <| zcQ e.op 2 (fun c12 => ?_) (fun c12 => ?_)
 refine zsq <| zkp [(0, (pT C.r 0)), (1, (pT cb 0)), (5, (pT b1 0)), (18, (vI e.op))] ?_
 intro aC fr
 refine zdt 6 (N := 224) (env0 := [(0, (pT C.r 0)), (1, (pT cb 0)), (5, (pT b1 0)), (18, (vI e.op))]) (specAt [.det (pT cb 0), .det (pT cb 0), .det (pT cb 0), .det (vS (sM lq) m m), .det (pT b1 1), .det (vI e.n)]) fr (la (la (la (la (la (la lz dP) dP) dP) (dL ⟨cb, 0, none⟩ (vS (sM lq) m m) fun w_ hK => (blk_cell ((M10.then_ hK).ro hFB) rfl))) dP) (dL ⟨b1, 1, none⟩ (vI e.n) fun w_ hK => (blk_cell ((M10.then_ hK).get 3 rfl) rfl))) ?_
 intro aC w17 vs hK hv fr
 revert aC; refine zkp [(28, (vS (sM lq) m m)), (30, (vI e.n))] ?_
 have M18 := M10.then_ hK
 clear hK hv fr aC M10; clear vs
 refine zix (h0 := (by have := hwe.sh.loc (by omega); omega)) (h1 := (by have := hwe.sh.loc (by omega); omega)) ⟨lq, 0, none⟩ m 1 e.n <| zld ((⟨lq, 0, none⟩ : Addr).add ((e.n).toNat * 1)) (vI (f.loc.getD e.n.toNat 0)) (rd_int (M18.ro hFR) rfl (hwe.sh.loc (by omega)).1 (by rw [hfl]; exact (hwe.sh.loc (by omega)).2)) <| zpn 1 <| zfe <| zre <| zbr <| xo1 (vI (f.loc.getD e.n.toNat 0)) ?_
 exact ⟨_, s4, oA5, oc6, by rw [exF_eq, gbind_ok hg7, ex_2 (by omega)], rfl, hGs4, M18.tk 3⟩
 refine zsp <| zcQ e.op 3 (fun c19 => ?_) (fun c19 => ?_)
 refine zsr ?_
 obtain ⟨k0_, hk0_⟩ := get_of (l := e.kids) (i := 0) (by have := hwe.sh.two; have := hwe.sh.one; have := hwe.sh.three; have := hwe.sh.op; omega)
 have hkm0_ := List.mem_of_getElem? hk0_
 have hkl0_ := (List.getElem?_eq_some_iff.1 hk0_).1
 refine zpn 3 <| zld ⟨b1, 3, none⟩ (vS e.A e.kids.length e.c) (blk_cell (M10.get 3 rfl) rfl) ?_
 obtain ⟨ad20, had21⟩ := rds_some (M10.ro (hA.tree hse.kids.1)) (cs := k0_.cells) (i := 0) (gm hk0_)
 intro aC fr
 refine From_ixA (some 39) e.A ad20 e.kids.length 4 0 fr (by kernel_rfl) had21 (by omega) (by omega) ?_
 intro aC fr
 revert aC
 refine zkp [(0, (pT C.r 0)), (1, (pT cb 0)), (5, (pT b1 0)), (35, (pT C.r 0)), (36, (pT cb 0)), (39, (.pointer (some ((ad20 : Addr).add ((0 : Int).toNat * 4)))))] ?_
 refine zls ((ad20 : Addr).add ((0 : Int).toNat * 4)) (EC k0_) (rds_cells (i := 0) (M10.ro (hA.tree hse.kids.1)) had21 (gm hk0_)) ?_
 refine zce (hE k0_ f cb lq m s4 oA5 oc6 w9 hGs4 (by omega) (Mem.pk_holds (l := tunL C s4 oA5 oc6) M10) (hA.pk_at (l := tunL C s4 oA5 oc6) M10) (hse.kids.2 k0_ hkm0_) (hwe.kid k0_ hkm0_) hfl (hFB.pk_at (l := tunL C s4 oA5 oc6) M10) (hFR.pk_at (l := tunL C s4 oA5 oc6) M10)) (fun _ w2_ ⟨k_, c_, s_, oA_, oc_, hg_, hv_, hG_, hx_⟩ a_ hf_ => by subst hv_; exact inB_pan <| xpp hf_ ⟨k_, c_, s_, oA_, oc_, by rw [exF_eq, gbind_ok hg7, ex_3 (by omega), kid_at hk0_, gbind_stop hg_], rfl, hG_, Mem.tk (Mem.mdk (l := tunL C s4 oA5 oc6) M10 hx_) 3⟩) ?_
 rintro _ w31 ⟨x26, s27, oA28, oc29, hg30, rfl, hGs27, M32x⟩
 have M32 : Mem (tS C s oA oc) w w31 [tb_ C s27 oA28 oc29, tm_ C s27, to_ s27 oA28 oc29, .blk b1 53 (EC e)] := M10.mdk M32x
 obtain ⟨hss27, hos27⟩ := (ev_stay C.E g).1 f.loc k0_ s4 x26 s27 hg30
 refine zpn 1 <| zfe <| zsq ?_
 obtain ⟨k1_, hk1_⟩ := get_of (l := e.kids) (i := 1) (by have := hwe.sh.two; have := hwe.sh.one; have := hwe.sh.three; have := hwe.sh.op; omega)
 have hkm1_ := List.mem_of_getElem? hk1_
 have hkl1_ := (List.getElem?_eq_some_iff.1 hk1_).1
 cases hg9_ : exS C.E g f.loc k1_ s27
 rename_i x33 s34
 obtain ⟨hss34, hos34⟩ := (ev_stay C.E g).1 f.loc k1_ s27 x33 s34 hg9_
 obtain ⟨ad35, had36⟩ := rds_some (M32.ro (hA.tree hse.kids.1)) (cs := k1_.cells) (i := 1) (gm hk1_)
 refine zkp [(0, (pT C.r 0)), (1, (pT cb 0)), (5, (pT b1 0)), (7, (vI x26))] ?_
 intro aC fr
 refine zdm 15 9 (N := 224) (env0 := [(0, (pT C.r 0)), (1, (pT cb 0)), (5, (pT b1 0)), (7, (vI x26))]) (specAt [.det (pT b1 1), .det (vI e.n), .det (vI x26), .det (pT C.r 0), .det (pT cb 0), .det (pT b1 3), .det (vS e.A e.kids.length e.c), .det (.pointer (some ((ad35 : Addr).add ((1 : Int).toNat * 4)))), .det (.agg (EC k1_).toArray), .det (vI x33), .det (.tuple #[(vI (binS e.n x26 x33).1), (vI (binS e.n x26 x33).2)]), .det (.tuple #[(vI (binS e.n x26 x33).1), (vI (binS e.n x26 x33).2)]), .det (vI (binS e.n x26 x33).1), .det (vI (binS e.n x26 x33).2), .det (vI (binS e.n x26 x33).1)]) (fun w_ => Mem (tS C s oA oc) w w_ [tb_ C s27 oA28 oc29, tm_ C s27, to_ s27 oA28 oc29, .blk b1 53 (EC e)]) (fun w_ => ∃ oA_ oc_, TGood C s34 ∧ Mem (tS C s oA oc) w w_ (tunL C s34 oA_ oc_ ++ [.blk b1 53 (EC e)])) (fun w_ => ∃ s_ oA_ oc_, Mem (tS C s oA oc) w w_ (tunL C s_ oA_ oc_ ++ [.blk b1 53 (EC e)])) fr (plain_ok (.det (.det (.det (.det (.det (.det (.det (.det (.det (.det (.det (.det (.det (.det (.det .nil)))))))))))))))) (M32.then_ (Mem.drew _)) (fun _ _ h_ hK_ => h_.then_ hK_) (fun _ _ ⟨oA_, oc_, hG_, h_⟩ hK_ => ⟨oA_, oc_, hG_, h_.then_ hK_⟩) (fun _ h_ => ⟨_, _, _, h_⟩) (fun _ ⟨_, _, _, h_⟩ => ⟨_, _, _, h_⟩) ?_ (by intro _; kernel_rfl) (dMu (vs := [pT C.r 0, pT cb 0, .agg k1_.cells.toArray]) (fun w_ hA_ => REnds.weak (tcalls_ok hg9_ (hE k1_ f cb lq m s27 oA28 oc29 w_ hGs27 (by omega) (Mem.pk_holds (l := tunL C s27 oA28 oc29) hA_) (hA.pk_at (l := tunL C s27 oA28 oc29) hA_) (hse.kids.2 k1_ hkm1_) (hwe.kid k1_ hkm1_) hfl (hFB.pk_at (l := tunL C s27 oA28 oc29) hA_) (hFR.pk_at (l := tunL C s27 oA28 oc29) hA_))) (fun _ _ ⟨h1_, oA_, oc_, hG_, hm_⟩ => ⟨h1_, oA_, oc_, hG_, Mem.mdk (l := tunL C s27 oA28 oc29) hA_ hm_⟩) (fun _ _ h_ => h_)) (fun _ _ _ _ h_ => h_.elim)) ?_
 · exact (la (la (la (la (la (la (la (la (la (la (la (la (la (la (la lz (fun _ w_ ⟨s_, oA_, oc_, hm_⟩ => dP)) (fun _ w_ ⟨s_, oA_, oc_, hm_⟩ => (dL ⟨b1, 1, none⟩ (vI e.n) fun w_ hK => (blk_cell ((hm_.then_ hK).get 3 rfl) rfl)))) (fun _ w_ ⟨s_, oA_, oc_, hm_⟩ => dP)) (fun _ w_ ⟨s_, oA_, oc_, hm_⟩ => dP)) (fun _ w_ ⟨s_, oA_, oc_, hm_⟩ => dP)) (fun _ w_ ⟨s_, oA_, oc_, hm_⟩ => dP)) (fun _ w_ ⟨s_, oA_, oc_, hm_⟩ => (dL ⟨b1, 3, none⟩ (vS e.A e.kids.length e.c) fun w_ hK => (blk_cell ((hm_.then_ hK).get 3 rfl) rfl)))) (fun _ w_ ⟨s_, oA_, oc_, hm_⟩ => (dIA e.A ad35 e.kids.length 4 1 had36))) (fun _ w_ ⟨s_, oA_, oc_, hm_⟩ => (dS ((ad35 : Addr).add ((1 : Int).toNat * 4)) (EC k1_) fun w_ hK => (rds_cells (i := 1) ((hm_.then_ hK).ro (hA.tree hse.kids.1)) had36 (gm hk1_))))) (fun h_ => absurd rfl h_)) (fun _ w_ ⟨s_, oA_, oc_, hm_⟩ => (dD (fun w_ hK => bin_c e.n x26 x33 w_) rfl))) (fun _ w_ ⟨s_, oA_, oc_, hm_⟩ => dP)) (fun _ w_ ⟨s_, oA_, oc_, hm_⟩ => dP)) (fun _ w_ ⟨s_, oA_, oc_, hm_⟩ => dP)) (fun _ w_ ⟨s_, oA_, oc_, hm_⟩ => dP))
 intro aC w41 vs hB_ hv fr
 revert aC; refine zkp [(0, (pT C.r 0)), (8, (vI (binS e.n x26 x33).1)), (55, (vI (binS e.n x26 x33).2))] ?_
 clear hv fr aC M32; clear vs
 obtain ⟨oA43, oc44, hGs34, M42⟩ := hB_
 replace M42 : Mem (tS C s oA oc) w w41 [tb_ C s34 oA43 oc44, tm_ C s34, to_ s34 oA43 oc44, .blk b1 53 (EC e)] := M42
 refine zpn 1 <| zfe <| zsq <| zsp <| zcP (((binS e.n x26 x33).2 : Int) != 0) (((binS e.n x26 x33).2 : Int) ≠ 0) (by simp only [bne_iff_ne]) (fun c45 => ?_) (fun c45 => ?_)
 refine zrg <| zpn 2 <| zce (tstop_c C.r 2 ((binS e.n x26 x33).2) w41) (fun _ w2_ ⟨hv_, hx_⟩ a_ hf_ => by subst hv_; exact inB_pan <| xpp hf_ (⟨_, _, s34, oA43, oc44, by rw [exF_eq, gbind_ok hg7, ex_3 (by omega), kid_at hk0_, gbind_ok hg30, kid_at hk1_, gbind_ok hg9_, if_neg (by omega)], rfl, hGs34, (M42.cl hx_).tk 3⟩)) ?_
 rintro _ w46 h_; exact h_.elim
 refine zsk <| zsp <| zre <| zbr <| xo1 (vI (binS e.n x26 x33).1) ?_
 exact ⟨_, s34, oA43, oc44, by rw [exF_eq, gbind_ok hg7, ex_3 (by omega), kid_at hk0_, gbind_ok hg30, kid_at hk1_, gbind_ok hg9_, if_pos (by omega)], rfl, hGs34, M42.tk 3⟩
 rename_i k_ c_ s_
 obtain ⟨ad48, had49⟩ := rds_some (M32.ro (hA.tree hse.kids.1)) (cs := k1_.cells) (i := 1) (gm hk1_)
 refine zkp [(0, (pT C.r 0)), (1, (pT cb 0)), (5, (pT b1 0)), (7, (vI x26))] ?_
 intro aC fr
 refine zdt 15 (N := 224) (env0 := [(0, (pT C.r 0)), (1, (pT cb 0)), (5, (pT b1 0)), (7, (vI x26))]) (specAt [.det (pT b1 1), .det (vI e.n), .det (vI x26), .det (pT C.r 0), .det (pT cb 0), .det (pT b1 3), .det (vS e.A e.kids.length e.c), .det (.pointer (some ((ad48 : Addr).add ((1 : Int).toNat * 4)))), .det (.agg (EC k1_).toArray), Spec.never, Spec.never, Spec.never, Spec.never, Spec.never, Spec.never]) fr (la (la (la (la (la (la (la (la (la (la (la (la (la (la (la lz dP) (dL ⟨b1, 1, none⟩ (vI e.n) fun w_ hK => (blk_cell ((M32.then_ hK).get 3 rfl) rfl))) dP) dP) dP) dP) (dL ⟨b1, 3, none⟩ (vS e.A e.kids.length e.c) fun w_ hK => (blk_cell ((M32.then_ hK).get 3 rfl) rfl))) (dIA e.A ad48 e.kids.length 4 1 had49)) (dS ((ad48 : Addr).add ((1 : Int).toNat * 4)) (EC k1_) fun w_ hK => (rds_cells (i := 1) ((M32.then_ hK).ro (hA.tree hse.kids.1)) had49 (gm hk1_)))) (dF (vs := [pT C.r 0, pT cb 0, .agg k1_.cells.toArray]) (Ψ := fun v w' => v = endT k_ c_ ∧ ∃ oA_ oc_, TGood C s_ ∧ Mem (tS C s oA oc) w w' (tunL C s_ oA_ oc_ ++ [.blk b1 53 (EC e)])) (fun w_ hK => REnds.weak (tcalls_stop hg9_ (hE k1_ f cb lq m s27 oA28 oc29 w_ hGs27 (by omega) (Mem.pk_holds (l := tunL C s27 oA28 oc29) (M32.then_ hK)) (hA.pk_at (l := tunL C s27 oA28 oc29) (M32.then_ hK)) (hse.kids.2 k1_ hkm1_) (hwe.kid k1_ hkm1_) hfl (hFB.pk_at (l := tunL C s27 oA28 oc29) (M32.then_ hK)) (hFR.pk_at (l := tunL C s27 oA28 oc29) (M32.then_ hK)))) (fun _ _ h_ => h_) (fun _ _ ⟨h1_, oA_, oc_, hG_, hm_⟩ => ⟨h1_, oA_, oc_, hG_, Mem.mdk (l := tunL C s27 oA28 oc29) (M32.then_ hK) hm_⟩)) (fun _ _ h_ a_ hd_ => by obtain ⟨rfl, oA_, oc_, hG_, hm_⟩ := h_; exact inB_pan <| xpd hd_ ⟨k_, c_, s_, oA_, oc_, by rw [exF_eq, gbind_ok hg7, ex_3 (by omega), kid_at hk0_, gbind_ok hg30, kid_at hk1_, gbind_stop hg9_], rfl, hG_, hm_.tk 3⟩))) (dN 9)) (dN 10)) (dN 11)) (dN 11)) (dN 12)) ?_
 intro aC w54 vs hK hv fr
 exact (hv 9 (by decide)).elim
 refine zsp <| zcQ e.op 4 (fun c56 => ?_) (fun c56 => ?_)
 refine zsq ?_
 obtain ⟨k0_, hk0_⟩ := get_of (l := e.kids) (i := 0) (by have := hwe.sh.two; have := hwe.sh.one; have := hwe.sh.three; have := hwe.sh.op; omega)
 have hkm0_ := List.mem_of_getElem? hk0_
 have hkl0_ := (List.getElem?_eq_some_iff.1 hk0_).1
 cases hg14_ : exS C.E g f.loc k0_ s4
 rename_i x57 s58
 obtain ⟨hss58, hos58⟩ := (ev_stay C.E g).1 f.loc k0_ s4 x57 s58 hg14_
 obtain ⟨ad59, had60⟩ := rds_some (M10.ro (hA.tree hse.kids.1)) (cs := k0_.cells) (i := 0) (gm hk0_)
 refine zkp [(0, (pT C.r 0)), (1, (pT cb 0)), (5, (pT b1 0)), (18, (vI e.op))] ?_
 intro aC fr
 refine zdm 14 8 (N := 224) (env0 := [(0, (pT C.r 0)), (1, (pT cb 0)), (5, (pT b1 0)), (18, (vI e.op))]) (specAt [.det (pT b1 1), .det (vI e.n), .det (pT C.r 0), .det (pT cb 0), .det (pT b1 3), .det (vS e.A e.kids.length e.c), .det (.pointer (some ((ad59 : Addr).add ((0 : Int).toNat * 4)))), .det (.agg (EC k0_).toArray), .det (vI x57), .det (.tuple #[(vI (unS e.n x57).1), (vI (unS e.n x57).2)]), .det (.tuple #[(vI (unS e.n x57).1), (vI (unS e.n x57).2)]), .det (vI (unS e.n x57).1), .det (vI (unS e.n x57).2), .det (vI (unS e.n x57).1)]) (fun w_ => Mem (tS C s oA oc) w w_ [tb_ C s4 oA5 oc6, tm_ C s4, to_ s4 oA5 oc6, .blk b1 53 (EC e)]) (fun w_ => ∃ oA_ oc_, TGood C s58 ∧ Mem (tS C s oA oc) w w_ (tunL C s58 oA_ oc_ ++ [.blk b1 53 (EC e)])) (fun w_ => ∃ s_ oA_ oc_, Mem (tS C s oA oc) w w_ (tunL C s_ oA_ oc_ ++ [.blk b1 53 (EC e)])) fr (plain_ok (.det (.det (.det (.det (.det (.det (.det (.det (.det (.det (.det (.det (.det (.det .nil))))))))))))))) (M10.then_ (Mem.drew _)) (fun _ _ h_ hK_ => h_.then_ hK_) (fun _ _ ⟨oA_, oc_, hG_, h_⟩ hK_ => ⟨oA_, oc_, hG_, h_.then_ hK_⟩) (fun _ h_ => ⟨_, _, _, h_⟩) (fun _ ⟨_, _, _, h_⟩ => ⟨_, _, _, h_⟩) ?_ (by intro _; kernel_rfl) (dMu (vs := [pT C.r 0, pT cb 0, .agg k0_.cells.toArray]) (fun w_ hA_ => REnds.weak (tcalls_ok hg14_ (hE k0_ f cb lq m s4 oA5 oc6 w_ hGs4 (by omega) (Mem.pk_holds (l := tunL C s4 oA5 oc6) hA_) (hA.pk_at (l := tunL C s4 oA5 oc6) hA_) (hse.kids.2 k0_ hkm0_) (hwe.kid k0_ hkm0_) hfl (hFB.pk_at (l := tunL C s4 oA5 oc6) hA_) (hFR.pk_at (l := tunL C s4 oA5 oc6) hA_))) (fun _ _ ⟨h1_, oA_, oc_, hG_, hm_⟩ => ⟨h1_, oA_, oc_, hG_, Mem.mdk (l := tunL C s4 oA5 oc6) hA_ hm_⟩) (fun _ _ h_ => h_)) (fun _ _ _ _ h_ => h_.elim)) ?_
 · exact (la (la (la (la (la (la (la (la (la (la (la (la (la (la lz (fun _ w_ ⟨s_, oA_, oc_, hm_⟩ => dP)) (fun _ w_ ⟨s_, oA_, oc_, hm_⟩ => (dL ⟨b1, 1, none⟩ (vI e.n) fun w_ hK => (blk_cell ((hm_.then_ hK).get 3 rfl) rfl)))) (fun _ w_ ⟨s_, oA_, oc_, hm_⟩ => dP)) (fun _ w_ ⟨s_, oA_, oc_, hm_⟩ => dP)) (fun _ w_ ⟨s_, oA_, oc_, hm_⟩ => dP)) (fun _ w_ ⟨s_, oA_, oc_, hm_⟩ => (dL ⟨b1, 3, none⟩ (vS e.A e.kids.length e.c) fun w_ hK => (blk_cell ((hm_.then_ hK).get 3 rfl) rfl)))) (fun _ w_ ⟨s_, oA_, oc_, hm_⟩ => (dIA e.A ad59 e.kids.length 4 0 had60))) (fun _ w_ ⟨s_, oA_, oc_, hm_⟩ => (dS ((ad59 : Addr).add ((0 : Int).toNat * 4)) (EC k0_) fun w_ hK => (rds_cells (i := 0) ((hm_.then_ hK).ro (hA.tree hse.kids.1)) had60 (gm hk0_))))) (fun h_ => absurd rfl h_)) (fun _ w_ ⟨s_, oA_, oc_, hm_⟩ => (dD (fun w_ hK => un_c e.n x57 w_) rfl))) (fun _ w_ ⟨s_, oA_, oc_, hm_⟩ => dP)) (fun _ w_ ⟨s_, oA_, oc_, hm_⟩ => dP)) (fun _ w_ ⟨s_, oA_, oc_, hm_⟩ => dP)) (fun _ w_ ⟨s_, oA_, oc_, hm_⟩ => dP))
 intro aC w65 vs hB_ hv fr
 revert aC; refine zkp [(10, (vI (unS e.n x57).1)), (76, (vI (unS e.n x57).2))] ?_
 clear hv fr aC M10; clear vs
 obtain ⟨oA67, oc68, hGs58, M66⟩ := hB_
 replace M66 : Mem (tS C s oA oc) w w65 [tb_ C s58 oA67 oc68, tm_ C s58, to_ s58 oA67 oc68, .blk b1 53 (EC e)] := M66
 refine zpn 1 <| zfe <| zsp <| zre <| zbr <| xo1 (vI (unS e.n x57).1) ?_
 exact ⟨_, s58, oA67, oc68, by rw [exF_eq, gbind_ok hg7, ex_4 (by omega), kid_at hk0_, gbind_ok hg14_], rfl, hGs58, M66.tk 3⟩
 rename_i k_ c_ s_
 obtain ⟨ad69, had70⟩ := rds_some (M10.ro (hA.tree hse.kids.1)) (cs := k0_.cells) (i := 0) (gm hk0_)
 refine zkp [(0, (pT C.r 0)), (1, (pT cb 0)), (5, (pT b1 0)), (18, (vI e.op))] ?_
 intro aC fr
 refine zdt 14 (N := 224) (env0 := [(0, (pT C.r 0)), (1, (pT cb 0)), (5, (pT b1 0)), (18, (vI e.op))]) (specAt [.det (pT b1 1), .det (vI e.n), .det (pT C.r 0), .det (pT cb 0), .det (pT b1 3), .det (vS e.A e.kids.length e.c), .det (.pointer (some ((ad69 : Addr).add ((0 : Int).toNat * 4)))), .det (.agg (EC k0_).toArray), Spec.never, Spec.never, Spec.never, Spec.never, Spec.never, Spec.never]) fr (la (la (la (la (la (la (la (la (la (la (la (la (la (la lz dP) (dL ⟨b1, 1, none⟩ (vI e.n) fun w_ hK => (blk_cell ((M10.then_ hK).get 3 rfl) rfl))) dP) dP) dP) (dL ⟨b1, 3, none⟩ (vS e.A e.kids.length e.c) fun w_ hK => (blk_cell ((M10.then_ hK).get 3 rfl) rfl))) (dIA e.A ad69 e.kids.length 4 0 had70)) (dS ((ad69 : Addr).add ((0 : Int).toNat * 4)) (EC k0_) fun w_ hK => (rds_cells (i := 0) ((M10.then_ hK).ro (hA.tree hse.kids.1)) had70 (gm hk0_)))) (dF (vs := [pT C.r 0, pT cb 0, .agg k0_.cells.toArray]) (Ψ := fun v w' => v = endT k_ c_ ∧ ∃ oA_ oc_, TGood C s_ ∧ Mem (tS C s oA oc) w w' (tunL C s_ oA_ oc_ ++ [.blk b1 53 (EC e)])) (fun w_ hK => REnds.weak (tcalls_stop hg14_ (hE k0_ f cb lq m s4 oA5 oc6 w_ hGs4 (by omega) (Mem.pk_holds (l := tunL C s4 oA5 oc6) (M10.then_ hK)) (hA.pk_at (l := tunL C s4 oA5 oc6) (M10.then_ hK)) (hse.kids.2 k0_ hkm0_) (hwe.kid k0_ hkm0_) hfl (hFB.pk_at (l := tunL C s4 oA5 oc6) (M10.then_ hK)) (hFR.pk_at (l := tunL C s4 oA5 oc6) (M10.then_ hK)))) (fun _ _ h_ => h_) (fun _ _ ⟨h1_, oA_, oc_, hG_, hm_⟩ => ⟨h1_, oA_, oc_, hG_, Mem.mdk (l := tunL C s4 oA5 oc6) (M10.then_ hK) hm_⟩)) (fun _ _ h_ a_ hd_ => by obtain ⟨rfl, oA_, oc_, hG_, hm_⟩ := h_; exact inB_pan <| xpd hd_ ⟨k_, c_, s_, oA_, oc_, by rw [exF_eq, gbind_ok hg7, ex_4 (by omega), kid_at hk0_, gbind_stop hg14_], rfl, hG_, hm_.tk 3⟩))) (dN 8)) (dN 9)) (dN 10)) (dN 10)) (dN 11)) ?_
 intro aC w75 vs hK hv fr
 exact (hv 8 (by decide)).elim
 refine zsp <| zcQ e.op 5 (fun c77 => ?_) (fun c77 => ?_)
 refine zsq ?_
 obtain ⟨k0_, hk0_⟩ := get_of (l := e.kids) (i := 0) (by have := hwe.sh.two; have := hwe.sh.one; have := hwe.sh.three; have := hwe.sh.op; omega)
 have hkm0_ := List.mem_of_getElem? hk0_
 have hkl0_ := (List.getElem?_eq_some_iff.1 hk0_).1
 cases hg17_ : exS C.E g f.loc k0_ s4
 rename_i x78 s79
 obtain ⟨hss79, hos79⟩ := (ev_stay C.E g).1 f.loc k0_ s4 x78 s79 hg17_
 obtain ⟨ad80, had81⟩ := rds_some (M10.ro (hA.tree hse.kids.1)) (cs := k0_.cells) (i := 0) (gm hk0_)
 refine zkp [(0, (pT C.r 0)), (1, (pT cb 0)), (5, (pT b1 0)), (18, (vI e.op))] ?_
 intro aC fr
 refine zdm 11 7 (N := 224) (env0 := [(0, (pT C.r 0)), (1, (pT cb 0)), (5, (pT b1 0)), (18, (vI e.op))]) (specAt [.det (pT C.r 0), .det (pT C.r 0), .det (pT cb 0), .det (pT b1 3), .det (vS e.A e.kids.length e.c), .det (.pointer (some ((ad80 : Addr).add ((0 : Int).toNat * 4)))), .det (.agg (EC k0_).toArray), .det (vI x78), .det (pT b1 1), .det (vI e.n), .det (vI (IntKind.i64.wrap (x78 + e.n)))]) (fun w_ => Mem (tS C s oA oc) w w_ [tb_ C s4 oA5 oc6, tm_ C s4, to_ s4 oA5 oc6, .blk b1 53 (EC e)]) (fun w_ => ∃ oA_ oc_, TGood C s79 ∧ Mem (tS C s oA oc) w w_ (tunL C s79 oA_ oc_ ++ [.blk b1 53 (EC e)])) (fun w_ => ∃ s_ oA_ oc_, Mem (tS C s oA oc) w w_ (tunL C s_ oA_ oc_ ++ [.blk b1 53 (EC e)])) fr (plain_ok (.det (.det (.det (.det (.det (.det (.det (.det (.det (.det (.det .nil)))))))))))) (M10.then_ (Mem.drew _)) (fun _ _ h_ hK_ => h_.then_ hK_) (fun _ _ ⟨oA_, oc_, hG_, h_⟩ hK_ => ⟨oA_, oc_, hG_, h_.then_ hK_⟩) (fun _ h_ => ⟨_, _, _, h_⟩) (fun _ ⟨_, _, _, h_⟩ => ⟨_, _, _, h_⟩) ?_ (by intro _; kernel_rfl) (dMu (vs := [pT C.r 0, pT cb 0, .agg k0_.cells.toArray]) (fun w_ hA_ => REnds.weak (tcalls_ok hg17_ (hE k0_ f cb lq m s4 oA5 oc6 w_ hGs4 (by omega) (Mem.pk_holds (l := tunL C s4 oA5 oc6) hA_) (hA.pk_at (l := tunL C s4 oA5 oc6) hA_) (hse.kids.2 k0_ hkm0_) (hwe.kid k0_ hkm0_) hfl (hFB.pk_at (l := tunL C s4 oA5 oc6) hA_) (hFR.pk_at (l := tunL C s4 oA5 oc6) hA_))) (fun _ _ ⟨h1_, oA_, oc_, hG_, hm_⟩ => ⟨h1_, oA_, oc_, hG_, Mem.mdk (l := tunL C s4 oA5 oc6) hA_ hm_⟩) (fun _ _ h_ => h_)) (fun _ _ _ _ h_ => h_.elim)) ?_
 · exact (la (la (la (la (la (la (la (la (la (la (la lz (fun _ w_ ⟨s_, oA_, oc_, hm_⟩ => dP)) (fun _ w_ ⟨s_, oA_, oc_, hm_⟩ => dP)) (fun _ w_ ⟨s_, oA_, oc_, hm_⟩ => dP)) (fun _ w_ ⟨s_, oA_, oc_, hm_⟩ => dP)) (fun _ w_ ⟨s_, oA_, oc_, hm_⟩ => (dL ⟨b1, 3, none⟩ (vS e.A e.kids.length e.c) fun w_ hK => (blk_cell ((hm_.then_ hK).get 3 rfl) rfl)))) (fun _ w_ ⟨s_, oA_, oc_, hm_⟩ => (dIA e.A ad80 e.kids.length 4 0 had81))) (fun _ w_ ⟨s_, oA_, oc_, hm_⟩ => (dS ((ad80 : Addr).add ((0 : Int).toNat * 4)) (EC k0_) fun w_ hK => (rds_cells (i := 0) ((hm_.then_ hK).ro (hA.tree hse.kids.1)) had81 (gm hk0_))))) (fun h_ => absurd rfl h_)) (fun _ w_ ⟨s_, oA_, oc_, hm_⟩ => dP)) (fun _ w_ ⟨s_, oA_, oc_, hm_⟩ => (dL ⟨b1, 1, none⟩ (vI e.n) fun w_ hK => (blk_cell ((hm_.then_ hK).get 3 rfl) rfl)))) (fun _ w_ ⟨s_, oA_, oc_, hm_⟩ => (dB .i64 (IntKind.i64.wrap (x78 + e.n)) e.n)))
 intro aC w86 vs hB_ hv fr
 revert aC; refine zkp [(80, (pT C.r 0)), (90, (vI (IntKind.i64.wrap (x78 + e.n))))] ?_
 clear hv fr aC M10; clear vs
 obtain ⟨oA88, oc89, hGs79, M87⟩ := hB_
 replace M87 : Mem (tS C s oA oc) w w86 [tb_ C s79 oA88 oc89, tm_ C s79, to_ s79 oA88 oc89, .blk b1 53 (EC e)] := M87
 refine zce (tat_c C s79 oA88 oc89 w86 (IntKind.i64.wrap (x78 + e.n)) hGs79 (M87.own_ro 0 rfl)) (fun _ w2_ ⟨hr_, hv_, hx_⟩ a_ hf_ => by subst hv_; exact inB_pan <| xpp hf_ ⟨_, _, s79, oA88, oc89, by rw [exF_eq, gbind_ok hg7, ex_5 (by omega), kid_at hk0_, gbind_ok hg17_, at_no hr_]; rfl, rfl, hGs79, (M87.cl hx_).tk 3⟩) ?_
 rintro _ w91 ⟨hr90, rfl, M92x⟩
 have M92 := M87.cl M92x
 refine zpn 1 <| zld ((⟨C.mG, 0, none⟩ : Addr).add (((IntKind.i64.wrap (x78 + e.n))).toNat * 1)) (vI (s79.mem.getD ((IntKind.i64.wrap (x78 + e.n))).toNat 0)) (rd_int (row_rd (M92.get 1 rfl)) rfl (by omega) (by have := hGs79.mem; have := hGs79.n2; omega)) <| zpn 1 <| zfe <| zre <| zbr <| xo1 (vI (s79.mem.getD ((IntKind.i64.wrap (x78 + e.n))).toNat 0)) ?_
 exact ⟨_, s79, oA88, oc89, by rw [exF_eq, gbind_ok hg7, ex_5 (by omega), kid_at hk0_, gbind_ok hg17_, at_yes (by omega)]; rfl, rfl, hGs79, M92.tk 3⟩
 rename_i k_ c_ s_
 obtain ⟨ad93, had94⟩ := rds_some (M10.ro (hA.tree hse.kids.1)) (cs := k0_.cells) (i := 0) (gm hk0_)
 refine zkp [(0, (pT C.r 0)), (1, (pT cb 0)), (5, (pT b1 0)), (18, (vI e.op))] ?_
 intro aC fr
 refine zdt 11 (N := 224) (env0 := [(0, (pT C.r 0)), (1, (pT cb 0)), (5, (pT b1 0)), (18, (vI e.op))]) (specAt [.det (pT C.r 0), .det (pT C.r 0), .det (pT cb 0), .det (pT b1 3), .det (vS e.A e.kids.length e.c), .det (.pointer (some ((ad93 : Addr).add ((0 : Int).toNat * 4)))), .det (.agg (EC k0_).toArray), Spec.never, .det (pT b1 1), .det (vI e.n), Spec.never]) fr (la (la (la (la (la (la (la (la (la (la (la lz dP) dP) dP) dP) (dL ⟨b1, 3, none⟩ (vS e.A e.kids.length e.c) fun w_ hK => (blk_cell ((M10.then_ hK).get 3 rfl) rfl))) (dIA e.A ad93 e.kids.length 4 0 had94)) (dS ((ad93 : Addr).add ((0 : Int).toNat * 4)) (EC k0_) fun w_ hK => (rds_cells (i := 0) ((M10.then_ hK).ro (hA.tree hse.kids.1)) had94 (gm hk0_)))) (dF (vs := [pT C.r 0, pT cb 0, .agg k0_.cells.toArray]) (Ψ := fun v w' => v = endT k_ c_ ∧ ∃ oA_ oc_, TGood C s_ ∧ Mem (tS C s oA oc) w w' (tunL C s_ oA_ oc_ ++ [.blk b1 53 (EC e)])) (fun w_ hK => REnds.weak (tcalls_stop hg17_ (hE k0_ f cb lq m s4 oA5 oc6 w_ hGs4 (by omega) (Mem.pk_holds (l := tunL C s4 oA5 oc6) (M10.then_ hK)) (hA.pk_at (l := tunL C s4 oA5 oc6) (M10.then_ hK)) (hse.kids.2 k0_ hkm0_) (hwe.kid k0_ hkm0_) hfl (hFB.pk_at (l := tunL C s4 oA5 oc6) (M10.then_ hK)) (hFR.pk_at (l := tunL C s4 oA5 oc6) (M10.then_ hK)))) (fun _ _ h_ => h_) (fun _ _ ⟨h1_, oA_, oc_, hG_, hm_⟩ => ⟨h1_, oA_, oc_, hG_, Mem.mdk (l := tunL C s4 oA5 oc6) (M10.then_ hK) hm_⟩)) (fun _ _ h_ a_ hd_ => by obtain ⟨rfl, oA_, oc_, hG_, hm_⟩ := h_; exact inB_pan <| xpd hd_ ⟨k_, c_, s_, oA_, oc_, by rw [exF_eq, gbind_ok hg7, ex_5 (by omega), kid_at hk0_, gbind_stop hg17_], rfl, hG_, hm_.tk 3⟩))) dP) (dL ⟨b1, 1, none⟩ (vI e.n) fun w_ hK => (blk_cell ((M10.then_ hK).get 3 rfl) rfl))) (dN 7)) ?_
 intro aC w99 vs hK hv fr
 exact (hv 7 (by decide)).elim
 refine zsp <| zcQ e.op 6 (fun c101 => ?_) (fun c101 => ?_)
 refine zsr <| zpn 3 <| zld ⟨b1, 3, none⟩ (vS e.A e.kids.length e.c) (blk_cell (M10.get 3 rfl) rfl) <| zkp [(0, (pT C.r 0)), (5, (pT b1 0)), (96, (pT C.r 0)), (97, (pT cb 0)), (99, (vS e.A e.kids.length e.c))] <| zce (tkids_c C s4 oA5 oc6 w9 hC hGs4 (Mem.pk_holds (l := tunL C s4 oA5 oc6) M10) (hA.pk_at (l := tunL C s4 oA5 oc6) M10) g hE e.kids e.A e.c f cb lq m (by omega) hse.kids hwe.kid hwe.sh.kids hfl (hFB.pk_at (l := tunL C s4 oA5 oc6) M10) (hFR.pk_at (l := tunL C s4 oA5 oc6) M10)) (fun _ w2_ ⟨k_, c_, s_, oA_, oc_, hg_, hv_, hG_, hx_⟩ a_ hf_ => by subst hv_; exact inB_pan <| xpp hf_ ⟨k_, c_, s_, oA_, oc_, by rw [exF_eq, gbind_ok hg7, ex_6 (by omega), gbind_stop hg_], rfl, hG_, Mem.tk (Mem.mdk (l := tunL C s4 oA5 oc6) M10 hx_) 3⟩) ?_
 rintro _ w109 ⟨vs102, s103, oA104, oc105, A106, c107, hg108, rfl, hGs103, hlvs102, M110x⟩
 have M110 : Mem (tS C s oA oc) w w109 [tb_ C s103 oA104 oc105, tm_ C s103, to_ s103 oA104 oc105, .blk b1 53 (EC e), .row 2 1 A106 vs102.length c107 (ints vs102)] := M10.mdk' M110x
 have hss103 := (kids_stay ((ev_stay C.E g).1 f.loc) _ _ _ _ hg108).1
 refine zpn 1 <| zfe <| zsq ?_
 cases hq : lkp C.E.names e.nm
 refine zkp [(0, (pT C.r 0)), (5, (pT b1 0)), (12, (vS A106 vs102.length c107))] ?_
 intro aC fr
 refine zdt 10 (N := 224) (env0 := [(0, (pT C.r 0)), (5, (pT b1 0)), (12, (vS A106 vs102.length c107))]) (specAt [.det (pT C.r 0), .det (pT C.r 0), .det (pT C.r 0), .det (pT C.r 0), .det (pT C.r 1), .det (.map (some C.mB)), .det (pT b1 2), .det (.string e.nm), Spec.never, .det (vS A106 vs102.length c107)]) fr (la (la (la (la (la (la (la (la (la (la lz dP) dP) dP) dP) dP) (dL ⟨C.r, 1, none⟩ (.map (some C.mB)) fun w_ hK => (blk_cell ((M110.then_ hK).get 0 rfl) rfl))) dP) (dL ⟨b1, 2, none⟩ (.string e.nm) fun w_ hK => (blk_cell ((M110.then_ hK).get 3 rfl) rfl))) (dF (vs := [pT C.r 0, .map (some C.mB), .string e.nm]) (Ψ := fun v w' => v = endT 5 0 ∧ Mem (tS C s oA oc) w w' [tb_ C s103 oA104 oc105, tm_ C s103, to_ s103 oA104 oc105, .blk b1 53 (EC e), .row 2 1 A106 vs102.length c107 (ints vs102)]) (fun w_ hK => REnds.weak (tnamei_c C.r C.mB C.E.names e.nm w_ (hA.tnames.at_ (M110.then_ hK))) (fun v w2 ⟨n_, h_, _⟩ => by rw [hq] at h_; cases h_) (fun v w2 h_ => ⟨h_.2.1, (M110.then_ hK).cl h_.2.2⟩)) (fun _ _ h_ a_ hd_ => by obtain ⟨rfl, h_⟩ := h_; exact inB_pan <| xpd hd_ ⟨_, _, s103, oA104, oc105, by rw [exF_eq, gbind_ok hg7, ex_6 (by omega), gbind_ok hg108, lk_no hq]; rfl, rfl, hGs103, h_.tk 3⟩))) dP) ?_
 intro aC w115 vs hK hv fr
 exact (hv 8 (by decide)).elim
 rename_i nn117
 refine zkp [(0, (pT C.r 0)), (5, (pT b1 0)), (12, (vS A106 vs102.length c107))] ?_
 intro aC fr
 refine zdt 10 (N := 224) (env0 := [(0, (pT C.r 0)), (5, (pT b1 0)), (12, (vS A106 vs102.length c107))]) (specAt [.det (pT C.r 0), .det (pT C.r 0), .det (pT C.r 0), .det (pT C.r 0), .det (pT C.r 1), .det (.map (some C.mB)), .det (pT b1 2), .det (.string e.nm), .det (vI nn117), .det (vS A106 vs102.length c107)]) fr (la (la (la (la (la (la (la (la (la (la lz dP) dP) dP) dP) dP) (dL ⟨C.r, 1, none⟩ (.map (some C.mB)) fun w_ hK => (blk_cell ((M110.then_ hK).get 0 rfl) rfl))) dP) (dL ⟨b1, 2, none⟩ (.string e.nm) fun w_ hK => (blk_cell ((M110.then_ hK).get 3 rfl) rfl))) (dE (vs := [pT C.r 0, .map (some C.mB), .string e.nm]) (u := .int .i64 nn117) (Ψ := fun v w' => lkp C.E.names e.nm = none) (fun w_ hK => REnds.weak (tnamei_c C.r C.mB C.E.names e.nm w_ (hA.tnames.at_ (M110.then_ hK))) (fun v w2 ⟨n_, h_, hv_, hm_⟩ => ⟨by rw [hq] at h_; cases h_; exact hv_, hm_⟩) (fun v w2 h_ => h_.1)) (fun _ _ h_ => by rw [hq] at h_; cases h_) rfl)) dP) ?_
 intro aC w122 vs hK hv fr
 revert aC; refine zkp [(101, (pT C.r 0)), (109, (vI nn117)), (110, (vS A106 vs102.length c107))] ?_
 have M123 := M110.then_ hK
 clear hK hv fr aC M110; clear vs
 refine zce (hK nn117 vs102 A106 c107 s103 oA104 oc105 w122 hGs103 (by omega) (Mem.pk_holds (l := tunL C s103 oA104 oc105) M123) (hA.pk_at (l := tunL C s103 oA104 oc105) M123) (RO.row_rd (RO.pk_own (l := tunL C s103 oA104 oc105) M123 1 rfl)) (by have := hwe.sh.few (by omega); omega)) (fun _ w2_ ⟨k_, c_, s_, oA_, oc_, hg_, hv_, hG_, hx_⟩ a_ hf_ => by subst hv_; exact inB_pan <| xpp hf_ ⟨k_, c_, s_, oA_, oc_, by rw [exF_eq, gbind_ok hg7, ex_6 (by omega), gbind_ok hg108, lk_yes hq, Got.bind, hg_], rfl, hG_, Mem.tk (Mem.mdk (l := tunL C s103 oA104 oc105) M123 hx_) 3⟩) ?_
 rintro _ w129 ⟨x124, s125, oA126, oc127, hg128, rfl, hGs125, M130x⟩
 have M130 : Mem (tS C s oA oc) w w129 [tb_ C s125 oA126 oc127, tm_ C s125, to_ s125 oA126 oc127, .blk b1 53 (EC e), .row 2 1 A106 vs102.length c107 (ints vs102)] := M123.mdk M130x
 refine zpn 1 <| zfe <| zre <| zbr <| xo1 (vI x124) ?_
 exact ⟨_, s125, oA126, oc127, by rw [exF_eq, gbind_ok hg7, ex_6 (by omega), gbind_ok hg108, lk_yes hq, Got.bind, hg128], rfl, hGs125, M130.tk 3⟩
 refine zsp <| zcQ e.op 7 (fun c131 => ?_) (fun c131 => ?_)
 refine zsr <| zpn 3 <| zld ⟨b1, 3, none⟩ (vS e.A e.kids.length e.c) (blk_cell (M10.get 3 rfl) rfl) <| zkp [(0, (pT C.r 0)), (114, (pT C.r 0)), (115, (pT cb 0)), (117, (vS e.A e.kids.length e.c))] <| zce (tkids_c C s4 oA5 oc6 w9 hC hGs4 (Mem.pk_holds (l := tunL C s4 oA5 oc6) M10) (hA.pk_at (l := tunL C s4 oA5 oc6) M10) g hE e.kids e.A e.c f cb lq m (by omega) hse.kids hwe.kid hwe.sh.kids hfl (hFB.pk_at (l := tunL C s4 oA5 oc6) M10) (hFR.pk_at (l := tunL C s4 oA5 oc6) M10)) (fun _ w2_ ⟨k_, c_, s_, oA_, oc_, hg_, hv_, hG_, hx_⟩ a_ hf_ => by subst hv_; exact inB_pan <| xpp hf_ ⟨k_, c_, s_, oA_, oc_, by rw [exF_eq, gbind_ok hg7, ex_7 (by omega), gbind_stop hg_], rfl, hG_, Mem.tk (Mem.mdk (l := tunL C s4 oA5 oc6) M10 hx_) 3⟩) ?_
 rintro _ w139 ⟨vs132, s133, oA134, oc135, A136, c137, hg138, rfl, hGs133, hlvs132, M140x⟩
 have M140 : Mem (tS C s oA oc) w w139 [tb_ C s133 oA134 oc135, tm_ C s133, to_ s133 oA134 oc135, .blk b1 53 (EC e), .row 2 1 A136 vs132.length c137 (ints vs132)] := M10.mdk' M140x
 have hss133 := (kids_stay ((ev_stay C.E g).1 f.loc) _ _ _ _ hg138).1
 refine zpn 1 <| zfe <| zsq ?_
 have hc144 := row_le (M140.get 4 rfl)
 obtain ⟨x142, l141, rfl⟩ : ∃ x l, vs132 = x :: l := by cases vs132 with | nil => exact absurd hlvs132 (by have := hwe.sh.at_ (by omega); simp; omega) | cons x l => exact ⟨x, l, rfl⟩
 simp only [List.length_cons] at hlvs132
 have M145 : Mem (tS C s oA oc) w w139 [tb_ C s133 oA134 oc135, tm_ C s133, to_ s133 oA134 oc135, .blk b1 53 (EC e), .row 2 1 A136 (l141.length + 1) c137 (ints (x142 :: l141))] := M140.cast rfl
 obtain ⟨ad146, rfl⟩ := rd_some (row_rd (M145.get 4 rfl)) (by rw [ints_len]; simp)
 refine zkp [(0, (pT C.r 0)), (13, (vS (some ad146) (l141.length + 1) c137))] ?_
 intro aC fr
 refine zdt 6 (N := 224) (env0 := [(0, (pT C.r 0)), (13, (vS (some ad146) (l141.length + 1) c137))]) (specAt [.det (pT C.r 0), .det (vS (some ad146) (l141.length + 1) c137), .det (.pointer (some ((ad146 : Addr).add ((0 : Int).toNat * 1)))), .det (vI x142), .det (vS (some ad146) (l141.length + 1) c137), .det (cutV (some ad146) (l141.length + 1) c137 1 1)]) fr (la (la (la (la (la (la lz dP) dP) (dI ad146 (l141.length + 1) 1 0)) (dL ((ad146 : Addr).add ((0 : Int).toNat * 1)) (vI x142) fun w_ hK => (rd_int (l := x142 :: l141) (row_rd ((M145.then_ hK).get 4 rfl)) rfl (by omega) (by simp)))) dP) (dSl (some ad146) (l141.length + 1) c137 1 1 (by omega))) ?_
 intro aC w151 vs hK hv fr
 revert aC; refine zkp [(119, (pT C.r 0)), (122, (vI x142)), (124, (vS (if c137 = 1 then (some ad146) else Option.map (·.add (1 * 1)) (some ad146)) l141.length (c137 - 1)))] ?_
 have M152 := M145.then_ hK
 clear hK hv fr aC M145; clear vs
 refine zce (hK x142 l141 (if c137 = 1 then (some ad146) else Option.map (·.add (1 * 1)) (some ad146)) (c137 - 1) s133 oA134 oc135 w151 hGs133 (by omega) (Mem.pk_holds (l := tunL C s133 oA134 oc135) M152) (hA.pk_at (l := tunL C s133 oA134 oc135) M152) (RO.rd_cut (vs := ints l141) (RO.row_rd (RO.pk_own (l := tunL C s133 oA134 oc135) M152 1 rfl)) (by rw [ints_len]; exact hc144)) (by have := hwe.sh.kids; omega)) (fun _ w2_ ⟨k_, c_, s_, oA_, oc_, hg_, hv_, hG_, hx_⟩ a_ hf_ => by subst hv_; exact inB_pan <| xpp hf_ ⟨k_, c_, s_, oA_, oc_, by rw [exF_eq, gbind_ok hg7, ex_7 (by omega), gbind_ok hg138, a0, List.getD_cons_zero, List.tail_cons, hg_], rfl, hG_, Mem.tk (Mem.mdk (l := tunL C s133 oA134 oc135) M152 hx_) 3⟩) ?_
 rintro _ w158 ⟨x153, s154, oA155, oc156, hg157, rfl, hGs154, M159x⟩
 have M159 : Mem (tS C s oA oc) w w158 [tb_ C s154 oA155 oc156, tm_ C s154, to_ s154 oA155 oc156, .blk b1 53 (EC e), .row 2 1 (some ad146) (l141.length + 1) c137 (ints (x142 :: l141))] := M152.mdk M159x
 refine zpn 1 <| zfe <| zre <| zbr <| xo1 (vI x153) ?_
 exact ⟨_, s154, oA155, oc156, by rw [exF_eq, gbind_ok hg7, ex_7 (by omega), gbind_ok hg138, a0, List.getD_cons_zero, List.tail_cons, hg157], rfl, hGs154, M159.tk 3⟩
 refine zsp <| zcQ e.op 8 (fun c160 => ?_) (fun c160 => ?_)
 refine zsq <| zkp [(0, (pT C.r 0)), (1, (pT cb 0)), (5, (pT b1 0)), (18, (vI e.op))] ?_
 intro aC fr
 refine zdt 7 (N := 224) (env0 := [(0, (pT C.r 0)), (1, (pT cb 0)), (5, (pT b1 0)), (18, (vI e.op))]) (specAt [.det (pT C.r 0), .det (pT C.r 0), .det (pT C.r 0), .det (pT C.r 2), .det (.map (some C.dB)), .det (pT b1 2), .det (.string e.nm)]) fr (la (la (la (la (la (la (la lz dP) dP) dP) dP) (dL ⟨C.r, 2, none⟩ (.map (some C.dB)) fun w_ hK => (blk_cell ((M10.then_ hK).get 0 rfl) rfl))) dP) (dL ⟨b1, 2, none⟩ (.string e.nm) fun w_ hK => (blk_cell ((M10.then_ hK).get 3 rfl) rfl))) ?_
 intro aC w165 vs hK hv fr
 revert aC; refine zkp [(128, (pT C.r 0)), (132, (.map (some C.dB))), (134, (.string e.nm))] ?_
 have M166 := M10.then_ hK
 clear hK hv fr aC M10; clear vs
 refine zce (tname6_c C.r C.dB C.E.data e.nm w165 (hA.tdata.at_ M166)) (fun _ w2_ ⟨hq_, hv_, hx_⟩ a_ hf_ => by subst hv_; exact inB_pan <| xpp hf_ ⟨_, _, s4, oA5, oc6, by rw [exF_eq, gbind_ok hg7, ex_8 (by omega), lk_no hq_], rfl, hGs4, (M166.cl hx_).tk 3⟩) ?_
 rintro _ w169 ⟨nn167, hq168, rfl, M170x⟩
 have M170 := M166.cl M170x
 refine zpn 1 <| zfe <| zre <| zbr <| xo1 (vI nn167) ?_
 exact ⟨_, s4, oA5, oc6, by rw [exF_eq, gbind_ok hg7, ex_8 (by omega), lk_yes hq168], rfl, hGs4, M170.tk 3⟩
 refine zsp <| zcQ e.op 9 (fun c171 => ?_) (fun c171 => ?_)
 refine zsq <| zkp [(0, (pT C.r 0)), (1, (pT cb 0)), (5, (pT b1 0)), (18, (vI e.op))] ?_
 intro aC fr
 refine zdt 7 (N := 224) (env0 := [(0, (pT C.r 0)), (1, (pT cb 0)), (5, (pT b1 0)), (18, (vI e.op))]) (specAt [.det (pT C.r 0), .det (pT C.r 0), .det (pT C.r 0), .det (pT C.r 1), .det (.map (some C.mB)), .det (pT b1 2), .det (.string e.nm)]) fr (la (la (la (la (la (la (la lz dP) dP) dP) dP) (dL ⟨C.r, 1, none⟩ (.map (some C.mB)) fun w_ hK => (blk_cell ((M10.then_ hK).get 0 rfl) rfl))) dP) (dL ⟨b1, 2, none⟩ (.string e.nm) fun w_ hK => (blk_cell ((M10.then_ hK).get 3 rfl) rfl))) ?_
 intro aC w176 vs hK hv fr
 revert aC; refine zkp [(138, (pT C.r 0)), (142, (.map (some C.mB))), (144, (.string e.nm))] ?_
 have M177 := M10.then_ hK
 clear hK hv fr aC M10; clear vs
 refine zce (tnamei_c C.r C.mB C.E.names e.nm w176 (hA.tnames.at_ M177)) (fun _ w2_ ⟨hq_, hv_, hx_⟩ a_ hf_ => by subst hv_; exact inB_pan <| xpp hf_ ⟨_, _, s4, oA5, oc6, by rw [exF_eq, gbind_ok hg7, ex_9 (by omega), lk_no hq_], rfl, hGs4, (M177.cl hx_).tk 3⟩) ?_
 rintro _ w180 ⟨nn178, hq179, rfl, M181x⟩
 have M181 := M177.cl M181x
 refine zpn 1 <| zfe <| zre <| zbr <| xo1 (vI nn178) ?_
 exact ⟨_, s4, oA5, oc6, by rw [exF_eq, gbind_ok hg7, ex_9 (by omega), lk_yes hq179], rfl, hGs4, M181.tk 3⟩
 refine zsp <| zcQ e.op 10 (fun c182 => ?_) (fun c182 => ?_)
 refine zsr ?_
 obtain ⟨k0_, hk0_⟩ := get_of (l := e.kids) (i := 0) (by have := hwe.sh.two; have := hwe.sh.one; have := hwe.sh.three; have := hwe.sh.op; omega)
 have hkm0_ := List.mem_of_getElem? hk0_
 have hkl0_ := (List.getElem?_eq_some_iff.1 hk0_).1
 refine zpn 4 <| zld ⟨b1, 3, none⟩ (vS e.A e.kids.length e.c) (blk_cell (M10.get 3 rfl) rfl) <| zkp [(148, (pT C.r 0)), (149, (pT C.r 0)), (150, (pT cb 0)), (152, (vS e.A e.kids.length e.c))] ?_
 obtain ⟨ad183, had184⟩ := rds_some (M10.ro (hA.tree hse.kids.1)) (cs := k0_.cells) (i := 0) (gm hk0_)
 intro aC fr
 refine From_ixA (some 153) e.A ad183 e.kids.length 4 0 fr (by kernel_rfl) had184 (by omega) (by omega) ?_
 intro aC fr
 revert aC
 refine zls ((ad183 : Addr).add ((0 : Int).toNat * 4)) (EC k0_) (rds_cells (i := 0) (M10.ro (hA.tree hse.kids.1)) had184 (gm hk0_)) ?_
 refine zce (hE k0_ f cb lq m s4 oA5 oc6 w9 hGs4 (by omega) (Mem.pk_holds (l := tunL C s4 oA5 oc6) M10) (hA.pk_at (l := tunL C s4 oA5 oc6) M10) (hse.kids.2 k0_ hkm0_) (hwe.kid k0_ hkm0_) hfl (hFB.pk_at (l := tunL C s4 oA5 oc6) M10) (hFR.pk_at (l := tunL C s4 oA5 oc6) M10)) (fun _ w2_ ⟨k_, c_, s_, oA_, oc_, hg_, hv_, hG_, hx_⟩ a_ hf_ => by subst hv_; exact inB_pan <| xpp hf_ ⟨k_, c_, s_, oA_, oc_, by rw [exF_eq, gbind_ok hg7, ex_10 (by omega), kid_at hk0_, gbind_stop hg_], rfl, hG_, Mem.tk (Mem.mdk (l := tunL C s4 oA5 oc6) M10 hx_) 3⟩) ?_
 rintro _ w194 ⟨x189, s190, oA191, oc192, hg193, rfl, hGs190, M195x⟩
 have M195 : Mem (tS C s oA oc) w w194 [tb_ C s190 oA191 oc192, tm_ C s190, to_ s190 oA191 oc192, .blk b1 53 (EC e)] := M10.mdk M195x
 obtain ⟨hss190, hos190⟩ := (ev_stay C.E g).1 f.loc k0_ s4 x189 s190 hg193
 refine zce (talloc_c C s190 oA191 oc192 w194 hC hGs190 (Mem.pk_holds (l := tunL C s190 oA191 oc192) M195) x189) (fun _ w2_ ⟨k_, c_, s_, oA_, oc_, hg_, hv_, hG_, hx_⟩ a_ hf_ => by subst hv_; exact inB_pan <| xpp hf_ ⟨k_, c_, s_, oA_, oc_, by rw [exF_eq, gbind_ok hg7, ex_10 (by omega), kid_at hk0_, gbind_ok hg193, hg_], rfl, hG_, Mem.tk (Mem.mdk (l := tunL C s190 oA191 oc192) M195 hx_) 3⟩) ?_
 rintro _ w201 ⟨x196, s197, oA198, oc199, hg200, rfl, hGs197, M202x⟩
 have M202 : Mem (tS C s oA oc) w w201 [tb_ C s197 oA198 oc199, tm_ C s197, to_ s197 oA198 oc199, .blk b1 53 (EC e)] := M195.mdk M202x
 refine zpn 1 <| zfe <| zre <| zbr <| xo1 (vI x196) ?_
 exact ⟨_, s197, oA198, oc199, by rw [exF_eq, gbind_ok hg7, ex_10 (by omega), kid_at hk0_, gbind_ok hg193, hg200], rfl, hGs197, M202.tk 3⟩
 refine zsp <| zcQ e.op 11 (fun c203 => ?_) (fun c203 => ?_)
 refine zsq <| zsr ?_
 have hp_ := hGs4.pos
 refine zpn 3 <| zld ⟨C.r, 5, none⟩ (vS ((inAt C.iA C.ic s4.pos).1) (C.E.inp.length - s4.pos) ((inAt C.iA C.ic s4.pos).2)) (blk_cell (M10.get 0 rfl) rfl) <| zkp [(0, (pT C.r 0)), (162, (vS ((inAt C.iA C.ic s4.pos).1) (C.E.inp.length - s4.pos) ((inAt C.iA C.ic s4.pos).2)))] <| zpn 2 <| zfe <| zcQ (((C.E.inp.length - s4.pos) : Nat) : Int) 0 (fun c204 => ?_) (fun c204 => ?_)
 refine zsp <| zre <| zbr <| xo1 (vI (-1)) ?_
 exact ⟨_, s4, oA5, oc6, by rw [exF_eq, gbind_ok hg7, ex_11 (by omega), readS, if_neg (by omega)], rfl, hGs4, M10.tk 3⟩
 refine zsk <| zsr <| zpn 3 <| zld ⟨C.r, 5, none⟩ (vS ((inAt C.iA C.ic s4.pos).1) (C.E.inp.length - s4.pos) ((inAt C.iA C.ic s4.pos).2)) (blk_cell (M10.get 0 rfl) rfl) ?_
 obtain ⟨ad205, had206⟩ := in_some (p := s4.pos) (M10.ro hA.tin) (by omega) hC.ic
 intro aC fr
 refine From_ixA (some 169) ((inAt C.iA C.ic s4.pos).1) ad205 (C.E.inp.length - s4.pos) 1 0 fr (by kernel_rfl) had206 (by omega) (by omega) ?_
 intro aC fr
 revert aC
 refine zld ((ad205 : Addr).add ((0 : Int).toNat * 1)) (.int .u8 (C.E.inp.getD s4.pos 0)) (in_cell (p := s4.pos) (M10.ro hA.tin) (by omega) hC.ic had206) <| zpn 1 <| zfe <| zsr <| zpn 4 <| zld ⟨C.r, 5, none⟩ (vS ((inAt C.iA C.ic s4.pos).1) (C.E.inp.length - s4.pos) ((inAt C.iA C.ic s4.pos).2)) (blk_cell (M10.get 0 rfl) rfl) <| zsl (A := (inAt C.iA C.ic s4.pos).1) (n := C.E.inp.length - s4.pos) (cap := (inAt C.iA C.ic s4.pos).2) (size := 1) (hk := by kernel_rfl) 1 (by omega) <| zpn 2 <| zsb (ho := (by simp)) M10 0 5 (vS ((inAt C.iA C.ic (s4.pos + 1)).1) (C.E.inp.length - (s4.pos + 1)) ((inAt C.iA C.ic (s4.pos + 1)).2)) rfl fun w211 M212 => ?_
 replace M212 := M212.nf
 refine zfe <| zsr <| zpn 1 <| zcv (hz := (IntWalk.i64_in _ (by have := tbyte_in hC (p := s4.pos); omega))) (C.E.inp.getD s4.pos 0) .i64 (C.E.inp.getD s4.pos 0) <| zkp [(180, (vI (C.E.inp.getD s4.pos 0)))] <| zpn 1 <| zfe <| zre <| zbr <| xo1 (vI (C.E.inp.getD s4.pos 0)) ?_
 exact ⟨_, { s4 with pos := s4.pos + 1 }, oA5, oc6, by rw [exF_eq, gbind_ok hg7, ex_11 (by omega), readS, if_pos (by omega)], rfl, (hGs4.read (by omega)), M212.tk 3⟩
 refine zsp <| zcQ e.op 12 (fun c213 => ?_) (fun c213 => ?_)
 refine zsq <| zsr ?_
 obtain ⟨k0_, hk0_⟩ := get_of (l := e.kids) (i := 0) (by have := hwe.sh.two; have := hwe.sh.one; have := hwe.sh.three; have := hwe.sh.op; omega)
 have hkm0_ := List.mem_of_getElem? hk0_
 have hkl0_ := (List.getElem?_eq_some_iff.1 hk0_).1
 refine zpn 3 <| zld ⟨b1, 3, none⟩ (vS e.A e.kids.length e.c) (blk_cell (M10.get 3 rfl) rfl) <| zkp [(0, (pT C.r 0)), (1, (pT cb 0)), (5, (pT b1 0)), (183, (pT C.r 0)), (184, (pT cb 0)), (186, (vS e.A e.kids.length e.c))] ?_
 obtain ⟨ad214, had215⟩ := rds_some (M10.ro (hA.tree hse.kids.1)) (cs := k0_.cells) (i := 0) (gm hk0_)
 intro aC fr
 refine From_ixA (some 187) e.A ad214 e.kids.length 4 0 fr (by kernel_rfl) had215 (by omega) (by omega) ?_
 intro aC fr
 revert aC
 refine zls ((ad214 : Addr).add ((0 : Int).toNat * 4)) (EC k0_) (rds_cells (i := 0) (M10.ro (hA.tree hse.kids.1)) had215 (gm hk0_)) ?_
 refine zce (hE k0_ f cb lq m s4 oA5 oc6 w9 hGs4 (by omega) (Mem.pk_holds (l := tunL C s4 oA5 oc6) M10) (hA.pk_at (l := tunL C s4 oA5 oc6) M10) (hse.kids.2 k0_ hkm0_) (hwe.kid k0_ hkm0_) hfl (hFB.pk_at (l := tunL C s4 oA5 oc6) M10) (hFR.pk_at (l := tunL C s4 oA5 oc6) M10)) (fun _ w2_ ⟨k_, c_, s_, oA_, oc_, hg_, hv_, hG_, hx_⟩ a_ hf_ => by subst hv_; exact inB_pan <| xpp hf_ ⟨k_, c_, s_, oA_, oc_, by rw [exF_eq, gbind_ok hg7, ex_12 (by omega), kid_at hk0_, gbind_stop hg_], rfl, hG_, Mem.tk (Mem.mdk (l := tunL C s4 oA5 oc6) M10 hx_) 3⟩) ?_
 rintro _ w225 ⟨x220, s221, oA222, oc223, hg224, rfl, hGs221, M226x⟩
 have M226 : Mem (tS C s oA oc) w w225 [tb_ C s221 oA222 oc223, tm_ C s221, to_ s221 oA222 oc223, .blk b1 53 (EC e)] := M10.mdk M226x
 obtain ⟨hss221, hos221⟩ := (ev_stay C.E g).1 f.loc k0_ s4 x220 s221 hg224
 refine zpn 1 <| zfe <| zcP ((x220 : Int) != 0) ((x220 : Int) ≠ 0) (by simp only [bne_iff_ne]) (fun c227 => ?_) (fun c227 => ?_)
 refine zsr ?_
 obtain ⟨k1_, hk1_⟩ := get_of (l := e.kids) (i := 1) (by have := hwe.sh.two; have := hwe.sh.one; have := hwe.sh.three; have := hwe.sh.op; omega)
 have hkm1_ := List.mem_of_getElem? hk1_
 have hkl1_ := (List.getElem?_eq_some_iff.1 hk1_).1
 refine zpn 3 <| zld ⟨b1, 3, none⟩ (vS e.A e.kids.length e.c) (blk_cell (M226.get 3 rfl) rfl) ?_
 obtain ⟨ad228, had229⟩ := rds_some (M226.ro (hA.tree hse.kids.1)) (cs := k1_.cells) (i := 1) (gm hk1_)
 intro aC fr
 refine From_ixA (some 195) e.A ad228 e.kids.length 4 1 fr (by kernel_rfl) had229 (by omega) (by omega) ?_
 intro aC fr
 revert aC
 refine zls ((ad228 : Addr).add ((1 : Int).toNat * 4)) (EC k1_) (rds_cells (i := 1) (M226.ro (hA.tree hse.kids.1)) had229 (gm hk1_)) ?_
 refine zce (hE k1_ f cb lq m s221 oA222 oc223 w225 hGs221 (by omega) (Mem.pk_holds (l := tunL C s221 oA222 oc223) M226) (hA.pk_at (l := tunL C s221 oA222 oc223) M226) (hse.kids.2 k1_ hkm1_) (hwe.kid k1_ hkm1_) hfl (hFB.pk_at (l := tunL C s221 oA222 oc223) M226) (hFR.pk_at (l := tunL C s221 oA222 oc223) M226)) (fun _ w2_ ⟨k_, c_, s_, oA_, oc_, hg_, hv_, hG_, hx_⟩ a_ hf_ => by subst hv_; exact inB_pan <| xpp hf_ ⟨k_, c_, s_, oA_, oc_, by rw [exF_eq, gbind_ok hg7, ex_12 (by omega), kid_at hk0_, gbind_ok hg224, if_pos (by omega), kid_at hk1_, hg_], rfl, hG_, Mem.tk (Mem.mdk (l := tunL C s221 oA222 oc223) M226 hx_) 3⟩) ?_
 rintro _ w239 ⟨x234, s235, oA236, oc237, hg238, rfl, hGs235, M240x⟩
 have M240 : Mem (tS C s oA oc) w w239 [tb_ C s235 oA236 oc237, tm_ C s235, to_ s235 oA236 oc237, .blk b1 53 (EC e)] := M226.mdk M240x
 obtain ⟨hss235, hos235⟩ := (ev_stay C.E g).1 f.loc k1_ s221 x234 s235 hg238
 refine zpn 1 <| zfe <| zre <| zbr <| xo1 (vI x234) ?_
 exact ⟨_, s235, oA236, oc237, by rw [exF_eq, gbind_ok hg7, ex_12 (by omega), kid_at hk0_, gbind_ok hg224, if_pos (by omega), kid_at hk1_, hg238], rfl, hGs235, M240.tk 3⟩
 refine zsk <| zsr ?_
 obtain ⟨k2_, hk2_⟩ := get_of (l := e.kids) (i := 2) (by have := hwe.sh.two; have := hwe.sh.one; have := hwe.sh.three; have := hwe.sh.op; omega)
 have hkm2_ := List.mem_of_getElem? hk2_
 have hkl2_ := (List.getElem?_eq_some_iff.1 hk2_).1
 refine zpn 3 <| zld ⟨b1, 3, none⟩ (vS e.A e.kids.length e.c) (blk_cell (M226.get 3 rfl) rfl) ?_
 obtain ⟨ad241, had242⟩ := rds_some (M226.ro (hA.tree hse.kids.1)) (cs := k2_.cells) (i := 2) (gm hk2_)
 intro aC fr
 refine From_ixA (some 202) e.A ad241 e.kids.length 4 2 fr (by kernel_rfl) had242 (by omega) (by omega) ?_
 intro aC fr
 revert aC
 refine zls ((ad241 : Addr).add ((2 : Int).toNat * 4)) (EC k2_) (rds_cells (i := 2) (M226.ro (hA.tree hse.kids.1)) had242 (gm hk2_)) ?_
 refine zce (hE k2_ f cb lq m s221 oA222 oc223 w225 hGs221 (by omega) (Mem.pk_holds (l := tunL C s221 oA222 oc223) M226) (hA.pk_at (l := tunL C s221 oA222 oc223) M226) (hse.kids.2 k2_ hkm2_) (hwe.kid k2_ hkm2_) hfl (hFB.pk_at (l := tunL C s221 oA222 oc223) M226) (hFR.pk_at (l := tunL C s221 oA222 oc223) M226)) (fun _ w2_ ⟨k_, c_, s_, oA_, oc_, hg_, hv_, hG_, hx_⟩ a_ hf_ => by subst hv_; exact inB_pan <| xpp hf_ ⟨k_, c_, s_, oA_, oc_, by rw [exF_eq, gbind_ok hg7, ex_12 (by omega), kid_at hk0_, gbind_ok hg224, if_neg (by omega), kid_at hk2_, hg_], rfl, hG_, Mem.tk (Mem.mdk (l := tunL C s221 oA222 oc223) M226 hx_) 3⟩) ?_
 rintro _ w252 ⟨x247, s248, oA249, oc250, hg251, rfl, hGs248, M253x⟩
 have M253 : Mem (tS C s oA oc) w w252 [tb_ C s248 oA249 oc250, tm_ C s248, to_ s248 oA249 oc250, .blk b1 53 (EC e)] := M226.mdk M253x
 obtain ⟨hss248, hos248⟩ := (ev_stay C.E g).1 f.loc k2_ s221 x247 s248 hg251
 refine zpn 1 <| zfe <| zre <| zbr <| xo1 (vI x247) ?_
 exact ⟨_, s248, oA249, oc250, by rw [exF_eq, gbind_ok hg7, ex_12 (by omega), kid_at hk0_, gbind_ok hg224, if_neg (by omega), kid_at hk2_, hg251], rfl, hGs248, M253.tk 3⟩
 refine zsk <| zsq <| zsr ?_
 obtain ⟨k0_, hk0_⟩ := get_of (l := e.kids) (i := 0) (by have := hwe.sh.two; have := hwe.sh.one; have := hwe.sh.three; have := hwe.sh.op; omega)
 have hkm0_ := List.mem_of_getElem? hk0_
 have hkl0_ := (List.getElem?_eq_some_iff.1 hk0_).1
 refine zpn 3 <| zld ⟨b1, 3, none⟩ (vS e.A e.kids.length e.c) (blk_cell (M10.get 3 rfl) rfl) <| zkp [(0, (pT C.r 0)), (1, (pT cb 0)), (5, (pT b1 0)), (205, (pT C.r 0)), (206, (pT cb 0)), (208, (vS e.A e.kids.length e.c))] ?_
 obtain ⟨ad254, had255⟩ := rds_some (M10.ro (hA.tree hse.kids.1)) (cs := k0_.cells) (i := 0) (gm hk0_)
 intro aC fr
 refine From_ixA (some 209) e.A ad254 e.kids.length 4 0 fr (by kernel_rfl) had255 (by omega) (by omega) ?_
 intro aC fr
 revert aC
 refine zls ((ad254 : Addr).add ((0 : Int).toNat * 4)) (EC k0_) (rds_cells (i := 0) (M10.ro (hA.tree hse.kids.1)) had255 (gm hk0_)) ?_
 refine zce (hE k0_ f cb lq m s4 oA5 oc6 w9 hGs4 (by omega) (Mem.pk_holds (l := tunL C s4 oA5 oc6) M10) (hA.pk_at (l := tunL C s4 oA5 oc6) M10) (hse.kids.2 k0_ hkm0_) (hwe.kid k0_ hkm0_) hfl (hFB.pk_at (l := tunL C s4 oA5 oc6) M10) (hFR.pk_at (l := tunL C s4 oA5 oc6) M10)) (fun _ w2_ ⟨k_, c_, s_, oA_, oc_, hg_, hv_, hG_, hx_⟩ a_ hf_ => by subst hv_; exact xpp hf_ ⟨k_, c_, s_, oA_, oc_, by rw [exF_eq, gbind_ok hg7, ex_13 (by have := hwe.sh.op; omega), kid_at hk0_, gbind_stop hg_], rfl, hG_, Mem.tk (Mem.mdk (l := tunL C s4 oA5 oc6) M10 hx_) 3⟩) ?_
 rintro _ w265 ⟨x260, s261, oA262, oc263, hg264, rfl, hGs261, M266x⟩
 have M266 : Mem (tS C s oA oc) w w265 [tb_ C s261 oA262 oc263, tm_ C s261, to_ s261 oA262 oc263, .blk b1 53 (EC e)] := M10.mdk M266x
 obtain ⟨hss261, hos261⟩ := (ev_stay C.E g).1 f.loc k0_ s4 x260 s261 hg264
 refine zpn 1 <| zfe <| zcQ x260 0 (fun c267 => ?_) (fun c267 => ?_)
 refine zrg <| zpn 2 <| zld ⟨b1, 1, none⟩ (vI e.n) (blk_cell (M266.get 3 rfl) rfl) <| zce (tstop_c C.r 2 e.n w265) (fun _ w2_ ⟨hv_, hx_⟩ a_ hf_ => by subst hv_; exact xpp hf_ (⟨_, _, s261, oA262, oc263, by rw [exF_eq, gbind_ok hg7, ex_13 (by have := hwe.sh.op; omega), kid_at hk0_, gbind_ok hg264, if_pos (by omega)], rfl, hGs261, (M266.cl hx_).tk 3⟩)) ?_
 rintro _ w268 h_; exact h_.elim
 refine zsk <| zsr ?_
 obtain ⟨k1_, hk1_⟩ := get_of (l := e.kids) (i := 1) (by have := hwe.sh.two; have := hwe.sh.one; have := hwe.sh.three; have := hwe.sh.op; omega)
 have hkm1_ := List.mem_of_getElem? hk1_
 have hkl1_ := (List.getElem?_eq_some_iff.1 hk1_).1
 refine zpn 3 <| zld ⟨b1, 3, none⟩ (vS e.A e.kids.length e.c) (blk_cell (M266.get 3 rfl) rfl) ?_
 obtain ⟨ad270, had271⟩ := rds_some (M266.ro (hA.tree hse.kids.1)) (cs := k1_.cells) (i := 1) (gm hk1_)
 intro aC fr
 refine From_ixA (some 221) e.A ad270 e.kids.length 4 1 fr (by kernel_rfl) had271 (by omega) (by omega) ?_
 intro aC fr
 revert aC
 refine zls ((ad270 : Addr).add ((1 : Int).toNat * 4)) (EC k1_) (rds_cells (i := 1) (M266.ro (hA.tree hse.kids.1)) had271 (gm hk1_)) ?_
 refine zce (hE k1_ f cb lq m s261 oA262 oc263 w265 hGs261 (by omega) (Mem.pk_holds (l := tunL C s261 oA262 oc263) M266) (hA.pk_at (l := tunL C s261 oA262 oc263) M266) (hse.kids.2 k1_ hkm1_) (hwe.kid k1_ hkm1_) hfl (hFB.pk_at (l := tunL C s261 oA262 oc263) M266) (hFR.pk_at (l := tunL C s261 oA262 oc263) M266)) (fun _ w2_ ⟨k_, c_, s_, oA_, oc_, hg_, hv_, hG_, hx_⟩ a_ hf_ => by subst hv_; exact xpp hf_ ⟨k_, c_, s_, oA_, oc_, by rw [exF_eq, gbind_ok hg7, ex_13 (by have := hwe.sh.op; omega), kid_at hk0_, gbind_ok hg264, if_neg (by omega), kid_at hk1_, hg_], rfl, hG_, Mem.tk (Mem.mdk (l := tunL C s261 oA262 oc263) M266 hx_) 3⟩) ?_
 rintro _ w281 ⟨x276, s277, oA278, oc279, hg280, rfl, hGs277, M282x⟩
 have M282 : Mem (tS C s oA oc) w w281 [tb_ C s277 oA278 oc279, tm_ C s277, to_ s277 oA278 oc279, .blk b1 53 (EC e)] := M266.mdk M282x
 obtain ⟨hss277, hos277⟩ := (ev_stay C.E g).1 f.loc k1_ s261 x276 s277 hg280
 refine zpn 1 <| zfe <| zre <| xo1 (vI x276) ?_
 exact ⟨_, s277, oA278, oc279, by rw [exF_eq, gbind_ok hg7, ex_13 (by have := hwe.sh.op; omega), kid_at hk0_, gbind_ok hg264, if_neg (by omega), kid_at hk1_, hg280], rfl, hGs277, M282.tk 3⟩
end Go.Proofs.Ytdcgcjibgihbbaa
namespace Go.Mor
open Go.RowKit
theorem pad_int (l : List Int) (n : Nat) (h : l.length ≤ n) : ints l ++ (List.replicate n (Value.int .i64 0)).drop (ints l).length = ints (l ++ List.replicate (n - l.length) 0) := by
  rw [ints_append, ints_len, List.drop_replicate]
  simp [ints]
theorem tfns_at {C : TC} {n : Int} {f : TFn} (hn : 1 ≤ n) (hf : C.E.tfs[(n - 1).toNat]? = some f) : (zeroTF :: C.E.tfs.map TFn.cells)[n.toNat]? = some f.cells := by
  have e : n.toNat = (n - 1).toNat + 1 := by omega
  rw [e, List.getElem?_cons_succ, List.getElem?_map, hf]
  rfl
theorem steps_of_st {E : EnvT} {g : Nat} {x : MSt} {f : Frm} {s s' : PSt} {p : Int × Frm} (h : stS E g x f s = .ok p s') : s.steps ≤ s'.steps ∧ s'.opened = s.opened := (ev_stay E g).2 x f s p s' h
theorem steps_of_sts {E : EnvT} {g : Nat} {l : List MSt} {f : Frm} {s s' : PSt} {p : Int × Frm} (h : stmS (stS E g) l f s = .ok p s') : s.steps ≤ s'.steps ∧ s'.opened = s.opened := stm_stay (ev_stay E g).2 l f s p s' h
def StsOk (P : Program) (C : TC) (fn : FuncId) (st : MSt → Frm → PSt → Got (Int × Frm)) (b : Int) : Prop :=
  ∀ (l : List MSt) (A : Option Addr) (c : Nat) (f : Frm) (cb la m : Nat) (s : PSt) (oA : Option Addr) (oc : Nat) (w : World), TGood C s → C.E.fuel - s.steps < b → (Res.pk (tunL C s oA oc ++ frmL cb la m f)).holds w → RO (fS C s oA oc cb la m f) w C.ro →
    SubXs C.T A l → (∀ x, x ∈ l → StW (m : Int) x) → LenOk l.length → f.loc.length = m → SCalls P C f cb la m s oA oc w fn [pT C.r 0, pT cb 0, .slice A l.length c] (stmS st l f s)
def LpOk (P : Program) (C : TC) (fn : FuncId) (st : MSt → Frm → PSt → Got (Int × Frm)) (g : Nat) : Prop :=
  ∀ (l : List MSt) (A : Option Addr) (c : Nat) (f : Frm) (cb la m : Nat) (s : PSt) (oA : Option Addr) (oc : Nat) (w : World), TGood C s → C.E.fuel - s.steps < (g : Int) → (Res.pk (tunL C s oA oc ++ frmL cb la m f)).holds w → RO (fS C s oA oc cb la m f) w C.ro →
    SubXs C.T A l → (∀ x, x ∈ l → StW (m : Int) x) → LenOk l.length → f.loc.length = m → SCalls P C f cb la m s oA oc w fn [pT C.r 0, pT cb 0, .slice A l.length c] (loopF C.E.toEnv0 (stmS st l) g f s)
theorem steps_of_lp {E : EnvT} {g n : Nat} {l : List MSt} {f : Frm} {s s' : PSt} {p : Int × Frm} (h : loopF E.toEnv0 (stmS (stS E g) l) n f s = .ok p s') : s.steps ≤ s'.steps ∧ s'.opened = s.opened := loop_stay (stm_stay (ev_stay E g).2 l) n f s p s' h
theorem set_row_int (l : List Int) (k : Nat) (v : Int) : (ints l).set (k * 1) (.int .i64 v) = ints (l.set k v) := by rw [Nat.mul_one]; simp [ints, List.map_set]
end Go.Mor
namespace Go.Proofs.Ytdcgcjibgihbbaa
open Go.Mor
set_option maxHeartbeats 2000000 in
theorem tstats_c (C : TC) (s : PSt) (oA : Option Addr) (oc : Nat) (w : World) (hC : C.WF) (hG : TGood C s) (f : Frm) (cb lq m : Nat) (hR : (Res.pk (tunL C s oA oc ++ frmL cb lq m f)).holds w) (hA : RO (fS C s oA oc cb lq m f) w C.ro) (hfl : f.loc.length = m) (g : Nat) (hS : StOk Try.prog C 81 (stS C.E g) (g : Int)) (l : List MSt) (A : Option Addr) (c : Nat) (hb : C.E.fuel - s.steps < (g : Int)) (hl : SubXs C.T A l) (hw : ∀ x, x ∈ l → StW (m : Int) x) (hll : LenOk l.length) :
    SCalls Try.prog C f cb lq m s oA oc w 72 [(pT C.r 0), (pT cb 0), (vS A l.length c)] (stmS (stS C.E g) l f s) := by
 have hll2 := hll; unfold LenOk at hll2
 refine xen 24 [(pT C.r 0), (pT cb 0), (vS A l.length c)] Try.func72 ?_
 have hM := Mem.unpk hR
 refine zsp <| zsq <| zsp <| zbk 0 ?_
 intro aC fr
 refine zlp (fun n_ a_ w_ => ∃ (j : Nat) (fj : Frm) (sj : PSt) (oAj : Option Addr) (ocj : Nat), n_ = l.length - j ∧ Fr a_ 24 [(0, (pT C.r 0)), (1, (pT cb 0)), (10, (vS A l.length c)), (11, (vI ((l.length : Nat) : Int))), (12, (nV j))] ∧ Mem (fS C s oA oc cb lq m f) w w_ [tb_ C sj oAj ocj, tm_ C sj, to_ sj oAj ocj, .blk cb 120 [(vS (sM lq) m m), (vI fj.deep), (vI fj.back)], .row 2 1 (sM lq) m m (ints fj.loc)] ∧ (j ≤ l.length) ∧ (TGood C sj) ∧ (fj.loc.length = m) ∧ (s.steps ≤ sj.steps) ∧ (stmS (stS C.E g) l f s = stmS (stS C.E g) (l.drop j) fj sj)) (n := _) ⟨0, f, s, oA, oc, rfl, fr.kp [0, 1, 10, 11, 12], hM, Nat.zero_le _, hG, hfl, Int.le_refl _, (by rw [List.drop_zero])⟩ ?_
 clear fr aC hM; rintro n aC w3 ⟨j, fj, sj, oAj, ocj, rfl, fr, M4, hj, hGj, hfj, hsj, hr⟩
 revert aC
 refine zsp <| zsq <| zcD (((j : Int) : Int) < ((l.length : Nat) : Int)) (fun c7 => ?_) (fun c7 => ?_)
 refine zsk <| zsq <| zbk 1 <| zsr ?_
 obtain ⟨x, hx⟩ := get_of (l := l) (i := j) (by omega)
 have hxm := List.mem_of_getElem? hx
 obtain ⟨ad8, rfl⟩ := rds_some (M4.ro (hA.tree hl.1)) (cs := x.cells) (i := j) (gm hx)
 refine zix ad8 l.length 5 (j : Int) ?_
 refine zls ((ad8 : Addr).add (((j : Int)).toNat * 5)) (SC x) (rds_cells (i := j) (M4.ro (hA.tree hl.1)) rfl (gm hx)) ?_
 refine zal M4 48 [(vI 0), (vI 0), (vS none 0 0), (vS none 0 0), (vS none 0 0)] fun b9 w10 hb9 M11 => ?_
 replace M11 := M11.nf
 refine zss M11 5 (SC x) rfl fun w12 M13 => ?_
 replace M13 := M13.nf
 refine zfe <| zsr <| zpn 2 <| zls ⟨b9, 0, none⟩ (SC x) (blk_cells (M13.get 5 rfl)) <| zce (hS x fj cb lq m sj oAj ocj w12 hGj (by omega) (Mem.pk_holds (l := tunL C sj oAj ocj ++ frmL cb lq m fj) M13) (hA.pk_at (l := tunL C sj oAj ocj ++ frmL cb lq m fj) M13) (hl.2 x hxm) (hw x hxm) hfj) (fun _ w2_ ⟨k_, c_, s_, oA_, oc_, hg_, hv_, hG_, hx_⟩ a_ hf_ => by subst hv_; exact inB_pan <| inB_pan <| xpp hf_ ⟨k_, c_, s_, oA_, oc_, by rw [hr, stm_at hx, gbind_stop hg_], rfl, hG_, Mem.tk (Mem.mdk (l := tunL C sj oAj ocj ++ frmL cb lq m fj) M13 hx_) 3⟩) ?_
 rintro _ w20 ⟨how14, f15, s16, oA17, oc18, hg19, rfl, hGs16, hflf15, M21x⟩
 have M21 : Mem (fS C s oA oc cb lq m f) w w20 [tb_ C s16 oA17 oc18, tm_ C s16, to_ s16 oA17 oc18, .blk cb 120 [(vS (sM lq) m m), (vI f15.deep), (vI f15.back)], .row 2 1 (sM lq) m m (ints f15.loc), .blk b9 48 (SC x)] := M13.mdk M21x
 obtain ⟨hss16, hos16⟩ := steps_of_st hg19
 refine zpn 1 <| zfe <| zsp <| zcP ((how14 : Int) != 0) ((how14 : Int) ≠ 0) (by simp only [bne_iff_ne]) (fun c22 => ?_) (fun c22 => ?_)
 refine zsp <| zre <| zbr <| zbr <| xo1 (vI how14) ?_
 exact ⟨how14, f15, s16, oA17, oc18, (by rw [hr, stm_at hx, gbind_ok hg19]; exact if_pos c22), rfl, hGs16, hflf15, M21.tk 5⟩
 refine zsk <| zrg <| zar ((j : Int) + 1) <| zpn 1 <| zfe ?_
 intro aC fr
 exact ⟨l.length - (j + 1), by omega, j + 1, f15, s16, oA17, oc18, rfl, fr.kp [0, 1, 10, 11, 12], (M21.tk 5), by omega, hGs16, hflf15, by omega, (by rw [hr, stm_at hx, gbind_ok hg19]; exact if_neg c22)⟩
 refine zex 0 <| zbh <| zsr ?_
 have hj2 : l.length ≤ j := by omega
 refine zpn 1 <| zfe <| zre <| xo1 (vI 0) ?_
 exact ⟨0, fj, sj, oAj, ocj, (by rw [hr, List.drop_eq_nil_of_le hj2]; rfl), rfl, hGj, hfj, M4⟩
theorem tstats_ok {C : TC} (hC : C.WF) {g : Nat} (hS : StOk Try.prog C 81 (stS C.E g) (g : Int)) : StsOk Try.prog C 72 (stS C.E g) (g : Int) :=
  fun l A c f cb lq m s oA oc w hG hb hR hA hl hw hll hfl => tstats_c C s oA oc w hC hG f cb lq m hR hA hfl g hS l A c hb hl hw hll
set_option maxHeartbeats 2000000 in
theorem tloop_c (C : TC) (s : PSt) (oA : Option Addr) (oc : Nat) (w : World) (hC : C.WF) (hG : TGood C s) (f : Frm) (cb lq m : Nat) (hR : (Res.pk (tunL C s oA oc ++ frmL cb lq m f)).holds w) (hA : RO (fS C s oA oc cb lq m f) w C.ro) (hfl : f.loc.length = m) (g n : Nat) (hng : n ≤ g) (hSS : StsOk Try.prog C 72 (stS C.E g) (g : Int)) (l : List MSt) (A : Option Addr) (c : Nat) (hb : C.E.fuel - s.steps < (n : Int)) (hl : SubXs C.T A l) (hw : ∀ x, x ∈ l → StW (m : Int) x) (hll : LenOk l.length) :
    SCalls Try.prog C f cb lq m s oA oc w 92 [(pT C.r 0), (pT cb 0), (vS A l.length c)] (loopF C.E.toEnv0 (stmS (stS C.E g) l) n f s) := by
 refine xen 38 [(pT C.r 0), (pT cb 0), (vS A l.length c)] Try.func92 ?_
 have hM := Mem.unpk hR
 refine zsp <| zsc <| zsq <| zbk 0 ?_
 intro aC fr
 refine zlp (fun n_ a_ w_ => ∃ (k : Nat) (fj : Frm) (sj : PSt) (oAj : Option Addr) (ocj : Nat), n_ = 2 * k ∧ Fr a_ 38 [(0, (pT C.r 0)), (1, (pT cb 0)), (2, (vS A l.length c))] ∧ Mem (fS C s oA oc cb lq m f) w w_ [tb_ C sj oAj ocj, tm_ C sj, to_ sj oAj ocj, .blk cb 120 [(vS (sM lq) m m), (vI fj.deep), (vI fj.back)], .row 2 1 (sM lq) m m (ints fj.loc)] ∧ (k ≤ n) ∧ (C.E.fuel - sj.steps < (k : Int)) ∧ (TGood C sj) ∧ (fj.loc.length = m) ∧ (s.steps ≤ sj.steps) ∧ (loopF C.E.toEnv0 (stmS (stS C.E g) l) n f s = loopF C.E.toEnv0 (stmS (stS C.E g) l) k fj sj)) (n := _) ⟨n, f, s, oA, oc, rfl, fr.kp [0, 1, 2], hM, Nat.le_refl _, hb, hG, hfl, Int.le_refl _, rfl⟩ ?_
 clear fr aC hM; rintro n aC w3 ⟨k, fj, sj, oAj, ocj, rfl, fr, M4, hkn, hbk, hGj, hfj, hsj, hr⟩
 revert aC
 refine zbk 1 <| zsr ?_
 obtain ⟨k1, rfl⟩ : ∃ k1, k = k1 + 1 := ⟨k - 1, by have := hGj.s2; omega⟩
 refine zpn 1 <| zce (tstep_c C sj oAj ocj w3 hC hGj (Mem.pk_holds (l := tunL C sj oAj ocj) M4)) (fun _ w2_ ⟨k_, c_, s_, oA_, oc_, hg_, hv_, hG_, hx_⟩ a_ hf_ => by subst hv_; exact inB_pan <| inB_pan <| noG_pan <| xpp hf_ ⟨k_, c_, s_, oA_, oc_, by rw [hr, loop_at, gbind_stop hg_], rfl, hG_, Mem.tk (Mem.mdk (l := tunL C sj oAj ocj) M4 hx_) 3⟩) ?_
 rintro _ w12 ⟨u11, s7, oA8, oc9, hg10, rfl, hGs7, M13x⟩
 have M13 : Mem (fS C s oA oc cb lq m f) w w12 [tb_ C s7 oA8 oc9, tm_ C s7, to_ s7 oA8 oc9, .blk cb 120 [(vS (sM lq) m m), (vI fj.deep), (vI fj.back)], .row 2 1 (sM lq) m m (ints fj.loc)] := M4.mdk M13x
 obtain ⟨hss7, hos7⟩ := stepT_steps hg10
 refine zfe <| zsr <| zpn 3 <| zce (hSS l A c fj cb lq m s7 oA8 oc9 w12 hGs7 (by omega) (Mem.pk_holds (l := tunL C s7 oA8 oc9 ++ frmL cb lq m fj) M13) (hA.pk_at (l := tunL C s7 oA8 oc9 ++ frmL cb lq m fj) M13) hl hw hll hfj) (fun _ w2_ ⟨k_, c_, s_, oA_, oc_, hg_, hv_, hG_, hx_⟩ a_ hf_ => by subst hv_; exact inB_pan <| inB_pan <| noG_pan <| xpp hf_ ⟨k_, c_, s_, oA_, oc_, by rw [hr, loop_at, gbind_ok hg10, gbind_stop hg_], rfl, hG_, Mem.tk (Mem.mdk (l := tunL C s7 oA8 oc9 ++ frmL cb lq m fj) M13 hx_) 3⟩) ?_
 rintro _ w20 ⟨how14, f15, s16, oA17, oc18, hg19, rfl, hGs16, hflf15, M21x⟩
 have M21 : Mem (fS C s oA oc cb lq m f) w w20 [tb_ C s16 oA17 oc18, tm_ C s16, to_ s16 oA17 oc18, .blk cb 120 [(vS (sM lq) m m), (vI f15.deep), (vI f15.back)], .row 2 1 (sM lq) m m (ints f15.loc)] := M13.mdk M21x
 obtain ⟨hss16, hos16⟩ := steps_of_sts hg19
 refine zpn 1 <| zfe <| zbk 2 <| zsp <| zcQ how14 3 (fun c22 => ?_) (fun c22 => ?_)
 refine zsp <| zre <| zbr <| zbr <| zbr <| zng <| xo1 (vI how14) ?_
 exact ⟨how14, f15, s16, oA17, oc18, (by rw [hr, loop_at, gbind_ok hg10, gbind_ok hg19]; exact (if_pos c22).trans (by rw [c22])), rfl, hGs16, hflf15, M21⟩
 refine zsp <| zcQ how14 0 (fun c23 => ?_) (fun c23 => ?_)
 refine zex 1 <| zbm <| zbh ?_
 intro aC fr
 exact ⟨2 * k1, by omega, k1, f15, s16, oA17, oc18, rfl, fr.kp [0, 1, 2], M21, by omega, by omega, hGs16, hflf15, by omega, (by rw [hr, loop_at, gbind_ok hg10, gbind_ok hg19]; exact (if_neg c22).trans (if_pos c23))⟩
 refine zsr <| zpn 3 <| zld ⟨cb, 1, none⟩ (vI f15.deep) (blk_cell (M21.get 3 rfl) rfl) <| zpn 2 <| zfe <| zcD ((f15.deep : Int) > 0) (fun c26 => ?_) (fun c26 => ?_)
 refine zsr <| zpn 3 <| zld ⟨cb, 1, none⟩ (vI f15.deep) (blk_cell (M21.get 3 rfl) rfl) <| zkp [(7, (vI how14)), (27, (pT cb 0)), (30, (vI f15.deep))] <| zbi .i64 (IntKind.i64.wrap (f15.deep - 1)) 1 <| zpn 2 <| zsb (ho := (by simp)) M21 3 1 (vI (IntKind.i64.wrap (f15.deep - 1))) rfl fun w27 M28 => ?_
 replace M28 := M28.nf
 refine zfe <| zsp <| zre <| zbr <| zbr <| zbr <| zng <| xo1 (vI how14) ?_
 exact ⟨how14, { f15 with deep := IntKind.i64.wrap (f15.deep - 1) }, s16, oA17, oc18, (by rw [hr, loop_at, gbind_ok hg10, gbind_ok hg19]; exact (if_neg c22).trans ((if_neg c23).trans (if_pos c26))), rfl, hGs16, hflf15, M28⟩
 refine zsp <| zcQ how14 1 (fun c29 => ?_) (fun c29 => ?_)
 refine zex 0 <| zbm <| zbm <| zbh <| zsp <| zre <| zng <| xo1 (vI 0) ?_
 exact ⟨0, f15, s16, oA17, oc18, (by rw [hr, loop_at, gbind_ok hg10, gbind_ok hg19]; exact (if_neg c22).trans ((if_neg c23).trans ((if_neg c26).trans (if_pos c29)))), rfl, hGs16, hflf15, M21⟩
 refine zsk ?_
 intro aC fr
 exact ⟨2 * k1, by omega, k1, f15, s16, oA17, oc18, rfl, fr.kp [0, 1, 2], M21, by omega, by omega, hGs16, hflf15, by omega, (by rw [hr, loop_at, gbind_ok hg10, gbind_ok hg19]; exact (if_neg c22).trans ((if_neg c23).trans ((if_neg c26).trans (if_neg c29))))⟩
theorem tloop_ok {C : TC} (hC : C.WF) {g : Nat} (hSS : StsOk Try.prog C 72 (stS C.E g) (g : Int)) : LpOk Try.prog C 92 (stS C.E g) g :=
  fun l A c f cb lq m s oA oc w hG hb hR hA hl hw hll hfl => tloop_c C s oA oc w hC hG f cb lq m hR hA hfl g g (Nat.le_refl _) hSS l A c hb hl hw hll
end Go.Proofs.Ytdcgcjibgihbbaa
namespace Go.Proofs.Ytdcgcjibgihbbaa
open Go.Mor
set_option maxHeartbeats 4000000 in
theorem tstat_c (C : TC) (s : PSt) (oA : Option Addr) (oc : Nat) (w : World) (hC : C.WF) (hG : TGood C s) (f : Frm) (cb lq m : Nat) (hR : (Res.pk (tunL C s oA oc ++ frmL cb lq m f)).holds w) (hA : RO (fS C s oA oc cb lq m f) w C.ro) (hfl : f.loc.length = m) (g : Nat) (hE : ExOk Try.prog C 90 (exS C.E g) (g : Int)) (hSS : StsOk Try.prog C 72 (stS C.E g) (g : Int)) (hL : LpOk Try.prog C 92 (stS C.E g) g) (x : MSt) (hb : C.E.fuel - s.steps < (g : Int) + 1) (hsx : SubX C.T x) (hwx : StW (m : Int) x) :
    SCalls Try.prog C f cb lq m s oA oc w 81 [(pT C.r 0), (pT cb 0), (.agg (SC x).toArray)] (statF C.E g (exS C.E g) (stS C.E g) x f s) := by
 have stF_eq : statF C.E g (exS C.E g) (stS C.E g) x f s = (stepS C.E.toEnv0 s).bind fun _ s => statB C.E g (exS C.E g) (stS C.E g) x f s := rfl
 have hfew := hwx.sf.few
 refine xen 152 [(pT C.r 0), (pT cb 0), (.agg (SC x).toArray)] Try.func81 ?_
 have hM := Mem.unpk hR
 refine zsr <| zbx hM 48 (.agg (SC x).toArray) (SC x) fun b1 w2 hb1 M3 => ?_
 replace M3 := M3.nf
 clear hM
 refine zpn 1 <| zfe <| zsr <| zpn 1 <| zce (tstep_c C s oA oc w2 hC hG (Mem.pk_holds (l := tunL C s oA oc) M3)) (fun _ w2_ ⟨k_, c_, s_, oA_, oc_, hg_, hv_, hG_, hx_⟩ a_ hf_ => by subst hv_; exact xpp hf_ ⟨k_, c_, s_, oA_, oc_, by rw [stF_eq, gbind_stop hg_], rfl, hG_, Mem.tk (Mem.mdk (l := tunL C s oA oc) M3 hx_) 3⟩) ?_
 rintro _ w9 ⟨u8, s4, oA5, oc6, hg7, rfl, hGs4, M10x⟩
 have M10 : Mem (fS C s oA oc cb lq m f) w w9 [tb_ C s4 oA5 oc6, tm_ C s4, to_ s4 oA5 oc6, .blk cb 120 [(vS (sM lq) m m), (vI f.deep), (vI f.back)], .row 2 1 (sM lq) m m (ints f.loc), .blk b1 48 (SC x)] := M3.mdk M10x
 obtain ⟨hss4, hos4⟩ := stepT_steps hg7
 refine zfe <| zsq <| zsr <| zpn 1 <| zld ⟨b1, 0, none⟩ (vI x.op) (blk_cell (M10.get 5 rfl) rfl) <| zfe <| zbk 0 <| zsp <| zcQ x.op 1 (fun c11 => ?_) (fun c11 => ?_)
 obtain ⟨k0_, hk0_⟩ := get_of (l := x.exprs) (i := 0) (by have := hwx.sf.two; have := hwx.sf.one; have := hwx.sf.op; omega)
 have hkm0_ := List.mem_of_getElem? hk0_
 have hkl0_ := (List.getElem?_eq_some_iff.1 hk0_).1
 cases hg4_ : exS C.E g f.loc k0_ s4
 rename_i x12 s13
 obtain ⟨hss13, hos13⟩ := (ev_stay C.E g).1 f.loc k0_ s4 x12 s13 hg4_
 obtain ⟨ad14, had15⟩ := rds_some (M10.ro (hA.tree hsx.exprs.1)) (cs := k0_.cells) (i := 0) (gm hk0_)
 refine zkp [(0, (pT C.r 0)), (1, (pT cb 0)), (5, (pT b1 0)), (13, (vI x.op))] ?_
 intro aC fr
 refine zdm 13 12 (N := 152) (env0 := [(0, (pT C.r 0)), (1, (pT cb 0)), (5, (pT b1 0)), (13, (vI x.op))]) (specAt [.det (pT cb 0), .det (pT cb 0), .det (pT cb 0), .det (vS (sM lq) m m), .det (pT b1 1), .det (vI x.n), .det (pT C.r 0), .det (pT cb 0), .det (pT b1 2), .det (vS x.eA x.exprs.length x.ec), .det (.pointer (some ((ad14 : Addr).add ((0 : Int).toNat * 4)))), .det (.agg (EC k0_).toArray), .det (vI x12)]) (fun w_ => Mem (fS C s oA oc cb lq m f) w w_ [tb_ C s4 oA5 oc6, tm_ C s4, to_ s4 oA5 oc6, .blk cb 120 [(vS (sM lq) m m), (vI f.deep), (vI f.back)], .row 2 1 (sM lq) m m (ints f.loc), .blk b1 48 (SC x)]) (fun w_ => ∃ oA_ oc_, TGood C s13 ∧ Mem (fS C s oA oc cb lq m f) w w_ (tunL C s13 oA_ oc_ ++ [.blk cb 120 [(vS (sM lq) m m), (vI f.deep), (vI f.back)], .row 2 1 (sM lq) m m (ints f.loc), .blk b1 48 (SC x)])) (fun w_ => ∃ s_ oA_ oc_, Mem (fS C s oA oc cb lq m f) w w_ (tunL C s_ oA_ oc_ ++ [.blk cb 120 [(vS (sM lq) m m), (vI f.deep), (vI f.back)], .row 2 1 (sM lq) m m (ints f.loc), .blk b1 48 (SC x)])) fr (plain_ok (.det (.det (.det (.det (.det (.det (.det (.det (.det (.det (.det (.det (.det .nil)))))))))))))) (M10.then_ (Mem.drew _)) (fun _ _ h_ hK_ => h_.then_ hK_) (fun _ _ ⟨oA_, oc_, hG_, h_⟩ hK_ => ⟨oA_, oc_, hG_, h_.then_ hK_⟩) (fun _ h_ => ⟨_, _, _, h_⟩) (fun _ ⟨_, _, _, h_⟩ => ⟨_, _, _, h_⟩) ?_ (by intro _; kernel_rfl) (dMu (vs := [pT C.r 0, pT cb 0, .agg k0_.cells.toArray]) (fun w_ hA_ => REnds.weak (tcalls_ok hg4_ (hE k0_ f cb lq m s4 oA5 oc6 w_ hGs4 (by omega) (Mem.pk_holds (l := tunL C s4 oA5 oc6) hA_) (hA.pk_at (l := tunL C s4 oA5 oc6) hA_) (hsx.exprs.2 k0_ hkm0_) (hwx.ex k0_ hkm0_) hfl (RO.pk_own (l := tunL C s4 oA5 oc6) hA_ 0 rfl) (RO.row_rd (RO.pk_own (l := tunL C s4 oA5 oc6) hA_ 1 rfl)))) (fun _ _ ⟨h1_, oA_, oc_, hG_, hm_⟩ => ⟨h1_, oA_, oc_, hG_, Mem.mdk (l := tunL C s4 oA5 oc6) hA_ hm_⟩) (fun _ _ h_ => h_)) (fun _ _ _ _ h_ => h_.elim)) ?_
 · exact (la (la (la (la (la (la (la (la (la (la (la (la (la lz (fun _ w_ ⟨s_, oA_, oc_, hm_⟩ => dP)) (fun _ w_ ⟨s_, oA_, oc_, hm_⟩ => dP)) (fun _ w_ ⟨s_, oA_, oc_, hm_⟩ => dP)) (fun _ w_ ⟨s_, oA_, oc_, hm_⟩ => (dL ⟨cb, 0, none⟩ (vS (sM lq) m m) fun w_ hK => (blk_cell ((hm_.then_ hK).get 3 rfl) rfl)))) (fun _ w_ ⟨s_, oA_, oc_, hm_⟩ => dP)) (fun _ w_ ⟨s_, oA_, oc_, hm_⟩ => (dL ⟨b1, 1, none⟩ (vI x.n) fun w_ hK => (blk_cell ((hm_.then_ hK).get 5 rfl) rfl)))) (fun _ w_ ⟨s_, oA_, oc_, hm_⟩ => dP)) (fun _ w_ ⟨s_, oA_, oc_, hm_⟩ => dP)) (fun _ w_ ⟨s_, oA_, oc_, hm_⟩ => dP)) (fun _ w_ ⟨s_, oA_, oc_, hm_⟩ => (dL ⟨b1, 2, none⟩ (vS x.eA x.exprs.length x.ec) fun w_ hK => (blk_cell ((hm_.then_ hK).get 5 rfl) rfl)))) (fun _ w_ ⟨s_, oA_, oc_, hm_⟩ => (dIA x.eA ad14 x.exprs.length 4 0 had15))) (fun _ w_ ⟨s_, oA_, oc_, hm_⟩ => (dS ((ad14 : Addr).add ((0 : Int).toNat * 4)) (EC k0_) fun w_ hK => (rds_cells (i := 0) ((hm_.then_ hK).ro (hA.tree hsx.exprs.1)) had15 (gm hk0_))))) (fun h_ => absurd rfl h_))
 intro aC w20 vs hB_ hv fr
 revert aC; refine zkp [(19, (vS (sM lq) m m)), (21, (vI x.n)), (28, (vI x12))] ?_
 clear hv fr aC M10; clear vs
 obtain ⟨oA22, oc23, hGs13, M21⟩ := hB_
 replace M21 : Mem (fS C s oA oc cb lq m f) w w20 [tb_ C s13 oA22 oc23, tm_ C s13, to_ s13 oA22 oc23, .blk cb 120 [(vS (sM lq) m m), (vI f.deep), (vI f.back)], .row 2 1 (sM lq) m m (ints f.loc), .blk b1 48 (SC x)] := M21
 refine zix (h0 := (by have := hwx.sf.loc (by omega); omega)) (h1 := (by have := hwx.sf.loc (by omega); omega)) ⟨lq, 0, none⟩ m 1 x.n <| zsw M21 4 ((⟨lq, 0, none⟩ : Addr).add ((x.n).toNat * 1)) ((x.n).toNat * 1) (vI x12) rfl rfl (by have := hwx.sf.loc (by omega); omega) fun w24 M25 => ?_
 replace M25 := M25.nf
 refine zfe <| zsp <| zre <| xo1 (vI 0) ?_
 have M26 : Mem (fS C s oA oc cb lq m f) w w24 [tb_ C s13 oA22 oc23, tm_ C s13, to_ s13 oA22 oc23, .blk cb 120 [(vS (sM lq) m m), (vI f.deep), (vI f.back)], .row 2 1 (sM lq) m m (ints (f.loc.set x.n.toNat x12)), .blk b1 48 (SC x)] := M25.cast (by rw [set_row_int])
 exact ⟨0, { f with loc := f.loc.set x.n.toNat x12 }, s13, oA22, oc23, by rw [stF_eq, gbind_ok hg7, sm_1 (by omega), kid_at hk0_, gbind_ok hg4_], rfl, hGs13, (by show (f.loc.set _ _).length = m; rw [List.length_set]; exact hfl), M26.tk 5⟩
 rename_i k_ c_ s_
 obtain ⟨ad27, had28⟩ := rds_some (M10.ro (hA.tree hsx.exprs.1)) (cs := k0_.cells) (i := 0) (gm hk0_)
 refine zkp [(0, (pT C.r 0)), (1, (pT cb 0)), (5, (pT b1 0)), (13, (vI x.op))] ?_
 intro aC fr
 refine zdt 13 (N := 152) (env0 := [(0, (pT C.r 0)), (1, (pT cb 0)), (5, (pT b1 0)), (13, (vI x.op))]) (specAt [.det (pT cb 0), .det (pT cb 0), .det (pT cb 0), .det (vS (sM lq) m m), .det (pT b1 1), .det (vI x.n), .det (pT C.r 0), .det (pT cb 0), .det (pT b1 2), .det (vS x.eA x.exprs.length x.ec), .det (.pointer (some ((ad27 : Addr).add ((0 : Int).toNat * 4)))), .det (.agg (EC k0_).toArray), Spec.never]) fr (la (la (la (la (la (la (la (la (la (la (la (la (la lz dP) dP) dP) (dL ⟨cb, 0, none⟩ (vS (sM lq) m m) fun w_ hK => (blk_cell ((M10.then_ hK).get 3 rfl) rfl))) dP) (dL ⟨b1, 1, none⟩ (vI x.n) fun w_ hK => (blk_cell ((M10.then_ hK).get 5 rfl) rfl))) dP) dP) dP) (dL ⟨b1, 2, none⟩ (vS x.eA x.exprs.length x.ec) fun w_ hK => (blk_cell ((M10.then_ hK).get 5 rfl) rfl))) (dIA x.eA ad27 x.exprs.length 4 0 had28)) (dS ((ad27 : Addr).add ((0 : Int).toNat * 4)) (EC k0_) fun w_ hK => (rds_cells (i := 0) ((M10.then_ hK).ro (hA.tree hsx.exprs.1)) had28 (gm hk0_)))) (dF (vs := [pT C.r 0, pT cb 0, .agg k0_.cells.toArray]) (Ψ := fun v w' => v = endT k_ c_ ∧ ∃ oA_ oc_, TGood C s_ ∧ Mem (fS C s oA oc cb lq m f) w w' (tunL C s_ oA_ oc_ ++ [.blk cb 120 [(vS (sM lq) m m), (vI f.deep), (vI f.back)], .row 2 1 (sM lq) m m (ints f.loc), .blk b1 48 (SC x)])) (fun w_ hK => REnds.weak (tcalls_stop hg4_ (hE k0_ f cb lq m s4 oA5 oc6 w_ hGs4 (by omega) (Mem.pk_holds (l := tunL C s4 oA5 oc6) (M10.then_ hK)) (hA.pk_at (l := tunL C s4 oA5 oc6) (M10.then_ hK)) (hsx.exprs.2 k0_ hkm0_) (hwx.ex k0_ hkm0_) hfl (RO.pk_own (l := tunL C s4 oA5 oc6) (M10.then_ hK) 0 rfl) (RO.row_rd (RO.pk_own (l := tunL C s4 oA5 oc6) (M10.then_ hK) 1 rfl)))) (fun _ _ h_ => h_) (fun _ _ ⟨h1_, oA_, oc_, hG_, hm_⟩ => ⟨h1_, oA_, oc_, hG_, Mem.mdk (l := tunL C s4 oA5 oc6) (M10.then_ hK) hm_⟩)) (fun _ _ h_ a_ hd_ => by obtain ⟨rfl, oA_, oc_, hG_, hm_⟩ := h_; exact inB_pan <| xpd hd_ ⟨k_, c_, s_, oA_, oc_, by rw [stF_eq, gbind_ok hg7, sm_1 (by omega), kid_at hk0_, gbind_stop hg4_], rfl, hG_, hm_.tk 3⟩))) ?_
 intro aC w33 vs hK hv fr
 exact (hv 12 (by decide)).elim
 refine zsp <| zcQ x.op 2 (fun c35 => ?_) (fun c35 => ?_)
 refine zsr ?_
 obtain ⟨k0_, hk0_⟩ := get_of (l := x.exprs) (i := 0) (by have := hwx.sf.two; have := hwx.sf.one; have := hwx.sf.op; omega)
 have hkm0_ := List.mem_of_getElem? hk0_
 have hkl0_ := (List.getElem?_eq_some_iff.1 hk0_).1
 refine zpn 3 <| zld ⟨b1, 2, none⟩ (vS x.eA x.exprs.length x.ec) (blk_cell (M10.get 5 rfl) rfl) ?_
 obtain ⟨ad36, had37⟩ := rds_some (M10.ro (hA.tree hsx.exprs.1)) (cs := k0_.cells) (i := 0) (gm hk0_)
 intro aC fr
 refine From_ixA (some 36) x.eA ad36 x.exprs.length 4 0 fr (by kernel_rfl) had37 (by omega) (by omega) ?_
 intro aC fr
 revert aC
 refine zls ((ad36 : Addr).add ((0 : Int).toNat * 4)) (EC k0_) (rds_cells (i := 0) (M10.ro (hA.tree hsx.exprs.1)) had37 (gm hk0_)) ?_
 refine zkp [(0, (pT C.r 0)), (1, (pT cb 0)), (5, (pT b1 0)), (32, (pT C.r 0)), (33, (pT cb 0)), (37, (.agg (EC k0_).toArray))] <| zce (hE k0_ f cb lq m s4 oA5 oc6 w9 hGs4 (by omega) (Mem.pk_holds (l := tunL C s4 oA5 oc6) M10) (hA.pk_at (l := tunL C s4 oA5 oc6) M10) (hsx.exprs.2 k0_ hkm0_) (hwx.ex k0_ hkm0_) hfl (RO.pk_own (l := tunL C s4 oA5 oc6) M10 0 rfl) (RO.row_rd (RO.pk_own (l := tunL C s4 oA5 oc6) M10 1 rfl))) (fun _ w2_ ⟨k_, c_, s_, oA_, oc_, hg_, hv_, hG_, hx_⟩ a_ hf_ => by subst hv_; exact inB_pan <| xpp hf_ ⟨k_, c_, s_, oA_, oc_, by rw [stF_eq, gbind_ok hg7, sm_2 (by omega), kid_at hk0_, gbind_stop hg_], rfl, hG_, Mem.tk (Mem.mdk (l := tunL C s4 oA5 oc6) M10 hx_) 3⟩) ?_
 rintro _ w47 ⟨x42, s43, oA44, oc45, hg46, rfl, hGs43, M48x⟩
 have M48 : Mem (fS C s oA oc cb lq m f) w w47 [tb_ C s43 oA44 oc45, tm_ C s43, to_ s43 oA44 oc45, .blk cb 120 [(vS (sM lq) m m), (vI f.deep), (vI f.back)], .row 2 1 (sM lq) m m (ints f.loc), .blk b1 48 (SC x)] := M10.mdk M48x
 obtain ⟨hss43, hos43⟩ := (ev_stay C.E g).1 f.loc k0_ s4 x42 s43 hg46
 refine zpn 1 <| zfe <| zsr ?_
 obtain ⟨k1_, hk1_⟩ := get_of (l := x.exprs) (i := 1) (by have := hwx.sf.two; have := hwx.sf.one; have := hwx.sf.op; omega)
 have hkm1_ := List.mem_of_getElem? hk1_
 have hkl1_ := (List.getElem?_eq_some_iff.1 hk1_).1
 refine zpn 3 <| zld ⟨b1, 2, none⟩ (vS x.eA x.exprs.length x.ec) (blk_cell (M48.get 5 rfl) rfl) ?_
 obtain ⟨ad49, had50⟩ := rds_some (M48.ro (hA.tree hsx.exprs.1)) (cs := k1_.cells) (i := 1) (gm hk1_)
 intro aC fr
 refine From_ixA (some 43) x.eA ad49 x.exprs.length 4 1 fr (by kernel_rfl) had50 (by omega) (by omega) ?_
 intro aC fr
 revert aC
 refine zls ((ad49 : Addr).add ((1 : Int).toNat * 4)) (EC k1_) (rds_cells (i := 1) (M48.ro (hA.tree hsx.exprs.1)) had50 (gm hk1_)) ?_
 refine zce (hE k1_ f cb lq m s43 oA44 oc45 w47 hGs43 (by omega) (Mem.pk_holds (l := tunL C s43 oA44 oc45) M48) (hA.pk_at (l := tunL C s43 oA44 oc45) M48) (hsx.exprs.2 k1_ hkm1_) (hwx.ex k1_ hkm1_) hfl (RO.pk_own (l := tunL C s43 oA44 oc45) M48 0 rfl) (RO.row_rd (RO.pk_own (l := tunL C s43 oA44 oc45) M48 1 rfl))) (fun _ w2_ ⟨k_, c_, s_, oA_, oc_, hg_, hv_, hG_, hx_⟩ a_ hf_ => by subst hv_; exact inB_pan <| xpp hf_ ⟨k_, c_, s_, oA_, oc_, by rw [stF_eq, gbind_ok hg7, sm_2 (by omega), kid_at hk0_, gbind_ok hg46, kid_at hk1_, gbind_stop hg_], rfl, hG_, Mem.tk (Mem.mdk (l := tunL C s43 oA44 oc45) M48 hx_) 3⟩) ?_
 rintro _ w60 ⟨x55, s56, oA57, oc58, hg59, rfl, hGs56, M61x⟩
 have M61 : Mem (fS C s oA oc cb lq m f) w w60 [tb_ C s56 oA57 oc58, tm_ C s56, to_ s56 oA57 oc58, .blk cb 120 [(vS (sM lq) m m), (vI f.deep), (vI f.back)], .row 2 1 (sM lq) m m (ints f.loc), .blk b1 48 (SC x)] := M48.mdk M61x
 obtain ⟨hss56, hos56⟩ := (ev_stay C.E g).1 f.loc k1_ s43 x55 s56 hg59
 refine zpn 1 <| zfe <| zrg <| zpn 3 <| zld ⟨b1, 1, none⟩ (vI x.n) (blk_cell (M61.get 5 rfl) rfl) <| zbi .i64 (IntKind.i64.wrap (x42 + x.n)) x.n <| zce (tat_c C s56 oA57 oc58 w60 (IntKind.i64.wrap (x42 + x.n)) hGs56 (M61.own_ro 0 rfl)) (fun _ w2_ ⟨hr_, hv_, hx_⟩ a_ hf_ => by subst hv_; exact inB_pan <| xpp hf_ ⟨_, _, s56, oA57, oc58, by rw [stF_eq, gbind_ok hg7, sm_2 (by omega), kid_at hk0_, gbind_ok hg46, kid_at hk1_, gbind_ok hg59, at_no hr_]; rfl, rfl, hGs56, (M61.cl hx_).tk 3⟩) ?_
 rintro _ w63 ⟨hr62, rfl, M64x⟩
 have M64 := M61.cl M64x
 refine zkp [(8, (vI x55)), (51, (.pointer (some ((⟨C.mG, 0, none⟩ : Addr).add (((IntKind.i64.wrap (x42 + x.n))).toNat * 1)))))] <| zpn 2 <| zsw M64 1 ((⟨C.mG, 0, none⟩ : Addr).add (((IntKind.i64.wrap (x42 + x.n))).toNat * 1)) (((IntKind.i64.wrap (x42 + x.n))).toNat * 1) (vI x55) rfl rfl (by have := hGs56.mem; have := hGs56.n2; omega) fun w65 M66 => ?_
 replace M66 := M66.nf
 refine zfe <| zsp <| zre <| xo1 (vI 0) ?_
 have M67 : Mem (fS C s oA oc cb lq m f) w w65 [tb_ C s56 oA57 oc58, .row 2 1 (sM C.mG) C.E.memN C.E.memN (ints (s56.mem.set ((IntKind.i64.wrap (x42 + x.n))).toNat x55)), to_ s56 oA57 oc58, .blk cb 120 [(vS (sM lq) m m), (vI f.deep), (vI f.back)], .row 2 1 (sM lq) m m (ints f.loc), .blk b1 48 (SC x)] := M66.cast (by rw [set_row_int])
 exact ⟨0, f, { s56 with mem := s56.mem.set ((IntKind.i64.wrap (x42 + x.n))).toNat x55 }, oA57, oc58, (by rw [stF_eq, gbind_ok hg7, sm_2 (by omega), kid_at hk0_, gbind_ok hg46, kid_at hk1_, gbind_ok hg59, at_yes (by omega)]; rfl), rfl, (hGs56.set _ _), hfl, M67.tk 5⟩
 refine zsp <| zcQ x.op 3 (fun c68 => ?_) (fun c68 => ?_)
 refine zrg ?_
 obtain ⟨k0_, hk0_⟩ := get_of (l := x.exprs) (i := 0) (by have := hwx.sf.two; have := hwx.sf.one; have := hwx.sf.op; omega)
 have hkm0_ := List.mem_of_getElem? hk0_
 have hkl0_ := (List.getElem?_eq_some_iff.1 hk0_).1
 refine zpn 3 <| zld ⟨b1, 2, none⟩ (vS x.eA x.exprs.length x.ec) (blk_cell (M10.get 5 rfl) rfl) ?_
 obtain ⟨ad69, had70⟩ := rds_some (M10.ro (hA.tree hsx.exprs.1)) (cs := k0_.cells) (i := 0) (gm hk0_)
 intro aC fr
 refine From_ixA (some 60) x.eA ad69 x.exprs.length 4 0 fr (by kernel_rfl) had70 (by omega) (by omega) ?_
 intro aC fr
 revert aC
 refine zkp [(56, (pT C.r 0)), (57, (pT cb 0)), (60, (.pointer (some ((ad69 : Addr).add ((0 : Int).toNat * 4)))))] ?_
 refine zls ((ad69 : Addr).add ((0 : Int).toNat * 4)) (EC k0_) (rds_cells (i := 0) (M10.ro (hA.tree hsx.exprs.1)) had70 (gm hk0_)) ?_
 refine zce (hE k0_ f cb lq m s4 oA5 oc6 w9 hGs4 (by omega) (Mem.pk_holds (l := tunL C s4 oA5 oc6) M10) (hA.pk_at (l := tunL C s4 oA5 oc6) M10) (hsx.exprs.2 k0_ hkm0_) (hwx.ex k0_ hkm0_) hfl (RO.pk_own (l := tunL C s4 oA5 oc6) M10 0 rfl) (RO.row_rd (RO.pk_own (l := tunL C s4 oA5 oc6) M10 1 rfl))) (fun _ w2_ ⟨k_, c_, s_, oA_, oc_, hg_, hv_, hG_, hx_⟩ a_ hf_ => by subst hv_; exact inB_pan <| xpp hf_ ⟨k_, c_, s_, oA_, oc_, by rw [stF_eq, gbind_ok hg7, sm_3 (by omega), kid_at hk0_, gbind_stop hg_], rfl, hG_, Mem.tk (Mem.mdk (l := tunL C s4 oA5 oc6) M10 hx_) 3⟩) ?_
 rintro _ w80 ⟨x75, s76, oA77, oc78, hg79, rfl, hGs76, M81x⟩
 have M81 : Mem (fS C s oA oc cb lq m f) w w80 [tb_ C s76 oA77 oc78, tm_ C s76, to_ s76 oA77 oc78, .blk cb 120 [(vS (sM lq) m m), (vI f.deep), (vI f.back)], .row 2 1 (sM lq) m m (ints f.loc), .blk b1 48 (SC x)] := M10.mdk M81x
 obtain ⟨hss76, hos76⟩ := (ev_stay C.E g).1 f.loc k0_ s4 x75 s76 hg79
 refine zfe <| zsp <| zre <| xo1 (vI 0) ?_
 exact ⟨0, f, s76, oA77, oc78, by rw [stF_eq, gbind_ok hg7, sm_3 (by omega), kid_at hk0_, gbind_ok hg79], rfl, hGs76, hfl, M81.tk 5⟩
 refine zsp <| zcQ x.op 4 (fun c82 => ?_) (fun c82 => ?_)
 refine zsr ?_
 obtain ⟨k0_, hk0_⟩ := get_of (l := x.exprs) (i := 0) (by have := hwx.sf.two; have := hwx.sf.one; have := hwx.sf.op; omega)
 have hkm0_ := List.mem_of_getElem? hk0_
 have hkl0_ := (List.getElem?_eq_some_iff.1 hk0_).1
 refine zpn 3 <| zld ⟨b1, 2, none⟩ (vS x.eA x.exprs.length x.ec) (blk_cell (M10.get 5 rfl) rfl) <| zkp [(0, (pT C.r 0)), (65, (pT C.r 0)), (66, (pT cb 0)), (68, (vS x.eA x.exprs.length x.ec))] ?_
 obtain ⟨ad83, had84⟩ := rds_some (M10.ro (hA.tree hsx.exprs.1)) (cs := k0_.cells) (i := 0) (gm hk0_)
 intro aC fr
 refine From_ixA (some 69) x.eA ad83 x.exprs.length 4 0 fr (by kernel_rfl) had84 (by omega) (by omega) ?_
 intro aC fr
 revert aC
 refine zls ((ad83 : Addr).add ((0 : Int).toNat * 4)) (EC k0_) (rds_cells (i := 0) (M10.ro (hA.tree hsx.exprs.1)) had84 (gm hk0_)) ?_
 refine zce (hE k0_ f cb lq m s4 oA5 oc6 w9 hGs4 (by omega) (Mem.pk_holds (l := tunL C s4 oA5 oc6) M10) (hA.pk_at (l := tunL C s4 oA5 oc6) M10) (hsx.exprs.2 k0_ hkm0_) (hwx.ex k0_ hkm0_) hfl (RO.pk_own (l := tunL C s4 oA5 oc6) M10 0 rfl) (RO.row_rd (RO.pk_own (l := tunL C s4 oA5 oc6) M10 1 rfl))) (fun _ w2_ ⟨k_, c_, s_, oA_, oc_, hg_, hv_, hG_, hx_⟩ a_ hf_ => by subst hv_; exact inB_pan <| xpp hf_ ⟨k_, c_, s_, oA_, oc_, by rw [stF_eq, gbind_ok hg7, sm_4 (by omega), kid_at hk0_, gbind_stop hg_], rfl, hG_, Mem.tk (Mem.mdk (l := tunL C s4 oA5 oc6) M10 hx_) 3⟩) ?_
 rintro _ w94 ⟨x89, s90, oA91, oc92, hg93, rfl, hGs90, M95x⟩
 have M95 : Mem (fS C s oA oc cb lq m f) w w94 [tb_ C s90 oA91 oc92, tm_ C s90, to_ s90 oA91 oc92, .blk cb 120 [(vS (sM lq) m m), (vI f.deep), (vI f.back)], .row 2 1 (sM lq) m m (ints f.loc), .blk b1 48 (SC x)] := M10.mdk M95x
 obtain ⟨hss90, hos90⟩ := (ev_stay C.E g).1 f.loc k0_ s4 x89 s90 hg93
 refine zpn 1 <| zfe <| zsr ?_
 have ho_ := hGs90.out
 refine zpn 3 <| zld ⟨C.r, 6, none⟩ (vS oA91 s90.out.length oc92) (blk_cell (M95.get 0 rfl) rfl) <| zpn 2 <| zfe <| zcD ((((s90.out.length : Nat) : Int) : Int) < 4096) (fun c96 => ?_) (fun c96 => ?_)
 refine zrg <| zpn 4 <| zld ⟨C.r, 6, none⟩ (vS oA91 s90.out.length oc92) (blk_cell (M95.get 0 rfl) rfl) <| zpn 1 <| zcv (hz := rfl) x89 .u8 (IntKind.u8.wrap x89) ?_
 intro aC fr
 refine zBs 85 34 1 #[(0, (.tmp 84))] 34 fr (e := 5) (size := 1) (zs := [(.int .u8 0)]) (vs := [(0, (.int .u8 (IntKind.u8.wrap x89)))]) (cs := [(.int .u8 (IntKind.u8.wrap x89))]) M95 ?_
 intro b97 w98 hb97 _ M99 _ aC ea fr; clear ea
 replace M99 := M99.nf
 revert aC
 refine zkp [(78, (pT C.r 0)), (82, (vS oA91 s90.out.length oc92)), (85, (vS (sM b97) 1 1))] ?_
 intro aC fr
 refine zAN 86 (.tmp 82) (.tmp 85) 34 34 fr (e := 5) (size := 1) (bytes := 1) (z := (.int .u8 0)) (A := oA91) (B := (sM b97)) (n := s90.out.length) (cap := oc92) (m := 1) (cap' := 1) (xs := (u8s s90.out)) (news := [(.int .u8 (IntKind.u8.wrap x89))]) M99 2 rfl (row_rd (M99.get 6 rfl)) rfl (by simp [Value.oneCell']) (by omega) (by simp only [maxLen]; omega) ((s90.out ++ [IntKind.u8.wrap x89]).length) (u8s (s90.out ++ [IntKind.u8.wrap x89])) (by rw [List.length_append]; rfl) (by rw [u8s_append]; rfl) ?_
 intro A104 c105 w106 M107 _ aC ea fr; clear ea
 replace M107 := M107.nf
 have M112 := M107.od [5, 5, 5, 5, 5, 5] 6
 revert aC
 refine zpn 2 <| zsb (ho := (by simp)) M112 0 6 (vS A104 (s90.out ++ [IntKind.u8.wrap x89]).length c105) rfl fun w113 M114 => ?_
 replace M114 := M114.nf
 refine zfe <| zsp <| zre <| xo1 (vI 0) ?_
 exact ⟨0, f, { s90 with out := (s90.out ++ [IntKind.u8.wrap x89]) }, A104, c105, by rw [stF_eq, gbind_ok hg7, sm_4 (by omega), kid_at hk0_, gbind_ok hg93, writeS, if_pos (by omega)], rfl, (hGs90.write (by omega) _), hfl, M114.tk 5⟩
 refine zsk <| zsp <| zre <| xo1 (vI 0) ?_
 exact ⟨0, f, s90, oA91, oc92, by rw [stF_eq, gbind_ok hg7, sm_4 (by omega), kid_at hk0_, gbind_ok hg93, writeS, if_neg (by omega)], rfl, hGs90, hfl, M95.tk 5⟩
 refine zsp <| zcQ x.op 5 (fun c115 => ?_) (fun c115 => ?_)
 refine zsq <| zsr ?_
 obtain ⟨k0_, hk0_⟩ := get_of (l := x.exprs) (i := 0) (by have := hwx.sf.two; have := hwx.sf.one; have := hwx.sf.op; omega)
 have hkm0_ := List.mem_of_getElem? hk0_
 have hkl0_ := (List.getElem?_eq_some_iff.1 hk0_).1
 refine zpn 3 <| zld ⟨b1, 2, none⟩ (vS x.eA x.exprs.length x.ec) (blk_cell (M10.get 5 rfl) rfl) <| zkp [(0, (pT C.r 0)), (1, (pT cb 0)), (5, (pT b1 0)), (91, (pT C.r 0)), (92, (pT cb 0)), (94, (vS x.eA x.exprs.length x.ec))] ?_
 obtain ⟨ad116, had117⟩ := rds_some (M10.ro (hA.tree hsx.exprs.1)) (cs := k0_.cells) (i := 0) (gm hk0_)
 intro aC fr
 refine From_ixA (some 95) x.eA ad116 x.exprs.length 4 0 fr (by kernel_rfl) had117 (by omega) (by omega) ?_
 intro aC fr
 revert aC
 refine zls ((ad116 : Addr).add ((0 : Int).toNat * 4)) (EC k0_) (rds_cells (i := 0) (M10.ro (hA.tree hsx.exprs.1)) had117 (gm hk0_)) ?_
 refine zce (hE k0_ f cb lq m s4 oA5 oc6 w9 hGs4 (by omega) (Mem.pk_holds (l := tunL C s4 oA5 oc6) M10) (hA.pk_at (l := tunL C s4 oA5 oc6) M10) (hsx.exprs.2 k0_ hkm0_) (hwx.ex k0_ hkm0_) hfl (RO.pk_own (l := tunL C s4 oA5 oc6) M10 0 rfl) (RO.row_rd (RO.pk_own (l := tunL C s4 oA5 oc6) M10 1 rfl))) (fun _ w2_ ⟨k_, c_, s_, oA_, oc_, hg_, hv_, hG_, hx_⟩ a_ hf_ => by subst hv_; exact inB_pan <| xpp hf_ ⟨k_, c_, s_, oA_, oc_, by rw [stF_eq, gbind_ok hg7, sm_5 (by omega), kid_at hk0_, gbind_stop hg_], rfl, hG_, Mem.tk (Mem.mdk (l := tunL C s4 oA5 oc6) M10 hx_) 3⟩) ?_
 rintro _ w127 ⟨x122, s123, oA124, oc125, hg126, rfl, hGs123, M128x⟩
 have M128 : Mem (fS C s oA oc cb lq m f) w w127 [tb_ C s123 oA124 oc125, tm_ C s123, to_ s123 oA124 oc125, .blk cb 120 [(vS (sM lq) m m), (vI f.deep), (vI f.back)], .row 2 1 (sM lq) m m (ints f.loc), .blk b1 48 (SC x)] := M10.mdk M128x
 obtain ⟨hss123, hos123⟩ := (ev_stay C.E g).1 f.loc k0_ s4 x122 s123 hg126
 refine zpn 1 <| zfe <| zcP ((x122 : Int) != 0) ((x122 : Int) ≠ 0) (by simp only [bne_iff_ne]) (fun c129 => ?_) (fun c129 => ?_)
 refine zsr <| zpn 3 <| zld ⟨b1, 3, none⟩ (vS x.bA x.body.length x.bc) (blk_cell (M128.get 5 rfl) rfl) <| zce (hSS x.body x.bA x.bc f cb lq m s123 oA124 oc125 w127 hGs123 (by omega) (Mem.pk_holds (l := tunL C s123 oA124 oc125 ++ frmL cb lq m f) M128) (hA.pk_at (l := tunL C s123 oA124 oc125 ++ frmL cb lq m f) M128) hsx.body hwx.bd hwx.sf.body hfl) (fun _ w2_ ⟨k_, c_, s_, oA_, oc_, hg_, hv_, hG_, hx_⟩ a_ hf_ => by subst hv_; exact inB_pan <| xpp hf_ ⟨k_, c_, s_, oA_, oc_, by rw [stF_eq, gbind_ok hg7, sm_5 (by omega), kid_at hk0_, gbind_ok hg126, if_pos (by omega), hg_], rfl, hG_, Mem.tk (Mem.mdk (l := tunL C s123 oA124 oc125 ++ frmL cb lq m f) M128 hx_) 3⟩) ?_
 rintro _ w136 ⟨how130, f131, s132, oA133, oc134, hg135, rfl, hGs132, hflf131, M137x⟩
 have M137 : Mem (fS C s oA oc cb lq m f) w w136 [tb_ C s132 oA133 oc134, tm_ C s132, to_ s132 oA133 oc134, .blk cb 120 [(vS (sM lq) m m), (vI f131.deep), (vI f131.back)], .row 2 1 (sM lq) m m (ints f131.loc), .blk b1 48 (SC x)] := M128.mdk M137x
 obtain ⟨hss132, hos132⟩ := steps_of_sts hg135
 refine zpn 1 <| zfe <| zre <| zbr <| xo1 (vI how130) ?_
 exact ⟨how130, f131, s132, oA133, oc134, by rw [stF_eq, gbind_ok hg7, sm_5 (by omega), kid_at hk0_, gbind_ok hg126, if_pos (by omega), hg135], rfl, hGs132, hflf131, M137.tk 5⟩
 refine zsk <| zsr <| zpn 3 <| zld ⟨b1, 4, none⟩ (vS x.lA x.els.length x.lc) (blk_cell (M128.get 5 rfl) rfl) <| zce (hSS x.els x.lA x.lc f cb lq m s123 oA124 oc125 w127 hGs123 (by omega) (Mem.pk_holds (l := tunL C s123 oA124 oc125 ++ frmL cb lq m f) M128) (hA.pk_at (l := tunL C s123 oA124 oc125 ++ frmL cb lq m f) M128) hsx.els hwx.el hwx.sf.els hfl) (fun _ w2_ ⟨k_, c_, s_, oA_, oc_, hg_, hv_, hG_, hx_⟩ a_ hf_ => by subst hv_; exact inB_pan <| xpp hf_ ⟨k_, c_, s_, oA_, oc_, by rw [stF_eq, gbind_ok hg7, sm_5 (by omega), kid_at hk0_, gbind_ok hg126, if_neg (by omega), hg_], rfl, hG_, Mem.tk (Mem.mdk (l := tunL C s123 oA124 oc125 ++ frmL cb lq m f) M128 hx_) 3⟩) ?_
 rintro _ w144 ⟨how138, f139, s140, oA141, oc142, hg143, rfl, hGs140, hflf139, M145x⟩
 have M145 : Mem (fS C s oA oc cb lq m f) w w144 [tb_ C s140 oA141 oc142, tm_ C s140, to_ s140 oA141 oc142, .blk cb 120 [(vS (sM lq) m m), (vI f139.deep), (vI f139.back)], .row 2 1 (sM lq) m m (ints f139.loc), .blk b1 48 (SC x)] := M128.mdk M145x
 obtain ⟨hss140, hos140⟩ := steps_of_sts hg143
 refine zpn 1 <| zfe <| zre <| zbr <| xo1 (vI how138) ?_
 exact ⟨how138, f139, s140, oA141, oc142, by rw [stF_eq, gbind_ok hg7, sm_5 (by omega), kid_at hk0_, gbind_ok hg126, if_neg (by omega), hg143], rfl, hGs140, hflf139, M145.tk 5⟩
 refine zsp <| zcQ x.op 6 (fun c146 => ?_) (fun c146 => ?_)
 refine zsr <| zpn 3 <| zld ⟨b1, 3, none⟩ (vS x.bA x.body.length x.bc) (blk_cell (M10.get 5 rfl) rfl) <| zkp [(111, (pT C.r 0)), (112, (pT cb 0)), (114, (vS x.bA x.body.length x.bc))] <| zce (hL x.body x.bA x.bc f cb lq m s4 oA5 oc6 w9 hGs4 (by omega) (Mem.pk_holds (l := tunL C s4 oA5 oc6 ++ frmL cb lq m f) M10) (hA.pk_at (l := tunL C s4 oA5 oc6 ++ frmL cb lq m f) M10) hsx.body hwx.bd hwx.sf.body hfl) (fun _ w2_ ⟨k_, c_, s_, oA_, oc_, hg_, hv_, hG_, hx_⟩ a_ hf_ => by subst hv_; exact inB_pan <| xpp hf_ ⟨k_, c_, s_, oA_, oc_, by rw [stF_eq, gbind_ok hg7, sm_6 (by omega), hg_], rfl, hG_, Mem.tk (Mem.mdk (l := tunL C s4 oA5 oc6 ++ frmL cb lq m f) M10 hx_) 3⟩) ?_
 rintro _ w153 ⟨how147, f148, s149, oA150, oc151, hg152, rfl, hGs149, hflf148, M154x⟩
 have M154 : Mem (fS C s oA oc cb lq m f) w w153 [tb_ C s149 oA150 oc151, tm_ C s149, to_ s149 oA150 oc151, .blk cb 120 [(vS (sM lq) m m), (vI f148.deep), (vI f148.back)], .row 2 1 (sM lq) m m (ints f148.loc), .blk b1 48 (SC x)] := M10.mdk M154x
 obtain ⟨hss149, hos149⟩ := steps_of_lp hg152
 refine zpn 1 <| zfe <| zre <| zbr <| xo1 (vI how147) ?_
 exact ⟨how147, f148, s149, oA150, oc151, by rw [stF_eq, gbind_ok hg7, sm_6 (by omega), hg152], rfl, hGs149, hflf148, M154.tk 5⟩
 refine zsp <| zcQ x.op 7 (fun c155 => ?_) (fun c155 => ?_)
 refine zsr <| zpn 2 <| zld ⟨b1, 1, none⟩ (vI x.n) (blk_cell (M10.get 5 rfl) rfl) <| zkp [(118, (pT cb 0)), (120, (vI x.n))] <| zpn 2 <| zsb (ho := (by simp)) M10 3 1 (vI x.n) rfl fun w156 M157 => ?_
 replace M157 := M157.nf
 refine zfe <| zsp <| zre <| zbr <| xo1 (vI 1) ?_
 exact ⟨1, { f with deep := x.n }, s4, oA5, oc6, by rw [stF_eq, gbind_ok hg7, sm_7 (by omega)], rfl, hGs4, hfl, M157.tk 5⟩
 refine zsp <| zcQ x.op 8 (fun c158 => ?_) (fun c158 => ?_)
 refine zsr <| zpn 2 <| zld ⟨b1, 1, none⟩ (vI x.n) (blk_cell (M10.get 5 rfl) rfl) <| zkp [(125, (pT cb 0)), (127, (vI x.n))] <| zpn 2 <| zsb (ho := (by simp)) M10 3 1 (vI x.n) rfl fun w159 M160 => ?_
 replace M160 := M160.nf
 refine zfe <| zsp <| zre <| zbr <| xo1 (vI 2) ?_
 exact ⟨2, { f with deep := x.n }, s4, oA5, oc6, by rw [stF_eq, gbind_ok hg7, sm_8 (by omega)], rfl, hGs4, hfl, M160.tk 5⟩
 refine zsp <| zcQ x.op 9 (fun c161 => ?_) (fun c161 => ?_)
 refine zsq <| zsr <| zpn 1 <| zld ⟨b1, 2, none⟩ (vS x.eA x.exprs.length x.ec) (blk_cell (M10.get 5 rfl) rfl) <| zkp [(0, (pT C.r 0)), (1, (pT cb 0)), (5, (pT b1 0)), (133, (vS x.eA x.exprs.length x.ec))] <| zpn 2 <| zfe <| zcD ((((x.exprs.length : Nat) : Int) : Int) > 0) (fun c162 => ?_) (fun c162 => ?_)
 refine zrg ?_
 obtain ⟨k0_, hk0_⟩ := get_of (l := x.exprs) (i := 0) (by omega)
 have hkm0_ := List.mem_of_getElem? hk0_
 have hkl0_ := (List.getElem?_eq_some_iff.1 hk0_).1
 refine zpn 4 <| zld ⟨b1, 2, none⟩ (vS x.eA x.exprs.length x.ec) (blk_cell (M10.get 5 rfl) rfl) ?_
 obtain ⟨ad163, had164⟩ := rds_some (M10.ro (hA.tree hsx.exprs.1)) (cs := k0_.cells) (i := 0) (gm hk0_)
 intro aC fr
 refine From_ixA (some 141) x.eA ad163 x.exprs.length 4 0 fr (by kernel_rfl) had164 (by omega) (by omega) ?_
 intro aC fr
 revert aC
 refine zls ((ad163 : Addr).add ((0 : Int).toNat * 4)) (EC k0_) (rds_cells (i := 0) (M10.ro (hA.tree hsx.exprs.1)) had164 (gm hk0_)) ?_
 refine zce (hE k0_ f cb lq m s4 oA5 oc6 w9 hGs4 (by omega) (Mem.pk_holds (l := tunL C s4 oA5 oc6) M10) (hA.pk_at (l := tunL C s4 oA5 oc6) M10) (hsx.exprs.2 k0_ hkm0_) (hwx.ex k0_ hkm0_) hfl (RO.pk_own (l := tunL C s4 oA5 oc6) M10 0 rfl) (RO.row_rd (RO.pk_own (l := tunL C s4 oA5 oc6) M10 1 rfl))) (fun _ w2_ ⟨k_, c_, s_, oA_, oc_, hg_, hv_, hG_, hx_⟩ a_ hf_ => by subst hv_; exact inB_pan <| xpp hf_ ⟨k_, c_, s_, oA_, oc_, by rw [stF_eq, gbind_ok hg7, sm_9 (by omega), if_pos (by omega), kid_at hk0_, gbind_stop hg_], rfl, hG_, Mem.tk (Mem.mdk (l := tunL C s4 oA5 oc6) M10 hx_) 3⟩) ?_
 rintro _ w174 ⟨x169, s170, oA171, oc172, hg173, rfl, hGs170, M175x⟩
 have M175 : Mem (fS C s oA oc cb lq m f) w w174 [tb_ C s170 oA171 oc172, tm_ C s170, to_ s170 oA171 oc172, .blk cb 120 [(vS (sM lq) m m), (vI f.deep), (vI f.back)], .row 2 1 (sM lq) m m (ints f.loc), .blk b1 48 (SC x)] := M10.mdk M175x
 obtain ⟨hss170, hos170⟩ := (ev_stay C.E g).1 f.loc k0_ s4 x169 s170 hg173
 refine zpn 2 <| zsb (ho := (by simp)) M175 3 2 (vI x169) rfl fun w176 M177 => ?_
 replace M177 := M177.nf
 refine zfe <| zsp <| zre <| zbr <| xo1 (vI 3) ?_
 exact ⟨3, { f with back := x169 }, s170, oA171, oc172, by rw [stF_eq, gbind_ok hg7, sm_9 (by omega), if_pos (by omega), kid_at hk0_, gbind_ok hg173], rfl, hGs170, hfl, M177.tk 5⟩
 refine zsk <| zsp <| zre <| zbr <| xo1 (vI 3) ?_
 exact ⟨3, f, s4, oA5, oc6, by rw [stF_eq, gbind_ok hg7, sm_9 (by omega), if_neg (by omega)], rfl, hGs4, hfl, M10.tk 5⟩
 refine zsp <| zcQ x.op 10 (fun c178 => ?_) (fun c178 => ?_)
 refine zrg <| zpn 2 <| zld ⟨b1, 1, none⟩ (vI x.n) (blk_cell (M10.get 5 rfl) rfl) <| zkp [(148, (pT C.r 0)), (150, (vI x.n))] <| zce (tstop_c C.r 2 x.n w9) (fun _ w2_ ⟨hv_, hx_⟩ a_ hf_ => by subst hv_; exact inB_pan <| xpp hf_ (⟨_, _, s4, oA5, oc6, by rw [stF_eq, gbind_ok hg7, sm_10 (by omega)], rfl, hGs4, (M10.cl hx_).tk 3⟩)) ?_
 rintro _ w179 h_; exact h_.elim
 exact absurd hwx.sf.op (by omega)
end Go.Proofs.Ytdcgcjibgihbbaa
namespace Go.Proofs.Ytdcgcjibgihbbaa
open Go.Mor
set_option maxHeartbeats 2000000 in
theorem tcalls_c (C : TC) (s : PSt) (oA : Option Addr) (oc : Nat) (w : World) (hC : C.WF) (hG : TGood C s) (hR : (Res.pk (tunL C s oA oc)).holds w) (hA : RO (tS C s oA oc) w C.ro) (g : Nat) (hSS : StsOk Try.prog C 72 (stS C.E g) (g : Int)) (n : Int) (l : List Int) (bA : Option Addr) (bc : Nat) (hb : C.E.fuel - s.steps < (g : Int)) (hl : RO (tS C s oA oc) w (.rd bA (ints l))) (hlen : l.length ≤ 17) :
    TCalls Try.prog C s oA oc w 55 [(pT C.r 0), (vI n), (vS bA l.length bc)] intV (callT C.E g n l s) := by
 have hnf := hC.nfns
 refine xen 77 [(pT C.r 0), (vI n), (vS bA l.length bc)] Try.func55 ?_
 have hM := Mem.unpk hR
 refine zsp <| zsr <| zpn 4 ?_
 obtain ⟨B1, hB1⟩ : ∃ B : Bool, B = decide ((n : Int) < 1) := ⟨_, rfl⟩
 refine zkp [(0, (pT C.r 0)), (1, (vI n)), (2, (vS bA l.length bc)), (9, (pT C.r 0)), (12, (.bool (decide ((n : Int) < 1))))] ?_
 rw [← hB1]
 have iB1 : B1 = true ↔ ((n : Int) < 1) := by rw [hB1]; simp only [decide_eq_true_eq]
 clear hB1
 intro aC fr
 refine zpk 4 8 [13, 16] fr (news := [(13, (cond (!B1) (vI n) undef)), (16, (cond (!B1) (pT C.r 0) undef))]) (by cases B1 <;> kernel_rfl) ?_
 intro aC fr
 refine From_either (B := (!B1)) (d := (some 17)) (vS C.fA (C.E.tfs.length + 1) C.fc) fr (by cases B1 <;> kernel_rfl) (fun hB hh => ?_) ?_
 cases B1 <;> try exact absurd hB (by decide)
 have c1 : ¬ ((n : Int) < 1) := (fun h => Bool.noConfusion (iB1.2 h) : ¬ ((n : Int) < 1))
 exact From_ld (some 17) ⟨C.r, 0, none⟩ fr (by kernel_rfl) (vS C.fA (C.E.tfs.length + 1) C.fc) (blk_cell (hM.get 0 rfl) rfl) hh
 intro aC fr
 refine zpk 3 12 [20] fr (news := [(20, (.bool (B1 || decide ((n : Int) ≥ (((C.E.tfs.length + 1) : Nat) : Int)))))]) (by cases B1 <;> kernel_rfl) ?_
 intro aC fr
 obtain ⟨B10, hB10⟩ : ∃ B : Bool, B = (B1 || decide ((n : Int) ≥ (((C.E.tfs.length + 1) : Nat) : Int))) := ⟨_, rfl⟩
 revert aC
 refine zkp [(0, (pT C.r 0)), (1, (vI n)), (2, (vS bA l.length bc)), (9, (pT C.r 0)), (20, (.bool (B1 || decide ((n : Int) ≥ (((C.E.tfs.length + 1) : Nat) : Int)))))] ?_
 rw [← hB10]
 have iB10 : B10 = true ↔ (((n : Int) < 1) ∨ ((n : Int) ≥ (((C.E.tfs.length + 1) : Nat) : Int))) := by rw [hB10]; simp only [Bool.or_eq_true, decide_eq_true_eq, iB1]
 clear hB10
 refine zkp [(0, (pT C.r 0)), (1, (vI n)), (2, (vS bA l.length bc)), (9, (pT C.r 0)), (20, (.bool B10))] <| zce (tfault_c C.r B10 w) (fun _ w2_ ⟨hb_, hv_, hx_⟩ a_ hf_ => by subst hv_; have cf11 : (((n : Int) < 1) ∨ ((n : Int) ≥ (((C.E.tfs.length + 1) : Nat) : Int))) := iB10.1 hb_; exact xpp hf_ (⟨_, _, s, oA, oc, (by unfold callT; exact enterT_rng (by omega)), rfl, hG, (hM.cl hx_).tk 3⟩)) ?_
 rintro _ w12 ⟨hb_, rfl, M13x⟩
 have M13 := hM.cl M13x
 clear M13x hM
 have cf11 : ¬ (((n : Int) < 1) ∨ ((n : Int) ≥ (((C.E.tfs.length + 1) : Nat) : Int))) := fun h_ => Bool.noConfusion ((iB10.2 h_).symm.trans hb_)
 clear hb_
 refine zfe <| zsr ?_
 obtain ⟨q, hq⟩ := get_of (l := C.E.tfs) (i := (n - 1).toNat) (by omega)
 have hn1 : 1 ≤ n := by omega
 have hn2 : n ≤ C.E.tfs.length := by omega
 have hqm := List.mem_of_getElem? hq
 have hW := hC.fns q hqm
 have hlo := hW.lo
 have hpa0 := hW.pa0
 have hpal := hW.pal
 have hent := enterT_at (st := stS C.E g) (l := l) (s := s) (by omega) hq
 change callT C.E g n l s = _ at hent
 refine zpn 3 <| zld ⟨C.r, 0, none⟩ (vS C.fA (C.E.tfs.length + 1) C.fc) (blk_cell (M13.get 0 rfl) rfl) <| zpn 1 ?_
 obtain ⟨ad14, had15⟩ := rds_some (M13.ro hA.tfns) (tfns_at hn1 hq)
 intro aC fr
 refine From_ixA (some 27) C.fA ad14 (C.E.tfs.length + 1) 5 n fr (by kernel_rfl) had15 (by omega) (by omega) ?_
 intro aC fr
 revert aC
 refine zls ((ad14 : Addr).add ((n).toNat * 5)) (FC q) (rds_cells (M13.ro hA.tfns) had15 (tfns_at hn1 hq)) <| zal M13 45 [(.string ⟨#[]⟩), (.bool false), (vI 0), (vI 0), (vS none 0 0)] fun b20 w21 hb20 M22 => ?_
 replace M22 := M22.nf
 refine zss M22 3 (FC q) rfl fun w23 M24 => ?_
 replace M24 := M24.nf
 refine zfe <| zsr <| zpn 4 <| zld ⟨b20, 2, none⟩ (vI q.pa) (blk_cell (M24.get 3 rfl) rfl) <| zpn 1 ?_
 obtain ⟨B25, hB25⟩ : ∃ B : Bool, B = ((((l.length : Nat) : Int) : Int) != q.pa) := ⟨_, rfl⟩
 refine zkp [(0, (pT C.r 0)), (2, (vS bA l.length bc)), (7, (pT b20 0)), (29, (pT C.r 0)), (34, (.bool ((((l.length : Nat) : Int) : Int) != q.pa)))] ?_
 rw [← hB25]
 have iB25 : B25 = true ↔ ((((l.length : Nat) : Int) : Int) ≠ q.pa) := by rw [hB25]; simp only [bne_iff_ne]
 clear hB25
 refine zkp [(0, (pT C.r 0)), (2, (vS bA l.length bc)), (7, (pT b20 0)), (29, (pT C.r 0)), (34, (.bool B25))] <| zce (tfault_c C.r B25 w23) (fun _ w2_ ⟨hb_, hv_, hx_⟩ a_ hf_ => by subst hv_; have cf26 : ((((l.length : Nat) : Int) : Int) ≠ q.pa) := iB25.1 hb_; exact xpp hf_ (⟨_, _, s, oA, oc, hent.trans (if_pos (by omega)), rfl, hG, (M24.cl hx_).tk 3⟩)) ?_
 rintro _ w27 ⟨hb_, rfl, M28x⟩
 have M28 := M24.cl M28x
 have cf26 : ¬ ((((l.length : Nat) : Int) : Int) ≠ q.pa) := fun h_ => Bool.noConfusion ((iB25.2 h_).symm.trans hb_)
 clear hb_
 refine zfe <| zsq <| zsr <| zpn 3 <| zld ⟨C.r, 9, none⟩ (vI s.opened) (blk_cell (M28.get 0 rfl) rfl) <| zpn 1 <| zfe <| zcQ s.opened 1200 (fun c29 => ?_) (fun c29 => ?_)
 refine zrg <| zpn 1 <| zce (tstop_c C.r 4 0 w27) (fun _ w2_ ⟨hv_, hx_⟩ a_ hf_ => by subst hv_; exact xpp hf_ (⟨_, _, s, oA, oc, hent.trans (by rw [if_neg (by omega), if_pos (by omega)]), rfl, hG, (M28.cl hx_).tk 3⟩)) ?_
 rintro _ w30 h_; exact h_.elim
 refine zsk <| zsr ?_
 have ho1 := hG.o1
 have ho2 := hG.o2
 obtain ⟨s1, hs1⟩ : ∃ z : PSt, z = { s with opened := s.opened + 1 } := ⟨_, rfl⟩
 have hs1o : s1.opened = s.opened + 1 := by rw [hs1]
 have hs1s : s1.steps = s.steps := by rw [hs1]
 obtain ⟨f0, hf0⟩ : ∃ z : Frm, z = ⟨l ++ List.replicate (q.lo.toNat - l.length) 0, 0, 0⟩ := ⟨_, rfl⟩
 have hgo : callT C.E g n l s = (stmS (stS C.E g) q.body f0 s1).bind fun p s => .ok p.2.back { s with opened := s.opened - 1 } := hent.trans (by rw [if_neg (by omega), if_neg (by omega), hs1, hf0])
 have hG1 : TGood C s1 := by rw [hs1]; exact hG.enter (by omega)
 have hfl0 : f0.loc.length = q.lo.toNat := by rw [hf0]; show (l ++ List.replicate _ 0).length = _; rw [List.length_append, List.length_replicate]; omega
 refine zpn 3 <| zld ⟨C.r, 9, none⟩ (vI s.opened) (blk_cell (M28.get 0 rfl) rfl) <| zar (s.opened + 1) <| zpn 2 <| zsb (ho := (by simp)) M28 0 9 (vI (s.opened + 1)) rfl fun w32 M33 => ?_
 replace M33 := M33.nf
 refine zfe <| zsr <| zpn 1 <| zld ⟨b20, 3, none⟩ (vI q.lo) (blk_cell (M33.get 3 rfl) rfl) ?_
 intro aC fr
 refine From_make1 (by kernel_rfl : coreAt _ 2 = some (some 52, (.makeSlice 56 (.tmp 51) (.tmp 51)), 56, none)) fr (by kernel_rfl) (by kernel_rfl) (k' := 3) rfl (e := 2) (bytes := 8) (z := (vI 0)) (n := q.lo.toNat) (i := q.lo) (by kernel_rfl) (by kernel_rfl) (by omega) (by kernel_rfl) (by kernel_rfl) rfl (by omega) (by simp only [maxLen]; omega) M33 ?_
 intro b34 w35 hb34 _ M36 _ aC ea fr; clear ea
 replace M36 := M36.nf
 revert aC
 refine zkp [(0, (pT C.r 0)), (2, (vS bA l.length bc)), (7, (pT b20 0)), (52, (vS (sM b34) q.lo.toNat q.lo.toNat))] <| zpn 1 <| zbx M36 120 (.agg #[(vS (sM b34) q.lo.toNat q.lo.toNat), (vI 0), (vI 0)]) [(vS (sM b34) q.lo.toNat q.lo.toNat), (vI 0), (vI 0)] fun b41 w42 hb41 M43 => ?_
 replace M43 := M43.nf
 refine zpn 1 <| zfe <| zsr <| zpn 3 <| zld ⟨b41, 0, none⟩ (vS (sM b34) q.lo.toNat q.lo.toNat) (blk_cell (M43.get 5 rfl) rfl) <| zpn 1 <| zcp M43 4 (e := 2) (b := b34) (n := q.lo.toNat) (dn := q.lo.toNat) (m := l.length) (rc := q.lo.toNat) (A := bA) (xs := ints l) (cs := List.replicate q.lo.toNat (vI 0)) rfl (M43.ro hl) (ints_len l).symm (by omega) (by simp [ints_len]; omega) (ints_one l) (fun w44 M45 => ?_) (by kernel_rfl)
 replace M45 := M45.nf
 have M46 : Mem (tS C s oA oc) w w44 [.blk C.r 66 [(vS C.fA (C.E.tfs.length + 1) C.fc), (.map (some C.mB)), (.map (some C.dB)), (vS (sM C.mG) C.E.memN C.E.memN), (vI s.next), (vS ((inAt C.iA C.ic s.pos).1) (C.E.inp.length - s.pos) ((inAt C.iA C.ic s.pos).2)), (vS oA s.out.length oc), (vI C.E.fuel), (vI s.steps), (vI (s.opened + 1))], tm_ C s, to_ s oA oc, .blk b20 45 (FC q), .row 2 1 (sM b34) q.lo.toNat q.lo.toNat (ints (l ++ List.replicate (q.lo.toNat - l.length) 0)), .blk b41 120 [(vS (sM b34) q.lo.toNat q.lo.toNat), (vI 0), (vI 0)]] := M45.cast (by rw [pad_int l _ (by omega)])
 have M47 := M46.od [3, 4, 5, 5, 5, 5] 6
 have M48 : Mem (tS C s oA oc) w w44 [tb_ C s1 oA oc, tm_ C s1, to_ s1 oA oc, .blk b41 120 [(vS (sM b34) q.lo.toNat q.lo.toNat), (vI f0.deep), (vI f0.back)], .row 2 1 (sM b34) q.lo.toNat q.lo.toNat (ints f0.loc), .blk b20 45 (FC q)] := M47.cast (by rw [hs1, hf0])
 refine zfe <| zsr <| zpn 3 <| zld ⟨b20, 4, none⟩ (vS q.A q.body.length q.c) (blk_cell (M48.get 5 rfl) rfl) <| zce (hSS q.body q.A q.c f0 b41 b34 q.lo.toNat s1 oA oc w44 hG1 (by omega) (Mem.pk_holds (l := tunL C s1 oA oc ++ frmL b41 b34 q.lo.toNat f0) M48) (hA.pk_at (l := tunL C s1 oA oc ++ frmL b41 b34 q.lo.toNat f0) M48) (sub_fn hqm) (by rw [Int.toNat_of_nonneg (by omega)]; exact hW.body) hW.len hfl0) (fun _ w2_ ⟨k_, c_, s_, oA_, oc_, hg_, hv_, hG_, hx_⟩ a_ hf_ => by subst hv_; exact xpp hf_ ⟨k_, c_, s_, oA_, oc_, by rw [hgo, gbind_stop hg_], rfl, hG_, Mem.tk (Mem.mdk (l := tunL C s1 oA oc ++ frmL b41 b34 q.lo.toNat f0) M48 hx_) 3⟩) ?_
 rintro _ w55 ⟨how49, f50, s51, oA52, oc53, hg54, rfl, hGs51, hflf50, M56x⟩
 have M56 : Mem (tS C s oA oc) w w55 [tb_ C s51 oA52 oc53, tm_ C s51, to_ s51 oA52 oc53, .blk b41 120 [(vS (sM b34) q.lo.toNat q.lo.toNat), (vI f50.deep), (vI f50.back)], .row 2 1 (sM b34) q.lo.toNat q.lo.toNat (ints f50.loc), .blk b20 45 (FC q)] := M48.mdk M56x
 obtain ⟨hss51, hos51⟩ := steps_of_sts hg54
 refine zfe <| zsr ?_
 have ho3 := hGs51.o1
 have ho4 := hGs51.o2
 refine zpn 3 <| zld ⟨C.r, 9, none⟩ (vI s51.opened) (blk_cell (M56.get 0 rfl) rfl) <| zkp [(8, (pT b41 0)), (66, (pT C.r 0)), (69, (vI s51.opened))] <| zar (s51.opened - 1) <| zpn 2 <| zsb (ho := (by simp)) M56 0 9 (vI (s51.opened - 1)) rfl fun w57 M58 => ?_
 replace M58 := M58.nf
 refine zfe <| zsr <| zpn 3 <| zld ⟨b41, 2, none⟩ (vI f50.back) (blk_cell (M58.get 3 rfl) rfl) <| zpn 1 <| zfe <| zre <| xo1 (vI f50.back) ?_
 exact ⟨_, { s51 with opened := s51.opened - 1 }, oA52, oc53, by rw [hgo, gbind_ok hg54], rfl, hGs51.leave (by omega), M58.tk 3⟩
theorem tcalls_ok {C : TC} (hC : C.WF) {g : Nat} (hSS : StsOk Try.prog C 72 (stS C.E g) (g : Int)) : CallT Try.prog C 55 (callT C.E g) (g : Int) :=
  fun n l bA bc s oA oc w hG hb hR hA hl hlen => tcalls_c C s oA oc w hC hG hR hA g hSS n l bA bc hb hl hlen
theorem trun_all (C : TC) (hC : C.WF) : ∀ g : Nat, ExOk Try.prog C 90 (exS C.E g) (g : Int) ∧ StOk Try.prog C 81 (stS C.E g) (g : Int)
  | 0 => ⟨fun e f cb la m s oA oc w hG hb => by have := hG.s2; omega, fun x f cb la m s oA oc w hG hb => by have := hG.s2; omega⟩
  | g + 1 => by
    obtain ⟨hE, hS⟩ := trun_all C hC g
    have hSS := tstats_ok hC hS
    have hL := tloop_ok hC hSS
    have hK := tcalls_ok hC hSS
    exact ⟨fun e f cb la m s oA oc w hG hb hR hA hse hwe hfl hFB hFR => texpr_c C s oA oc w hC hG hR hA g hE hK e f cb la m (by omega) hse hwe hfl hFB hFR,
      fun x f cb la m s oA oc w hG hb hR hA hsx hwx hfl => tstat_c C s oA oc w hC hG f cb la m hR hA hfl g hE hSS hL x (by omega) hsx hwx⟩
theorem tcall_all (C : TC) (hC : C.WF) (g : Nat) : CallT Try.prog C 55 (callT C.E g) (g : Int) := tcalls_ok hC (tstats_ok hC (trun_all C hC g).2)
end Go.Proofs.Ytdcgcjibgihbbaa
namespace Go.Mor
open Go.RowKit
theorem run_cat {P : Program} {a b : ByteArray} (h : a.size + b.size ≤ 9223372036854775807) (t : TypeId) (w : World) : (binOp .add t (.string a) (.string b)).run P w = .ok (.string (a ++ b)) w := by
  simp [binOp, Op.stringOp]
  omega
section
variable {P : Program} {c : Code} {K : Act → World → Prop} {Q : Exit → Act → World → Prop} {w w0 : World} {S : Nat → Prop} {L : List Res} {k : Nat} {N : FN} {env : Env}
theorem From_cat {a : Act} {d : Option Nat} {t : TypeId} {x y : ByteArray} (hF : Fr a N env) (hk : bnE c N env k = some (d, .add, t, .string x, .string y))
    (hs : x.size + y.size ≤ 9223372036854775807) (h : ∀ a', a' = a.put d (.string (x ++ y)) → Fr a' N (putE env d (.string (x ++ y))) → From P c K Q (k + 1) a' w) : From P c K Q k a w := by
  unfold bnE at hk
  split at hk
  · rename_i g0
    split at hk
    · rename_i g1 g2 g3 g4
      simp only [Option.some.injEq, Prod.mk.injEq] at hk
      obtain ⟨e1, e2, e3, e4, e5⟩ := hk
      refine From_same g0 hF g1 (by rw [e1] at g2; exact e1 ▸ g2) rfl (fun o ho => ?_) (by rw [e1]; exact h)
      unfold execOp
      rw [ho, e2, e3]
      have hq : ∀ x' y', (eqGuard .add t x' y' (.string x) (.string y)).run P w = .ok () w := by
        intro x' y'
        simp [eqGuard]
      simp only [hF.ev g3, hF.ev g4, e4, e5, Sem.run_bind, hq, run_cat hs, Result.andThen_ok]
      rfl
    · cases hk
  · cases hk
end
section
variable {P : Program} {c : Code} {Q : Exit → Act → World → Prop} {N : FN} {i : Nat} {env0 : Env} {wr : World} {sp : Nat → Spec}
theorem dCat (x y : ByteArray) (t : TypeId) (hs : x.size + y.size ≤ 9223372036854775807) (hv : sp i = .det (.string (x ++ y)) := by rfl) (hg : ∀ vs, gtE c i (predE c i sp vs env0) = some true := by intro _; kernel_rfl)
    (hk : ∀ vs, bnE (one c i) N (predE c i sp vs env0) 0 = some (dstAt c i, .add, t, .string x, .string y) := by intro _; kernel_rfl) (he : coreAt (one c i) 1 = none := by kernel_rfl) : OpOK P c Q N env0 wr sp i := by
  refine op_of hg (fun w vs hK hp a hF => ?_)
  exact From_cat hF (hk vs) hs (fun a' ea _ => From_end he ⟨_, ea, Kp.refl w, by rw [hv]; rfl⟩)
theorem dMX (kd : IntKind) (i1 j1 z : Int) (x y : Operand) (ts : Array TypeId) (ty : Nat) (g : Option (Nat × Bool)) (hz : z = if i1 < j1 then j1 else i1) (hv : sp i = .det (.int kd z) := by rfl)
    (h0 : coreAt (one c i) 0 = some (dstAt c i, .call { callee := .builtin .max, args := #[x, y], argTypes := ts }, ty, g) := by kernel_rfl) (hg : ∀ vs, gtE c i (predE c i sp vs env0) = some true := by intro _; kernel_rfl)
    (h1 : ∀ vs, guardE (one c i) g (predE c i sp vs env0) = some true := by intro _; kernel_rfl) (h2 : okd (dstAt c i) N = true := by kernel_rfl)
    (hx : ∀ vs, ev (predE c i sp vs env0) x = some (.int kd i1) := by intro _; kernel_rfl) (hy : ∀ vs, ev (predE c i sp vs env0) y = some (.int kd j1) := by intro _; kernel_rfl) (he : coreAt (one c i) 1 = none := by kernel_rfl) : OpOK P c Q N env0 wr sp i := by
  refine op_of hg (fun w vs hK hp a hF => ?_)
  exact From_max h0 hF (h1 vs) h2 rfl (hx vs) (hy vs) z hz (fun a' ea _ => From_end he ⟨_, ea, Kp.refl w, by rw [hv]; rfl⟩)
end
end Go.Mor
namespace Go.Mor
open Go.RowKit
section
variable {P : Program} {c : Code} {K : Act → World → Prop} {Q : Exit → Act → World → Prop} {w w0 : World} {S : Nat → Prop} {L : List Res} {k : Nat} {N : FN} {env : Env} {α : Type} {inj : α → Value} {kt e : TypeId}
theorem run_clear {t : TypeId} {ty : Nat} (ht : P.underlying t = some (.map kt e)) {b : Nat} {l : List (Value × Value)} (hm : MapIs w b l) :
    ∃ w', (Builtin.clear_ #[t] ty #[.map (some b)]).run P w = .ok (.tuple #[]) w' ∧ Mem (Res.map b l).fp w w' [.map b []] := by
  obtain ⟨es, clock, hb, hl, hlt, hnd⟩ := hm
  have hbl : b < w.heap.size := lt_of_heap hb
  refine ⟨{ w with heap := w.heap.setIfInBounds b (.map #[] clock) }, ?_, Mem.setMap ⟨es, clock, hb, hl, hlt, hnd⟩ ⟨#[], clock, ?_, rfl, (fun e he => by cases he), by simp⟩⟩
  · unfold Builtin.clear_
    simp only [List.getElem?_toArray, List.getElem?_cons_zero, Sem.run_bind, run_underlying ht, Result.andThen_ok, run_getMap hb, setObj, Sem.run, hb]
    rfl
  · show (w.heap.setIfInBounds b (.map #[] clock))[b]? = _
    rw [Array.getElem?_setIfInBounds_self_of_lt hbl]
theorem zcm_clear (hM : Mem S w0 w L) (i : Nat) (t : TypeId) (x : Operand) (ty : Nat) {b : Nat} {l : List (Value × Value)} (hi : L[i]? = some (.map b l)) (ht : P.underlying t = some (.map kt e))
    (h : ∀ w', Mem S w0 w' (L.set i (.map b [])) → ∀ a, Fr a N env → From P c K Q (k + 1) a w')
    (hk : coreAt c k = some (none, .call { callee := .builtin .clear, args := #[x], argTypes := #[t] }, ty, none) := by kernel_rfl) (hx : ev env x = some (.map (some b)) := by kernel_rfl) : ∀ a, Fr a N env → From P c K Q k a w := fun a hF => by
  obtain ⟨w', hr, hm⟩ := run_clear (ty := ty) ht (hM.get i hi)
  have hM' : Mem S w0 w' (L.set i (.map b [])) := by simpa using hM.mod i hi hm
  refine From_val hk hF rfl (v := .tuple #[]) (w' := w') (fun o ho hty => ?_) (h w' hM' _ hF)
  unfold execOp
  rw [ho, hty]
  simp only [resolve, invoke, builtin, Sem.run_bind, Sem.run_pure, Result.andThen_ok, List.map_toArray, List.map_cons, List.map_nil, hF.ev hx, hr]
end
section
variable {P : Program} {c : Code} {Q : Exit → Act → World → Prop} {N : FN} {i : Nat} {env0 : Env} {wr : World} {sp : Nat → Spec}
theorem dPe {B b : Bool} (hb : B = b) (hv : sp i = .det (.bool B) := by rfl) (h : ∀ vs, p1E P c N i (predE c i sp vs env0) = some (.bool b) := by intro _; kernel_rfl) : OpOK P c Q N env0 wr sp i := by
  subst hb
  exact dP (fun vs => (h vs).trans (by rw [hv]; rfl)) (by rw [hv]; rfl)
end
theorem run_eqnil {P : Program} {t e : TypeId} (ht : P.underlying t = some (.slice e)) (A : Option Addr) (n c : Nat) (w : World) : (binOp .eql t (.slice A n c) (.slice none 0 0)).run P w = .ok (.bool A.isNone) w := by
  show ((do pure (.bool (← Op.equal t (.slice A n c) (.slice none 0 0))) : Sem Value)).run P w = _
  unfold Op.equal Op.maxDepth Op.equalIn
  cases A <;> simp [run_underlying ht]
section
variable {P : Program} {c : Code} {K : Act → World → Prop} {Q : Exit → Act → World → Prop} {w : World} {k : Nat} {N : FN} {env : Env}
theorem zen_ (t : TypeId) {e : TypeId} (A : Option Addr) (n cp : Nat) (ht : P.underlying t = some (.slice e)) (h : ∀ a, Fr a N (putE env (dstAt c k) (.bool A.isNone)) → From P c K Q (k + 1) a w)
    (hk : bnE c N env k = some (dstAt c k, .eql, t, .slice A n cp, .slice none 0 0) := by kernel_rfl) : ∀ a, Fr a N env → From P c K Q k a w := fun a hF => by
  generalize dstAt c k = d at h hk
  unfold bnE at hk
  split at hk
  · rename_i g0
    split at hk
    · rename_i g1 g2 g3 g4
      simp only [Option.some.injEq, Prod.mk.injEq] at hk
      obtain ⟨e1, e2, e3, e4, e5⟩ := hk
      refine From_same g0 hF g1 (by rw [e1] at g2; exact e1 ▸ g2) rfl (fun o ho => ?_) (by rw [e1]; exact fun a' _ => h a')
      unfold execOp
      rw [ho, e2, e3]
      have hq : ∀ x y, (eqGuard .eql t x y (.slice A n cp) (.slice none 0 0)).run P w = .ok () w := by
        intro x y
        simp [eqGuard]
      simp only [hF.ev g3, hF.ev g4, e4, e5, Sem.run_bind, hq, run_eqnil ht, Result.andThen_ok]
      rfl
    · cases hk
  · cases hk
end
end Go.Mor
namespace Go.Mor
open Go.RowKit
abbrev chkB (c0 : Nat) (lo lp : Int) : Res := .blk c0 92 [.int .i64 lo, .int .i64 lp]
abbrev cntB (c0 : Nat) (n most : Int) : Res := .blk c0 86 [.int .i64 n, .int .i64 most]
def ExVOk (P : Program) (e : MEx) : Prop := ∀ (d : Int) (c0 : Nat) (lo lp : Int) (T : List Res) (w : World), 0 ≤ d → d ≤ 1000 → RO noS w (chkB c0 lo lp) → RO noS w (.all T) → SubE T e → exI e →
  Calls P 68 #[pT c0 0, .agg e.cells.toArray, .int .i64 d] w (Ret fun v w' => v = .bool (exV lo d e) ∧ Mem noS w w' [])
def StsVOk (P : Program) (l : List MSt) : Prop := ∀ (A : Option Addr) (c : Nat) (d : Int) (c0 : Nat) (lo lp : Int) (T : List Res) (w : World), 0 ≤ d → d ≤ 1000 → 0 ≤ lp → lp ≤ d → (chkB c0 lo lp).holds w → RO (chkB c0 lo lp).fp w (.all T) → SubXs T A l → stsI l → LenOk l.length →
  Calls P 49 #[pT c0 0, .slice A l.length c, .int .i64 d] w (Ret fun v w' => ∃ q, v = .bool (stsV lo lp d l) ∧ (stsV lo lp d l = true → q = lp) ∧ Mem (chkB c0 lo lp).fp w w' [chkB c0 lo q])
def CxOk (P : Program) (e : MEx) : Prop := ∀ (c0 : Nat) (n most : Int) (T : List Res) (w : World), 0 ≤ n → n + exN e ≤ 4611686018427387904 → (cntB c0 n most).holds w → RO (cntB c0 n most).fp w (.all T) → SubE T e → exI e →
  Calls P 66 #[pT c0 0, .agg e.cells.toArray] w (Ret fun v w' => v = .tuple #[] ∧ ∃ n', Cnt most n (exN e) n' ∧ Mem (cntB c0 n most).fp w w' [cntB c0 n' most])
def CsOk (P : Program) (l : List MSt) : Prop := ∀ (A : Option Addr) (c : Nat) (c0 : Nat) (n most : Int) (T : List Res) (w : World), 0 ≤ n → n + stsN l ≤ 4611686018427387904 → (cntB c0 n most).holds w → RO (cntB c0 n most).fp w (.all T) → SubXs T A l → stsI l → LenOk l.length →
  Calls P 46 #[pT c0 0, .slice A l.length c] w (Ret fun v w' => v = .tuple #[] ∧ ∃ n', Cnt most n (stsN l) n' ∧ Mem (cntB c0 n most).fp w w' [cntB c0 n' most])
theorem cnt_exs {l : List MEx} {j : Nat} {most n n' : Int} (h : Cnt most n (exsN (l.take j)) n') (he : ¬ (j : Int) < l.length ∨ ¬ n' ≤ most) : Cnt most n (exsN l) n' := by
  have e := exsN_split l j
  by_cases hj : j < l.length
  · exact (h.stop (k' := (exsN (l.drop j) : Int)) (by omega) (by omega)).cast (by omega)
  · rw [List.take_of_length_le (by omega)] at h
    exact h
theorem cnt_sts {l : List MSt} {j : Nat} {most n n' : Int} (h : Cnt most n (stsN (l.take j)) n') (he : ¬ (j : Int) < l.length ∨ ¬ n' ≤ most) : Cnt most n (stsN l) n' := by
  have e := stsN_split l j
  by_cases hj : j < l.length
  · exact (h.stop (k' := (stsN (l.drop j) : Int)) (by omega) (by omega)).cast (by omega)
  · rw [List.take_of_length_le (by omega)] at h
    exact h
theorem Cnt.le {most n k n' : Int} (h : Cnt most n k n') : n ≤ n' ∧ n' ≤ n + k := ⟨h.1, h.2.1⟩
theorem exsN_take_le (l : List MEx) (j : Nat) : exsN (l.take j) ≤ exsN l := by have := exsN_split l j; omega
theorem stsN_take_le (l : List MSt) (j : Nat) : stsN (l.take j) ≤ stsN l := by have := stsN_split l j; omega
theorem nor_and {d : Int} {p : Prop} (h : ¬ (d > 100 ∨ ¬ p)) : d ≤ 100 ∧ p := ⟨Int.not_lt.1 (fun q => h (.inl q)), Classical.not_not.1 (fun q => h (.inr q))⟩
theorem or_nand {d : Int} {p : Prop} (h : d > 100 ∨ ¬ p) : ¬ (d ≤ 100 ∧ p) := fun ⟨h1, h2⟩ => h.elim (fun q => by omega) (fun q => q h2)
def fnsN (l : List TFn) : Nat := (l.map (fun f => stsN f.body)).sum
def datN (l : List FDat) : Nat := (l.map (fun d => d.words.length)).sum
theorem fnsN_take {l : List TFn} {j : Nat} {f : TFn} (h : l[j]? = some f) : fnsN (l.take (j + 1)) = fnsN (l.take j) + stsN f.body := by
  unfold fnsN
  rw [List.take_add_one, h]
  simp
theorem datN_take {l : List FDat} {j : Nat} {d : FDat} (h : l[j]? = some d) : datN (l.take (j + 1)) = datN (l.take j) + d.words.length := by
  unfold datN
  rw [List.take_add_one, h]
  simp
theorem fnsN_le (l : List TFn) (j : Nat) : fnsN (l.take j) ≤ fnsN l := by
  have e : fnsN (l.take j) + fnsN (l.drop j) = fnsN l := by unfold fnsN; rw [← List.sum_append, ← List.map_append, List.take_append_drop]
  omega
theorem datN_le (l : List FDat) (j : Nat) : datN (l.take j) ≤ datN l := by
  have e : datN (l.take j) + datN (l.drop j) = datN l := by unfold datN; rw [← List.sum_append, ← List.map_append, List.take_append_drop]
  omega
def largeQ (m : TMod) : Prop := 20000 < fnsN m.fns ∨ 16384 < datN m.dats
instance (m : TMod) : Decidable (largeQ m) := by unfold largeQ; infer_instance
def fnsTo (l : List TFn) (j : Nat) : Prop := ∀ (i : Nat) (f : TFn), i < j → l[i]? = some f → fnV f = true ∧ f.nm ∉ (l.take i).map (·.nm)
def datsTo (l : List FDat) (j : Nat) : Prop := ∀ (i : Nat) (d : FDat), i < j → l[i]? = some d → datQ d ∧ d.nm ∉ (l.take i).map (·.nm)
noncomputable instance (l : List TFn) (j : Nat) : Decidable (fnsTo l j) := Classical.propDecidable _
noncomputable instance (l : List FDat) (j : Nat) : Decidable (datsTo l j) := Classical.propDecidable _
noncomputable def validT (m : TMod) : Int := if largeQ m then 12 else if fnsTo m.fns m.fns.length ∧ datsTo m.dats m.dats.length then 0 else 4
theorem fnsTo_zero (l : List TFn) : fnsTo l 0 := fun _ _ h => absurd h (Nat.not_lt_zero _)
theorem datsTo_zero (l : List FDat) : datsTo l 0 := fun _ _ h => absurd h (Nat.not_lt_zero _)
theorem fnsTo_succ {l : List TFn} {j : Nat} {f : TFn} (h : fnsTo l j) (hf : l[j]? = some f) (h1 : fnV f = true) (h2 : f.nm ∉ (l.take j).map (·.nm)) : fnsTo l (j + 1) := fun i g hi hg => by
  by_cases e : i = j
  · subst e; rw [hf] at hg; injection hg with hg; subst hg; exact ⟨h1, h2⟩
  · exact h i g (by omega) hg
theorem datsTo_succ {l : List FDat} {j : Nat} {f : FDat} (h : datsTo l j) (hf : l[j]? = some f) (h1 : datQ f) (h2 : f.nm ∉ (l.take j).map (·.nm)) : datsTo l (j + 1) := fun i g hi hg => by
  by_cases e : i = j
  · subst e; rw [hf] at hg; injection hg with hg; subst hg; exact ⟨h1, h2⟩
  · exact h i g (by omega) hg
theorem cnt_twice {α : Type} [BEq α] [LawfulBEq α] {ks : List α} {k : α} : (lkp (cntM (ks ++ [k])) k).getD 0 > 1 ↔ k ∈ ks := by
  rw [cntM_get, List.count_append]
  have h1 : [k].count k = 1 := by simp
  rw [h1, ← List.count_pos_iff (a := k) (l := ks)]
  omega
theorem vK_cnt {ks ks' : List ByteArray} {k : ByteArray} (h : ks' = ks ++ [k]) : upk (vK (cntM ks)) k (.int .i64 ((lkp (cntM ks) k).getD 0 + 1)) = vK (cntM ks') := by
  rw [vK_up, h, cntM_snoc]
theorem cnt_le {α : Type} [BEq α] [LawfulBEq α] (ks : List α) (k : α) : 0 ≤ (lkp (cntM ks) k).getD 0 ∧ (lkp (cntM ks) k).getD 0 ≤ ks.length := by
  rw [cntM_get]
  have := List.count_le_length (a := k) (l := ks)
  omega
def vN (l : List (Int × Int)) : List (Int × Value) := l.map (fun p => (p.1, .int .i64 p.2))
theorem lkp_vN (l : List (Int × Int)) (s : Int) : lkp (vN l) s = (lkp l s).map (Value.int .i64) := by
  induction l with
  | nil => rfl
  | cons x r ih =>
    obtain ⟨k, v⟩ := x
    have e1 : lkp (vN ((k, v) :: r)) s = match s == k with | true => some (.int .i64 v) | false => lkp (vN r) s := rfl
    have e2 : lkp ((k, v) :: r) s = match s == k with | true => some v | false => lkp r s := rfl
    rw [e1, e2]
    cases s == k with
    | true => rfl
    | false => exact ih
theorem lkN_get (l : List (Int × Int)) (s : Int) : lkV false (lkp (vN l) s) (.int .i64 0) = .int .i64 ((lkp l s).getD 0) := by
  rw [lkp_vN]
  cases lkp l s <;> rfl
theorem vN_up (l : List (Int × Int)) (s : Int) (n : Int) : upk (vN l) s (.int .i64 n) = vN (upk l s n) := by
  induction l with
  | nil => rfl
  | cons p r ih =>
    obtain ⟨k, u⟩ := p
    show (match s == k with | true => (s, Value.int .i64 n) :: vN r | false => (k, .int .i64 u) :: upk (vN r) s (.int .i64 n)) = vN (match s == k with | true => (s, n) :: r | false => (k, u) :: upk r s n)
    cases s == k
    · rw [ih]; rfl
    · rfl
theorem vN_cnt {ks ks' : List Int} {k : Int} (h : ks' = ks ++ [k]) : upk (vN (cntM ks)) k (.int .i64 ((lkp (cntM ks) k).getD 0 + 1)) = vN (cntM ks') := by
  rw [vN_up, h, cntM_snoc]
def refsTo (d : FDat) (j : Nat) : Prop := ∀ (i : Nat) (r : Int × ByteArray), i < j → d.refs[i]? = some r → nameQ r.2 ∧ (0 ≤ r.1 ∧ r.1 < (d.words.length : Int)) ∧ r.1 ∉ (d.refs.take i).map (·.1)
theorem refsTo_zero (d : FDat) : refsTo d 0 := fun _ _ h => absurd h (Nat.not_lt_zero _)
theorem refsTo_succ {d : FDat} {j : Nat} {r : Int × ByteArray} (h : refsTo d j) (hr : d.refs[j]? = some r) (h1 : nameQ r.2 ∧ (0 ≤ r.1 ∧ r.1 < (d.words.length : Int)) ∧ r.1 ∉ (d.refs.take j).map (·.1)) : refsTo d (j + 1) := fun i g hi hg => by
  by_cases e : i = j
  · subst e; rw [hr] at hg; injection hg with hg; subst hg; exact h1
  · exact h i g (by omega) hg
theorem w_bad1 {r : Int × ByteArray} {n : Nat} {F : Prop} (c : (¬ nameQ r.2 ∨ r.1 < 0) ∨ r.1 ≥ ((n : Nat) : Int)) : ¬ (nameQ r.2 ∧ (0 ≤ r.1 ∧ r.1 < (n : Int)) ∧ F) := fun ⟨h1, h2, _⟩ => c.elim (fun c => c.elim (fun c => c h1) (fun c => by omega)) (fun c => by omega)
theorem w_bad2 {r : Int × ByteArray} {n : Nat} {F : Prop} {k : Int} (hct : k > 1 ↔ F) (c : k > 1) : ¬ (nameQ r.2 ∧ (0 ≤ r.1 ∧ r.1 < (n : Int)) ∧ ¬ F) := fun ⟨_, _, h⟩ => h (hct.1 c)
theorem w_ok {r : Int × ByteArray} {n : Nat} {F : Prop} {k : Int} (hct : k > 1 ↔ F) (c : ¬ ((¬ nameQ r.2 ∨ r.1 < 0) ∨ r.1 ≥ ((n : Nat) : Int))) (c2 : ¬ k > 1) : nameQ r.2 ∧ (0 ≤ r.1 ∧ r.1 < (n : Int)) ∧ ¬ F :=
  ⟨Classical.not_not.1 (fun h => c (.inl (.inl h))), ⟨Int.not_lt.1 (fun h => c (.inl (.inr h))), by
    have : ¬ r.1 ≥ (n : Int) := fun h => c (.inr h)
    omega⟩, fun h => c2 (hct.2 h)⟩
theorem datQ_iff {d : FDat} : datQ d ↔ refsTo d d.refs.length ∧ nameQ d.nm := by
  constructor
  · rintro ⟨h1, h2⟩; exact ⟨fun i r _ hr => h1 i r hr, h2⟩
  · rintro ⟨h1, h2⟩; exact ⟨fun i r hr => h1 i r (List.getElem?_eq_some_iff.1 hr).1 hr, h2⟩
theorem refs_no {d : FDat} {j : Nat} {r : Int × ByteArray} (hr : d.refs[j]? = some r) (h : ¬ (nameQ r.2 ∧ (0 ≤ r.1 ∧ r.1 < (d.words.length : Int)) ∧ r.1 ∉ (d.refs.take j).map (·.1))) : ¬ datQ d := fun hq => h (hq.1 j r hr)
theorem fns_no {l : List TFn} {j n : Nat} {f : TFn} (hf : l[j]? = some f) (hn : j < n) (h : ¬ (fnV f = true ∧ f.nm ∉ (l.take j).map (·.nm))) : ¬ fnsTo l n := fun hq => h (hq j f hn hf)
theorem dats_no {l : List FDat} {j n : Nat} {f : FDat} (hf : l[j]? = some f) (hn : j < n) (h : ¬ (datQ f ∧ f.nm ∉ (l.take j).map (·.nm))) : ¬ datsTo l n := fun hq => h (hq j f hn hf)
structure TMod.In (m : TMod) : Prop where
  nf : m.fns.length ≤ 1000000
  nd : m.dats.length ≤ 1000000
  fns : ∀ f, f ∈ m.fns → f.In
  dats : ∀ d, d ∈ m.dats → LenOk d.nm.size ∧ LenOk d.words.length ∧ LenOk d.refs.length ∧ ∀ r, r ∈ d.refs → In64 r.1 ∧ LenOk r.2.size
  parts : fnsN m.fns ≤ 1000000000
  words : datN m.dats ≤ 1000000000
  i64 : ∀ d, d ∈ m.dats → ∀ x, x ∈ d.words → In64 x
theorem stsN_le_fns {l : List TFn} {f : TFn} (h : f ∈ l) : stsN f.body ≤ fnsN l := by
  unfold fnsN
  induction l with
  | nil => cases h
  | cons x r ih =>
    simp only [List.map_cons, List.sum_cons]
    rcases List.mem_cons.1 h with rfl | h
    · omega
    · have := ih h; omega
theorem words_le_dat {l : List FDat} {d : FDat} (h : d ∈ l) : d.words.length ≤ datN l := by
  unfold datN
  induction l with
  | nil => cases h
  | cons x r ih =>
    simp only [List.map_cons, List.sum_cons]
    rcases List.mem_cons.1 h with rfl | h
    · omega
    · have := ih h; omega
theorem validT_12 {m : TMod} (h : largeQ m) : validT m = 12 := by unfold validT; rw [if_pos h]
theorem validT_4 {m : TMod} (h : ¬ largeQ m) (h2 : ¬ (fnsTo m.fns m.fns.length ∧ datsTo m.dats m.dats.length)) : validT m = 4 := by unfold validT; rw [if_neg h, if_neg h2]
theorem validT_0 {m : TMod} (h : ¬ largeQ m) (h1 : fnsTo m.fns m.fns.length) (h2 : datsTo m.dats m.dats.length) : validT m = 0 := by unfold validT; rw [if_neg h, if_pos ⟨h1, h2⟩]
theorem validT_ok {m : TMod} (h : validT m = 0) : ¬ largeQ m ∧ fnsTo m.fns m.fns.length ∧ datsTo m.dats m.dats.length := by
  unfold validT at h
  by_cases h1 : largeQ m
  · rw [if_pos h1] at h; cases h
  · rw [if_neg h1] at h
    by_cases h2 : fnsTo m.fns m.fns.length ∧ datsTo m.dats m.dats.length
    · exact ⟨h1, h2⟩
    · rw [if_neg h2] at h; cases h
section
variable {S : Nat → Prop} {w : World} {m : TMod} {f : TFn} {d : FDat}
theorem RO.m_fns (h : RO S w (.all m.parts)) : RO S w (.rds m.fA 5 (m.fns.map TFn.cells)) := h.sub (List.mem_cons_self ..)
theorem RO.m_dats (h : RO S w (.all m.parts)) : RO S w (.rds m.dA 4 (m.dats.map FDat.cells)) := h.sub (List.mem_cons_of_mem _ (List.mem_cons_self ..))
theorem RO.m_tree (h : RO S w (.all m.parts)) : RO S w (.all (m.fns.flatMap TFn.parts)) :=
  ⟨fun r hr => (h.sub (List.mem_cons_of_mem _ (List.mem_cons_of_mem _ (List.mem_append_left _ hr)))).1, fun g ⟨r, hr, hg⟩ => (h.sub (List.mem_cons_of_mem _ (List.mem_cons_of_mem _ (List.mem_append_left _ hr)))).2 g hg⟩
theorem RO.m_refs (h : RO S w (.all m.parts)) (hd : d ∈ m.dats) : RO S w (.rds d.rA 2 (d.refs.map refCells)) :=
  h.sub (List.mem_cons_of_mem _ (List.mem_cons_of_mem _ (List.mem_append_right _ (List.mem_flatMap.2 ⟨d, hd, by simp [FDat.parts]⟩))))
theorem RO.mod_of {A : Option Addr} {ms : List TMod} (h : RO S w (.mods A ms)) (hm : m ∈ ms) : RO S w (.all m.parts) :=
  ⟨fun _ hr => (h.mpart hm hr).1, fun g ⟨_, hr, hg⟩ => (h.mpart hm hr).2 g hg⟩
end
end Go.Mor
namespace Go.Mor
open Go.RowKit
theorem frame0 {fn : Func} {N : FN} (vs : List Value) (hn : Nat.beq fn.ntmps N.n = true := by kernel_rfl) (hl : Nat.ble vs.length N.n = true := by kernel_rfl) (hD : N.D = [] := by rfl) :
    Fr { tmps := vs.toArray ++ Array.replicate (fn.ntmps - vs.toArray.size) undef, defers := [] } N (argE 0 vs) := by
  have hN : fn.ntmps = N.n := Nat.eq_of_beq_eq_true hn
  have hl' : vs.length ≤ N.n := Nat.le_of_ble_eq_true hl
  refine ⟨hD.symm, by simp [hN]; omega, ?_⟩
  intro t v hv
  obtain ⟨_, h2⟩ := look_argE vs 0 t hv
  simp only [Nat.sub_zero] at h2
  have ht : t < vs.length := (List.getElem?_eq_some_iff.1 h2).1
  rw [Array.getElem?_append_left (by simpa using ht)]
  simpa using h2
section
variable {P : Program} {c : Code} {w w0 : World} {S : Nat → Prop} {L : List Res} {k : Nat} {N : FN} {env : Env}
theorem WS_gen {Q : Exit → Act → List Frame → World → Prop} {a : Act} {cs : List Frame} (hF : Fr a N env) (h : ∀ a, Fr a N env → c.wpS P Q a cs w) : c.wpS P Q a cs w := h a hF
theorem WS_seq {Q : Exit → Act → List Frame → World → Prop} {a : Act} {cs : List Frame} (hk : kind c = .seq) (h : (Code.l c).wpS P (Exit.thenS (fun a cs w => (Code.r c).wpS P Q a cs w) Q) a cs w) : c.wpS P Q a cs w := by
  cases c <;> simp [kind] at hk
  exact wpS_seq h
theorem WS_of2 {Q : Exit → Act → List Frame → World → Prop} {a : Act} {cs : List Frame} (h : W P c (fun a w => Q .normal a cs w) (fun e a w => Q e a cs w) a w) : c.wpS P Q a cs w := by
  refine wpS_of_wp ?_
  refine wp_mono h ?_
  intro e a w he
  cases e <;> exact he
theorem FromS_of' {K : Act → List Frame → World → Prop} {Q : Exit → Act → List Frame → World → Prop} {a : Act} {cs : List Frame} (n : Nat) (hn : ∀ a w, ¬ Q .outgrown a cs w) (h : From P c (fun a w => K a cs w) (fun e a w => Q e a cs w) k a w) (hs : Nat.ble (opsOf c).size (k + n) = true := by kernel_rfl) : FromS P c K Q k a cs w :=
  FromS_of hn n k a w (Nat.le_of_ble_eq_true hs) h
theorem recoverD_pan {c0 : Frame} {cs : List Frame} {v : Value} (h : c0.mode = .panicking [{ v, recovered := false }]) : recoverD (c0 :: cs) = some (v, { c0 with mode := .panicking [{ v, recovered := true }] } :: cs) := by
  simp [recoverD, h]
theorem recoverD_ret {c0 : Frame} {cs : List Frame} (h : c0.mode = .returning) : recoverD (c0 :: cs) = none := by
  simp [recoverD, h]
theorem FromS_caught {K : Act → List Frame → World → Prop} {Q : Exit → Act → List Frame → World → Prop} {a : Act} {cs cs' : List Frame} {v : Value} (d : Option Nat) (ts : Array TypeId) (ty : Nat) (hr : recoverD cs = some (v, cs')) (h : FromS P c K Q (k + 1) (a.put d v) cs' w)
    (hk : coreAt c k = some (d, .call { callee := .builtin .recover, args := #[], argTypes := ts }, ty, none) := by kernel_rfl) : FromS P c K Q k a cs w := by
  refine FromS_recover hk ?_
  rw [hr]
  exact h
theorem FromS_nothing {K : Act → List Frame → World → Prop} {Q : Exit → Act → List Frame → World → Prop} {a : Act} {cs : List Frame} (d : Option Nat) (ts : Array TypeId) (ty : Nat) (hr : recoverD cs = none) (h : FromS P c K Q (k + 1) (a.put d .nilIface) cs w)
    (hk : coreAt c k = some (d, .call { callee := .builtin .recover, args := #[], argTypes := ts }, ty, none) := by kernel_rfl) : FromS P c K Q k a cs w := by
  refine FromS_recover hk ?_
  rw [hr]
  exact h
theorem WS_caught {K : Act → List Frame → World → Prop} {Q : Exit → Act → List Frame → World → Prop} {a : Act} {cs cs' : List Frame} {v : Value} (n d : Nat) (ts : Array TypeId) (ty : Nat) (hF : Fr a N env) (hr : recoverD cs = some (v, cs')) (hn : ∀ a w, ¬ Q .outgrown a cs' w)
    (h : ∀ a, Fr a N (putE env (some d) v) → From P c (fun a w => K a cs' w) (fun e a w => Q e a cs' w) 1 a w) (hk : coreAt c 0 = some (some d, .call { callee := .builtin .recover, args := #[], argTypes := ts }, ty, none) := by kernel_rfl)
    (hd : okd (some d) N = true := by kernel_rfl) (hs : Nat.ble (opsOf c).size (0 + 1 + n) = true := by kernel_rfl) (hc : kind c = .region false := by kernel_rfl) : c.wpS P (Exit.thenS K Q) a cs w :=
  WS_region hc (FromS_caught (some d) ts ty hr (FromS_of' n hn (h _ (hF.put hd v)) hs) hk)
theorem WS_nothing {K : Act → List Frame → World → Prop} {Q : Exit → Act → List Frame → World → Prop} {a : Act} {cs : List Frame} (n d : Nat) (ts : Array TypeId) (ty : Nat) (hF : Fr a N env) (hr : recoverD cs = none) (hn : ∀ a w, ¬ Q .outgrown a cs w)
    (h : ∀ a, Fr a N (putE env (some d) .nilIface) → From P c (fun a w => K a cs w) (fun e a w => Q e a cs w) 1 a w) (hk : coreAt c 0 = some (some d, .call { callee := .builtin .recover, args := #[], argTypes := ts }, ty, none) := by kernel_rfl)
    (hd : okd (some d) N = true := by kernel_rfl) (hs : Nat.ble (opsOf c).size (0 + 1 + n) = true := by kernel_rfl) (hc : kind c = .region false := by kernel_rfl) : c.wpS P (Exit.thenS K Q) a cs w :=
  WS_region hc (FromS_nothing (some d) ts ty hr (FromS_of' n hn (h _ (hF.put hd .nilIface)) hs) hk)
def taE (c : Code) (N : FN) (env : Env) (k : Nat) : Option (Option Nat × Value × TypeId × TypeId) := match coreAt c k with
  | some (d, .typeAssert x xt t true, _, g) => match guardE c g env, okd d N, ev env x with
    | some true, true, some v => some (d, v, xt, t)
    | _, _, _ => none
  | _ => none
theorem zta {K : Act → World → Prop} {Q : Exit → Act → World → Prop} (x : Value) (xt t : TypeId) (v : Value) (hr : ∀ w, (Instr.typeAssert x xt t true).run P w = .ok v w) (h : ∀ a, Fr a N (putE env (dstAt c k) v) → From P c K Q (k + 1) a w)
    (hk : taE c N env k = some (dstAt c k, x, xt, t) := by kernel_rfl) : ∀ a, Fr a N env → From P c K Q k a w := fun a hF => by
  unfold taE at hk
  split at hk
  · rename_i d0 x0 xt0 t0 ty g h0
    split at hk
    · rename_i v0 h1 h2 h3
      simp only [Option.some.injEq, Prod.mk.injEq] at hk
      obtain ⟨hd, rfl, rfl, rfl⟩ := hk
      rw [← hd] at h
      refine From_same h0 hF h1 h2 rfl (v := v) (fun o ho => ?_) (fun a' _ hF' => h a' hF')
      unfold execOp
      rw [ho]
      simp [hF.ev h3, hr w]
    · cases hk
  · cases hk
theorem ta_yes {t xt : TypeId} {fs : Array Field} (hu : P.underlying t = some (.struct fs)) (v : Value) (w : World) : (Instr.typeAssert (.iface t v) xt t true).run P w = .ok (.tuple #[v, .bool true]) w := by
  simp [Instr.typeAssert, run_underlying hu, Result.andThen]
theorem ta_nil {t xt : TypeId} {fs : Array Field} {z : Value} (hu : P.underlying t = some (.struct fs)) (hz : (P.info? t).map (·.zero) = some (some z)) (w : World) : (Instr.typeAssert .nilIface xt t true).run P w = .ok (.tuple #[z, .bool false]) w := by
  cases hi : P.info? t with
  | none => simp [hi] at hz
  | some i =>
    simp [hi] at hz
    simp [Instr.typeAssert, run_underlying hu, Result.andThen, zeroValue, typeInfo, hi, hz]
end
section
variable {P : Program} {c : Code} {K : Act → World → Prop} {Q : Exit → Act → World → Prop} {w : World} {k : Nat} {N : FN} {env : Env}
theorem From_minmax {m : Bool} {a : Act} {d : Option Nat} {ty : Nat} {g : Option (Nat × Bool)} {ts : Array TypeId} {x y : Operand} (hk : coreAt c k = some (d, .call { callee := .builtin (if m then .max else .min), args := #[x, y], argTypes := ts }, ty, g)) (hF : Fr a N env) (hg : guardE c g env = some true) (hd : okd d N = true)
    {kd : IntKind} {i j : Int} (hx : ev env x = some (.int kd i)) (hy : ev env y = some (.int kd j)) (z : Int) (hz : z = if m then max i j else min i j) (h : ∀ a, Fr a N (putE env d (.int kd z)) → From P c K Q (k + 1) a w) : From P c K Q k a w := by
  cases m
  · refine From_min hk hF hg hd rfl hx hy z ?_ (fun a _ hF => h a hF)
    rw [hz]
    simp only [Bool.false_eq_true, if_false]
    split <;> omega
  · refine From_max hk hF hg hd rfl hx hy z ?_ (fun a _ hF => h a hF)
    rw [hz]
    simp only [if_true]
    split <;> omega
theorem zmx (d : Option Nat) (x y : Operand) (ts : Array TypeId) (ty : Nat) (kd : IntKind) (i j : Int) (h : ∀ a, Fr a N (putE env d (.int kd (max i j))) → From P c K Q (k + 1) a w) (hk : coreAt c k = some (d, .call { callee := .builtin .max, args := #[x, y], argTypes := ts }, ty, none) := by kernel_rfl)
    (hd : okd d N = true := by kernel_rfl) (hx : ev env x = some (.int kd i) := by kernel_rfl) (hy : ev env y = some (.int kd j) := by kernel_rfl) : ∀ a, Fr a N env → From P c K Q k a w := fun _ hF => From_minmax (m := true) hk hF rfl hd hx hy _ rfl h
theorem zmn (d : Option Nat) (x y : Operand) (ts : Array TypeId) (ty : Nat) (kd : IntKind) (i j : Int) (h : ∀ a, Fr a N (putE env d (.int kd (min i j))) → From P c K Q (k + 1) a w) (hk : coreAt c k = some (d, .call { callee := .builtin .min, args := #[x, y], argTypes := ts }, ty, none) := by kernel_rfl)
    (hd : okd d N = true := by kernel_rfl) (hx : ev env x = some (.int kd i) := by kernel_rfl) (hy : ev env y = some (.int kd j) := by kernel_rfl) : ∀ a, Fr a N env → From P c K Q k a w := fun _ hF => From_minmax (m := false) hk hF rfl hd hx hy _ rfl h
end
theorem RO.nil_ {S : Nat → Prop} {w : World} : RO S w (.rd none []) := ⟨fun j v h => by simp at h, fun g hg => absurd rfl hg.1⟩
end Go.Mor
namespace Go.Mor
open Go.RowKit
theorem RO.all {S : Nat → Prop} {w : World} {l : List Res} (h : ∀ r, r ∈ l → RO S w r) : RO S w (.all l) :=
  ⟨fun r hr => (h r hr).1, fun g ⟨r, hr, hg⟩ => (h r hr).2 g hg⟩
theorem Mem.drop2 {S : Nat → Prop} {w0 w : World} {r r' : Res} {L : List Res} (h : Mem S w0 w (r :: r' :: L)) : Mem S w0 w L :=
  ⟨h.os, h.tape, h.output, h.size, h.kept, fun s hs => h.own s (List.mem_cons_of_mem _ (List.mem_cons_of_mem _ hs)), h.apart.tail.tail⟩
def outS : Got Unit → Int × Int × PSt
  | .ok _ s => (1, 0, s)
  | .stop k c s => (k, c, s)
theorem outS_bind {α : Type} {g : Got α} {f : α → PSt → Got Unit} {k c : Int} {s : PSt} (h : g = .stop k c s) : outS (g.bind f) = (k, c, s) := by rw [h]; rfl
theorem outS_next {α : Type} {g : Got α} {f : α → PSt → Got Unit} {x : α} {s : PSt} (h : g = .ok x s) : outS (g.bind f) = outS (f x s) := by rw [h]; rfl
theorem RO.mono {S : Nat → Prop} {w : World} {r r' : Res} (h : RO S w r) (hh : r.holds w → r'.holds w) (hf : ∀ g, r'.fp g → r.fp g) : RO S w r' := ⟨hh h.1, fun g hg => h.2 g (hf g hg)⟩
theorem mem_ints (n : Nat) : List.replicate n (Value.int .i64 0) = ints (List.replicate n 0) := by simp [ints]
abbrev Out := Int × Int × List Int × Int
def outOf (g : Got Unit) : Out := ((outS g).1, (outS g).2.1, (outS g).2.2.out, (outS g).2.2.steps)
abbrev outV (o : Out) (oA : Option Addr) (oc : Nat) : Value := .agg #[.int .i64 o.1, .int .i64 o.2.1, .slice oA o.2.2.1.length oc, .int .i64 o.2.2.2]
end Go.Mor
namespace Go.Mor
open Go.RowKit
def trunS (E : EnvT) (cs : List FDat) (begin : List ByteArray) : Got Unit :=
  if nextTo cs cs.length ≤ E.memN then playT E (E.fuel.toNat + 1) begin (lyS (lyT E.names E.data E.memN cs) (nextTo cs cs.length)) else .stop 3 0 (lyS (lyT E.names E.data E.memN cs) (nextTo cs cs.length))
section
variable {E : EnvT} {cs : List FDat} {l : List ByteArray} {g j : Nat} {b : ByteArray} {s : PSt}
theorem playT_at (h : l[j]? = some b) : playT E g (l.drop j) s = (lkS E.names b s).bind fun n s => (callT E g n [] s).bind fun _ s => playT E g (l.drop (j + 1)) s := by
  obtain ⟨hlt, he⟩ := List.getElem?_eq_some_iff.1 h
  rw [List.drop_eq_getElem_cons hlt, he]
  rfl
theorem playT_end (h : l.length ≤ j) : playT E g (l.drop j) s = .ok () s := by rw [List.drop_eq_nil_of_le h]; rfl
theorem trunS_yes (h : nextTo cs cs.length ≤ E.memN) : trunS E cs l = playT E (E.fuel.toNat + 1) l (lyS (lyT E.names E.data E.memN cs) (nextTo cs cs.length)) := by unfold trunS; rw [if_pos h]
theorem trunS_no (h : ¬ nextTo cs cs.length ≤ E.memN) : trunS E cs l = .stop 3 0 (lyS (lyT E.names E.data E.memN cs) (nextTo cs cs.length)) := by unfold trunS; rw [if_neg h]
end
abbrev TC.at_ (C : TC) (fA : Option Addr) (fc : Nat) : TC := { C with fA := fA, fc := fc }
theorem TC.WF.at_ {C : TC} (h : C.WF) (fA : Option Addr) (fc : Nat) : (C.at_ fA fc).WF := ⟨h.fns, h.nfns, h.mem, h.fuel, h.inp, h.ic, h.bytes⟩
theorem tlay_good {C : TC} {cs : List FDat} (hC : C.WF) (hf : nextTo cs cs.length ≤ C.E.memN) (fA : Option Addr) (fc : Nat) : TGood (C.at_ fA fc) (lyS (lyT C.E.names C.E.data C.E.memN cs) (nextTo cs cs.length)) where
  mem := by show (lyT C.E.names C.E.data C.E.memN cs).length = _; unfold lyT; rw [if_pos hf]; exact layTo_len _ (Nat.le_refl _) hf
  n1 := by have : 1 ≤ nextTo cs cs.length := nextTo_pos; show (1 : Int) ≤ (nextTo cs cs.length : Int); omega
  n2 := by show (nextTo cs cs.length : Int) ≤ C.E.memN; omega
  pos := Nat.zero_le _
  out := Nat.zero_le _
  s1 := Int.le_refl _
  s2 := hC.fuel.1
  o1 := Int.le_refl _
  o2 := by show (0 : Int) ≤ 1200; omega
def optT : Option TFn → List Value
  | none => zeroTF
  | some f => f.cells
theorem fnT_rds {w : World} {e n c : Nat} {A : Option Addr} {cs : List TFn} (h : (Res.row e 5 A n c (fnT cs cs.length)).holds w) : (Res.rds A 5 (zeroTF :: cs.map TFn.cells)).holds w := by
  have h1 := rows_rds (f := optT) (size := 5) (l := none :: cs.map some) (e := e) (n := n) (c := c) (A := A) (w := w) (fun x => by cases x <;> rfl) (by decide) (by
    rw [show (none :: cs.map some).flatMap optT = fnT cs cs.length by
      unfold fnT
      rw [List.take_length, List.flatMap_cons, List.flatMap_map]; rfl]
    exact h)
  rw [List.map_cons, List.map_map] at h1
  exact h1
theorem tro_of {C : TC} {S : Nat → Prop} {w : World} {e n c : Nat} {cs : List TFn} {fA : Option Addr} {fc : Nat} (hE : C.E.tfs = cs) (h1 : RO S w (.row e 5 fA n c (fnT cs cs.length))) (h2 : RO S w (.map C.mB (inK .string (vK C.E.names)))) (h3 : RO S w (.map C.dB (inK .string (vK C.E.data)))) (h4 : RO S w (.rd C.iA (u8s C.E.inp)))
    (h5 : ∀ f, f ∈ cs → ∀ r, r ∈ f.parts → RO S w r) : RO S w (C.at_ fA fc).ro := by
  refine RO.all fun r hr => ?_
  simp only [List.mem_cons] at hr
  rcases hr with rfl | rfl | rfl | rfl | hr
  · rw [show (C.at_ fA fc).E.tfs = cs from hE]
    exact h1.mono fnT_rds (fun g hg => hg.2)
  · exact h2
  · exact h3
  · exact h4
  · obtain ⟨f, hf, hr⟩ := List.mem_flatMap.1 hr
    exact h5 f (by rw [← hE]; exact hf) r hr
end Go.Mor
namespace Go.Mor
open Go.RowKit
def envT (ms : List TMod) (mem : Int) (inp : List Int) (fuel : Int) : EnvT :=
  { fns := [], names := nmsTo (csF ms) (csF ms).length, data := dataTo (csD ms) (csD ms).length, inp := inp, memN := mem.toNat, fuel := min (max fuel 0) 4194304, tfs := csF ms }
def badT (ms : List TMod) (mem : Int) (inp : List Int) (j : Nat) : Prop := (mem < 1 ∨ mem > 262144 ∨ (inp.length : Int) > 4096) ∨ ∃ (i : Nat) (m : TMod), i < j ∧ ms[i]? = some m ∧ validT m ≠ 0
noncomputable instance (ms : List TMod) (mem : Int) (inp : List Int) (j : Nat) : Decidable (badT ms mem inp j) := Classical.propDecidable _
noncomputable def runTO (ms : List TMod) (bg : List ByteArray) (mem : Int) (inp : List Int) (fuel : Int) : Out :=
  if badT ms mem inp ms.length then (5, 0, [], 0) else outOf (trunS (envT ms mem inp fuel) (csD ms) bg)
section
variable {ms : List TMod} {mem : Int} {inp : List Int} {j : Nat} {m : TMod}
theorem badT_keep (h : true = true ↔ badT ms mem inp j) : true = true ↔ badT ms mem inp (j + 1) := ⟨fun _ => (h.1 rfl).imp id (fun ⟨i, g, hi, hg⟩ => ⟨i, g, by omega, hg⟩), fun _ => rfl⟩
theorem badT_new (h : false = true ↔ badT ms mem inp j) (hm : ms[j]? = some m) : (validT m != 0) = true ↔ badT ms mem inp (j + 1) := by
  rw [bne_iff_ne]
  constructor
  · intro h1; exact .inr ⟨j, m, by omega, hm, h1⟩
  · rintro (h1 | ⟨i, g, hi, hg, hv⟩)
    · cases h.2 (.inl h1)
    · by_cases e : i = j
      · subst e
        rw [hm] at hg
        injection hg with hg
        subst hg
        exact hv
      · cases h.2 (.inr ⟨i, g, by omega, hg, hv⟩)
theorem badT_start {B : Bool} (h : B = true ↔ (mem < 1 ∨ mem > 262144 ∨ (inp.length : Int) > 4096)) : B = true ↔ badT ms mem inp 0 := by
  rw [h]
  exact ⟨.inl, fun h => h.elim id (fun ⟨_, _, hi, _⟩ => absurd hi (Nat.not_lt_zero _))⟩
theorem badT_not (h : ¬ badT ms mem inp ms.length) : ∀ m, m ∈ ms → validT m = 0 := fun m hm => Classical.byContradiction fun hv => by
  obtain ⟨i, hi⟩ := List.mem_iff_getElem?.1 hm
  exact h (.inr ⟨i, m, (List.getElem?_eq_some_iff.1 hi).1, hi, hv⟩)
end
structure RunInT (w : World) (ms : List TMod) (mA : Option Addr) (bg : List ByteArray) (gA : Option Addr) (inp : List Int) (iA : Option Addr) (ic : Nat) : Prop where
  len : ms.length ≤ 1000
  nf : (flF ms).length ≤ 1000
  nd : (flD ms).length ≤ 1000
  mods : RO noS w (.mods mA ms)
  ins : ∀ m, m ∈ ms → m.In
  glen : bg.length ≤ 1000000
  bg : RO noS w (.rd gA (bg.map Value.string))
  ilen : inp.length ≤ ic
  inr : RO noS w (.rd iA (u8s inp))
  bytes : ∀ b, b ∈ inp → 0 ≤ b ∧ b ≤ 255
theorem fn_right {m : TMod} {f : TFn} (h : validT m = 0) (hf : f ∈ m.fns) : fnV f = true := by
  obtain ⟨i, hi⟩ := List.mem_iff_getElem?.1 hf
  exact ((validT_ok h).2.1 i f (List.getElem?_eq_some_iff.1 hi).1 hi).1
theorem dat_right {m : TMod} {d : FDat} (h : validT m = 0) (hd : d ∈ m.dats) : datQ d := by
  obtain ⟨i, hi⟩ := List.mem_iff_getElem?.1 hd
  exact ((validT_ok h).2.2 i d (List.getElem?_eq_some_iff.1 hi).1 hi).1
theorem fnV_name {f : TFn} (h : fnV f = true) : nameQ f.nm := by
  unfold fnV at h
  rw [Bool.and_eq_true, decide_eq_true_eq] at h
  exact h.1.1
theorem nodupT_le {l : List Int} {N : Nat} (hn : l.Nodup) (hr : ∀ x, x ∈ l → 0 ≤ x ∧ x < (N : Int)) : l.length ≤ N := by
  have h := List.Nodup.length_le_of_subset hn (l₂ := (List.range N).map (fun i : Nat => (i : Int))) (fun x hx => by
    obtain ⟨h1, h2⟩ := hr x hx
    exact List.mem_map.2 ⟨x.toNat, List.mem_range.2 (by omega), by omega⟩)
  simpa using h
theorem dat_wf {m : TMod} {d : FDat} (h : validT m = 0) (hd : d ∈ m.dats) : d.WF := by
  have hq := dat_right h hd
  have hl : d.words.length ≤ 16384 := by
    have h1 := (validT_ok h).1
    unfold largeQ at h1
    have := words_le_dat hd
    omega
  have hn : (d.refs.map (·.1)).Nodup := by
    refine List.pairwise_iff_getElem.2 fun i j hi hj hij he => ?_
    have hj' : j < d.refs.length := by simpa using hj
    obtain ⟨r, hr⟩ := get_of (l := d.refs) (i := j) hj'
    obtain ⟨r', hr'⟩ := get_of (l := d.refs) (i := i) (by omega)
    simp only [List.getElem_map] at he
    have he2 : r'.1 = r.1 := by
      rw [(List.getElem?_eq_some_iff.1 hr).2.symm, (List.getElem?_eq_some_iff.1 hr').2.symm]
      exact he
    have := (hq.1 j r hr).2.2
    apply this
    rw [← he2]
    refine List.mem_map.2 ⟨r', ?_, rfl⟩
    exact List.mem_iff_getElem?.2 ⟨i, by rw [List.getElem?_take_of_lt hij]; exact hr'⟩
  have hr : ∀ x, x ∈ d.refs.map (·.1) → 0 ≤ x ∧ x < (d.words.length : Int) := fun x hx => by
    obtain ⟨r, hr, rfl⟩ := List.mem_map.1 hx
    obtain ⟨i, hi⟩ := List.mem_iff_getElem?.1 hr
    exact (hq.1 i r hi).2.1
  refine ⟨hq.2, hl, ?_, fun r hr => ?_⟩
  · have := nodupT_le hn hr
    rw [List.length_map] at this
    omega
  · obtain ⟨i, hi⟩ := List.mem_iff_getElem?.1 hr
    exact (hq.1 i r hi).2.1
section
variable {w : World} {ms : List TMod} {mA : Option Addr} {bg : List ByteArray} {gA : Option Addr} {mem fuel : Int} {inp : List Int} {iA : Option Addr} {ic : Nat}
theorem runT_wf (hI : RunInT w ms mA bg gA inp iA ic) (hb : ¬ badT ms mem inp ms.length) (r : Nat) (fA : Option Addr) (fc mB dB mG : Nat) : (⟨envT ms mem inp fuel, r, fA, fc, mB, dB, mG, iA, ic⟩ : TC).WF where
  fns f hf := by
    obtain ⟨m, hm, hfm⟩ := List.mem_flatMap.1 (csF_mem hf)
    exact fn_wf ((hI.ins m hm).fns f hfm) (fn_right (badT_not hb m hm) hfm)
  nfns := by
    have h1 := csF_len (ms := ms)
    have h2 := hI.nf
    show (csF ms).length ≤ 1000000
    omega
  mem := by
    show mem.toNat ≤ 262144
    unfold badT at hb
    omega
  fuel := ⟨by show 0 ≤ min (max fuel 0) 4194304; omega, by show min (max fuel 0) 4194304 ≤ 4194304; omega⟩
  inp := by
    show inp.length ≤ 4096
    unfold badT at hb
    omega
  ic := hI.ilen
  bytes := hI.bytes
theorem runT_dats (hb : ¬ badT ms mem inp ms.length) : ∀ d, d ∈ flD ms → d.WF := fun d hd => by
  obtain ⟨m, hm, hdm⟩ := List.mem_flatMap.1 hd
  exact dat_wf (badT_not hb m hm) hdm
theorem runT_names (hb : ¬ badT ms mem inp ms.length) : ∀ f, f ∈ flF ms → f.nm.size ≤ 60 := fun f hf => by
  obtain ⟨m, hm, hfm⟩ := List.mem_flatMap.1 hf
  exact (fnV_name (fn_right (badT_not hb m hm) hfm)).2
theorem runT_out {k c : Int} {s : PSt} (hb : ¬ badT ms mem inp ms.length) (h : outS (trunS (envT ms mem inp fuel) (csD ms) bg) = (k, c, s)) : runTO ms bg mem inp fuel = (k, c, s.out, s.steps) := by
  unfold runTO
  rw [if_neg hb]
  unfold outOf
  rw [h]
theorem runT_bad (hb : badT ms mem inp ms.length) : runTO ms bg mem inp fuel = (5, 0, [], 0) := by
  unfold runTO
  rw [if_pos hb]
end
end Go.Mor
namespace Go.Mor
open Go.RowKit
def ECk (P : Program) (l : List MEx) : Prop := ∀ (A : Option Addr) (c : Nat) (most : Int) (T : List Res) (w : World), 0 ≤ most → most ≤ 1152921504606846976 → RO noS w (.all T) → SubEs T A l → exsI l → LenOk l.length →
  Calls P 47 #[.slice A l.length c, .int .i64 most] w (Ret fun v w' => ∃ r, v = .int .i64 r ∧ (Cnt most 0 (exsN l) r ∧ r ≤ most + 1) ∧ Mem noS w w' [])
def SCk (P : Program) (l : List MSt) : Prop := ∀ (A : Option Addr) (c : Nat) (most : Int) (T : List Res) (w : World), 0 ≤ most → most ≤ 1152921504606846976 → RO noS w (.all T) → SubXs T A l → stsI l → LenOk l.length →
  Calls P 24 #[.slice A l.length c, .int .i64 most] w (Ret fun v w' => ∃ r, v = .int .i64 r ∧ (Cnt most 0 (stsN l) r ∧ r ≤ most + 2) ∧ Mem noS w w' [])
section
variable {most n k r : Int}
theorem Cnt.sh (h : Cnt (most - n) 0 k r) : Cnt most n k (n + r) := by
  unfold Cnt at *
  omega
theorem Cnt.sh1 (h : Cnt (most - n) 0 k r) : Cnt most (n + 1) k (n + 1 + r) := by
  unfold Cnt at *
  omega
end
def datS (l : List FDat) : Nat := (l.map (fun d => min d.words.length 30000 + min d.refs.length 30000)).sum
section
variable {l : List FDat} {d : FDat} {j : Nat}
theorem datS_take (h : l[j]? = some d) : datS (l.take (j + 1)) = datS (l.take j) + (min d.words.length 30000 + min d.refs.length 30000) := by
  unfold datS
  rw [List.take_add_one, h]
  simp
theorem datN_S (h : datS l ≤ 25000) : datN l ≤ datS l := by
  unfold datN datS at *
  induction l with
  | nil => simp
  | cons x r ih =>
    simp only [List.map_cons, List.sum_cons] at h ⊢
    have := ih (by omega)
    omega
end
structure SmB (m : TMod) : Prop where
  sum : m.fns.length + m.dats.length + fnsN m.fns + datS m.dats ≤ 25000
  cnt : m.fns.length + m.dats.length ≤ 200
structure TMod.In0 (m : TMod) : Prop where
  nf : LenOk m.fns.length
  nd : LenOk m.dats.length
  fns : ∀ f, f ∈ m.fns → f.In
  dats : ∀ d, d ∈ m.dats → LenOk d.nm.size ∧ LenOk d.words.length ∧ LenOk d.refs.length ∧ ∀ r, r ∈ d.refs → In64 r.1 ∧ LenOk r.2.size
  i64 : ∀ d, d ∈ m.dats → ∀ x, x ∈ d.words → In64 x
theorem TMod.In0.in_ {m : TMod} (h : m.In0) (hb : SmB m) : m.In where
  nf := by have := hb.cnt; omega
  nd := by have := hb.cnt; omega
  fns := h.fns
  dats := h.dats
  parts := by have := hb.sum; omega
  words := by have h1 := hb.sum; have := datN_S (l := m.dats) (by omega); omega
  i64 := h.i64
theorem smB_of {m : TMod} {n : Int} (hn : n ≤ 25000 → n = (m.fns.length + m.dats.length + fnsN m.fns + datS m.dats : Nat)) (h1 : ¬ n > 25000) (h2 : ¬ (m.fns.length : Int) + m.dats.length > 200) : SmB m := ⟨by have := hn (by omega); omega, by omega⟩
structure HvB (ms : List TMod) (bg : List ByteArray) (mem : Int) (inp : List Int) (fuel : Int) : Prop where
  len : ms.length ≤ 8
  sm : ∀ m, m ∈ ms → SmB m
  cnt : (flF ms).length + (flD ms).length ≤ 300
  bg : bg.length ≤ 50
  mem : mem ≤ 20000
  inp : inp.length ≤ 5000
  fuel : fuel ≤ 5000
section
variable {ms : List TMod} {m : TMod} {j : Nat}
theorem smTo_succ (h : ∀ (i : Nat) (m : TMod), i < j → ms[i]? = some m → SmB m) (hm : ms[j]? = some m) (hb : SmB m) : ∀ (i : Nat) (m : TMod), i < j + 1 → ms[i]? = some m → SmB m := fun i g hi hg => by
  by_cases e : i = j
  · subst e; rw [hm] at hg; injection hg with hg; subst hg; exact hb
  · exact h i g (by omega) hg
theorem smTo_all (h : ∀ (i : Nat) (m : TMod), i < ms.length → ms[i]? = some m → SmB m) : ∀ m, m ∈ ms → SmB m := fun m hm => by
  obtain ⟨i, hi⟩ := List.mem_iff_getElem?.1 hm
  exact h i m (List.getElem?_eq_some_iff.1 hi).1 hi
theorem flF_take (h : ms[j]? = some m) : (flF (ms.take (j + 1))).length = (flF (ms.take j)).length + m.fns.length := by
  unfold flF
  rw [List.take_add_one, h]
  simp
theorem flD_take (h : ms[j]? = some m) : (flD (ms.take (j + 1))).length = (flD (ms.take j)).length + m.dats.length := by
  unfold flD
  rw [List.take_add_one, h]
  simp
end
structure RunIn0 (w : World) (ms : List TMod) (mA : Option Addr) (bg : List ByteArray) (gA : Option Addr) (inp : List Int) (iA : Option Addr) (ic : Nat) : Prop where
  len : LenOk ms.length
  mods : RO noS w (.mods mA ms)
  ins : ∀ m, m ∈ ms → m.In0
  glen : LenOk bg.length
  bg : RO noS w (.rd gA (bg.map Value.string))
  ill : LenOk inp.length
  ilen : inp.length ≤ ic
  inr : RO noS w (.rd iA (u8s inp))
  bytes : ∀ b, b ∈ inp → 0 ≤ b ∧ b ≤ 255
theorem RunIn0.run {w : World} {ms : List TMod} {mA : Option Addr} {bg : List ByteArray} {gA : Option Addr} {inp : List Int} {iA : Option Addr} {ic : Nat} {mem fuel : Int} (h : RunIn0 w ms mA bg gA inp iA ic) (hb : HvB ms bg mem inp fuel) : RunInT w ms mA bg gA inp iA ic where
  len := by have := hb.len; omega
  nf := by have := hb.cnt; omega
  nd := by have := hb.cnt; omega
  mods := h.mods
  ins m hm := (h.ins m hm).in_ (hb.sm m hm)
  glen := by have := hb.bg; omega
  bg := h.bg
  ilen := h.ilen
  inr := h.inr
  bytes := h.bytes
theorem RunIn0.at_ {w w' : World} {ms : List TMod} {mA : Option Addr} {bg : List ByteArray} {gA : Option Addr} {inp : List Int} {iA : Option Addr} {ic : Nat} {L : List Res} (h : RunIn0 w ms mA bg gA inp iA ic) (hM : Mem noS w w' L) : RunIn0 w' ms mA bg gA inp iA ic :=
  ⟨h.len, h.mods.at_ hM, h.ins, h.glen, h.bg.at_ hM, h.ill, h.ilen, h.inr.at_ hM, h.bytes⟩
end Go.Mor
namespace Go.Mor
open Go.RowKit
mutual
def plV : MEx → Bool
  | ⟨op, _, _, _, _, kids⟩ => !decide (op = 6 ∨ op = 7 ∨ op = 13 ∨ op = 10 ∨ op = 11) && plsV kids
def plsV : List MEx → Bool
  | [] => true
  | e :: r => plV e && plsV r
end
mutual
def exCan : MEx → MEx
  | ⟨op, n, nm, _, _, kids⟩ => ⟨op, n, nm, none, 0, exsCan kids⟩
def exsCan : List MEx → List MEx
  | [] => []
  | e :: r => exCan e :: exsCan r
end
mutual
def stCan : MSt → MSt
  | ⟨op, n, _, _, exprs, _, _, body, _, _, els⟩ => ⟨op, n, none, 0, exsCan exprs, none, 0, stsCan body, none, 0, stsCan els⟩
def stsCan : List MSt → List MSt
  | [] => []
  | e :: r => stCan e :: stsCan r
end
def fnCan (f : TFn) : TFn := { f with A := none, c := 0, body := stsCan f.body }
mutual
def exOwn : MEx → List Res
  | ⟨_, _, _, A, c, kids⟩ => .row 53 4 A kids.length c (kids.flatMap MEx.cells) :: exsOwn kids
def exsOwn : List MEx → List Res
  | [] => []
  | e :: r => exOwn e ++ exsOwn r
end
mutual
def stOwn : MSt → List Res
  | ⟨_, _, eA, ec, exprs, bA, bc, body, lA, lc, els⟩ => .row 53 4 eA exprs.length ec (exprs.flatMap MEx.cells) :: .row 48 5 bA body.length bc (body.flatMap MSt.cells) :: .row 48 5 lA els.length lc (els.flatMap MSt.cells) :: (exsOwn exprs ++ (stsOwn body ++ stsOwn els))
def stsOwn : List MSt → List Res
  | [] => []
  | x :: r => stOwn x ++ stsOwn r
end
def fnOwn (f : TFn) : List Res := .row 48 5 f.A f.body.length f.c (f.body.flatMap MSt.cells) :: stsOwn f.body
section
variable {e : MEx} {l m : List MEx} {j : Nat} {k : MEx}
theorem plV_eq : plV e = (!decide (e.op = 6 ∨ e.op = 7 ∨ e.op = 13 ∨ e.op = 10 ∨ e.op = 11) && plsV e.kids) := by cases e; rw [plV]
theorem plsV_at (h : l[j]? = some k) : plsV (l.drop j) = (plV k && plsV (l.drop (j + 1))) := by
  obtain ⟨hlt, he⟩ := List.getElem?_eq_some_iff.1 h
  rw [List.drop_eq_getElem_cons hlt, he, plsV]
theorem exCan_eq : exCan e = ⟨e.op, e.n, e.nm, none, 0, exsCan e.kids⟩ := by cases e; rw [exCan]
theorem exsCan_map : ∀ l : List MEx, exsCan l = l.map exCan
  | [] => by rw [exsCan]; rfl
  | e :: r => by rw [exsCan, exsCan_map r]; rfl
theorem stsCan_map : ∀ l : List MSt, stsCan l = l.map stCan
  | [] => by rw [stsCan]; rfl
  | e :: r => by rw [stsCan, stsCan_map r]; rfl
theorem exOwn_eq : exOwn e = .row 53 4 e.A e.kids.length e.c (e.kids.flatMap MEx.cells) :: exsOwn e.kids := by cases e; rw [exOwn]
theorem exsOwn_append : exsOwn (l ++ m) = exsOwn l ++ exsOwn m := by
  induction l with
  | nil => rw [List.nil_append, exsOwn]; rfl
  | cons e r ih => rw [List.cons_append, exsOwn, exsOwn, ih, List.append_assoc]
theorem exsOwn_one : exsOwn [e] = exOwn e := by rw [exsOwn, exsOwn, List.append_nil]
theorem exsOwn_set (hj : j < l.length) : exsOwn ((l.set j k).take (j + 1)) = exsOwn (l.take j) ++ exOwn k := by
  rw [List.take_set, ]
  have h1 : j < (l.take (j + 1)).length := by rw [List.length_take]; omega
  rw [show (l.take (j + 1)).set j k = l.take j ++ [k] by
    rw [List.take_succ_eq_append_getElem hj, List.set_append]
    simp
    rw [if_neg (by omega)]
    simp [show min j l.length = j by omega]]
  rw [exsOwn_append, exsOwn_one]
end
def smQ (f : TFn) : Prop := ∃ x e, f.body = [x] ∧ x.op = 9 ∧ x.exprs = [e] ∧ stsN f.body ≤ 12 ∧ plV e = true
noncomputable instance (f : TFn) : Decidable (smQ f) := Classical.propDecidable _
noncomputable def smL (l : List TFn) (j : Nat) : List TFn := (l.take j).filter (fun f => decide (smQ f))
noncomputable def smallT (m : TMod) : List TFn := if validT m = 0 then smL m.fns m.fns.length else []
section
variable {l : List TFn} {j : Nat} {f : TFn}
theorem smL_yes (h : l[j]? = some f) (hq : smQ f) : smL l (j + 1) = smL l j ++ [f] := by
  unfold smL
  rw [List.take_add_one, h, List.filter_append]
  simp [hq]
theorem smL_no (h : l[j]? = some f) (hq : ¬ smQ f) : smL l (j + 1) = smL l j := by
  unfold smL
  rw [List.take_add_one, h, List.filter_append]
  simp [hq]
theorem smL_len : (smL l j).length ≤ j := by
  unfold smL
  exact Nat.le_trans (List.length_filter_le _ _) (by simp; omega)
end
def PlOk (P : Program) (e : MEx) : Prop := ∀ (T : List Res) (w : World), RO noS w (.all T) → SubE T e → exI e →
  Calls P 42 #[.agg e.cells.toArray] w (Ret fun v w' => v = .bool (plV e) ∧ Mem noS w w' [])
def CpOk (P : Program) (e : MEx) : Prop := ∀ (T : List Res) (w : World), RO noS w (.all T) → SubE T e → exI e → exN e ≤ 1000000 →
  Calls P 43 #[.agg e.cells.toArray] w (Ret fun v w' => ∃ e', exCan e' = exCan e ∧ v = .agg e'.cells.toArray ∧ Mem noS w w' (exOwn e'))
theorem Mem.pk1 {S : Nat → Prop} {w0 w : World} {l : List Res} (h : Mem S w0 w l) : Mem S w0 w [.pk l] := Mem.pack (L := []) (by rw [List.append_nil]; exact h)
theorem Mem.pkpk {S : Nat → Prop} {w0 w : World} {X Y L : List Res} (h : Mem S w0 w (.pk X :: .pk Y :: L)) : Mem S w0 w (.pk (X ++ Y) :: L) := by
  have h1 : Mem S w0 w (.pk Y :: (X ++ L)) := by
    have h0 := h.unpack
    exact h0.perm List.perm_middle
  have h2 := h1.unpack
  have h3 : Mem S w0 w ((X ++ Y) ++ L) := h2.perm (by rw [List.append_assoc]; exact List.perm_append_comm_assoc Y X L)
  exact h3.pack
theorem Mem.pk1e {S : Nat → Prop} {w0 w : World} {L : List Res} (h : Mem S w0 w L) : Mem S w0 w (L ++ [.pk []]) :=
  (h.perm (L' := [] ++ L) (List.Perm.refl _)).pack.perm (by simpa using (List.perm_append_comm (l₁ := [Res.pk []]) (l₂ := L)))
theorem Mem.pkE {S : Nat → Prop} {w0 w : World} {X Y L : List Res} (h : Mem S w0 w (L ++ [.pk X, .pk Y])) : Mem S w0 w (L ++ [.pk (X ++ Y)]) :=
  ((h.perm (L' := .pk X :: .pk Y :: L) (by simpa using (List.perm_append_comm (l₁ := L) (l₂ := [Res.pk X, .pk Y])))).pkpk).perm (by simpa using (List.perm_append_comm (l₁ := [Res.pk (X ++ Y)]) (l₂ := L)))
section
variable {l ks : List MEx} {j : Nat} {k e2 : MEx}
theorem mex_one (e : MEx) : ∀ v, v ∈ e.cells → v.oneCell' = true := by
  intro v hv
  simp only [MEx.cells, List.mem_cons, List.not_mem_nil, or_false] at hv
  rcases hv with rfl | rfl | rfl | rfl <;> rfl
theorem flat_one {α : Type} {f : α → List Value} (hf : ∀ x, ∀ v, v ∈ f x → v.oneCell' = true) {l : List α} : ∀ v, v ∈ l.flatMap f → v.oneCell' = true := by
  intro v hv
  obtain ⟨x, _, hx⟩ := List.mem_flatMap.1 hv
  exact hf x v hx
theorem cans_set (hkc : ks.map exCan = l.map exCan) (hk : l[j]? = some k) (hc : exCan e2 = exCan k) : (ks.set j e2).map exCan = l.map exCan := by
  rw [List.map_set, hkc, hc]
  apply List.ext_getElem?
  intro i
  rw [List.getElem?_set]
  split
  · rename_i h
    subst h
    split
    · rw [List.getElem?_map, hk]; rfl
    · rename_i h2
      rw [List.getElem?_eq_none (by omega)]
  · rfl
theorem drop_set (hkd : ks.drop j = l.drop j) : (ks.set j e2).drop (j + 1) = l.drop (j + 1) := by
  rw [List.drop_set_of_lt (by omega)]
  have := congrArg (List.drop 1) hkd
  rwa [List.drop_drop, List.drop_drop] at this
theorem get_drop (hkd : ks.drop j = l.drop j) (hk : l[j]? = some k) : ks[j]? = some k := by
  have := congrArg (fun x => x[0]?) hkd
  simp only [List.getElem?_drop, Nat.add_zero] at this
  rw [this, hk]
end
section
variable {f : TFn} {x : MSt} {e e2 : MEx}
theorem smQ_1 (h : ¬ f.body.length = 1) : ¬ smQ f := fun ⟨_, _, h1, _⟩ => h (by rw [h1]; rfl)
theorem smQ_2 (hb : f.body = [x]) (h : ¬ x.op = 9) : ¬ smQ f := fun ⟨y, _, h1, h2, _⟩ => h (by rw [hb] at h1; injection h1 with h1; rw [h1]; exact h2)
theorem smQ_3 (hb : f.body = [x]) (h : ¬ x.exprs.length = 1) : ¬ smQ f := fun ⟨y, _, h1, _, h3, _⟩ => h (by rw [hb] at h1; injection h1 with h1; rw [h1, h3]; rfl)
theorem smQ_4 (h : ¬ stsN f.body ≤ 12) : ¬ smQ f := fun ⟨_, _, _, _, _, h4, _⟩ => h h4
theorem smQ_5 (hb : f.body = [x]) (he : x.exprs = [e]) (h : ¬ plV e = true) : ¬ smQ f := fun ⟨y, k, h1, _, h3, _, h5⟩ => h (by
  rw [hb] at h1; injection h1 with h1; subst h1; rw [he] at h3; injection h3 with h3; rw [h3]; exact h5)
theorem smQ_y (hb : f.body = [x]) (h9 : x.op = 9) (he : x.exprs = [e]) (hn : stsN f.body ≤ 12) (hp : plV e = true) : smQ f := ⟨x, e, hb, h9, he, hn, hp⟩
def fnS (f : TFn) (e : MEx) (A1 : Option Addr) (c1 : Nat) (A2 : Option Addr) (c2 : Nat) : TFn := { f with A := A2, c := c2, body := [⟨9, 0, A1, c1, [e], none, 0, [], none, 0, []⟩] }
variable {A1 A2 : Option Addr} {c1 c2 : Nat}
theorem fnS_can (hb : f.body = [x]) (h9 : x.op = 9) (he : x.exprs = [e]) (hn : x.n = 0) (hxb : x.body = []) (hxl : x.els = []) (hc : exCan e2 = exCan e) : fnCan (fnS f e2 A1 c1 A2 c2) = fnCan f := by
  unfold fnCan fnS
  simp only
  rw [hb, stsCan_map, stsCan_map]
  cases x
  simp only at h9 he hn hxb hxl
  subst h9 he hn hxb hxl
  simp [stCan, exsCan_map, stsCan_map, hc]
theorem Mem.fnE {S : Nat → Prop} {w0 w : World} {X L : List Res} (h : Mem S w0 w (L ++ [.pk X, .pk (exOwn e2), .row 53 4 A1 1 c1 e2.cells, .row 48 5 A2 1 c2 (MSt.cells ⟨9, 0, A1, c1, [e2], none, 0, [], none, 0, []⟩)])) : Mem S w0 w (L ++ [.pk (X ++ fnOwn (fnS f e2 A1 c1 A2 c2))]) := by
  have h2 := (h.cl (Mem.nilrow w 48 5) (L' := _) rfl).cl (Mem.nilrow w 48 5) (L' := _) rfl
  have h3 : Mem S w0 w (.pk (exOwn e2) :: (.row 48 5 A2 1 c2 (MSt.cells ⟨9, 0, A1, c1, [e2], none, 0, [], none, 0, []⟩) :: .row 53 4 A1 1 c1 e2.cells :: .row 48 5 none 0 0 [] :: .row 48 5 none 0 0 [] :: .pk X :: L)) := h2.perm (by
    refine List.Perm.trans (l₂ := L ++ [.pk X, .pk (exOwn e2), .row 53 4 A1 1 c1 e2.cells, .row 48 5 A2 1 c2 (MSt.cells ⟨9, 0, A1, c1, [e2], none, 0, [], none, 0, []⟩), .row 48 5 none 0 0 [], .row 48 5 none 0 0 []]) (by simp) ?_
    refine List.perm_append_comm.trans ?_
    simp only [List.cons_append, List.nil_append]
    refine (List.Perm.swap _ _ _).trans (.cons _ ?_)
    refine (List.Perm.trans (.cons _ (List.Perm.swap _ _ _)) ?_)
    refine (List.Perm.swap _ _ _).trans (.cons _ ?_)
    refine (List.Perm.swap _ _ _).trans (.cons _ ?_)
    refine (List.Perm.swap _ _ _).trans (.cons _ ?_)
    exact List.Perm.swap _ _ _)
  have h4 := h3.unpack
  have h5 : Mem S w0 w ((.row 48 5 A2 1 c2 (MSt.cells ⟨9, 0, A1, c1, [e2], none, 0, [], none, 0, []⟩) :: .row 53 4 A1 1 c1 e2.cells :: .row 48 5 none 0 0 [] :: .row 48 5 none 0 0 [] :: exOwn e2) ++ (.pk X :: L)) := h4.perm (by
    refine List.perm_append_comm.trans ?_
    simp only [List.cons_append]
    refine .cons _ (.cons _ (.cons _ (.cons _ ?_)))
    rw [← List.cons_append]
    exact List.perm_append_comm)
  have h6 := h5.pack
  have h7 := (h6.perm (List.Perm.swap _ _ _)).pkpk
  have e : fnOwn (fnS f e2 A1 c1 A2 c2) = .row 48 5 A2 1 c2 (MSt.cells ⟨9, 0, A1, c1, [e2], none, 0, [], none, 0, []⟩) :: .row 53 4 A1 1 c1 e2.cells :: .row 48 5 none 0 0 [] :: .row 48 5 none 0 0 [] :: exOwn e2 := by
    unfold fnOwn fnS
    simp [stsOwn, stOwn, exsOwn]
  rw [e]
  exact h7.perm (by simpa using (List.perm_append_comm (l₁ := [_]) (l₂ := L)))
end
end Go.Mor
namespace Go.Mor
open Go.RowKit
section
variable {w : World}
theorem exs_own_mem {l : List MEx} {e : MEx} (he : e ∈ l) {r : Res} (hr : r ∈ exOwn e) : r ∈ exsOwn l := by
  induction l with
  | nil => cases he
  | cons x t ih =>
    rw [exsOwn]
    rcases List.mem_cons.1 he with rfl | he
    · exact List.mem_append_left _ hr
    · exact List.mem_append_right _ (ih he)
theorem sts_own_mem {l : List MSt} {x : MSt} (he : x ∈ l) {r : Res} (hr : r ∈ stOwn x) : r ∈ stsOwn l := by
  induction l with
  | nil => cases he
  | cons y t ih =>
    rw [stsOwn]
    rcases List.mem_cons.1 he with rfl | he
    · exact List.mem_append_left _ hr
    · exact List.mem_append_right _ (ih he)
theorem exs_res_of {l : List MEx} {p : Res → Prop} (h : ∀ e, e ∈ l → ∀ r, r ∈ exRes e → p r) : ∀ r, r ∈ exsRes l → p r := by
  induction l with
  | nil => intro r hr; cases hr
  | cons x t ih =>
    intro r hr
    have hr2 : r ∈ exRes x ++ exsRes t := hr
    rcases List.mem_append.1 hr2 with hr | hr
    · exact h x (List.mem_cons_self ..) r hr
    · exact ih (fun e he => h e (List.mem_cons_of_mem _ he)) r hr
theorem sts_res_of {l : List MSt} {p : Res → Prop} (h : ∀ e, e ∈ l → ∀ r, r ∈ stRes e → p r) : ∀ r, r ∈ stsRes l → p r := by
  induction l with
  | nil => intro r hr; cases hr
  | cons x t ih =>
    intro r hr
    have hr2 : r ∈ stRes x ++ stsRes t := hr
    rcases List.mem_append.1 hr2 with hr | hr
    · exact h x (List.mem_cons_self ..) r hr
    · exact ih (fun e he => h e (List.mem_cons_of_mem _ he)) r hr
theorem mex_row {e n c : Nat} {A : Option Addr} {l : List MEx} (h : (Res.row e 4 A n c (l.flatMap MEx.cells)).holds w) : (Res.rds A 4 (l.map MEx.cells)).holds w := rows_rds (f := MEx.cells) (fun _ => rfl) (by decide) h
theorem mst_row {e n c : Nat} {A : Option Addr} {l : List MSt} (h : (Res.row e 5 A n c (l.flatMap MSt.cells)).holds w) : (Res.rds A 5 (l.map MSt.cells)).holds w := rows_rds (f := MSt.cells) (fun _ => rfl) (by decide) h
theorem tfn_row {e n c : Nat} {A : Option Addr} {l : List TFn} (h : (Res.row e 5 A n c (l.flatMap TFn.cells)).holds w) : (Res.rds A 5 (l.map TFn.cells)).holds w := rows_rds (f := TFn.cells) (fun _ => rfl) (by decide) h
theorem tmod_row {e n c : Nat} {A : Option Addr} {l : List TMod} (h : (Res.row e 3 A n c (l.flatMap TMod.cells)).holds w) : (Res.rds A 3 (l.map TMod.cells)).holds w := rows_rds (f := TMod.cells) (fun _ => rfl) (by decide) h
theorem ex_own : ∀ e : MEx, (∀ r, r ∈ exOwn e → r.holds w) → ∀ r, r ∈ exRes e → r.holds w := by
  intro e
  induction e using MEx.ind with
  | h e ih =>
    intro h r hr
    rw [exRes_eq] at hr
    rw [exOwn_eq] at h
    rcases List.mem_cons.1 hr with rfl | hr
    · exact mex_row (h _ (List.mem_cons_self ..))
    · exact exs_res_of (p := fun r => r.holds w) (fun k hk => ih k hk (fun r hr => h r (List.mem_cons_of_mem _ (exs_own_mem hk hr)))) r hr
theorem exs_own {l : List MEx} (h : ∀ r, r ∈ exsOwn l → r.holds w) : ∀ r, r ∈ exsRes l → r.holds w :=
  exs_res_of (p := fun r => r.holds w) fun e he => ex_own e fun r hr => h r (exs_own_mem he hr)
theorem stOwn_eq (x : MSt) : stOwn x = .row 53 4 x.eA x.exprs.length x.ec (x.exprs.flatMap MEx.cells) :: .row 48 5 x.bA x.body.length x.bc (x.body.flatMap MSt.cells) :: .row 48 5 x.lA x.els.length x.lc (x.els.flatMap MSt.cells) :: (exsOwn x.exprs ++ (stsOwn x.body ++ stsOwn x.els)) := by cases x; rw [stOwn]
theorem st_own : ∀ x : MSt, (∀ r, r ∈ stOwn x → r.holds w) → ∀ r, r ∈ stRes x → r.holds w := by
  intro x
  induction x using MSt.ind with
  | h x ihb ihl =>
    intro h r hr
    rw [stRes_eq] at hr
    rw [stOwn_eq] at h
    rcases List.mem_cons.1 hr with rfl | hr
    · exact mex_row (h _ (List.mem_cons_self ..))
    rcases List.mem_cons.1 hr with rfl | hr
    · exact mst_row (h _ (.tail _ (List.mem_cons_self ..)))
    rcases List.mem_cons.1 hr with rfl | hr
    · exact mst_row (h _ (.tail _ (.tail _ (List.mem_cons_self ..))))
    rcases List.mem_append.1 hr with hr | hr
    · exact exs_own (fun r hr => h r (.tail _ (.tail _ (.tail _ (List.mem_append_left _ hr))))) r hr
    rcases List.mem_append.1 hr with hr | hr
    · exact sts_res_of (p := fun r => r.holds w) (fun k hk => ihb k hk (fun r hr => h r (.tail _ (.tail _ (.tail _ (List.mem_append_right _ (List.mem_append_left _ (sts_own_mem hk hr)))))))) r hr
    · exact sts_res_of (p := fun r => r.holds w) (fun k hk => ihl k hk (fun r hr => h r (.tail _ (.tail _ (.tail _ (List.mem_append_right _ (List.mem_append_right _ (sts_own_mem hk hr)))))))) r hr
theorem fn_own {f : TFn} (h : ∀ r, r ∈ fnOwn f → r.holds w) : ∀ r, r ∈ f.parts → r.holds w := by
  intro r hr
  have hr2 : r ∈ Res.rds f.A 5 (f.body.map MSt.cells) :: stsRes f.body := hr
  rcases List.mem_cons.1 hr2 with rfl | hr
  · exact mst_row (h _ (List.mem_cons_self ..))
  · exact sts_res_of (p := fun r => r.holds w) (fun k hk => st_own k (fun r hr => h r (.tail _ (sts_own_mem hk hr)))) r hr
theorem mod_own {m : TMod} {e n c : Nat} (h1 : (Res.row e 5 m.fA n c (m.fns.flatMap TFn.cells)).holds w) (h2 : ∀ f, f ∈ m.fns → ∀ r, r ∈ fnOwn f → r.holds w) (hd : m.dats = []) : RO noS w (.all m.parts) := by
  refine RO.of fun r hr => ?_
  have hr2 : r ∈ Res.rds m.fA 5 (m.fns.map TFn.cells) :: .rds m.dA 4 (m.dats.map FDat.cells) :: (m.fns.flatMap TFn.parts ++ m.dats.flatMap FDat.parts) := hr
  rcases List.mem_cons.1 hr2 with rfl | hr
  · exact tfn_row h1
  rcases List.mem_cons.1 hr with rfl | hr
  · rw [hd]; exact fun i cs hi => by simp at hi
  rcases List.mem_append.1 hr with hr | hr
  · obtain ⟨f, hf, hr⟩ := List.mem_flatMap.1 hr
    exact fn_own (h2 f hf) r hr
  · rw [hd] at hr; simp at hr
theorem own_nil {t k : Nat} : (Res.row t k none 0 0 []).holds w := row_nil w t k
end
def awE0 : MEx := ⟨2, 0, ⟨#[]⟩, none, 0, []⟩
def awE1 : MEx := ⟨1, 1, ⟨#[]⟩, none, 0, []⟩
def awE (A6 : Option Addr) : MEx := ⟨3, 1, ⟨#[]⟩, A6, 2, [awE0, awE1]⟩
def awX (A6 A8 : Option Addr) : MSt := ⟨9, 0, A8, 1, [awE A6], none, 0, [], none, 0, []⟩
def awFn (A6 A8 A10 : Option Addr) : TFn := ⟨⟨#[102]⟩, false, 1, 1, A10, 1, [awX A6 A8]⟩
def awY : MSt := ⟨10, 5, none, 0, [], none, 0, [], none, 0, []⟩
def awGn (A13 : Option Addr) : TFn := ⟨⟨#[103]⟩, false, 0, 0, A13, 1, [awY]⟩
def awM1 (A16 A13 : Option Addr) : TMod := ⟨⟨#[]⟩, A16, 1, [awGn A13], none, 0, []⟩
def awM2 (A27 A6 A8 A10 A13 : Option Addr) : TMod := ⟨⟨#[]⟩, A27, 2, [awFn A6 A8 A10, awGn A13], none, 0, []⟩
section
variable {w : World} {A6 A8 A10 A13 A16 A27 : Option Addr}
theorem awX_own : stOwn (awX A6 A8) = [.row 53 4 A8 1 1 (awE A6).cells, .row 48 5 none 0 0 [], .row 48 5 none 0 0 [], .row 53 4 A6 2 2 (awE0.cells ++ awE1.cells), .row 53 4 none 0 0 [], .row 53 4 none 0 0 []] := by
  simp [stOwn, awX, exsOwn, exOwn, stsOwn, awE, awE0, awE1]
theorem awFn_own {e6 e8 e10 : Nat} (h6 : (Res.row e6 4 A6 2 2 (awE0.cells ++ awE1.cells)).holds w) (h8 : (Res.row e8 4 A8 1 1 (awE A6).cells).holds w) (h10 : (Res.row e10 5 A10 1 1 (awX A6 A8).cells).holds w)
    (k6 : e6 = 53 := by rfl) (k8 : e8 = 53 := by rfl) (k10 : e10 = 48 := by rfl) : ∀ r, r ∈ fnOwn (awFn A6 A8 A10) → r.holds w := by
  subst k6 k8 k10
  have e : fnOwn (awFn A6 A8 A10) = .row 48 5 A10 1 1 (awX A6 A8).cells :: stOwn (awX A6 A8) := by simp [fnOwn, awFn, stsOwn]
  intro r hr
  rw [e, awX_own] at hr
  simp only [List.mem_cons, List.not_mem_nil, or_false] at hr
  rcases hr with rfl | rfl | rfl | rfl | rfl | rfl | rfl <;> first | assumption | exact own_nil
theorem awGn_own {e13 : Nat} (h13 : (Res.row e13 5 A13 1 1 awY.cells).holds w) (k13 : e13 = 48 := by rfl) : ∀ r, r ∈ fnOwn (awGn A13) → r.holds w := by
  subst k13
  have e : fnOwn (awGn A13) = [.row 48 5 A13 1 1 awY.cells, .row 53 4 none 0 0 [], .row 48 5 none 0 0 [], .row 48 5 none 0 0 []] := by simp [fnOwn, awGn, stsOwn, stOwn, awY, exsOwn]
  intro r hr
  rw [e] at hr
  simp only [List.mem_cons, List.not_mem_nil, or_false] at hr
  rcases hr with rfl | rfl | rfl | rfl <;> first | assumption | exact own_nil
theorem awM1_ro {e16 e13 : Nat} (h16 : (Res.row e16 5 A16 1 1 (awGn A13).cells).holds w) (h13 : (Res.row e13 5 A13 1 1 awY.cells).holds w) (k13 : e13 = 48 := by rfl) : RO noS w (.all (awM1 A16 A13).parts) := by
  refine mod_own (e := e16) (n := 1) (c := 1) (m := awM1 A16 A13) h16 (fun f hf => ?_) rfl
  rw [show (awM1 A16 A13).fns = [awGn A13] from rfl, List.mem_singleton] at hf
  subst hf
  exact awGn_own h13 k13
theorem awM2_ro {e27 e6 e8 e10 e13 : Nat} (h27 : (Res.row e27 5 A27 2 2 ((awFn A6 A8 A10).cells ++ (awGn A13).cells)).holds w) (h6 : (Res.row e6 4 A6 2 2 (awE0.cells ++ awE1.cells)).holds w) (h8 : (Res.row e8 4 A8 1 1 (awE A6).cells).holds w) (h10 : (Res.row e10 5 A10 1 1 (awX A6 A8).cells).holds w)
    (h13 : (Res.row e13 5 A13 1 1 awY.cells).holds w) (k6 : e6 = 53 := by rfl) (k8 : e8 = 53 := by rfl) (k10 : e10 = 48 := by rfl) (k13 : e13 = 48 := by rfl) : RO noS w (.all (awM2 A27 A6 A8 A10 A13).parts) := by
  refine mod_own (e := e27) (n := 2) (c := 2) (m := awM2 A27 A6 A8 A10 A13) h27 (fun f hf => ?_) rfl
  rw [show (awM2 A27 A6 A8 A10 A13).fns = [awFn A6 A8 A10, awGn A13] from rfl, List.mem_cons, List.mem_singleton] at hf
  rcases hf with rfl | rfl
  · exact awFn_own h6 h8 h10 k6 k8 k10
  · exact awGn_own h13 k13
theorem awFn_ro {e6 e8 e10 : Nat} (h6 : (Res.row e6 4 A6 2 2 (awE0.cells ++ awE1.cells)).holds w) (h8 : (Res.row e8 4 A8 1 1 (awE A6).cells).holds w) (h10 : (Res.row e10 5 A10 1 1 (awX A6 A8).cells).holds w)
    (k6 : e6 = 53 := by rfl) (k8 : e8 = 53 := by rfl) (k10 : e10 = 48 := by rfl) : RO noS w (.all ([awFn A6 A8 A10].flatMap TFn.parts)) := by
  refine RO.of fun r hr => ?_
  rw [List.flatMap_cons, List.flatMap_nil, List.append_nil] at hr
  exact fn_own (awFn_own h6 h8 h10 k6 k8 k10) r hr
theorem aw_exI (n op : Int) (h : In64 op) (h2 : In64 n) : exI ⟨op, n, ⟨#[]⟩, none, 0, []⟩ := ⟨⟨h, h2, by show (0 : Nat) ≤ _; omega, by show (0 : Nat) ≤ _; omega⟩, trivial⟩
theorem awFn_in : (awFn A6 A8 A10).In where
  nm := by show (1 : Nat) ≤ _; omega
  pa := by show In64 1; unfold In64; omega
  lo := by show In64 1; unfold In64; omega
  len := by show (1 : Nat) ≤ _; omega
  body := ⟨⟨⟨by unfold In64; omega, by unfold In64; omega, by show (1 : Nat) ≤ _; omega, by show (0 : Nat) ≤ _; omega, by show (0 : Nat) ≤ _; omega⟩,
    ⟨⟨⟨by unfold In64; omega, by unfold In64; omega, by show (0 : Nat) ≤ _; omega, by show (2 : Nat) ≤ _; omega⟩, aw_exI 0 2 (by unfold In64; omega) (by unfold In64; omega), aw_exI 1 1 (by unfold In64; omega) (by unfold In64; omega), trivial⟩, trivial⟩, trivial, trivial⟩, trivial⟩
theorem awGn_in : (awGn A13).In where
  nm := by show (1 : Nat) ≤ _; omega
  pa := by show In64 0; unfold In64; omega
  lo := by show In64 0; unfold In64; omega
  len := by show (1 : Nat) ≤ _; omega
  body := ⟨⟨⟨by unfold In64; omega, by unfold In64; omega, by show (0 : Nat) ≤ _; omega, by show (0 : Nat) ≤ _; omega, by show (0 : Nat) ≤ _; omega⟩, trivial, trivial, trivial⟩, trivial⟩
theorem awM1_in : (awM1 A16 A13).In where
  nf := by show (1 : Nat) ≤ _; omega
  nd := by show (0 : Nat) ≤ _; omega
  fns f hf := by rw [show (awM1 A16 A13).fns = [awGn A13] from rfl, List.mem_singleton] at hf; subst hf; exact awGn_in
  dats d hd := by cases hd
  i64 d hd := by cases hd
  parts := by show (1 : Nat) ≤ _; omega
  words := by show (0 : Nat) ≤ _; omega
theorem awM2_in : (awM2 A27 A6 A8 A10 A13).In where
  nf := by show (2 : Nat) ≤ _; omega
  nd := by show (0 : Nat) ≤ _; omega
  fns f hf := by
    rw [show (awM2 A27 A6 A8 A10 A13).fns = [awFn A6 A8 A10, awGn A13] from rfl, List.mem_cons, List.mem_singleton] at hf
    rcases hf with rfl | rfl
    · exact awFn_in
    · exact awGn_in
  dats d hd := by cases hd
  i64 d hd := by cases hd
  parts := by show (5 : Nat) ≤ _; omega
  words := by show (0 : Nat) ≤ _; omega
theorem awGn_V : fnV (awGn A13) = true := by rfl
theorem awFn_V : fnV (awFn A6 A8 A10) = true := by rfl
theorem awM1_valid : validT (awM1 A16 A13) = 0 := validT_0 (fun h => h.elim (fun h => absurd h (show ¬ (20000 : Nat) < 1 by omega)) (fun h => absurd h (show ¬ (16384 : Nat) < 0 by omega)))
  (fnsTo_succ (fnsTo_zero _) (f := awGn A13) rfl awGn_V (by show _ ∉ []; simp)) (datsTo_zero _)
theorem awM2_valid : validT (awM2 A27 A6 A8 A10 A13) = 0 := validT_0 (fun h => h.elim (fun h => absurd h (show ¬ (20000 : Nat) < 5 by omega)) (fun h => absurd h (show ¬ (16384 : Nat) < 0 by omega)))
  (fnsTo_succ (fnsTo_succ (fnsTo_zero _) (f := awFn A6 A8 A10) rfl awFn_V (by show _ ∉ []; simp)) (f := awGn A13) rfl awGn_V (by show (⟨#[103]⟩ : ByteArray) ∉ [(⟨#[102]⟩ : ByteArray)]; decide)) (datsTo_zero _)
theorem awM2_small : (smallT (awM2 A27 A6 A8 A10 A13)).length = 1 := by
  unfold smallT
  rw [if_pos awM2_valid]
  show (smL [awFn A6 A8 A10, awGn A13] 2).length = 1
  rw [smL_no (f := awGn A13) rfl (smQ_2 (x := awY) rfl (by decide)), smL_yes (f := awFn A6 A8 A10) rfl (smQ_y (x := awX A6 A8) (e := awE A6) rfl rfl rfl (by show (4 : Nat) ≤ 12; decide) (by rfl))]
  rfl
theorem aw_small_len {fs : List TFn} (h : fs.map fnCan = (smallT (awM2 A27 A6 A8 A10 A13)).map fnCan) : fs.length = 1 := by
  have h1 := congrArg List.length h
  rw [List.length_map, List.length_map, awM2_small] at h1
  exact h1
theorem aw1_in {w : World} {e18 e19 e16 e13 : Nat} {A18 A19 : Option Addr} (h18 : (Res.row e18 3 A18 1 1 (awM1 A16 A13).cells).holds w) (h19 : (Res.row e19 1 A19 1 1 [.string ⟨#[103]⟩]).holds w) (h16 : (Res.row e16 5 A16 1 1 (awGn A13).cells).holds w) (h13 : (Res.row e13 5 A13 1 1 awY.cells).holds w)
    (k13 : e13 = 48 := by rfl) : RunInT w [awM1 A16 A13] A18 [⟨#[103]⟩] A19 [] none 0 where
  len := by simp
  nf := by show (1 : Nat) ≤ _; omega
  nd := by show (0 : Nat) ≤ _; omega
  mods := by
    have hm := awM1_ro h16 h13 k13
    refine RO.of fun r hr => ?_
    rcases List.mem_cons.1 hr with rfl | hr
    · exact tmod_row (l := [awM1 A16 A13]) h18
    · rw [List.flatMap_cons, List.flatMap_nil, List.append_nil] at hr
      exact hm.1 r hr
  ins m hm := by rw [List.mem_singleton] at hm; subst hm; exact awM1_in
  glen := by simp
  bg := RO.of (row_rd h19)
  ilen := by simp
  inr := RO.of (fun i v hi => by simp [u8s] at hi)
  bytes b hb := by simp at hb
theorem aw1_bad : ¬ badT [awM1 A16 A13] 10 [] 1 := by
  rintro (h | ⟨i, f, hi, hf, hv⟩)
  · simp at h
  · obtain rfl : i = 0 := by omega
    simp at hf
    subst hf
    exact hv awM1_valid
theorem aw1_out : outOf (trunS (envT [awM1 A16 A13] 10 [] 10) (csD [awM1 A16 A13]) [⟨#[103]⟩]) = (2, 5, [], 1) := rfl
theorem aw1_run : runTO [awM1 A16 A13] [⟨#[103]⟩] 10 [] 10 = (2, 5, [], 1) := by
  unfold runTO
  rw [if_neg (show ¬ badT [awM1 A16 A13] 10 [] [awM1 A16 A13].length from aw1_bad), aw1_out]
end
end Go.Mor
namespace Go.Mor
open Go.RowKit
section
variable {nw nws : NW} {i j : Nat}
end
section
variable {m : TMod} {o : TFn} {A : Option Addr} {c j : Nat} {f : TFn}
end
section
variable {w : World} {m : TMod} {o : TFn} {A : Option Addr} {c e n : Nat}
end
end Go.Mor
