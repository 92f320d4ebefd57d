/-
  For every function of SSA and every number the law RegsTwins answers true, and leaves what came in as it was; the condition: the table by which math/bits tells the lowest bit reads as its initialiser lays it, which is tied to the text.
-/
import Derived.Test.YthgbejihcchcnaaDoorZt14
import Derived.Test.YthgbejihcchcnaaDoorRows
import Derived.Test.YthgbejihcchcnaaDoorCards
import Derived.Test.YthgbejihcchcnaaDoorTie
import Derived.LaidMore
import Derived.Lib.LaidTab
import Derived.Stop.Joined
import Derived.SevenTiedAt
namespace Go.Proofs.YthgbejihcchcnaaDoor
open Go.Mor Go.ChangeShapes Go.WideShapes Go.ChangeAt Go.RowKit Go.Deep
abbrev laidT : List (String × DataW Unit) := [("math/bits.deBruijn64tab", Rows.laid_math_bits_deBruijn64tab)]
theorem laid_tab : laidT = [("math/bits.deBruijn64tab", Lib.tabData .u8 (tabN.map (fun x : Nat => (x : Int))))] := by kernel_rfl
theorem door_met (os : Os) (args : Array Value) : laidMetH Tryd.prog laidT ((World.doorLaid Tryd.prog 400 os).forCall (fun _ _ => 0) ⟨#[], args, []⟩).memory :=
  laidMetH_of_parts3 (fuel := 8) (laidMet_of_run' 8 (by kernel_rfl) (by kernel_rfl)) (by kernel_rfl) (by kernel_rfl)
theorem tab_of_laid {W : World} (h : laidMetH Tryd.prog laidT W) : RO noS W (.rd (some ⟨0, 0, none⟩) tabL) := by
  rw [MakeChecks.laidMetH_plain _ _ _ (by kernel_rfl), laid_tab] at h
  have hT := Lib.tabIs_of_head (t := 133) (e := 5) (n := 64) (g := 0) (by kernel_rfl) (by kernel_rfl) Tryd.underlying133 Tryd.underlying5 (by kernel_rfl) (by kernel_rfl) h
  refine RO.of (fun i v hi => ⟨_, rfl, ?_⟩)
  have hl : i < (tabN.map (fun x : Nat => (x : Int))).length := by
    have := (List.getElem?_eq_some_iff.1 hi).1
    simpa [tabL] using this
  have hc := hT.cell (g := 0) (by kernel_rfl) i hl
  have hi' : i < tabN.length := by simpa using hl
  rw [List.getElem?_eq_getElem (by simpa [tabL] using hi')] at hi
  injection hi with hi
  subst hi
  by_cases h0 : i = 0
  · subst h0
    simpa [tabL, Addr.add, List.getD, hi'] using hc
  · simpa [tabL, Addr.add, List.getD, hi', h0] using hc
set_option maxRecDepth 100000 in
theorem regsTwins_lifted (os : Os) (started : os.Started) (H : Type) (enc : TypeId × Value → H) :
    ReturnsInHanded {} Tryd.checked os 5 .any (fun w args => (Rows.regsTwinsSpec.pre enc Tryd.prog Tryd.f5 [] false w args ∧ laidMetH Tryd.prog laidT w) ∧ sizedMet enc Tryd.prog Tryd.f5 (OpenSpec.ofChange Rows.regsTwinsSpec) false w args)
      (Rows.regsTwinsSpec.post enc Tryd.prog Tryd.f5 false true false false) := by
  refine returnsInHanded_of_change_and (C := Tryd.checked) (X := fun w _ => laidMetH Tryd.prog laidT w) (fun _ _ _ hh h => h.of_heap hh) Tryd.own started (by kernel_rfl) Tryd.func5
    (ChangeSpec.witness_shaped (enc := enc) (C := Tryd.checked) (os := os) (X := fun w _ => laidMetH Tryd.prog laidT w) false (World.doorLaid Tryd.prog 400 os) #[.agg #[.string ⟨#[]⟩, .bool false, .int .i64 0, .int .i64 0, .slice none 0 0], .int .i64 0] 8 rfl (World.shaped_of_RefB (by kernel_rfl) (by kernel_rfl)) (by kernel_rfl) (by kernel_rfl) (by kernel_rfl) (door_met os _)) ?_
  intro W base args ds gs before hval0 hW _ hz hL _
  have hval : ∀ (j : Nat) t v, Tryd.f5.params[j]? = some t → args[j]? = some v → Value.okWide Tryd.prog W .any base t v := hval0
  have hW' := hW
  obtain ⟨p, q, hA0, hV, _, _, _⟩ := hW
  obtain ⟨rfl, rfl⟩ := trodVars_none hV
  have hA : DataW.TrodAll enc Tryd.prog W 0 (fun _ => true) true Tryd.f5.params.toList args.toList ds p := hA0
  rw [Tryd.params5] at hA hval hz
  obtain ⟨v0, v1, d0, d1, p0, p1, rfl, rfl, rfl, h0, h1⟩ := trodAll_two hA
  have hr : Reach_ 24 d0 := fun n hn => by
    have := List.all_eq_true.1 hz n (DataW.weights_mem_each (j := 0) (t := 24) (d := d0) rfl rfl n hn)
    simpa using this
  have hr1 : Reach_ 3 d1 := fun n hn => by
    have := List.all_eq_true.1 hz n (DataW.weights_mem_each (j := 1) (t := 3) (d := d1) rfl rfl n hn)
    simpa using this
  obtain ⟨nm, wk, pa, va, A, fs, c, rfl, hok, hb, hcap⟩ := open_ffuncC (hval 0 24 v0 rfl rfl) h0 hr
  obtain ⟨x1, rfl, rfl, rfl, wf1⟩ := open_int Tryd.underlying3 (hval 1 3 v1 rfl rfl) h1
  refine (regsTwins_c nm wk pa va A c fs x1 W hok (RO.of hb) hcap (tab_of_laid hL)).mono fun e W' ⟨v, he, hv, hm⟩ => ?_
  subst he; subst hv
  exact ⟨_, rfl, post_true Tryd.laidOut Tryd.underlying4 (by kernel_rfl) (by kernel_rfl) rfl hW' rfl rfl rfl hm rfl⟩
theorem regsTwins_holds : Rows.RegsTwinsSaid :=
  OpenClaim.holds_of_wide 5 Tryd.f5 rfl rfl rfl rfl rfl rfl rfl ⟨rfl, rfl, rfl, rfl, rfl⟩ rfl rfl rfl rfl rfl (by kernel_rfl) Tryd.func5 (by kernel_rfl)
    (of_decide_eq_true (by kernel_rfl)) (by unfold Func.isWrapper; first | (rw [if_pos (by decide +kernel)]; kernel_rfl) | (rw [if_neg (by decide +kernel)]; exact ⟨rfl, rfl⟩))
    (fun os started H enc _ => regsTwins_lifted os started H enc)
theorem regsTwinsCard_holds : Rows.RegsTwinsCardSaid :=
  Claim7.holds_tied_plain_at .later [] [.data] true Rows.regsTwinsCard.stood.harness true
    regsTwins_holds (fun _ h => by cases h) (by kernel_rfl) (fun _ h => by cases h) regsTwins_row_tie rfl ⟨rfl, rfl⟩ (by kernel_rfl) rfl
    (fun f fn hf hfn => by
      obtain rfl : f = 5 := Option.some.inj ((show Tryd.prog.funcNamed "mortise/mortiselaw27.RegsTwins" = some 5 by kernel_rfl).symm.trans hf) |>.symm
      obtain rfl : fn = Tryd.f5 := (Option.some.inj (Tryd.func5.symm.trans hfn)).symm
      exact ⟨by kernel_rfl, fun j t ht => by
        rw [Tryd.params5] at ht
        have h3 : t = 24 ∨ t = 3 := by
          rcases j with _ | _ | j
          · exact .inl (by simpa using ht.symm)
          · exact .inr (by simpa using ht.symm)
          · simp at ht
        rcases h3 with rfl | rfl
        · exact (show Tryd.prog.wantsStandIn 24 = false by kernel_rfl)
        · exact (show Tryd.prog.wantsStandIn 3 = false by kernel_rfl)⟩)
    (by kernel_rfl)
#print axioms regsTwinsCard_holds
end Go.Proofs.YthgbejihcchcnaaDoor
