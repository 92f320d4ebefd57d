/-
  For every function of SSA the law LiveTwins answers true, and leaves what came in as it was; the condition: the table by which math/bits tells the lowest bit reads as its initialiser lays it, which is tied to the text.
-/
import Derived.Test.YtlfbloadopeamaaDoorZD12
import Derived.Test.YtlfbloadopeamaaDoorRows
import Derived.Test.YtlfbloadopeamaaDoorCards
import Derived.Test.YtlfbloadopeamaaDoorTie
import Derived.LaidMore
import Derived.Lib.LaidTab
import Derived.Stop.Joined
import Derived.SevenTiedAt
namespace Go.Proofs.YtlfbloadopeamaaDoor
open Go.Mor Go.ChangeShapes Go.WideShapes Go.ChangeAt Go.RowKit Go.Deep
abbrev laidT : List (String × DataW Unit) := [("math/bits.deBruijn64tab", Rows.laid_math_bits_deBruijn64tab)]
theorem laid_tab : laidT = [("math/bits.deBruijn64tab", Lib.tabData .u8 (tabN.map (fun x : Nat => (x : Int))))] := by kernel_rfl
theorem door_met (os : Os) (args : Array Value) : laidMetH Tryd.prog laidT ((World.doorLaid Tryd.prog 400 os).forCall (fun _ _ => 0) ⟨#[], args, []⟩).memory :=
  laidMetH_of_parts3 (fuel := 8) (laidMet_of_run' 8 (by kernel_rfl) (by kernel_rfl)) (by kernel_rfl) (by kernel_rfl)
theorem tab_of_laid {W : World} (h : laidMetH Tryd.prog laidT W) : RO noS W (.rd (some ⟨0, 0, none⟩) tabL) := by
  rw [MakeChecks.laidMetH_plain _ _ _ (by kernel_rfl), laid_tab] at h
  have hT := Lib.tabIs_of_head (t := 118) (e := 5) (n := 64) (g := 0) (by kernel_rfl) (by kernel_rfl) Tryd.underlying118 Tryd.underlying5 (by kernel_rfl) (by kernel_rfl) h
  refine RO.of (fun i v hi => ⟨_, rfl, ?_⟩)
  have hl : i < (tabN.map (fun x : Nat => (x : Int))).length := by
    have := (List.getElem?_eq_some_iff.1 hi).1
    simpa [tabL] using this
  have hc := hT.cell (g := 0) (by kernel_rfl) i hl
  have hi' : i < tabN.length := by simpa using hl
  rw [List.getElem?_eq_getElem (by simpa [tabL] using hi')] at hi
  injection hi with hi
  subst hi
  by_cases h0 : i = 0
  · subst h0
    simpa [tabL, Addr.add, List.getD, hi'] using hc
  · simpa [tabL, Addr.add, List.getD, hi', h0] using hc
set_option maxRecDepth 100000 in
theorem liveTwins_lifted (os : Os) (started : os.Started) (H : Type) (enc : TypeId × Value → H) :
    ReturnsInHanded {} Tryd.checked os 6 .any (fun w args => (Rows.liveTwinsSpec.pre enc Tryd.prog Tryd.f6 [] false w args ∧ laidMetH Tryd.prog laidT w) ∧ sizedMet enc Tryd.prog Tryd.f6 (OpenSpec.ofChange Rows.liveTwinsSpec) false w args)
      (Rows.liveTwinsSpec.post enc Tryd.prog Tryd.f6 false true false false) := by
  refine returnsInHanded_of_change_and (C := Tryd.checked) (X := fun w _ => laidMetH Tryd.prog laidT w) (fun _ _ _ hh h => h.of_heap hh) Tryd.own started (by kernel_rfl) Tryd.func6
    (ChangeSpec.witness_shaped (enc := enc) (C := Tryd.checked) (os := os) (X := fun w _ => laidMetH Tryd.prog laidT w) false (World.doorLaid Tryd.prog 400 os) #[.agg #[.string ⟨#[]⟩, .bool false, .int .i64 0, .int .i64 0, .slice none 0 0]] 8 rfl (World.shaped_of_RefB (by kernel_rfl) (by kernel_rfl)) (by kernel_rfl) (by kernel_rfl) (by kernel_rfl) (door_met os _)) ?_
  intro W base args ds gs before hval0 hW _ hz hL _
  have hval : ∀ (j : Nat) t v, Tryd.f6.params[j]? = some t → args[j]? = some v → Value.okWide Tryd.prog W .any base t v := hval0
  have hW' := hW
  obtain ⟨p, q, hA0, hV, _, _, _⟩ := hW
  obtain ⟨rfl, rfl⟩ := trodVars_none hV
  have hA : DataW.TrodAll enc Tryd.prog W 0 (fun _ => true) true Tryd.f6.params.toList args.toList ds p := hA0
  rw [Tryd.params6] at hA hval hz
  obtain ⟨v0, d0, rfl, rfl, h0⟩ := trodAll_one hA
  have hr : Reach_ 24 d0 := fun n hn => by
    have := List.all_eq_true.1 hz n (DataW.weights_mem_each (j := 0) (t := 24) (d := d0) rfl rfl n hn)
    simpa using this
  obtain ⟨nm, wk, pa, va, A, fs, c, rfl, hok, hb⟩ := open_ffunc (hval 0 24 v0 rfl rfl) h0 hr
  refine (liveTwins_c nm wk pa va A c fs W hok (RO.of hb) (tab_of_laid hL)).mono fun e W' ⟨v, he, hv, hm⟩ => ?_
  subst he; subst hv
  exact ⟨_, rfl, post_true Tryd.laidOut Tryd.underlying4 (by kernel_rfl) (by kernel_rfl) rfl hW' rfl rfl rfl hm rfl⟩
theorem liveTwins_holds : Rows.LiveTwinsSaid :=
  OpenClaim.holds_of_wide 6 Tryd.f6 rfl rfl rfl rfl rfl rfl rfl ⟨rfl, rfl, rfl, rfl, rfl⟩ rfl rfl rfl rfl rfl (by kernel_rfl) Tryd.func6 (by kernel_rfl)
    (of_decide_eq_true (by kernel_rfl)) (by unfold Func.isWrapper; first | (rw [if_pos (by decide +kernel)]; kernel_rfl) | (rw [if_neg (by decide +kernel)]; exact ⟨rfl, rfl⟩))
    (fun os started H enc _ => liveTwins_lifted os started H enc)
theorem liveTwinsCard_holds : Rows.LiveTwinsCardSaid :=
  Claim7.holds_tied_plain_at .later [] [.data] true Rows.liveTwinsCard.stood.harness false
    liveTwins_holds (fun _ h => by cases h) (by kernel_rfl) (fun _ h => by cases h) liveTwins_row_tie rfl ⟨rfl, rfl⟩ (by kernel_rfl) rfl
    (fun f fn hf hfn => by
      obtain rfl : f = 6 := Option.some.inj ((show Tryd.prog.funcNamed "mortise/mortiselaw25.LiveTwins" = some 6 by kernel_rfl).symm.trans hf) |>.symm
      obtain rfl : fn = Tryd.f6 := (Option.some.inj (Tryd.func6.symm.trans hfn)).symm
      exact ⟨by kernel_rfl, fun j t ht => by
        rw [Tryd.params6] at ht
        have h3 : t = 24 := by
          rcases j with _ | j
          · simpa using ht.symm
          · simp at ht
        subst h3
        exact (show Tryd.prog.wantsStandIn 24 = false by kernel_rfl)⟩)
    (by kernel_rfl)
#print axioms liveTwinsCard_holds
end Go.Proofs.YtlfbloadopeamaaDoor
