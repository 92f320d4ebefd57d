/-
  For every module the law TreeSmalls answers true, and leaves what came in as it was; no condition.
-/
import Derived.Test.YtdcgcjibgihbbaaZe15
import Derived.Test.YtdcgcjibgihbbaaRows
import Derived.SizedLaws
namespace Go.Proofs.Ytdcgcjibgihbbaa
open Go.Mor Go.ChangeShapes Go.WideShapes Go.ChangeAt Go.RowKit Go.Deep
set_option maxRecDepth 100000 in
theorem treeSmalls_lifted (os : Os) (started : os.Started) (H : Type) (enc : TypeId × Value → H) :
    ReturnsInHanded {} Try.checked os 5 .any (Rows.treeSmallsSpec.pre6 enc Try.prog Try.f5 Rows.treeSmallsRow.domain false) (Rows.treeSmallsSpec.post enc Try.prog Try.f5 false true false false) := by
  refine returnsInHanded_of_change_sized (C := Try.checked) Try.own started (by kernel_rfl) Try.func5
    (ChangeSpec.witness6 (enc := enc) (C := Try.checked) false ⟨#[], #[.agg #[.string ⟨#[]⟩, .slice none 0 0, .slice none 0 0]], []⟩ 8 (by kernel_rfl) (by kernel_rfl) (by kernel_rfl) (by kernel_rfl)) ?_
  intro W base args ds gs before hval0 hW _ hz _
  have hval : ∀ (j : Nat) t v, Try.f5.params[j]? = some t → args[j]? = some v → Value.okWide Try.prog W .any base t v := hval0
  have hW' := hW
  obtain ⟨p, q, hA0, hV, _, _, _⟩ := hW
  obtain ⟨rfl, rfl⟩ := trodVars_none hV
  have hA : DataW.TrodAll enc Try.prog W 0 (fun _ => true) true Try.f5.params.toList args.toList ds p := hA0
  rw [Try.params5] at hA hval hz
  obtain ⟨v0, d0, rfl, rfl, h0⟩ := trodAll_one hA
  have hr0 : Reach_ 25 d0 := fun n hn => by
    have := List.all_eq_true.1 hz n (DataW.weights_mem_each (j := 0) (t := 25) (d := d0) rfl rfl n hn)
    simpa using this
  obtain ⟨m0, rfl, hi0, hm0⟩ := open_mod (hval 0 25 v0 rfl rfl) h0 hr0
  refine (treeSmalls_c m0 W hm0 hi0).mono fun e W' ⟨v, he, hv, hm⟩ => ?_
  subst he; subst hv
  exact ⟨_, rfl, post_true Try.laidOut Try.underlying4 (by kernel_rfl) (by kernel_rfl) rfl hW' rfl rfl rfl hm rfl⟩
theorem treeSmalls_holds : Rows.TreeSmallsSaid :=
  OpenClaim.holds_of_wide 5 Try.f5 rfl rfl rfl rfl rfl rfl rfl ⟨rfl, rfl, rfl, rfl, rfl⟩ rfl rfl rfl rfl rfl (by kernel_rfl) Try.func5 (by kernel_rfl)
    (of_decide_eq_true (by kernel_rfl)) (by unfold Func.isWrapper; first | (rw [if_pos (by decide +kernel)]; kernel_rfl) | (rw [if_neg (by decide +kernel)]; exact ⟨rfl, rfl⟩))
    (fun os started H enc _ => treeSmalls_lifted os started H enc)
#print axioms treeSmalls_holds
end Go.Proofs.Ytdcgcjibgihbbaa
