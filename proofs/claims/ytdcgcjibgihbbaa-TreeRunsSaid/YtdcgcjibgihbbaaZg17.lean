/-
  For all modules, names that begin, memory, input and numbers of steps the law TreeRuns answers true, and leaves what came in as it was; no condition.
-/
import Derived.Test.YtdcgcjibgihbbaaZg16
import Derived.Test.YtdcgcjibgihbbaaRows
import Derived.SizedLaws
namespace Go.Proofs.Ytdcgcjibgihbbaa
open Go.Mor Go.ChangeShapes Go.WideShapes Go.ChangeAt Go.RowKit Go.Deep
set_option maxRecDepth 100000 in
theorem treeRuns_lifted (os : Os) (started : os.Started) (H : Type) (enc : TypeId × Value → H) :
    ReturnsInHanded {} Try.checked os 4 .any (Rows.treeRunsSpec.pre6 enc Try.prog Try.f4 Rows.treeRunsRow.domain false) (Rows.treeRunsSpec.post enc Try.prog Try.f4 false true false false) := by
  refine returnsInHanded_of_change_sized (C := Try.checked) Try.own started (by kernel_rfl) Try.func4
    (ChangeSpec.witness6 (enc := enc) (C := Try.checked) false ⟨#[], #[.slice none 0 0, .slice none 0 0, .int .i64 0, .slice none 0 0, .int .i64 0], []⟩ 8 (by kernel_rfl) (by kernel_rfl) (by kernel_rfl) (by kernel_rfl)) ?_
  intro W base args ds gs before hval0 hW _ hz _
  have hval : ∀ (j : Nat) t v, Try.f4.params[j]? = some t → args[j]? = some v → Value.okWide Try.prog W .any base t v := hval0
  have hW' := hW
  obtain ⟨p, q, hA0, hV, _, _, _⟩ := hW
  obtain ⟨rfl, rfl⟩ := trodVars_none hV
  have hA : DataW.TrodAll enc Try.prog W 0 (fun _ => true) true Try.f4.params.toList args.toList ds p := hA0
  rw [Try.params4] at hA hval hz
  obtain ⟨v0, v1, v2, v3, v4, d0, d1, d2, d3, d4, p0, p1, p2, p3, p4, rfl, rfl, h0, h1, h2, h3, h4⟩ := trodAll_five hA
  have hr0 : Reach_ 32 d0 := fun n hn => by
    have := List.all_eq_true.1 hz n (DataW.weights_mem_each (j := 0) (t := 32) (d := d0) rfl rfl n hn)
    simpa using this
  have hr1 : Reach_ 33 d1 := fun n hn => by
    have := List.all_eq_true.1 hz n (DataW.weights_mem_each (j := 1) (t := 33) (d := d1) rfl rfl n hn)
    simpa using this
  have hr2 : Reach_ 3 d2 := fun n hn => by
    have := List.all_eq_true.1 hz n (DataW.weights_mem_each (j := 2) (t := 3) (d := d2) rfl rfl n hn)
    simpa using this
  have hr3 : Reach_ 34 d3 := fun n hn => by
    have := List.all_eq_true.1 hz n (DataW.weights_mem_each (j := 3) (t := 34) (d := d3) rfl rfl n hn)
    simpa using this
  have hr4 : Reach_ 3 d4 := fun n hn => by
    have := List.all_eq_true.1 hz n (DataW.weights_mem_each (j := 4) (t := 3) (d := d4) rfl rfl n hn)
    simpa using this
  obtain ⟨A0, l0, c0, rfl, hl0, hm0, hi0⟩ := open_mods (hval 0 32 v0 rfl rfl) h0 hr0
  obtain ⟨A1, l1, c1, rfl, hl1, hb1⟩ := open_strs (hval 1 33 v1 rfl rfl) h1 hr1
  obtain ⟨x2, rfl, rfl, rfl, wf2⟩ := open_int Try.underlying3 (hval 2 3 v2 rfl rfl) h2
  obtain ⟨A3, l3, c3, rfl, hl3, hc3, hb3, hx3⟩ := open_bytes (hval 3 34 v3 rfl rfl) h3 hr3
  obtain ⟨x4, rfl, rfl, rfl, wf4⟩ := open_int Try.underlying3 (hval 4 3 v4 rfl rfl) h4
  refine (treeRuns_c l0 A0 c0 l1 A1 c1 x2 l3 A3 c3 x4 W ⟨hl0, hm0, hi0, hl1, RO.of hb1, hl3, hc3, RO.of hx3, hb3⟩).mono fun e W' ⟨v, he, hv, hm⟩ => ?_
  subst he; subst hv
  exact ⟨_, rfl, post_true Try.laidOut Try.underlying4 (by kernel_rfl) (by kernel_rfl) rfl hW' rfl rfl rfl hm rfl⟩
theorem treeRuns_holds : Rows.TreeRunsSaid :=
  OpenClaim.holds_of_wide 4 Try.f4 rfl rfl rfl rfl rfl rfl rfl ⟨rfl, rfl, rfl, rfl, rfl⟩ rfl rfl rfl rfl rfl (by kernel_rfl) Try.func4 (by kernel_rfl)
    (of_decide_eq_true (by kernel_rfl)) (by unfold Func.isWrapper; first | (rw [if_pos (by decide +kernel)]; kernel_rfl) | (rw [if_neg (by decide +kernel)]; exact ⟨rfl, rfl⟩))
    (fun os started H enc _ => treeRuns_lifted os started H enc)
#print axioms treeRuns_holds
end Go.Proofs.Ytdcgcjibgihbbaa
