/-
  For every module, function, names that begin, input and number of steps the law TreeWeak answers true, and leaves what came in as it was; no condition.
-/
import Derived.Test.YtdcgcjibgihbbaaZc14
import Derived.Test.YtdcgcjibgihbbaaRows
import Derived.SizedLaws
namespace Go.Proofs.Ytdcgcjibgihbbaa
open Go.Mor Go.ChangeShapes Go.WideShapes Go.ChangeAt Go.RowKit Go.Deep
set_option maxRecDepth 100000 in
theorem treeWeak_lifted (os : Os) (started : os.Started) (H : Type) (enc : TypeId × Value → H) :
    ReturnsInHanded {} Try.checked os 7 .any (Rows.treeWeakSpec.pre6 enc Try.prog Try.f7 Rows.treeWeakRow.domain false) (Rows.treeWeakSpec.post enc Try.prog Try.f7 false true false false) := by
  refine returnsInHanded_of_change_sized (C := Try.checked) Try.own started (by kernel_rfl) Try.func7
    (ChangeSpec.witness6 (enc := enc) (C := Try.checked) false ⟨#[], #[.agg #[.string ⟨#[]⟩, .slice none 0 0, .slice none 0 0], .agg #[.string ⟨#[]⟩, .bool false, .int .i64 0, .int .i64 0, .slice none 0 0], .slice none 0 0, .slice none 0 0, .int .i64 0], []⟩ 8 (by kernel_rfl) (by kernel_rfl) (by kernel_rfl) (by kernel_rfl)) ?_
  intro W base args ds gs before hval0 hW _ hz _
  have hval : ∀ (j : Nat) t v, Try.f7.params[j]? = some t → args[j]? = some v → Value.okWide Try.prog W .any base t v := hval0
  have hW' := hW
  obtain ⟨p, q, hA0, hV, _, _, _⟩ := hW
  obtain ⟨rfl, rfl⟩ := trodVars_none hV
  have hA : DataW.TrodAll enc Try.prog W 0 (fun _ => true) true Try.f7.params.toList args.toList ds p := hA0
  rw [Try.params7] at hA hval hz
  obtain ⟨v0, v1, v2, v3, v4, d0, d1, d2, d3, d4, p0, p1, p2, p3, p4, rfl, rfl, h0, h1, h2, h3, h4⟩ := trodAll_five hA
  have hr0 : Reach_ 25 d0 := fun n hn => by
    have := List.all_eq_true.1 hz n (DataW.weights_mem_each (j := 0) (t := 25) (d := d0) rfl rfl n hn)
    simpa using this
  have hr1 : Reach_ 45 d1 := fun n hn => by
    have := List.all_eq_true.1 hz n (DataW.weights_mem_each (j := 1) (t := 45) (d := d1) rfl rfl n hn)
    simpa using this
  have hr2 : Reach_ 33 d2 := fun n hn => by
    have := List.all_eq_true.1 hz n (DataW.weights_mem_each (j := 2) (t := 33) (d := d2) rfl rfl n hn)
    simpa using this
  have hr3 : Reach_ 34 d3 := fun n hn => by
    have := List.all_eq_true.1 hz n (DataW.weights_mem_each (j := 3) (t := 34) (d := d3) rfl rfl n hn)
    simpa using this
  have hr4 : Reach_ 3 d4 := fun n hn => by
    have := List.all_eq_true.1 hz n (DataW.weights_mem_each (j := 4) (t := 3) (d := d4) rfl rfl n hn)
    simpa using this
  obtain ⟨m0, rfl, hi0, hm0⟩ := open_mod (hval 0 25 v0 rfl rfl) h0 hr0
  obtain ⟨f1, rfl, hi1, hm1⟩ := open_mfunc (hval 1 45 v1 rfl rfl) h1 hr1
  obtain ⟨A2, l2, c2, rfl, hl2, hb2⟩ := open_strs (hval 2 33 v2 rfl rfl) h2 hr2
  obtain ⟨A3, l3, c3, rfl, hl3, hc3, hb3, hx3⟩ := open_bytes (hval 3 34 v3 rfl rfl) h3 hr3
  obtain ⟨x4, rfl, rfl, rfl, wf4⟩ := open_int Try.underlying3 (hval 4 3 v4 rfl rfl) h4
  refine (treeWeak_c m0 f1 l2 A2 c2 l3 A3 c3 x4 W ⟨hm0, hi0, hm1, hi1, hl2, RO.of hb2, hl3, hc3, RO.of hx3, hb3⟩).mono fun e W' ⟨v, he, hv, hm⟩ => ?_
  subst he; subst hv
  exact ⟨_, rfl, post_true Try.laidOut Try.underlying4 (by kernel_rfl) (by kernel_rfl) rfl hW' rfl rfl rfl hm rfl⟩
theorem treeWeak_holds : Rows.TreeWeakSaid :=
  OpenClaim.holds_of_wide 7 Try.f7 rfl rfl rfl rfl rfl rfl rfl ⟨rfl, rfl, rfl, rfl, rfl⟩ rfl rfl rfl rfl rfl (by kernel_rfl) Try.func7 (by kernel_rfl)
    (of_decide_eq_true (by kernel_rfl)) (by unfold Func.isWrapper; first | (rw [if_pos (by decide +kernel)]; kernel_rfl) | (rw [if_neg (by decide +kernel)]; exact ⟨rfl, rfl⟩))
    (fun os started H enc _ => treeWeak_lifted os started H enc)
#print axioms treeWeak_holds
end Go.Proofs.Ytdcgcjibgihbbaa
