/-
  For every number of words, name and bytes the law SsaEmpty answers true, and leaves what came in as it was; no condition.
-/
import Derived.Test.YtjekgaabcigphaaZB15
import Derived.Test.YtjekgaabcigphaaRows
import Derived.SizedLaws
namespace Go.Proofs.Ytjekgaabcigphaa
open Go.Mor Go.ChangeShapes Go.WideShapes Go.ChangeAt Go.RowKit Go.Deep
set_option maxRecDepth 100000 in
theorem ssaEmpty_lifted (os : Os) (started : os.Started) (H : Type) (enc : TypeId × Value → H) :
    ReturnsInHanded {} Try.checked os 7 .any (Rows.ssaEmptySpec.pre6 enc Try.prog Try.f7 Rows.ssaEmptyRow.domain false) (Rows.ssaEmptySpec.post enc Try.prog Try.f7 false true false false) := by
  refine returnsInHanded_of_change_sized (C := Try.checked) Try.own started (by kernel_rfl) Try.func7
    (ChangeSpec.witness6 (enc := enc) (C := Try.checked) false ⟨#[], #[.int .i64 0, .string ⟨#[]⟩, .slice none 0 0], []⟩ 8 (by kernel_rfl) (by kernel_rfl) (by kernel_rfl) (by kernel_rfl)) ?_
  intro W base args ds gs before hval0 hW _ hz _
  have hval : ∀ (j : Nat) t v, Try.f7.params[j]? = some t → args[j]? = some v → Value.okWide Try.prog W .any base t v := hval0
  have hW' := hW
  obtain ⟨p, q, hA0, hV, _, _, _⟩ := hW
  obtain ⟨rfl, rfl⟩ := trodVars_none hV
  have hA : DataW.TrodAll enc Try.prog W 0 (fun _ => true) true Try.f7.params.toList args.toList ds p := hA0
  rw [Try.params7] at hA hval hz
  obtain ⟨v0, v1, v2, d0, d1, d2, p0, p1, p2, rfl, rfl, rfl, h0, h1, h2⟩ := trodAll_three hA
  have hr0 : Reach_ 3 d0 := fun n hn => by
    have := List.all_eq_true.1 hz n (DataW.weights_mem_each (j := 0) (t := 3) (d := d0) rfl rfl n hn)
    simpa using this
  have hr1 : Reach_ 9 d1 := fun n hn => by
    have := List.all_eq_true.1 hz n (DataW.weights_mem_each (j := 1) (t := 9) (d := d1) rfl rfl n hn)
    simpa using this
  have hr2 : Reach_ 33 d2 := fun n hn => by
    have := List.all_eq_true.1 hz n (DataW.weights_mem_each (j := 2) (t := 33) (d := d2) rfl rfl n hn)
    simpa using this
  obtain ⟨x0, rfl, rfl, rfl, wf0⟩ := open_int Try.underlying3 (hval 0 3 v0 rfl rfl) h0
  obtain ⟨x1, rfl, hs1⟩ := open_str1 (hval 1 9 v1 rfl rfl) h1 hr1
  obtain ⟨A2, l2, c2, rfl, hl2, hc2, hb2, hx2⟩ := open_bytes (hval 2 33 v2 rfl rfl) h2 hr2
  refine (ssaEmpty_c x0 x1 l2 A2 c2 W hs1 hl2 hc2 (RO.of hx2) hb2).mono fun e W' ⟨v, he, hv, hm⟩ => ?_
  subst he; subst hv
  exact ⟨_, rfl, post_true Try.laidOut Try.underlying4 (by kernel_rfl) (by kernel_rfl) rfl hW' rfl rfl rfl hm rfl⟩
theorem ssaEmpty_holds : Rows.SsaEmptySaid :=
  OpenClaim.holds_of_wide 7 Try.f7 rfl rfl rfl rfl rfl rfl rfl ⟨rfl, rfl, rfl, rfl, rfl⟩ rfl rfl rfl rfl rfl (by kernel_rfl) Try.func7 (by kernel_rfl)
    (of_decide_eq_true (by kernel_rfl)) (by unfold Func.isWrapper; first | (rw [if_pos (by decide +kernel)]; kernel_rfl) | (rw [if_neg (by decide +kernel)]; exact ⟨rfl, rfl⟩))
    (fun os started H enc _ => ssaEmpty_lifted os started H enc)
#print axioms ssaEmpty_holds
end Go.Proofs.Ytjekgaabcigphaa
