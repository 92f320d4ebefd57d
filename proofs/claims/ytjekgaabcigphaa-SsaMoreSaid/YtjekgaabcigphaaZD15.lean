/-
  For all functions of SSA, names that begin, bytes and numbers of steps the law SsaMore answers true, and leaves what came in as it was; no condition.
-/
import Derived.Test.YtjekgaabcigphaaZD14
import Derived.Test.YtjekgaabcigphaaRows
import Derived.SizedLaws
namespace Go.Proofs.Ytjekgaabcigphaa
open Go.Mor Go.ChangeShapes Go.WideShapes Go.ChangeAt Go.RowKit Go.Deep
set_option maxRecDepth 100000 in
theorem ssaMore_lifted (os : Os) (started : os.Started) (H : Type) (enc : TypeId × Value → H) :
    ReturnsInHanded {} Try.checked os 4 .any (Rows.ssaMoreSpec.pre6 enc Try.prog Try.f4 Rows.ssaMoreRow.domain false) (Rows.ssaMoreSpec.post enc Try.prog Try.f4 false true false false) := by
  refine returnsInHanded_of_change_sized (C := Try.checked) Try.own started (by kernel_rfl) Try.func4
    (ChangeSpec.witness6 (enc := enc) (C := Try.checked) false ⟨#[], #[.slice none 0 0, .slice none 0 0, .slice none 0 0, .int .i64 0, .int .i64 0], []⟩ 8 (by kernel_rfl) (by kernel_rfl) (by kernel_rfl) (by kernel_rfl)) ?_
  intro W base args ds gs before hval0 hW _ hz _
  have hval : ∀ (j : Nat) t v, Try.f4.params[j]? = some t → args[j]? = some v → Value.okWide Try.prog W .any base t v := hval0
  have hW' := hW
  obtain ⟨p, q, hA0, hV, _, _, _⟩ := hW
  obtain ⟨rfl, rfl⟩ := trodVars_none hV
  have hA : DataW.TrodAll enc Try.prog W 0 (fun _ => true) true Try.f4.params.toList args.toList ds p := hA0
  rw [Try.params4] at hA hval hz
  obtain ⟨v0, v1, v2, v3, v4, d0, d1, d2, d3, d4, p0, p1, p2, p3, p4, rfl, rfl, h0, h1, h2, h3, h4⟩ := trodAll_five hA
  have hr0 : Reach_ 31 d0 := fun n hn => by
    have := List.all_eq_true.1 hz n (DataW.weights_mem_each (j := 0) (t := 31) (d := d0) rfl rfl n hn)
    simpa using this
  have hr1 : Reach_ 32 d1 := fun n hn => by
    have := List.all_eq_true.1 hz n (DataW.weights_mem_each (j := 1) (t := 32) (d := d1) rfl rfl n hn)
    simpa using this
  have hr2 : Reach_ 33 d2 := fun n hn => by
    have := List.all_eq_true.1 hz n (DataW.weights_mem_each (j := 2) (t := 33) (d := d2) rfl rfl n hn)
    simpa using this
  have hr3 : Reach_ 3 d3 := fun n hn => by
    have := List.all_eq_true.1 hz n (DataW.weights_mem_each (j := 3) (t := 3) (d := d3) rfl rfl n hn)
    simpa using this
  have hr4 : Reach_ 3 d4 := fun n hn => by
    have := List.all_eq_true.1 hz n (DataW.weights_mem_each (j := 4) (t := 3) (d := d4) rfl rfl n hn)
    simpa using this
  obtain ⟨A0, l0, c0, rfl, hl0, hb0, hf0⟩ := open_fns (hval 0 31 v0 rfl rfl) h0 hr0
  obtain ⟨A1, l1, c1, rfl, hl1, hb1⟩ := open_strs (hval 1 32 v1 rfl rfl) h1 hr1
  obtain ⟨A2, l2, c2, rfl, hl2, hc2, hb2, hx2⟩ := open_bytes (hval 2 33 v2 rfl rfl) h2 hr2
  obtain ⟨x3, rfl, rfl, rfl, wf3⟩ := open_int Try.underlying3 (hval 3 3 v3 rfl rfl) h3
  obtain ⟨x4, rfl, rfl, rfl, wf4⟩ := open_int Try.underlying3 (hval 4 3 v4 rfl rfl) h4
  refine (ssaMore_c l0 A0 c0 l1 A1 c1 l2 A2 c2 x3 x4 W hl0 (RO.of hb0) (fun x h => (hf0 x h).1) (fun x h => RO.of (hf0 x h).2) hl1 hl2 (RO.of hb1) hc2 (RO.of hx2) hb2 (wf_i64 wf3) (wf_i64 wf4)).mono fun e W' ⟨v, he, hv, hm⟩ => ?_
  subst he; subst hv
  exact ⟨_, rfl, post_true Try.laidOut Try.underlying4 (by kernel_rfl) (by kernel_rfl) rfl hW' rfl rfl rfl hm rfl⟩
theorem ssaMore_holds : Rows.SsaMoreSaid :=
  OpenClaim.holds_of_wide 4 Try.f4 rfl rfl rfl rfl rfl rfl rfl ⟨rfl, rfl, rfl, rfl, rfl⟩ rfl rfl rfl rfl rfl (by kernel_rfl) Try.func4 (by kernel_rfl)
    (of_decide_eq_true (by kernel_rfl)) (by unfold Func.isWrapper; first | (rw [if_pos (by decide +kernel)]; kernel_rfl) | (rw [if_neg (by decide +kernel)]; exact ⟨rfl, rfl⟩))
    (fun os started H enc _ => ssaMore_lifted os started H enc)
#print axioms ssaMore_holds
end Go.Proofs.Ytjekgaabcigphaa
