/- How the row of a law is closed: the law answers true, and nothing that was there has turned. Nothing of a program in sight. -/
import Derived.Test.YtlkpkinmmjcbcaaL13
namespace Go.Mor
open Go.ChangeShapes Go.WideShapes Go.ChangeAt Go.RowKit Go.Deep
section
variable {H : Type} {enc : TypeId × Value → H} {P : Program}

theorem trodAll_stays (hl : laidOutB P = true) {base : Nat} {sp : Nat → Bool} {W W' : World} : ∀ {ts : List TypeId} {vs : List Value} {ds : List (DataW H)} {ps : List MemPlace},
    ts.all (fun t => P.readableRec t && decide (t < P.types.size)) = true → DataW.TrodAll enc P W base (fun _ => true) true ts vs ds ps → (∀ p ∈ ps, W.sameAt W' p) → (∀ p ∈ ps, sp p.block = true) →
    DataW.TrodAll enc P W' base sp true ts vs ds ps
  | [], vs, ds, ps, _, h, _, _ => by
    cases vs <;> cases ds <;> simp_all [DataW.TrodAll]
  | t :: ts, vs, ds, ps, hr, h, hsame, hs => by
    obtain ⟨v, vs', d, ds', p, q, rfl, rfl, rfl, h1, h2⟩ := trodAll_cons h
    simp only [List.all_cons, Bool.and_eq_true, decide_eq_true_eq] at hr
    exact ⟨p, q, WideElems.Trod_stays hl hr.1.1 hr.1.2 h1 (fun x hx => hsame x (List.mem_append_left _ hx)) (fun x hx => hs x (List.mem_append_left _ hx)),
      trodAll_stays hl hr.2 h2 (fun x hx => hsame x (List.mem_append_right _ hx)) (fun x hx => hs x (List.mem_append_right _ hx)), rfl⟩

theorem post_true (hl : laidOutB P = true) {f : Func} {s : ChangeSpec} {W W' : World} {args : Array Value} {ds gs : List (DataW H)} {ps : List MemPlace} {tb : TypeId} (hb : P.underlying tb = some .bool) (hres : f.resultTypes = #[tb])
    (hr : f.params.toList.all (fun t => P.readableRec t && decide (t < P.types.size)) = true) (hv : s.vars = []) (hW : DataW.Whole enc P f.params.toList [] false W args.toList ds gs ps)
    (h1 : (s.fn H (ds ++ gs)).results = [.lit (.bool true)]) (h2 : (s.fn H (ds ++ gs)).args = ds) (h3 : (s.fn H (ds ++ gs)).vars = []) {w' : World} (hm : Mem noS W W' []) (e : W' = w') :
    s.post enc P f false true false false W args (.bool true) w' := by
  subst e
  obtain ⟨p, q, hA, hV, hpq, hz, hn⟩ := hW
  obtain ⟨hg, hq⟩ := trodVars_none hV
  subst hg; subst hq
  have hb' : Below W.heap.size W W' := hm.below
  have hW' : DataW.Whole enc P f.params.toList [] false W args.toList ds [] ps := ⟨p, [], hA, hV, hpq, hz, hn⟩
  have hlt := hW'.lt
  rw [List.append_nil] at hpq
  subst hpq
  refine ⟨ds, [], ps, [], ps, [], by rw [hv]; exact hW', ?_, ?_, ?_, hb'.frame _, fun h => by simp at h⟩
  · rw [h1, hres]
    exact trodAll_mk1 (shut_bool hb _)
  · rw [h2]
    exact trodAll_stays hl hr hA (fun x hx => hb'.same (hlt x hx)) (fun x hx => by simpa using hlt x hx)
  · rw [h3, hv]
    exact (rfl : _ = _)
end
end Go.Mor
