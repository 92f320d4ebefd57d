/-
  A result that stands in memory: a struct. Nothing of a program in sight.
-/
import Derived.Test.YtlkpkinmmjcbcaaL11
namespace Go.Mor
open Go.RowKit

theorem results_cell1 {fn : Func} {t : Tmp} {ty : TypeId} (h : fn.results = #[.cell t ty]) (tmps : Array Value) (P : Program) (w : World) {ad : Addr} {vs : List Value} (hp : tmps.getD t undef = .pointer (some ad)) (ht : aggT P ty = some vs.length)
    (hc : ∀ (j : Nat) (v : Value), vs[j]? = some v → w.cell? (ad.add j) = some v) : (results fn tmps).run P w = .ok (.agg vs.toArray) w := by
  obtain ⟨h1, h2⟩ := isAgg_agg ht w
  have e : tmps[t]?.getD undef = .pointer (some ad) := by simpa using hp
  have ha : (asAddr (.pointer (some ad))).run P w = .ok ad w := rfl
  have hl : (loadVar ty ad).run P w = .ok (.agg vs.toArray) w := by simp [loadVar, h1, h2, run_loadCells_list (P := P) w ad vs hc]
  simp only [results, h]
  simp [Sem.run_bind, Result.andThen, e, ha, hl]
theorem outC {P : Program} {fn : Func} {R : Ending → World → Prop} {a : Act} {w : World} {N : Nat} {env : Env} {t : Tmp} {ty : TypeId} {ad : Addr} {vs : List Value} (hF : Fr a N env) (hr : fn.results = #[.cell t ty]) (hv : look env t = some (.pointer (some ad)))
    (ht : aggT P ty = some vs.length) (hc : ∀ (j : Nat) (v : Value), vs[j]? = some v → w.cell? (ad.add j) = some v) (h : R (.returned (.agg vs.toArray)) w) : bodyPost P fn R .ret a w := by
  refine bodyPost_ret (v := .agg vs.toArray) ?_ hF.defers h
  refine results_cell1 hr _ _ _ ?_ ht hc
  have := hF.ev (x := .tmp t) hv
  simpa only [Act.eval] using this
end Go.Mor
