/-
  What a call of a region in free order hands back, where it hands back a list of lists.
-/
import Derived.Test.YtlkpkinmmjcbcaaL10
import Derived.Test.YtlkpkinmmjcbcaaM2
namespace Go.Proofs.Ytlkpkinmmjcbcaa
open Go.Mor
def famSpec (n : Nat) (l : List (List Int)) : Mor.Spec :=
  .any (fun v w => ∃ A c rows, v = .slice A n c ∧ FamOf (Value.int .i64) rows l ∧ (Res.rd A (slv rows)).holds w ∧ (Res.fam 3 rows).holds w)
    (fun _ w w' hK ⟨A, c, rows, hv, hf, h, h2⟩ => ⟨A, c, rows, hv, hf, (RO.later (w' := w') (RO.of (w := w) h) hK).1, (RO.later (w' := w') (RO.of (w := w) h2) hK).1⟩)
end Go.Proofs.Ytlkpkinmmjcbcaa
