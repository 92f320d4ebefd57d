/-
  Texts of the proof, part 9.
-/
import Derived.Test.YtejbeeaomokjpaaZA8
import Derived.Laws.IdiomRangeMap
set_option maxRecDepth 10000
namespace Go.Mor
open Go.RowKit
section
variable {P : Program} {c : Code} {K : Act → World → Prop} {Q : Exit → Act → World → Prop} {w w0 : World} {S : Nat → Prop} {L : List Res} {k : Nat} {N : FN} {env : Env} {kt e t : TypeId}
end
end Go.Mor
