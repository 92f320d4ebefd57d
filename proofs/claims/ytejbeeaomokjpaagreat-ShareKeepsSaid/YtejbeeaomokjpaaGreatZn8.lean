/-
  Texts of the proof, part 8.
-/
import Derived.Test.YtejbeeaomokjpaaGreatZn7
import Derived.Laws.IdiomRangeMap
set_option maxRecDepth 10000
namespace Go.Mor
open Go.RowKit
end Go.Mor
