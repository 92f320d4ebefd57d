/-
  Texts of the proof, part 9.
-/
import Derived.Test.YthgbejihcchcnaaDoorZd8
import Derived.Laws.IdiomRangeMap
set_option maxRecDepth 10000
namespace Go.Mor
open Go.RowKit
end Go.Mor
