/-
  Texts of the proof, part 9.
-/
import Derived.Test.YtejbeeaomokjpaaGreatZn8
import Derived.Recover
set_option maxRecDepth 10000
namespace Go.Mor
open Go.RowKit
end Go.Mor
