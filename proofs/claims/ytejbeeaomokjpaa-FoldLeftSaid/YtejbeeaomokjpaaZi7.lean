/-
  Texts of the proof, part 7.
-/
import Derived.Test.YtejbeeaomokjpaaZi6
import Derived.MapKept
set_option maxRecDepth 10000
namespace Go.Mor
open Go.RowKit
end Go.Mor
