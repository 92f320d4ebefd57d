/-
  Texts of the proof, part 10.
-/
import Derived.Test.YtejbeeaomokjpaaZA9
import Derived.Recover
set_option maxRecDepth 10000
namespace Go.Mor
open Go.RowKit
section
variable {P : Program} {c : Code} {K : Act → List Frame → World → Prop} {Q : Exit → Act → List Frame → World → Prop} {a : Act} {cs : List Frame} {w : World} {k : Nat}
end
end Go.Mor
