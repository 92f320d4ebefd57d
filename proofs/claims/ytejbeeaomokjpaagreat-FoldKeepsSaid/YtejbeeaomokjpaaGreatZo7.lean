/-
  Texts of the proof, part 7.
-/
import Derived.Test.YtejbeeaomokjpaaGreatZo6
import Derived.Laws.IdiomRangeMap
set_option maxRecDepth 10000
open List Go.RowKit
open List renaming length -> ae
