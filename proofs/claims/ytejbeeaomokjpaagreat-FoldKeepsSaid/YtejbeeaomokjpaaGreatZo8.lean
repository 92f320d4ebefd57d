/-
  Texts of the proof, part 8.
-/
import Derived.Test.YtejbeeaomokjpaaGreatZo7
import Derived.Recover
set_option maxRecDepth 10000
open List Go.RowKit
open List renaming length -> ae
