/-
  Texts of the proof, part 8.
-/
import Derived.Test.YtejbeeaomokjpaaZA7
import Derived.MapKept
set_option maxRecDepth 10000
namespace Go.Mor
open Go.RowKit
section
variable {P : Program} {w : World} {kt e t : TypeId} {kd : TypeDesc} {α : Type} [BEq α] {inj : α → Value}
end
section
variable {P : Program} {c : Code} {K : Act → World → Prop} {Q : Exit → Act → World → Prop} {w w0 : World} {S : Nat → Prop} {L : List Res} {k : Nat} {N : FN} {env : Env} {kt e t : TypeId} {kd : TypeDesc} {α : Type} [BEq α] {inj : α → Value}
end
section
variable {P : Program} {c : Code} {Q : Exit → Act → World → Prop} {N : FN} {i : Nat} {env0 : Env} {wr : World} {sp : Nat → Spec} {kt e t : TypeId} {kd : TypeDesc} {α : Type} [BEq α] {inj : α → Value}
end
end Go.Mor
