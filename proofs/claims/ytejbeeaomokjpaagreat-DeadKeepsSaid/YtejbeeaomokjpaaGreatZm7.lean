/-
  Texts of the proof, part 7.
-/
import Derived.Test.YtejbeeaomokjpaaGreatZm6
import Derived.MapKept
set_option maxRecDepth 10000
namespace Go.Mor
open Go.RowKit
def fh{α β:Type}[BEq α]:List (α×β)→α→Option β
 |[],_=>none
 |(k,v)::r,s=>match s==k with
  |true=>some v
  |false=>fh r s
def V3{α β:Type}[BEq α]:List (α×β)→α→β→List (α×β)
 |[],s,v=>[(s,v)]
 |(k,u)::r,s,v=>match s==k with
  |true=>(s,v)::r
  |false=>(k,u)::V3 r s v
end Go.Mor
