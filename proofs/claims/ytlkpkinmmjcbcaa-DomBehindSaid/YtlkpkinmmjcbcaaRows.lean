/-
  No cell of these rows narrows 'for every input' (looked for: loops, veiled, ifaces, maps, wideKeys, modest, calm, conditions, laid).
  DERIVED. THE GIVEN ROWS OF THIS SEAT. 6 by the template 'for every input the law returns true; each argument reads behind the call as it read before'; 0 by the template 'total and deterministic' (their statements: YtlkpkinmmjcbcaaTotals.lean).
  GIVEN WITH THE SEED: the statements are not yours to turn. If you find one false, say at which input.
  Laid BY PROGRAM, IN A SANDBOX (cutbox-rows.mjs): the forced cells as the released guide's own fill.sh prints them over the translation 286faf99a6e634bb… (all of the seat's roots in one cut). By AI agents, Wed Nov 11 2026. No macro, syntax, notation, axiom, sorry.
-/
import Derived.Test.YtlkpkinmmjcbcaaChecked
import GoSem.Claim
import GoSem.ClaimJoined
import GoSem.ClaimMapViews
import Derived.JoinedTies
import Derived.KernelRfl
namespace Go.Proofs.Ytlkpkinmmjcbcaa
/- THE CELL 'sum', in the pinned program and in every row, IS THE sha256 OF THE DUMP (.gsa) THAT YtlkpkinmmjcbcaaProg.lean LOADS. Nothing in Lean hashes anything: it is a label: what it is worth is what the hold of that sum in a sandbox is worth. -/
noncomputable def Try.pinned : Pinned := { name := "ytlkpkinmmjcbcaa", sum := "286faf99a6e634bb813cf9baf418a1e256462b9520d13c5e9de55db280545790", checked := Try.checked }
namespace Rows
def none {H : Type} : Left H := { results := [], args := [] }

/-- 'mortiselaw18.DomOrders': WHATEVER THE INPUT: true; the input reads as it did. -/
def domOrdersSpec : ChangeSpec := { name := "domOrders", fn := fun _ => fun
  | [d] => { results := [.lit (.bool true)], args := [d] }
  | _ => none }
def domOrdersRow : OpenClaim := { program := "ytlkpkinmmjcbcaa", sum := "286faf99a6e634bb813cf9baf418a1e256462b9520d13c5e9de55db280545790", func := "mortise/mortiselaw18.DomOrders", spec := "domOrders", unfollowed := true, recurses := true, apart := false }
def DomOrdersSaid : Prop := domOrdersRow.holds Try.pinned (OpenSpec.ofChange domOrdersSpec)

/-- ITS FALSE NEIGHBOUR: 'it returns false'. Refute it at one input. -/
def domOrdersWrong : ChangeSpec := { name := "domOrders", fn := fun _ => fun
  | [d] => { results := [.lit (.bool false)], args := [d] }
  | _ => none }
def DomOrdersWrongFalsely : Prop := domOrdersRow.holds Try.pinned (OpenSpec.ofChange domOrdersWrong)

/-- 'mortiselaw18.DomAboves': WHATEVER THE INPUT: true; the input reads as it did. -/
def domAbovesSpec : ChangeSpec := { name := "domAboves", fn := fun _ => fun
  | [d] => { results := [.lit (.bool true)], args := [d] }
  | _ => none }
def domAbovesRow : OpenClaim := { program := "ytlkpkinmmjcbcaa", sum := "286faf99a6e634bb813cf9baf418a1e256462b9520d13c5e9de55db280545790", func := "mortise/mortiselaw18.DomAboves", spec := "domAboves", unfollowed := true, recurses := true, apart := false }
def DomAbovesSaid : Prop := domAbovesRow.holds Try.pinned (OpenSpec.ofChange domAbovesSpec)

/-- ITS FALSE NEIGHBOUR: 'it returns false'. Refute it at one input. -/
def domAbovesWrong : ChangeSpec := { name := "domAboves", fn := fun _ => fun
  | [d] => { results := [.lit (.bool false)], args := [d] }
  | _ => none }
def DomAbovesWrongFalsely : Prop := domAbovesRow.holds Try.pinned (OpenSpec.ofChange domAbovesWrong)

/-- 'mortiselaw18.DomEdges': WHATEVER THE INPUT: true; the input reads as it did. -/
def domEdgesSpec : ChangeSpec := { name := "domEdges", fn := fun _ => fun
  | [d] => { results := [.lit (.bool true)], args := [d] }
  | _ => none }
def domEdgesRow : OpenClaim := { program := "ytlkpkinmmjcbcaa", sum := "286faf99a6e634bb813cf9baf418a1e256462b9520d13c5e9de55db280545790", func := "mortise/mortiselaw18.DomEdges", spec := "domEdges", unfollowed := true, recurses := true, apart := false }
def DomEdgesSaid : Prop := domEdgesRow.holds Try.pinned (OpenSpec.ofChange domEdgesSpec)

/-- ITS FALSE NEIGHBOUR: 'it returns false'. Refute it at one input. -/
def domEdgesWrong : ChangeSpec := { name := "domEdges", fn := fun _ => fun
  | [d] => { results := [.lit (.bool false)], args := [d] }
  | _ => none }
def DomEdgesWrongFalsely : Prop := domEdgesRow.holds Try.pinned (OpenSpec.ofChange domEdgesWrong)

/-- 'mortiselaw18.DomBehind': WHATEVER THE INPUT: true; the input reads as it did. -/
def domBehindSpec : ChangeSpec := { name := "domBehind", fn := fun _ => fun
  | [d] => { results := [.lit (.bool true)], args := [d] }
  | _ => none }
def domBehindRow : OpenClaim := { program := "ytlkpkinmmjcbcaa", sum := "286faf99a6e634bb813cf9baf418a1e256462b9520d13c5e9de55db280545790", func := "mortise/mortiselaw18.DomBehind", spec := "domBehind", unfollowed := true, recurses := true, apart := false }
def DomBehindSaid : Prop := domBehindRow.holds Try.pinned (OpenSpec.ofChange domBehindSpec)

/-- ITS FALSE NEIGHBOUR: 'it returns false'. Refute it at one input. -/
def domBehindWrong : ChangeSpec := { name := "domBehind", fn := fun _ => fun
  | [d] => { results := [.lit (.bool false)], args := [d] }
  | _ => none }
def DomBehindWrongFalsely : Prop := domBehindRow.holds Try.pinned (OpenSpec.ofChange domBehindWrong)

/-- 'mortiselaw18.DomChains': WHATEVER THE INPUT: true; the input reads as it did. -/
def domChainsSpec : ChangeSpec := { name := "domChains", fn := fun _ => fun
  | [d] => { results := [.lit (.bool true)], args := [d] }
  | _ => none }
def domChainsRow : OpenClaim := { program := "ytlkpkinmmjcbcaa", sum := "286faf99a6e634bb813cf9baf418a1e256462b9520d13c5e9de55db280545790", func := "mortise/mortiselaw18.DomChains", spec := "domChains", unfollowed := true, recurses := true, apart := false }
def DomChainsSaid : Prop := domChainsRow.holds Try.pinned (OpenSpec.ofChange domChainsSpec)

/-- ITS FALSE NEIGHBOUR: 'it returns false'. Refute it at one input. -/
def domChainsWrong : ChangeSpec := { name := "domChains", fn := fun _ => fun
  | [d] => { results := [.lit (.bool false)], args := [d] }
  | _ => none }
def DomChainsWrongFalsely : Prop := domChainsRow.holds Try.pinned (OpenSpec.ofChange domChainsWrong)

/-- 'mortiselaw18.DomSides': WHATEVER THE INPUT: true; the input reads as it did. -/
def domSidesSpec : ChangeSpec := { name := "domSides", fn := fun _ => fun
  | [d1, d2] => { results := [.lit (.bool true)], args := [d1, d2] }
  | _ => none }
def domSidesRow : OpenClaim := { program := "ytlkpkinmmjcbcaa", sum := "286faf99a6e634bb813cf9baf418a1e256462b9520d13c5e9de55db280545790", func := "mortise/mortiselaw18.DomSides", spec := "domSides", unfollowed := true, recurses := true, apart := false }
def DomSidesSaid : Prop := domSidesRow.holds Try.pinned (OpenSpec.ofChange domSidesSpec)

/-- ITS FALSE NEIGHBOUR: 'it returns false'. Refute it at one input. -/
def domSidesWrong : ChangeSpec := { name := "domSides", fn := fun _ => fun
  | [d1, d2] => { results := [.lit (.bool false)], args := [d1, d2] }
  | _ => none }
def DomSidesWrongFalsely : Prop := domSidesRow.holds Try.pinned (OpenSpec.ofChange domSidesWrong)

/- THE SECOND FORM. 'bulk': how many values and letters a reading holds, each counted each time it is reached (what is shared counts as often as it is met; a slice's spare places count too). A statement '..UptoSaid' is the law's where the arguments, and the package variables that the reading takes, are together of bulk at most 1048576: NARROWER than '..Said'. Prove '..Said' where nothing that the law and all that it calls make is longer than what came in: it says more and counts as full. Else prove '..UptoSaid'. A law counts once. -/
mutual
def uptoBulk {H : Type} : DataW H → Nat
  | .lit (.string bytes) => bytes.length + 1
  | .lit _ => 1
  | .nil => 1
  | .ptr d => uptoBulk d + 1
  | .slice elems spare => uptoBulkAll elems + uptoBulkAll spare + 1
  | .agg parts => uptoBulkAll parts + 1
  | .iface _ d => uptoBulk d + 1
  | .map entries => uptoBulkEntries entries + 1
  | .held _ => 1
def uptoBulkAll {H : Type} : List (DataW H) → Nat
  | [] => 0
  | d :: r => uptoBulk d + uptoBulkAll r
def uptoBulkEntries {H : Type} : List (Lit × DataW H) → Nat
  | [] => 0
  | x :: r => uptoBulkEntry x + uptoBulkEntries r
def uptoBulkEntry {H : Type} : Lit × DataW H → Nat
  | (.string bytes, d) => bytes.length + uptoBulk d + 1
  | (_, d) => uptoBulk d + 1
 end
def uptoSmall : (H : Type) → List (DataW H) → Bool := fun _ ds => decide (uptoBulkAll ds ≤ 1048576)
def OpenSpec.upto (s : _root_.Go.ChangeSpec) : _root_.Go.OpenSpec := { _root_.Go.OpenSpec.ofChange s with cond := some uptoSmall }

/-- 'mortiselaw18.DomOrders', WHERE WHAT IT READS IS OF BULK AT MOST 1048576: true; the input reads as it did. -/
def domOrdersUptoRow : OpenClaim := { program := "ytlkpkinmmjcbcaa", sum := "286faf99a6e634bb813cf9baf418a1e256462b9520d13c5e9de55db280545790", func := "mortise/mortiselaw18.DomOrders", spec := "domOrders", unfollowed := true, recurses := true, apart := false, narrowed := true }
def DomOrdersUptoSaid : Prop := domOrdersUptoRow.holds Try.pinned (OpenSpec.upto domOrdersSpec)

/-- 'mortiselaw18.DomAboves', WHERE WHAT IT READS IS OF BULK AT MOST 1048576: true; the input reads as it did. -/
def domAbovesUptoRow : OpenClaim := { program := "ytlkpkinmmjcbcaa", sum := "286faf99a6e634bb813cf9baf418a1e256462b9520d13c5e9de55db280545790", func := "mortise/mortiselaw18.DomAboves", spec := "domAboves", unfollowed := true, recurses := true, apart := false, narrowed := true }
def DomAbovesUptoSaid : Prop := domAbovesUptoRow.holds Try.pinned (OpenSpec.upto domAbovesSpec)

/-- 'mortiselaw18.DomEdges', WHERE WHAT IT READS IS OF BULK AT MOST 1048576: true; the input reads as it did. -/
def domEdgesUptoRow : OpenClaim := { program := "ytlkpkinmmjcbcaa", sum := "286faf99a6e634bb813cf9baf418a1e256462b9520d13c5e9de55db280545790", func := "mortise/mortiselaw18.DomEdges", spec := "domEdges", unfollowed := true, recurses := true, apart := false, narrowed := true }
def DomEdgesUptoSaid : Prop := domEdgesUptoRow.holds Try.pinned (OpenSpec.upto domEdgesSpec)

/-- 'mortiselaw18.DomBehind', WHERE WHAT IT READS IS OF BULK AT MOST 1048576: true; the input reads as it did. -/
def domBehindUptoRow : OpenClaim := { program := "ytlkpkinmmjcbcaa", sum := "286faf99a6e634bb813cf9baf418a1e256462b9520d13c5e9de55db280545790", func := "mortise/mortiselaw18.DomBehind", spec := "domBehind", unfollowed := true, recurses := true, apart := false, narrowed := true }
def DomBehindUptoSaid : Prop := domBehindUptoRow.holds Try.pinned (OpenSpec.upto domBehindSpec)

/-- 'mortiselaw18.DomChains', WHERE WHAT IT READS IS OF BULK AT MOST 1048576: true; the input reads as it did. -/
def domChainsUptoRow : OpenClaim := { program := "ytlkpkinmmjcbcaa", sum := "286faf99a6e634bb813cf9baf418a1e256462b9520d13c5e9de55db280545790", func := "mortise/mortiselaw18.DomChains", spec := "domChains", unfollowed := true, recurses := true, apart := false, narrowed := true }
def DomChainsUptoSaid : Prop := domChainsUptoRow.holds Try.pinned (OpenSpec.upto domChainsSpec)

/-- 'mortiselaw18.DomSides', WHERE WHAT IT READS IS OF BULK AT MOST 1048576: true; the input reads as it did. -/
def domSidesUptoRow : OpenClaim := { program := "ytlkpkinmmjcbcaa", sum := "286faf99a6e634bb813cf9baf418a1e256462b9520d13c5e9de55db280545790", func := "mortise/mortiselaw18.DomSides", spec := "domSides", unfollowed := true, recurses := true, apart := false, narrowed := true }
def DomSidesUptoSaid : Prop := domSidesUptoRow.holds Try.pinned (OpenSpec.upto domSidesSpec)

end Rows
end Go.Proofs.Ytlkpkinmmjcbcaa
