/-
  No cell of these rows narrows 'for every input' (looked for: loops, veiled, ifaces, maps, wideKeys, modest, calm, conditions, laid).
  DERIVED. THE GIVEN ROWS OF THIS SEAT. 5 by the template 'for every input the law returns true; each argument reads behind the call as it read before'; 0 by the template 'total and deterministic' (their statements: YtjekgaabcigphaaTotals.lean).
  GIVEN WITH THE SEED: the statements are not yours to turn. If you find one false, say at which input.
  Laid BY PROGRAM, IN A SANDBOX (cutbox-rows.mjs): the forced cells as the released guide's own fill.sh prints them over the translation 8023f036e665bd01… (all of the seat's roots in one cut). By AI agents, Wed Nov 11 2026. No macro, syntax, notation, axiom, sorry.
-/
import Derived.Test.YtjekgaabcigphaaChecked
import GoSem.Claim
import GoSem.ClaimJoined
import GoSem.ClaimMapViews
import Derived.JoinedTies
import Derived.KernelRfl
namespace Go.Proofs.Ytjekgaabcigphaa
/- THE CELL 'sum', in the pinned program and in every row, IS THE sha256 OF THE DUMP (.gsa) THAT YtjekgaabcigphaaProg.lean LOADS. Nothing in Lean hashes anything: it is a label: what it is worth is what the hold of that sum in a sandbox is worth. -/
noncomputable def Try.pinned : Pinned := { name := "ytjekgaabcigphaa", sum := "8023f036e665bd01e207c5c8e9b2b201e3c2c1dab5a60030e43be8b71830321d", checked := Try.checked }
namespace Rows
def none {H : Type} : Left H := { results := [], args := [] }

/-- 'mortiselaw19.SsaValids': WHATEVER THE INPUT: true; the input reads as it did. -/
def ssaValidsSpec : ChangeSpec := { name := "ssaValids", fn := fun _ => fun
  | [d] => { results := [.lit (.bool true)], args := [d] }
  | _ => none }
def ssaValidsRow : OpenClaim := { program := "ytjekgaabcigphaa", sum := "8023f036e665bd01e207c5c8e9b2b201e3c2c1dab5a60030e43be8b71830321d", func := "mortise/mortiselaw19.SsaValids", spec := "ssaValids", unfollowed := true, recurses := true, apart := false }
def SsaValidsSaid : Prop := ssaValidsRow.holds Try.pinned (OpenSpec.ofChange ssaValidsSpec)

/-- ITS FALSE NEIGHBOUR: 'it returns false'. Refute it at one input. -/
def ssaValidsWrong : ChangeSpec := { name := "ssaValids", fn := fun _ => fun
  | [d] => { results := [.lit (.bool false)], args := [d] }
  | _ => none }
def SsaValidsWrongFalsely : Prop := ssaValidsRow.holds Try.pinned (OpenSpec.ofChange ssaValidsWrong)

/-- 'mortiselaw19.SsaMore': WHATEVER THE INPUT: true; the input reads as it did. -/
def ssaMoreSpec : ChangeSpec := { name := "ssaMore", fn := fun _ => fun
  | [d1, d2, d3, d4, d5] => { results := [.lit (.bool true)], args := [d1, d2, d3, d4, d5] }
  | _ => none }
def ssaMoreRow : OpenClaim := { program := "ytjekgaabcigphaa", sum := "8023f036e665bd01e207c5c8e9b2b201e3c2c1dab5a60030e43be8b71830321d", func := "mortise/mortiselaw19.SsaMore", spec := "ssaMore", unfollowed := true, recurses := true, apart := false }
def SsaMoreSaid : Prop := ssaMoreRow.holds Try.pinned (OpenSpec.ofChange ssaMoreSpec)

/-- ITS FALSE NEIGHBOUR: 'it returns false'. Refute it at one input. -/
def ssaMoreWrong : ChangeSpec := { name := "ssaMore", fn := fun _ => fun
  | [d1, d2, d3, d4, d5] => { results := [.lit (.bool false)], args := [d1, d2, d3, d4, d5] }
  | _ => none }
def SsaMoreWrongFalsely : Prop := ssaMoreRow.holds Try.pinned (OpenSpec.ofChange ssaMoreWrong)

/-- 'mortiselaw19.SsaOnces': WHATEVER THE INPUT: true; the input reads as it did. -/
def ssaOncesSpec : ChangeSpec := { name := "ssaOnces", fn := fun _ => fun
  | [d] => { results := [.lit (.bool true)], args := [d] }
  | _ => none }
def ssaOncesRow : OpenClaim := { program := "ytjekgaabcigphaa", sum := "8023f036e665bd01e207c5c8e9b2b201e3c2c1dab5a60030e43be8b71830321d", func := "mortise/mortiselaw19.SsaOnces", spec := "ssaOnces", unfollowed := true, recurses := true, apart := false }
def SsaOncesSaid : Prop := ssaOncesRow.holds Try.pinned (OpenSpec.ofChange ssaOncesSpec)

/-- ITS FALSE NEIGHBOUR: 'it returns false'. Refute it at one input. -/
def ssaOncesWrong : ChangeSpec := { name := "ssaOnces", fn := fun _ => fun
  | [d] => { results := [.lit (.bool false)], args := [d] }
  | _ => none }
def SsaOncesWrongFalsely : Prop := ssaOncesRow.holds Try.pinned (OpenSpec.ofChange ssaOncesWrong)

/-- 'mortiselaw19.SsaPhis': WHATEVER THE INPUT: true; the input reads as it did. -/
def ssaPhisSpec : ChangeSpec := { name := "ssaPhis", fn := fun _ => fun
  | [d] => { results := [.lit (.bool true)], args := [d] }
  | _ => none }
def ssaPhisRow : OpenClaim := { program := "ytjekgaabcigphaa", sum := "8023f036e665bd01e207c5c8e9b2b201e3c2c1dab5a60030e43be8b71830321d", func := "mortise/mortiselaw19.SsaPhis", spec := "ssaPhis", unfollowed := true, recurses := true, apart := false }
def SsaPhisSaid : Prop := ssaPhisRow.holds Try.pinned (OpenSpec.ofChange ssaPhisSpec)

/-- ITS FALSE NEIGHBOUR: 'it returns false'. Refute it at one input. -/
def ssaPhisWrong : ChangeSpec := { name := "ssaPhis", fn := fun _ => fun
  | [d] => { results := [.lit (.bool false)], args := [d] }
  | _ => none }
def SsaPhisWrongFalsely : Prop := ssaPhisRow.holds Try.pinned (OpenSpec.ofChange ssaPhisWrong)

/-- 'mortiselaw19.SsaEmpty': WHATEVER THE INPUT: true; the input reads as it did. -/
def ssaEmptySpec : ChangeSpec := { name := "ssaEmpty", fn := fun _ => fun
  | [d1, d2, d3] => { results := [.lit (.bool true)], args := [d1, d2, d3] }
  | _ => none }
def ssaEmptyRow : OpenClaim := { program := "ytjekgaabcigphaa", sum := "8023f036e665bd01e207c5c8e9b2b201e3c2c1dab5a60030e43be8b71830321d", func := "mortise/mortiselaw19.SsaEmpty", spec := "ssaEmpty", unfollowed := true, recurses := true, apart := false }
def SsaEmptySaid : Prop := ssaEmptyRow.holds Try.pinned (OpenSpec.ofChange ssaEmptySpec)

/-- ITS FALSE NEIGHBOUR: 'it returns false'. Refute it at one input. -/
def ssaEmptyWrong : ChangeSpec := { name := "ssaEmpty", fn := fun _ => fun
  | [d1, d2, d3] => { results := [.lit (.bool false)], args := [d1, d2, d3] }
  | _ => none }
def SsaEmptyWrongFalsely : Prop := ssaEmptyRow.holds Try.pinned (OpenSpec.ofChange ssaEmptyWrong)

/- THE SECOND FORM. 'bulk': how many values and letters a reading holds, each counted each time it is reached (what is shared counts as often as it is met; a slice's spare places count too). A statement '..UptoSaid' is the law's where the arguments, and the package variables that the reading takes, are together of bulk at most 1048576: NARROWER than '..Said'. Prove '..Said' where nothing that the law and all that it calls make is longer than what came in: it says more and counts as full. Else prove '..UptoSaid'. A law counts once. -/
mutual
def uptoBulk {H : Type} : DataW H → Nat
  | .lit (.string bytes) => bytes.length + 1
  | .lit _ => 1
  | .nil => 1
  | .ptr d => uptoBulk d + 1
  | .slice elems spare => uptoBulkAll elems + uptoBulkAll spare + 1
  | .agg parts => uptoBulkAll parts + 1
  | .iface _ d => uptoBulk d + 1
  | .map entries => uptoBulkEntries entries + 1
  | .held _ => 1
def uptoBulkAll {H : Type} : List (DataW H) → Nat
  | [] => 0
  | d :: r => uptoBulk d + uptoBulkAll r
def uptoBulkEntries {H : Type} : List (Lit × DataW H) → Nat
  | [] => 0
  | x :: r => uptoBulkEntry x + uptoBulkEntries r
def uptoBulkEntry {H : Type} : Lit × DataW H → Nat
  | (.string bytes, d) => bytes.length + uptoBulk d + 1
  | (_, d) => uptoBulk d + 1
 end
def uptoSmall : (H : Type) → List (DataW H) → Bool := fun _ ds => decide (uptoBulkAll ds ≤ 1048576)
def OpenSpec.upto (s : _root_.Go.ChangeSpec) : _root_.Go.OpenSpec := { _root_.Go.OpenSpec.ofChange s with cond := some uptoSmall }

/-- 'mortiselaw19.SsaValids', WHERE WHAT IT READS IS OF BULK AT MOST 1048576: true; the input reads as it did. -/
def ssaValidsUptoRow : OpenClaim := { program := "ytjekgaabcigphaa", sum := "8023f036e665bd01e207c5c8e9b2b201e3c2c1dab5a60030e43be8b71830321d", func := "mortise/mortiselaw19.SsaValids", spec := "ssaValids", unfollowed := true, recurses := true, apart := false, narrowed := true }
def SsaValidsUptoSaid : Prop := ssaValidsUptoRow.holds Try.pinned (OpenSpec.upto ssaValidsSpec)

/-- 'mortiselaw19.SsaMore', WHERE WHAT IT READS IS OF BULK AT MOST 1048576: true; the input reads as it did. -/
def ssaMoreUptoRow : OpenClaim := { program := "ytjekgaabcigphaa", sum := "8023f036e665bd01e207c5c8e9b2b201e3c2c1dab5a60030e43be8b71830321d", func := "mortise/mortiselaw19.SsaMore", spec := "ssaMore", unfollowed := true, recurses := true, apart := false, narrowed := true }
def SsaMoreUptoSaid : Prop := ssaMoreUptoRow.holds Try.pinned (OpenSpec.upto ssaMoreSpec)

/-- 'mortiselaw19.SsaOnces', WHERE WHAT IT READS IS OF BULK AT MOST 1048576: true; the input reads as it did. -/
def ssaOncesUptoRow : OpenClaim := { program := "ytjekgaabcigphaa", sum := "8023f036e665bd01e207c5c8e9b2b201e3c2c1dab5a60030e43be8b71830321d", func := "mortise/mortiselaw19.SsaOnces", spec := "ssaOnces", unfollowed := true, recurses := true, apart := false, narrowed := true }
def SsaOncesUptoSaid : Prop := ssaOncesUptoRow.holds Try.pinned (OpenSpec.upto ssaOncesSpec)

/-- 'mortiselaw19.SsaPhis', WHERE WHAT IT READS IS OF BULK AT MOST 1048576: true; the input reads as it did. -/
def ssaPhisUptoRow : OpenClaim := { program := "ytjekgaabcigphaa", sum := "8023f036e665bd01e207c5c8e9b2b201e3c2c1dab5a60030e43be8b71830321d", func := "mortise/mortiselaw19.SsaPhis", spec := "ssaPhis", unfollowed := true, recurses := true, apart := false, narrowed := true }
def SsaPhisUptoSaid : Prop := ssaPhisUptoRow.holds Try.pinned (OpenSpec.upto ssaPhisSpec)

/-- 'mortiselaw19.SsaEmpty', WHERE WHAT IT READS IS OF BULK AT MOST 1048576: true; the input reads as it did. -/
def ssaEmptyUptoRow : OpenClaim := { program := "ytjekgaabcigphaa", sum := "8023f036e665bd01e207c5c8e9b2b201e3c2c1dab5a60030e43be8b71830321d", func := "mortise/mortiselaw19.SsaEmpty", spec := "ssaEmpty", unfollowed := true, recurses := true, apart := false, narrowed := true }
def SsaEmptyUptoSaid : Prop := ssaEmptyUptoRow.holds Try.pinned (OpenSpec.upto ssaEmptySpec)

end Rows
end Go.Proofs.Ytjekgaabcigphaa
