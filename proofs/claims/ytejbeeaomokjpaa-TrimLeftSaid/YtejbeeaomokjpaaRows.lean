/-
  No cell of these rows narrows 'for every input' (looked for: loops, veiled, ifaces, maps, wideKeys, modest, calm, conditions, laid).
  DERIVED. THE GIVEN ROWS OF THIS SEAT. 11 by the template 'for every input the law returns true; each argument reads behind the call as it read before'; 0 by the template 'total and deterministic' (their statements: YtejbeeaomokjpaaTotals.lean).
  GIVEN WITH THE SEED: the statements are not yours to turn. If you find one false, say at which input.
  Laid BY PROGRAM, IN A SANDBOX (cutbox-rows.mjs): the forced cells as the released guide's own fill.sh prints them over the translation de8169f09dfd9ea1… (all of the seat's roots in one cut). By AI agents, Wed Nov 11 2026. No macro, syntax, notation, axiom, sorry.
-/
import Derived.Test.YtejbeeaomokjpaaChecked
import GoSem.Claim
import GoSem.ClaimJoined
import GoSem.ClaimMapViews
import Derived.JoinedTies
import Derived.KernelRfl
namespace Go.Proofs.Ytejbeeaomokjpaa
/- THE CELL 'sum', in the pinned program and in every row, IS THE sha256 OF THE DUMP (.gsa) THAT YtejbeeaomokjpaaProg.lean LOADS. Nothing in Lean hashes anything: it is a label: what it is worth is what the hold of that sum in a sandbox is worth. -/
noncomputable def Try.pinned : Pinned := { name := "ytejbeeaomokjpaa", sum := "de8169f09dfd9ea18a1b852570b8b6e3bfdba9d8701ca5733635bde1e2d229bd", checked := Try.checked }
namespace Rows
def none {H : Type} : Left H := { results := [], args := [] }

/-- 'mortiselaw24.TrimTwice': WHATEVER THE INPUT: true; the input reads as it did. -/
def trimTwiceSpec : ChangeSpec := { name := "trimTwice", fn := fun _ => fun
  | [d] => { results := [.lit (.bool true)], args := [d] }
  | _ => none }
def trimTwiceRow : OpenClaim := { program := "ytejbeeaomokjpaa", sum := "de8169f09dfd9ea18a1b852570b8b6e3bfdba9d8701ca5733635bde1e2d229bd", func := "mortise/mortiselaw24.TrimTwice", spec := "trimTwice", unfollowed := true, recurses := true, plainKeys := false, apart := false }
def TrimTwiceSaid : Prop := trimTwiceRow.holds Try.pinned (OpenSpec.ofChange trimTwiceSpec)

/-- ITS FALSE NEIGHBOUR: 'it returns false'. Refute it at one input. -/
def trimTwiceWrong : ChangeSpec := { name := "trimTwice", fn := fun _ => fun
  | [d] => { results := [.lit (.bool false)], args := [d] }
  | _ => none }
def TrimTwiceWrongFalsely : Prop := trimTwiceRow.holds Try.pinned (OpenSpec.ofChange trimTwiceWrong)

/-- 'mortiselaw23.DeadShapes': WHATEVER THE INPUT: true; the input reads as it did. -/
def deadShapesSpec : ChangeSpec := { name := "deadShapes", fn := fun _ => fun
  | [d] => { results := [.lit (.bool true)], args := [d] }
  | _ => none }
def deadShapesRow : OpenClaim := { program := "ytejbeeaomokjpaa", sum := "de8169f09dfd9ea18a1b852570b8b6e3bfdba9d8701ca5733635bde1e2d229bd", func := "mortise/mortiselaw23.DeadShapes", spec := "deadShapes", unfollowed := true, recurses := true, plainKeys := false, apart := false }
def DeadShapesSaid : Prop := deadShapesRow.holds Try.pinned (OpenSpec.ofChange deadShapesSpec)

/-- ITS FALSE NEIGHBOUR: 'it returns false'. Refute it at one input. -/
def deadShapesWrong : ChangeSpec := { name := "deadShapes", fn := fun _ => fun
  | [d] => { results := [.lit (.bool false)], args := [d] }
  | _ => none }
def DeadShapesWrongFalsely : Prop := deadShapesRow.holds Try.pinned (OpenSpec.ofChange deadShapesWrong)

/-- 'mortiselaw23.DeadTwice': WHATEVER THE INPUT: true; the input reads as it did. -/
def deadTwiceSpec : ChangeSpec := { name := "deadTwice", fn := fun _ => fun
  | [d] => { results := [.lit (.bool true)], args := [d] }
  | _ => none }
def deadTwiceRow : OpenClaim := { program := "ytejbeeaomokjpaa", sum := "de8169f09dfd9ea18a1b852570b8b6e3bfdba9d8701ca5733635bde1e2d229bd", func := "mortise/mortiselaw23.DeadTwice", spec := "deadTwice", unfollowed := true, recurses := true, plainKeys := false, apart := false }
def DeadTwiceSaid : Prop := deadTwiceRow.holds Try.pinned (OpenSpec.ofChange deadTwiceSpec)

/-- ITS FALSE NEIGHBOUR: 'it returns false'. Refute it at one input. -/
def deadTwiceWrong : ChangeSpec := { name := "deadTwice", fn := fun _ => fun
  | [d] => { results := [.lit (.bool false)], args := [d] }
  | _ => none }
def DeadTwiceWrongFalsely : Prop := deadTwiceRow.holds Try.pinned (OpenSpec.ofChange deadTwiceWrong)

/-- 'mortiselaw22.ShareShapes': WHATEVER THE INPUT: true; the input reads as it did. -/
def shareShapesSpec : ChangeSpec := { name := "shareShapes", fn := fun _ => fun
  | [d] => { results := [.lit (.bool true)], args := [d] }
  | _ => none }
def shareShapesRow : OpenClaim := { program := "ytejbeeaomokjpaa", sum := "de8169f09dfd9ea18a1b852570b8b6e3bfdba9d8701ca5733635bde1e2d229bd", func := "mortise/mortiselaw22.ShareShapes", spec := "shareShapes", unfollowed := true, recurses := true, plainKeys := false, apart := false }
def ShareShapesSaid : Prop := shareShapesRow.holds Try.pinned (OpenSpec.ofChange shareShapesSpec)

/-- ITS FALSE NEIGHBOUR: 'it returns false'. Refute it at one input. -/
def shareShapesWrong : ChangeSpec := { name := "shareShapes", fn := fun _ => fun
  | [d] => { results := [.lit (.bool false)], args := [d] }
  | _ => none }
def ShareShapesWrongFalsely : Prop := shareShapesRow.holds Try.pinned (OpenSpec.ofChange shareShapesWrong)

/-- 'mortiselaw22.ShareLeft': WHATEVER THE INPUT: true; the input reads as it did. -/
def shareLeftSpec : ChangeSpec := { name := "shareLeft", fn := fun _ => fun
  | [d] => { results := [.lit (.bool true)], args := [d] }
  | _ => none }
def shareLeftRow : OpenClaim := { program := "ytejbeeaomokjpaa", sum := "de8169f09dfd9ea18a1b852570b8b6e3bfdba9d8701ca5733635bde1e2d229bd", func := "mortise/mortiselaw22.ShareLeft", spec := "shareLeft", unfollowed := true, recurses := true, plainKeys := false, apart := false }
def ShareLeftSaid : Prop := shareLeftRow.holds Try.pinned (OpenSpec.ofChange shareLeftSpec)

/-- ITS FALSE NEIGHBOUR: 'it returns false'. Refute it at one input. -/
def shareLeftWrong : ChangeSpec := { name := "shareLeft", fn := fun _ => fun
  | [d] => { results := [.lit (.bool false)], args := [d] }
  | _ => none }
def ShareLeftWrongFalsely : Prop := shareLeftRow.holds Try.pinned (OpenSpec.ofChange shareLeftWrong)

/-- 'mortiselaw22.ShareTwice': WHATEVER THE INPUT: true; the input reads as it did. -/
def shareTwiceSpec : ChangeSpec := { name := "shareTwice", fn := fun _ => fun
  | [d] => { results := [.lit (.bool true)], args := [d] }
  | _ => none }
def shareTwiceRow : OpenClaim := { program := "ytejbeeaomokjpaa", sum := "de8169f09dfd9ea18a1b852570b8b6e3bfdba9d8701ca5733635bde1e2d229bd", func := "mortise/mortiselaw22.ShareTwice", spec := "shareTwice", unfollowed := true, recurses := true, plainKeys := false, apart := false }
def ShareTwiceSaid : Prop := shareTwiceRow.holds Try.pinned (OpenSpec.ofChange shareTwiceSpec)

/-- ITS FALSE NEIGHBOUR: 'it returns false'. Refute it at one input. -/
def shareTwiceWrong : ChangeSpec := { name := "shareTwice", fn := fun _ => fun
  | [d] => { results := [.lit (.bool false)], args := [d] }
  | _ => none }
def ShareTwiceWrongFalsely : Prop := shareTwiceRow.holds Try.pinned (OpenSpec.ofChange shareTwiceWrong)

/-- 'mortiselaw21.FoldShapes': WHATEVER THE INPUT: true; the input reads as it did. -/
def foldShapesSpec : ChangeSpec := { name := "foldShapes", fn := fun _ => fun
  | [d] => { results := [.lit (.bool true)], args := [d] }
  | _ => none }
def foldShapesRow : OpenClaim := { program := "ytejbeeaomokjpaa", sum := "de8169f09dfd9ea18a1b852570b8b6e3bfdba9d8701ca5733635bde1e2d229bd", func := "mortise/mortiselaw21.FoldShapes", spec := "foldShapes", unfollowed := true, recurses := true, plainKeys := false, apart := false }
def FoldShapesSaid : Prop := foldShapesRow.holds Try.pinned (OpenSpec.ofChange foldShapesSpec)

/-- ITS FALSE NEIGHBOUR: 'it returns false'. Refute it at one input. -/
def foldShapesWrong : ChangeSpec := { name := "foldShapes", fn := fun _ => fun
  | [d] => { results := [.lit (.bool false)], args := [d] }
  | _ => none }
def FoldShapesWrongFalsely : Prop := foldShapesRow.holds Try.pinned (OpenSpec.ofChange foldShapesWrong)

/-- 'mortiselaw21.FoldLeft': WHATEVER THE INPUT: true; the input reads as it did. -/
def foldLeftSpec : ChangeSpec := { name := "foldLeft", fn := fun _ => fun
  | [d] => { results := [.lit (.bool true)], args := [d] }
  | _ => none }
def foldLeftRow : OpenClaim := { program := "ytejbeeaomokjpaa", sum := "de8169f09dfd9ea18a1b852570b8b6e3bfdba9d8701ca5733635bde1e2d229bd", func := "mortise/mortiselaw21.FoldLeft", spec := "foldLeft", unfollowed := true, recurses := true, plainKeys := false, apart := false }
def FoldLeftSaid : Prop := foldLeftRow.holds Try.pinned (OpenSpec.ofChange foldLeftSpec)

/-- ITS FALSE NEIGHBOUR: 'it returns false'. Refute it at one input. -/
def foldLeftWrong : ChangeSpec := { name := "foldLeft", fn := fun _ => fun
  | [d] => { results := [.lit (.bool false)], args := [d] }
  | _ => none }
def FoldLeftWrongFalsely : Prop := foldLeftRow.holds Try.pinned (OpenSpec.ofChange foldLeftWrong)

/-- 'mortiselaw21.FoldTwice': WHATEVER THE INPUT: true; the input reads as it did. -/
def foldTwiceSpec : ChangeSpec := { name := "foldTwice", fn := fun _ => fun
  | [d] => { results := [.lit (.bool true)], args := [d] }
  | _ => none }
def foldTwiceRow : OpenClaim := { program := "ytejbeeaomokjpaa", sum := "de8169f09dfd9ea18a1b852570b8b6e3bfdba9d8701ca5733635bde1e2d229bd", func := "mortise/mortiselaw21.FoldTwice", spec := "foldTwice", unfollowed := true, recurses := true, plainKeys := false, apart := false }
def FoldTwiceSaid : Prop := foldTwiceRow.holds Try.pinned (OpenSpec.ofChange foldTwiceSpec)

/-- ITS FALSE NEIGHBOUR: 'it returns false'. Refute it at one input. -/
def foldTwiceWrong : ChangeSpec := { name := "foldTwice", fn := fun _ => fun
  | [d] => { results := [.lit (.bool false)], args := [d] }
  | _ => none }
def FoldTwiceWrongFalsely : Prop := foldTwiceRow.holds Try.pinned (OpenSpec.ofChange foldTwiceWrong)

/-- 'mortiselaw24.TrimShapes': WHATEVER THE INPUT: true; the input reads as it did. -/
def trimShapesSpec : ChangeSpec := { name := "trimShapes", fn := fun _ => fun
  | [d] => { results := [.lit (.bool true)], args := [d] }
  | _ => none }
def trimShapesRow : OpenClaim := { program := "ytejbeeaomokjpaa", sum := "de8169f09dfd9ea18a1b852570b8b6e3bfdba9d8701ca5733635bde1e2d229bd", func := "mortise/mortiselaw24.TrimShapes", spec := "trimShapes", unfollowed := true, recurses := true, plainKeys := false, apart := false }
def TrimShapesSaid : Prop := trimShapesRow.holds Try.pinned (OpenSpec.ofChange trimShapesSpec)

/-- ITS FALSE NEIGHBOUR: 'it returns false'. Refute it at one input. -/
def trimShapesWrong : ChangeSpec := { name := "trimShapes", fn := fun _ => fun
  | [d] => { results := [.lit (.bool false)], args := [d] }
  | _ => none }
def TrimShapesWrongFalsely : Prop := trimShapesRow.holds Try.pinned (OpenSpec.ofChange trimShapesWrong)

/-- 'mortiselaw24.TrimLeft': WHATEVER THE INPUT: true; the input reads as it did. -/
def trimLeftSpec : ChangeSpec := { name := "trimLeft", fn := fun _ => fun
  | [d] => { results := [.lit (.bool true)], args := [d] }
  | _ => none }
def trimLeftRow : OpenClaim := { program := "ytejbeeaomokjpaa", sum := "de8169f09dfd9ea18a1b852570b8b6e3bfdba9d8701ca5733635bde1e2d229bd", func := "mortise/mortiselaw24.TrimLeft", spec := "trimLeft", unfollowed := true, recurses := true, plainKeys := false, apart := false }
def TrimLeftSaid : Prop := trimLeftRow.holds Try.pinned (OpenSpec.ofChange trimLeftSpec)

/-- ITS FALSE NEIGHBOUR: 'it returns false'. Refute it at one input. -/
def trimLeftWrong : ChangeSpec := { name := "trimLeft", fn := fun _ => fun
  | [d] => { results := [.lit (.bool false)], args := [d] }
  | _ => none }
def TrimLeftWrongFalsely : Prop := trimLeftRow.holds Try.pinned (OpenSpec.ofChange trimLeftWrong)

/- THE SECOND FORM. 'bulk': how many values and letters a reading holds, each counted each time it is reached (what is shared counts as often as it is met; a slice's spare places count too). A statement '..UptoSaid' is the law's where the arguments, and the package variables that the reading takes, are together of bulk at most 1048576: NARROWER than '..Said'. Prove '..Said' where nothing that the law and all that it calls make is longer than what came in: it says more and counts as full. Else prove '..UptoSaid'. A law counts once. -/
mutual
def uptoBulk {H : Type} : DataW H → Nat
  | .lit (.string bytes) => bytes.length + 1
  | .lit _ => 1
  | .nil => 1
  | .ptr d => uptoBulk d + 1
  | .slice elems spare => uptoBulkAll elems + uptoBulkAll spare + 1
  | .agg parts => uptoBulkAll parts + 1
  | .iface _ d => uptoBulk d + 1
  | .map entries => uptoBulkEntries entries + 1
  | .held _ => 1
def uptoBulkAll {H : Type} : List (DataW H) → Nat
  | [] => 0
  | d :: r => uptoBulk d + uptoBulkAll r
def uptoBulkEntries {H : Type} : List (Lit × DataW H) → Nat
  | [] => 0
  | x :: r => uptoBulkEntry x + uptoBulkEntries r
def uptoBulkEntry {H : Type} : Lit × DataW H → Nat
  | (.string bytes, d) => bytes.length + uptoBulk d + 1
  | (_, d) => uptoBulk d + 1
 end
def uptoSmall : (H : Type) → List (DataW H) → Bool := fun _ ds => decide (uptoBulkAll ds ≤ 1048576)
def OpenSpec.upto (s : _root_.Go.ChangeSpec) : _root_.Go.OpenSpec := { _root_.Go.OpenSpec.ofChange s with cond := some uptoSmall }

/-- 'mortiselaw24.TrimTwice', WHERE WHAT IT READS IS OF BULK AT MOST 1048576: true; the input reads as it did. -/
def trimTwiceUptoRow : OpenClaim := { program := "ytejbeeaomokjpaa", sum := "de8169f09dfd9ea18a1b852570b8b6e3bfdba9d8701ca5733635bde1e2d229bd", func := "mortise/mortiselaw24.TrimTwice", spec := "trimTwice", unfollowed := true, recurses := true, plainKeys := false, apart := false, narrowed := true }
def TrimTwiceUptoSaid : Prop := trimTwiceUptoRow.holds Try.pinned (OpenSpec.upto trimTwiceSpec)

/-- 'mortiselaw23.DeadShapes', WHERE WHAT IT READS IS OF BULK AT MOST 1048576: true; the input reads as it did. -/
def deadShapesUptoRow : OpenClaim := { program := "ytejbeeaomokjpaa", sum := "de8169f09dfd9ea18a1b852570b8b6e3bfdba9d8701ca5733635bde1e2d229bd", func := "mortise/mortiselaw23.DeadShapes", spec := "deadShapes", unfollowed := true, recurses := true, plainKeys := false, apart := false, narrowed := true }
def DeadShapesUptoSaid : Prop := deadShapesUptoRow.holds Try.pinned (OpenSpec.upto deadShapesSpec)

/-- 'mortiselaw23.DeadTwice', WHERE WHAT IT READS IS OF BULK AT MOST 1048576: true; the input reads as it did. -/
def deadTwiceUptoRow : OpenClaim := { program := "ytejbeeaomokjpaa", sum := "de8169f09dfd9ea18a1b852570b8b6e3bfdba9d8701ca5733635bde1e2d229bd", func := "mortise/mortiselaw23.DeadTwice", spec := "deadTwice", unfollowed := true, recurses := true, plainKeys := false, apart := false, narrowed := true }
def DeadTwiceUptoSaid : Prop := deadTwiceUptoRow.holds Try.pinned (OpenSpec.upto deadTwiceSpec)

/-- 'mortiselaw22.ShareShapes', WHERE WHAT IT READS IS OF BULK AT MOST 1048576: true; the input reads as it did. -/
def shareShapesUptoRow : OpenClaim := { program := "ytejbeeaomokjpaa", sum := "de8169f09dfd9ea18a1b852570b8b6e3bfdba9d8701ca5733635bde1e2d229bd", func := "mortise/mortiselaw22.ShareShapes", spec := "shareShapes", unfollowed := true, recurses := true, plainKeys := false, apart := false, narrowed := true }
def ShareShapesUptoSaid : Prop := shareShapesUptoRow.holds Try.pinned (OpenSpec.upto shareShapesSpec)

/-- 'mortiselaw22.ShareLeft', WHERE WHAT IT READS IS OF BULK AT MOST 1048576: true; the input reads as it did. -/
def shareLeftUptoRow : OpenClaim := { program := "ytejbeeaomokjpaa", sum := "de8169f09dfd9ea18a1b852570b8b6e3bfdba9d8701ca5733635bde1e2d229bd", func := "mortise/mortiselaw22.ShareLeft", spec := "shareLeft", unfollowed := true, recurses := true, plainKeys := false, apart := false, narrowed := true }
def ShareLeftUptoSaid : Prop := shareLeftUptoRow.holds Try.pinned (OpenSpec.upto shareLeftSpec)

/-- 'mortiselaw22.ShareTwice', WHERE WHAT IT READS IS OF BULK AT MOST 1048576: true; the input reads as it did. -/
def shareTwiceUptoRow : OpenClaim := { program := "ytejbeeaomokjpaa", sum := "de8169f09dfd9ea18a1b852570b8b6e3bfdba9d8701ca5733635bde1e2d229bd", func := "mortise/mortiselaw22.ShareTwice", spec := "shareTwice", unfollowed := true, recurses := true, plainKeys := false, apart := false, narrowed := true }
def ShareTwiceUptoSaid : Prop := shareTwiceUptoRow.holds Try.pinned (OpenSpec.upto shareTwiceSpec)

/-- 'mortiselaw21.FoldShapes', WHERE WHAT IT READS IS OF BULK AT MOST 1048576: true; the input reads as it did. -/
def foldShapesUptoRow : OpenClaim := { program := "ytejbeeaomokjpaa", sum := "de8169f09dfd9ea18a1b852570b8b6e3bfdba9d8701ca5733635bde1e2d229bd", func := "mortise/mortiselaw21.FoldShapes", spec := "foldShapes", unfollowed := true, recurses := true, plainKeys := false, apart := false, narrowed := true }
def FoldShapesUptoSaid : Prop := foldShapesUptoRow.holds Try.pinned (OpenSpec.upto foldShapesSpec)

/-- 'mortiselaw21.FoldLeft', WHERE WHAT IT READS IS OF BULK AT MOST 1048576: true; the input reads as it did. -/
def foldLeftUptoRow : OpenClaim := { program := "ytejbeeaomokjpaa", sum := "de8169f09dfd9ea18a1b852570b8b6e3bfdba9d8701ca5733635bde1e2d229bd", func := "mortise/mortiselaw21.FoldLeft", spec := "foldLeft", unfollowed := true, recurses := true, plainKeys := false, apart := false, narrowed := true }
def FoldLeftUptoSaid : Prop := foldLeftUptoRow.holds Try.pinned (OpenSpec.upto foldLeftSpec)

/-- 'mortiselaw21.FoldTwice', WHERE WHAT IT READS IS OF BULK AT MOST 1048576: true; the input reads as it did. -/
def foldTwiceUptoRow : OpenClaim := { program := "ytejbeeaomokjpaa", sum := "de8169f09dfd9ea18a1b852570b8b6e3bfdba9d8701ca5733635bde1e2d229bd", func := "mortise/mortiselaw21.FoldTwice", spec := "foldTwice", unfollowed := true, recurses := true, plainKeys := false, apart := false, narrowed := true }
def FoldTwiceUptoSaid : Prop := foldTwiceUptoRow.holds Try.pinned (OpenSpec.upto foldTwiceSpec)

/-- 'mortiselaw24.TrimShapes', WHERE WHAT IT READS IS OF BULK AT MOST 1048576: true; the input reads as it did. -/
def trimShapesUptoRow : OpenClaim := { program := "ytejbeeaomokjpaa", sum := "de8169f09dfd9ea18a1b852570b8b6e3bfdba9d8701ca5733635bde1e2d229bd", func := "mortise/mortiselaw24.TrimShapes", spec := "trimShapes", unfollowed := true, recurses := true, plainKeys := false, apart := false, narrowed := true }
def TrimShapesUptoSaid : Prop := trimShapesUptoRow.holds Try.pinned (OpenSpec.upto trimShapesSpec)

/-- 'mortiselaw24.TrimLeft', WHERE WHAT IT READS IS OF BULK AT MOST 1048576: true; the input reads as it did. -/
def trimLeftUptoRow : OpenClaim := { program := "ytejbeeaomokjpaa", sum := "de8169f09dfd9ea18a1b852570b8b6e3bfdba9d8701ca5733635bde1e2d229bd", func := "mortise/mortiselaw24.TrimLeft", spec := "trimLeft", unfollowed := true, recurses := true, plainKeys := false, apart := false, narrowed := true }
def TrimLeftUptoSaid : Prop := trimLeftUptoRow.holds Try.pinned (OpenSpec.upto trimLeftSpec)

end Rows
end Go.Proofs.Ytejbeeaomokjpaa
