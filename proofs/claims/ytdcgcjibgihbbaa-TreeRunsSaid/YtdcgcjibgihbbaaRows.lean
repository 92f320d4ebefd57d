/-
  NARROWER THAN 'FOR EVERY INPUT', by the rows' own cells (each row's printed sentence says how): TreeValids: loops · TreeRuns: loops · TreeSmalls: loops · TreeMore: loops · TreeWeak: loops.
  DERIVED. THE GIVEN ROWS OF THIS SEAT. 6 by the template 'for every input the law returns true; each argument reads behind the call as it read before'; 0 by the template 'total and deterministic' (their statements: YtdcgcjibgihbbaaTotals.lean).
  GIVEN WITH THE SEED: the statements are not yours to turn. If you find one false, say at which input.
  Laid BY PROGRAM, IN A SANDBOX (cutbox-rows.mjs): the forced cells as the released guide's own fill.sh prints them over the translation 2637d89476817afc… (all of the seat's roots in one cut). By AI agents, Wed Nov 11 2026. No macro, syntax, notation, axiom, sorry.
-/
import Derived.Test.YtdcgcjibgihbbaaChecked
import GoSem.Claim
import GoSem.ClaimJoined
import GoSem.ClaimMapViews
import Derived.JoinedTies
import Derived.KernelRfl
namespace Go.Proofs.Ytdcgcjibgihbbaa
/- THE CELL 'sum', in the pinned program and in every row, IS THE sha256 OF THE DUMP (.gsa) THAT YtdcgcjibgihbbaaProg.lean LOADS. Nothing in Lean hashes anything: it is a label: what it is worth is what the hold of that sum in a sandbox is worth. -/
noncomputable def Try.pinned : Pinned := { name := "ytdcgcjibgihbbaa", sum := "2637d89476817afc89189a6b9d15d655cd14145e4425956efa3bc8d1ac323dc1", checked := Try.checked }
namespace Rows
def none {H : Type} : Left H := { results := [], args := [] }

/-- 'mortiselaw15.TreeValids': WHATEVER THE INPUT: true; the input reads as it did. -/
def treeValidsSpec : ChangeSpec := { name := "treeValids", fn := fun _ => fun
  | [d] => { results := [.lit (.bool true)], args := [d] }
  | _ => none }
def treeValidsRow : OpenClaim := { program := "ytdcgcjibgihbbaa", sum := "2637d89476817afc89189a6b9d15d655cd14145e4425956efa3bc8d1ac323dc1", func := "mortise/mortiselaw15.TreeValids", spec := "treeValids", unfollowed := true, recurses := true, loops := true, apart := false }
def TreeValidsSaid : Prop := treeValidsRow.holds Try.pinned (OpenSpec.ofChange treeValidsSpec)

/-- ITS FALSE NEIGHBOUR: 'it returns false'. Refute it at one input. -/
def treeValidsWrong : ChangeSpec := { name := "treeValids", fn := fun _ => fun
  | [d] => { results := [.lit (.bool false)], args := [d] }
  | _ => none }
def TreeValidsWrongFalsely : Prop := treeValidsRow.holds Try.pinned (OpenSpec.ofChange treeValidsWrong)

/-- 'mortiselaw15.TreeRuns': WHATEVER THE INPUT: true; the input reads as it did. -/
def treeRunsSpec : ChangeSpec := { name := "treeRuns", fn := fun _ => fun
  | [d1, d2, d3, d4, d5] => { results := [.lit (.bool true)], args := [d1, d2, d3, d4, d5] }
  | _ => none }
def treeRunsRow : OpenClaim := { program := "ytdcgcjibgihbbaa", sum := "2637d89476817afc89189a6b9d15d655cd14145e4425956efa3bc8d1ac323dc1", func := "mortise/mortiselaw15.TreeRuns", spec := "treeRuns", unfollowed := true, recurses := true, loops := true, apart := false }
def TreeRunsSaid : Prop := treeRunsRow.holds Try.pinned (OpenSpec.ofChange treeRunsSpec)

/-- ITS FALSE NEIGHBOUR: 'it returns false'. Refute it at one input. -/
def treeRunsWrong : ChangeSpec := { name := "treeRuns", fn := fun _ => fun
  | [d1, d2, d3, d4, d5] => { results := [.lit (.bool false)], args := [d1, d2, d3, d4, d5] }
  | _ => none }
def TreeRunsWrongFalsely : Prop := treeRunsRow.holds Try.pinned (OpenSpec.ofChange treeRunsWrong)

/-- 'mortiselaw15.TreeSmalls': WHATEVER THE INPUT: true; the input reads as it did. -/
def treeSmallsSpec : ChangeSpec := { name := "treeSmalls", fn := fun _ => fun
  | [d] => { results := [.lit (.bool true)], args := [d] }
  | _ => none }
def treeSmallsRow : OpenClaim := { program := "ytdcgcjibgihbbaa", sum := "2637d89476817afc89189a6b9d15d655cd14145e4425956efa3bc8d1ac323dc1", func := "mortise/mortiselaw15.TreeSmalls", spec := "treeSmalls", unfollowed := true, recurses := true, loops := true, apart := false }
def TreeSmallsSaid : Prop := treeSmallsRow.holds Try.pinned (OpenSpec.ofChange treeSmallsSpec)

/-- ITS FALSE NEIGHBOUR: 'it returns false'. Refute it at one input. -/
def treeSmallsWrong : ChangeSpec := { name := "treeSmalls", fn := fun _ => fun
  | [d] => { results := [.lit (.bool false)], args := [d] }
  | _ => none }
def TreeSmallsWrongFalsely : Prop := treeSmallsRow.holds Try.pinned (OpenSpec.ofChange treeSmallsWrong)

/-- 'mortiselaw15.TreeMore': WHATEVER THE INPUT: true; the input reads as it did. -/
def treeMoreSpec : ChangeSpec := { name := "treeMore", fn := fun _ => fun
  | [d1, d2, d3, d4, d5, d6] => { results := [.lit (.bool true)], args := [d1, d2, d3, d4, d5, d6] }
  | _ => none }
def treeMoreRow : OpenClaim := { program := "ytdcgcjibgihbbaa", sum := "2637d89476817afc89189a6b9d15d655cd14145e4425956efa3bc8d1ac323dc1", func := "mortise/mortiselaw15.TreeMore", spec := "treeMore", unfollowed := true, recurses := true, loops := true, apart := false }
def TreeMoreSaid : Prop := treeMoreRow.holds Try.pinned (OpenSpec.ofChange treeMoreSpec)

/-- ITS FALSE NEIGHBOUR: 'it returns false'. Refute it at one input. -/
def treeMoreWrong : ChangeSpec := { name := "treeMore", fn := fun _ => fun
  | [d1, d2, d3, d4, d5, d6] => { results := [.lit (.bool false)], args := [d1, d2, d3, d4, d5, d6] }
  | _ => none }
def TreeMoreWrongFalsely : Prop := treeMoreRow.holds Try.pinned (OpenSpec.ofChange treeMoreWrong)

/-- 'mortiselaw15.TreeWeak': WHATEVER THE INPUT: true; the input reads as it did. -/
def treeWeakSpec : ChangeSpec := { name := "treeWeak", fn := fun _ => fun
  | [d1, d2, d3, d4, d5] => { results := [.lit (.bool true)], args := [d1, d2, d3, d4, d5] }
  | _ => none }
def treeWeakRow : OpenClaim := { program := "ytdcgcjibgihbbaa", sum := "2637d89476817afc89189a6b9d15d655cd14145e4425956efa3bc8d1ac323dc1", func := "mortise/mortiselaw15.TreeWeak", spec := "treeWeak", unfollowed := true, recurses := true, loops := true, apart := false }
def TreeWeakSaid : Prop := treeWeakRow.holds Try.pinned (OpenSpec.ofChange treeWeakSpec)

/-- ITS FALSE NEIGHBOUR: 'it returns false'. Refute it at one input. -/
def treeWeakWrong : ChangeSpec := { name := "treeWeak", fn := fun _ => fun
  | [d1, d2, d3, d4, d5] => { results := [.lit (.bool false)], args := [d1, d2, d3, d4, d5] }
  | _ => none }
def TreeWeakWrongFalsely : Prop := treeWeakRow.holds Try.pinned (OpenSpec.ofChange treeWeakWrong)

/-- 'mortiselaw15.TreeCounts': WHATEVER THE INPUT: true; the input reads as it did. -/
def treeCountsSpec : ChangeSpec := { name := "treeCounts", fn := fun _ => fun
  | [d] => { results := [.lit (.bool true)], args := [d] }
  | _ => none }
def treeCountsRow : OpenClaim := { program := "ytdcgcjibgihbbaa", sum := "2637d89476817afc89189a6b9d15d655cd14145e4425956efa3bc8d1ac323dc1", func := "mortise/mortiselaw15.TreeCounts", spec := "treeCounts", unfollowed := true, recurses := true, apart := false }
def TreeCountsSaid : Prop := treeCountsRow.holds Try.pinned (OpenSpec.ofChange treeCountsSpec)

/-- ITS FALSE NEIGHBOUR: 'it returns false'. Refute it at one input. -/
def treeCountsWrong : ChangeSpec := { name := "treeCounts", fn := fun _ => fun
  | [d] => { results := [.lit (.bool false)], args := [d] }
  | _ => none }
def TreeCountsWrongFalsely : Prop := treeCountsRow.holds Try.pinned (OpenSpec.ofChange treeCountsWrong)

/- THE SECOND FORM. 'bulk': how many values and letters a reading holds, each counted each time it is reached (what is shared counts as often as it is met; a slice's spare places count too). A statement '..UptoSaid' is the law's where the arguments, and the package variables that the reading takes, are together of bulk at most 1048576: NARROWER than '..Said'. Prove '..Said' where nothing that the law and all that it calls make is longer than what came in: it says more and counts as full. Else prove '..UptoSaid'. A law counts once. -/
mutual
def uptoBulk {H : Type} : DataW H → Nat
  | .lit (.string bytes) => bytes.length + 1
  | .lit _ => 1
  | .nil => 1
  | .ptr d => uptoBulk d + 1
  | .slice elems spare => uptoBulkAll elems + uptoBulkAll spare + 1
  | .agg parts => uptoBulkAll parts + 1
  | .iface _ d => uptoBulk d + 1
  | .map entries => uptoBulkEntries entries + 1
  | .held _ => 1
def uptoBulkAll {H : Type} : List (DataW H) → Nat
  | [] => 0
  | d :: r => uptoBulk d + uptoBulkAll r
def uptoBulkEntries {H : Type} : List (Lit × DataW H) → Nat
  | [] => 0
  | x :: r => uptoBulkEntry x + uptoBulkEntries r
def uptoBulkEntry {H : Type} : Lit × DataW H → Nat
  | (.string bytes, d) => bytes.length + uptoBulk d + 1
  | (_, d) => uptoBulk d + 1
 end
def uptoSmall : (H : Type) → List (DataW H) → Bool := fun _ ds => decide (uptoBulkAll ds ≤ 1048576)
def OpenSpec.upto (s : _root_.Go.ChangeSpec) : _root_.Go.OpenSpec := { _root_.Go.OpenSpec.ofChange s with cond := some uptoSmall }

/-- 'mortiselaw15.TreeValids', WHERE WHAT IT READS IS OF BULK AT MOST 1048576: true; the input reads as it did. -/
def treeValidsUptoRow : OpenClaim := { program := "ytdcgcjibgihbbaa", sum := "2637d89476817afc89189a6b9d15d655cd14145e4425956efa3bc8d1ac323dc1", func := "mortise/mortiselaw15.TreeValids", spec := "treeValids", unfollowed := true, recurses := true, loops := true, apart := false, narrowed := true }
def TreeValidsUptoSaid : Prop := treeValidsUptoRow.holds Try.pinned (OpenSpec.upto treeValidsSpec)

/-- 'mortiselaw15.TreeRuns', WHERE WHAT IT READS IS OF BULK AT MOST 1048576: true; the input reads as it did. -/
def treeRunsUptoRow : OpenClaim := { program := "ytdcgcjibgihbbaa", sum := "2637d89476817afc89189a6b9d15d655cd14145e4425956efa3bc8d1ac323dc1", func := "mortise/mortiselaw15.TreeRuns", spec := "treeRuns", unfollowed := true, recurses := true, loops := true, apart := false, narrowed := true }
def TreeRunsUptoSaid : Prop := treeRunsUptoRow.holds Try.pinned (OpenSpec.upto treeRunsSpec)

/-- 'mortiselaw15.TreeSmalls', WHERE WHAT IT READS IS OF BULK AT MOST 1048576: true; the input reads as it did. -/
def treeSmallsUptoRow : OpenClaim := { program := "ytdcgcjibgihbbaa", sum := "2637d89476817afc89189a6b9d15d655cd14145e4425956efa3bc8d1ac323dc1", func := "mortise/mortiselaw15.TreeSmalls", spec := "treeSmalls", unfollowed := true, recurses := true, loops := true, apart := false, narrowed := true }
def TreeSmallsUptoSaid : Prop := treeSmallsUptoRow.holds Try.pinned (OpenSpec.upto treeSmallsSpec)

/-- 'mortiselaw15.TreeMore', WHERE WHAT IT READS IS OF BULK AT MOST 1048576: true; the input reads as it did. -/
def treeMoreUptoRow : OpenClaim := { program := "ytdcgcjibgihbbaa", sum := "2637d89476817afc89189a6b9d15d655cd14145e4425956efa3bc8d1ac323dc1", func := "mortise/mortiselaw15.TreeMore", spec := "treeMore", unfollowed := true, recurses := true, loops := true, apart := false, narrowed := true }
def TreeMoreUptoSaid : Prop := treeMoreUptoRow.holds Try.pinned (OpenSpec.upto treeMoreSpec)

/-- 'mortiselaw15.TreeWeak', WHERE WHAT IT READS IS OF BULK AT MOST 1048576: true; the input reads as it did. -/
def treeWeakUptoRow : OpenClaim := { program := "ytdcgcjibgihbbaa", sum := "2637d89476817afc89189a6b9d15d655cd14145e4425956efa3bc8d1ac323dc1", func := "mortise/mortiselaw15.TreeWeak", spec := "treeWeak", unfollowed := true, recurses := true, loops := true, apart := false, narrowed := true }
def TreeWeakUptoSaid : Prop := treeWeakUptoRow.holds Try.pinned (OpenSpec.upto treeWeakSpec)

/-- 'mortiselaw15.TreeCounts', WHERE WHAT IT READS IS OF BULK AT MOST 1048576: true; the input reads as it did. -/
def treeCountsUptoRow : OpenClaim := { program := "ytdcgcjibgihbbaa", sum := "2637d89476817afc89189a6b9d15d655cd14145e4425956efa3bc8d1ac323dc1", func := "mortise/mortiselaw15.TreeCounts", spec := "treeCounts", unfollowed := true, recurses := true, apart := false, narrowed := true }
def TreeCountsUptoSaid : Prop := treeCountsUptoRow.holds Try.pinned (OpenSpec.upto treeCountsSpec)

end Rows
end Go.Proofs.Ytdcgcjibgihbbaa
