/-
  No cell of these rows narrows 'for every input' (looked for: loops, veiled, ifaces, maps, wideKeys, modest, calm, conditions, laid).
  DERIVED. THE GIVEN ROWS OF THIS SEAT. 4 by the template 'for every input the law returns true; each argument reads behind the call as it read before'; 0 by the template 'total and deterministic' (their statements: YtejbeeaomokjpaaGreatTotals.lean).
  GIVEN WITH THE SEED: the statements are not yours to turn. If you find one false, say at which input.
  Laid BY PROGRAM, IN A SANDBOX (cutbox-rows.mjs): the forced cells as the released guide's own fill.sh prints them over the translation a29ade2e89044334… (all of the seat's roots in one cut). By AI agents, Wed Nov 11 2026. No macro, syntax, notation, axiom, sorry.
-/
import Derived.Test.YtejbeeaomokjpaaGreatChecked
import GoSem.Claim
import GoSem.ClaimJoined
import GoSem.ClaimMapViews
import Derived.JoinedTies
import Derived.KernelRfl
namespace Go.Proofs.YtejbeeaomokjpaaGreat
/- THE CELL 'sum', in the pinned program and in every row, IS THE sha256 OF THE DUMP (.gsa) THAT YtejbeeaomokjpaaGreatProg.lean LOADS. Nothing in Lean hashes anything: it is a label: what it is worth is what the hold of that sum in a sandbox is worth. -/
noncomputable def Tryz.pinned : Pinned := { name := "ytejbeeaomokjpaagreat", sum := "a29ade2e890443347db3b54a584833ad4f7815e61c2937d2063112f9717e5885", checked := Tryz.checked }
namespace Rows
def none {H : Type} : Left H := { results := [], args := [] }

/-- 'mortiselaw24.TrimKeeps': WHATEVER THE INPUT: true; the input reads as it did. -/
def trimKeepsSpec : ChangeSpec := { name := "trimKeeps", fn := fun _ => fun
  | [d1, d2, d3, d4] => { results := [.lit (.bool true)], args := [d1, d2, d3, d4] }
  | _ => none }
def trimKeepsRow : OpenClaim := { program := "ytejbeeaomokjpaagreat", sum := "a29ade2e890443347db3b54a584833ad4f7815e61c2937d2063112f9717e5885", func := "mortise/mortiselaw24.TrimKeeps", spec := "trimKeeps", unfollowed := true, recurses := true, plainKeys := false, apart := false }
def TrimKeepsSaid : Prop := trimKeepsRow.holds Tryz.pinned (OpenSpec.ofChange trimKeepsSpec)

/-- ITS FALSE NEIGHBOUR: 'it returns false'. Refute it at one input. -/
def trimKeepsWrong : ChangeSpec := { name := "trimKeeps", fn := fun _ => fun
  | [d1, d2, d3, d4] => { results := [.lit (.bool false)], args := [d1, d2, d3, d4] }
  | _ => none }
def TrimKeepsWrongFalsely : Prop := trimKeepsRow.holds Tryz.pinned (OpenSpec.ofChange trimKeepsWrong)

/-- 'mortiselaw23.DeadKeeps': WHATEVER THE INPUT: true; the input reads as it did. -/
def deadKeepsSpec : ChangeSpec := { name := "deadKeeps", fn := fun _ => fun
  | [d1, d2, d3, d4] => { results := [.lit (.bool true)], args := [d1, d2, d3, d4] }
  | _ => none }
def deadKeepsRow : OpenClaim := { program := "ytejbeeaomokjpaagreat", sum := "a29ade2e890443347db3b54a584833ad4f7815e61c2937d2063112f9717e5885", func := "mortise/mortiselaw23.DeadKeeps", spec := "deadKeeps", unfollowed := true, recurses := true, plainKeys := false, apart := false }
def DeadKeepsSaid : Prop := deadKeepsRow.holds Tryz.pinned (OpenSpec.ofChange deadKeepsSpec)

/-- ITS FALSE NEIGHBOUR: 'it returns false'. Refute it at one input. -/
def deadKeepsWrong : ChangeSpec := { name := "deadKeeps", fn := fun _ => fun
  | [d1, d2, d3, d4] => { results := [.lit (.bool false)], args := [d1, d2, d3, d4] }
  | _ => none }
def DeadKeepsWrongFalsely : Prop := deadKeepsRow.holds Tryz.pinned (OpenSpec.ofChange deadKeepsWrong)

/-- 'mortiselaw22.ShareKeeps': WHATEVER THE INPUT: true; the input reads as it did. -/
def shareKeepsSpec : ChangeSpec := { name := "shareKeeps", fn := fun _ => fun
  | [d1, d2, d3, d4] => { results := [.lit (.bool true)], args := [d1, d2, d3, d4] }
  | _ => none }
def shareKeepsRow : OpenClaim := { program := "ytejbeeaomokjpaagreat", sum := "a29ade2e890443347db3b54a584833ad4f7815e61c2937d2063112f9717e5885", func := "mortise/mortiselaw22.ShareKeeps", spec := "shareKeeps", unfollowed := true, recurses := true, plainKeys := false, apart := false }
def ShareKeepsSaid : Prop := shareKeepsRow.holds Tryz.pinned (OpenSpec.ofChange shareKeepsSpec)

/-- ITS FALSE NEIGHBOUR: 'it returns false'. Refute it at one input. -/
def shareKeepsWrong : ChangeSpec := { name := "shareKeeps", fn := fun _ => fun
  | [d1, d2, d3, d4] => { results := [.lit (.bool false)], args := [d1, d2, d3, d4] }
  | _ => none }
def ShareKeepsWrongFalsely : Prop := shareKeepsRow.holds Tryz.pinned (OpenSpec.ofChange shareKeepsWrong)

/-- 'mortiselaw21.FoldKeeps': WHATEVER THE INPUT: true; the input reads as it did. -/
def foldKeepsSpec : ChangeSpec := { name := "foldKeeps", fn := fun _ => fun
  | [d1, d2, d3, d4] => { results := [.lit (.bool true)], args := [d1, d2, d3, d4] }
  | _ => none }
def foldKeepsRow : OpenClaim := { program := "ytejbeeaomokjpaagreat", sum := "a29ade2e890443347db3b54a584833ad4f7815e61c2937d2063112f9717e5885", func := "mortise/mortiselaw21.FoldKeeps", spec := "foldKeeps", unfollowed := true, recurses := true, plainKeys := false, apart := false }
def FoldKeepsSaid : Prop := foldKeepsRow.holds Tryz.pinned (OpenSpec.ofChange foldKeepsSpec)

/-- ITS FALSE NEIGHBOUR: 'it returns false'. Refute it at one input. -/
def foldKeepsWrong : ChangeSpec := { name := "foldKeeps", fn := fun _ => fun
  | [d1, d2, d3, d4] => { results := [.lit (.bool false)], args := [d1, d2, d3, d4] }
  | _ => none }
def FoldKeepsWrongFalsely : Prop := foldKeepsRow.holds Tryz.pinned (OpenSpec.ofChange foldKeepsWrong)

/- THE SECOND FORM. 'bulk': how many values and letters a reading holds, each counted each time it is reached (what is shared counts as often as it is met; a slice's spare places count too). A statement '..UptoSaid' is the law's where the arguments, and the package variables that the reading takes, are together of bulk at most 1048576: NARROWER than '..Said'. Prove '..Said' where nothing that the law and all that it calls make is longer than what came in: it says more and counts as full. Else prove '..UptoSaid'. A law counts once. -/
mutual
def uptoBulk {H : Type} : DataW H → Nat
  | .lit (.string bytes) => bytes.length + 1
  | .lit _ => 1
  | .nil => 1
  | .ptr d => uptoBulk d + 1
  | .slice elems spare => uptoBulkAll elems + uptoBulkAll spare + 1
  | .agg parts => uptoBulkAll parts + 1
  | .iface _ d => uptoBulk d + 1
  | .map entries => uptoBulkEntries entries + 1
  | .held _ => 1
def uptoBulkAll {H : Type} : List (DataW H) → Nat
  | [] => 0
  | d :: r => uptoBulk d + uptoBulkAll r
def uptoBulkEntries {H : Type} : List (Lit × DataW H) → Nat
  | [] => 0
  | x :: r => uptoBulkEntry x + uptoBulkEntries r
def uptoBulkEntry {H : Type} : Lit × DataW H → Nat
  | (.string bytes, d) => bytes.length + uptoBulk d + 1
  | (_, d) => uptoBulk d + 1
 end
def uptoSmall : (H : Type) → List (DataW H) → Bool := fun _ ds => decide (uptoBulkAll ds ≤ 1048576)
def OpenSpec.upto (s : _root_.Go.ChangeSpec) : _root_.Go.OpenSpec := { _root_.Go.OpenSpec.ofChange s with cond := some uptoSmall }

/-- 'mortiselaw24.TrimKeeps', WHERE WHAT IT READS IS OF BULK AT MOST 1048576: true; the input reads as it did. -/
def trimKeepsUptoRow : OpenClaim := { program := "ytejbeeaomokjpaagreat", sum := "a29ade2e890443347db3b54a584833ad4f7815e61c2937d2063112f9717e5885", func := "mortise/mortiselaw24.TrimKeeps", spec := "trimKeeps", unfollowed := true, recurses := true, plainKeys := false, apart := false, narrowed := true }
def TrimKeepsUptoSaid : Prop := trimKeepsUptoRow.holds Tryz.pinned (OpenSpec.upto trimKeepsSpec)

/-- 'mortiselaw23.DeadKeeps', WHERE WHAT IT READS IS OF BULK AT MOST 1048576: true; the input reads as it did. -/
def deadKeepsUptoRow : OpenClaim := { program := "ytejbeeaomokjpaagreat", sum := "a29ade2e890443347db3b54a584833ad4f7815e61c2937d2063112f9717e5885", func := "mortise/mortiselaw23.DeadKeeps", spec := "deadKeeps", unfollowed := true, recurses := true, plainKeys := false, apart := false, narrowed := true }
def DeadKeepsUptoSaid : Prop := deadKeepsUptoRow.holds Tryz.pinned (OpenSpec.upto deadKeepsSpec)

/-- 'mortiselaw22.ShareKeeps', WHERE WHAT IT READS IS OF BULK AT MOST 1048576: true; the input reads as it did. -/
def shareKeepsUptoRow : OpenClaim := { program := "ytejbeeaomokjpaagreat", sum := "a29ade2e890443347db3b54a584833ad4f7815e61c2937d2063112f9717e5885", func := "mortise/mortiselaw22.ShareKeeps", spec := "shareKeeps", unfollowed := true, recurses := true, plainKeys := false, apart := false, narrowed := true }
def ShareKeepsUptoSaid : Prop := shareKeepsUptoRow.holds Tryz.pinned (OpenSpec.upto shareKeepsSpec)

/-- 'mortiselaw21.FoldKeeps', WHERE WHAT IT READS IS OF BULK AT MOST 1048576: true; the input reads as it did. -/
def foldKeepsUptoRow : OpenClaim := { program := "ytejbeeaomokjpaagreat", sum := "a29ade2e890443347db3b54a584833ad4f7815e61c2937d2063112f9717e5885", func := "mortise/mortiselaw21.FoldKeeps", spec := "foldKeeps", unfollowed := true, recurses := true, plainKeys := false, apart := false, narrowed := true }
def FoldKeepsUptoSaid : Prop := foldKeepsUptoRow.holds Tryz.pinned (OpenSpec.upto foldKeepsSpec)

end Rows
end Go.Proofs.YtejbeeaomokjpaaGreat
