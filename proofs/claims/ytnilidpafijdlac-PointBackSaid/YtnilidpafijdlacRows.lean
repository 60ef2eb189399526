/-
  No cell of these rows narrows 'for every input' (looked for: loops, veiled, ifaces, maps, wideKeys, modest, calm, conditions, laid).
  DERIVED. THE GIVEN ROWS OF THIS SEAT. 6 by the template 'for every input the law returns true; each argument reads behind the call as it read before'; 0 by the template 'total and deterministic' (their statements: YtnilidpafijdlacTotals.lean).
  GIVEN WITH THE SEED: the statements are not yours to turn. If you find one false, say at which input.
  Laid BY PROGRAM, IN A SANDBOX (cutbox-rows.mjs): the forced cells as the released guide's own fill.sh prints them over the translation b0f6306641b38e8b… (all of the seat's roots in one cut). By AI agents, Wed Nov 11 2026. No macro, syntax, notation, axiom, sorry.
-/
import Derived.Test.YtnilidpafijdlacChecked
import GoSem.Claim
import GoSem.ClaimJoined
import GoSem.ClaimMapViews
import Derived.JoinedTies
import Derived.KernelRfl
namespace Go.Proofs.Ytnilidpafijdlac
/- THE CELL 'sum', in the pinned program and in every row, IS THE sha256 OF THE DUMP (.gsa) THAT YtnilidpafijdlacProg.lean LOADS. Nothing in Lean hashes anything: it is a label: what it is worth is what the hold of that sum in a sandbox is worth. -/
noncomputable def Try.pinned : Pinned := { name := "ytnilidpafijdlac", sum := "b0f6306641b38e8b597166b12dbac7daebb4919cbb8eec6c276dc4a7df5535ea", checked := Try.checked }
namespace Rows
def none {H : Type} : Left H := { results := [], args := [] }

/-- 'patinalaw15.PatrolQueues': WHATEVER THE INPUT: true; the input reads as it did. -/
def patrolQueuesSpec : ChangeSpec := { name := "patrolQueues", fn := fun _ => fun
  | [d] => { results := [.lit (.bool true)], args := [d] }
  | _ => none }
def patrolQueuesRow : OpenClaim := { program := "ytnilidpafijdlac", sum := "b0f6306641b38e8b597166b12dbac7daebb4919cbb8eec6c276dc4a7df5535ea", func := "patina/patinalaw15.PatrolQueues", spec := "patrolQueues", apart := false }
def PatrolQueuesSaid : Prop := patrolQueuesRow.holds Try.pinned (OpenSpec.ofChange patrolQueuesSpec)

/-- ITS FALSE NEIGHBOUR: 'it returns false'. Refute it at one input. -/
def patrolQueuesWrong : ChangeSpec := { name := "patrolQueues", fn := fun _ => fun
  | [d] => { results := [.lit (.bool false)], args := [d] }
  | _ => none }
def PatrolQueuesWrongFalsely : Prop := patrolQueuesRow.holds Try.pinned (OpenSpec.ofChange patrolQueuesWrong)

/-- 'patinalaw15.PatrolPlays': WHATEVER THE INPUT: true; the input reads as it did. -/
def patrolPlaysSpec : ChangeSpec := { name := "patrolPlays", fn := fun _ => fun
  | [d1, d2] => { results := [.lit (.bool true)], args := [d1, d2] }
  | _ => none }
def patrolPlaysRow : OpenClaim := { program := "ytnilidpafijdlac", sum := "b0f6306641b38e8b597166b12dbac7daebb4919cbb8eec6c276dc4a7df5535ea", func := "patina/patinalaw15.PatrolPlays", spec := "patrolPlays", apart := false }
def PatrolPlaysSaid : Prop := patrolPlaysRow.holds Try.pinned (OpenSpec.ofChange patrolPlaysSpec)

/-- ITS FALSE NEIGHBOUR: 'it returns false'. Refute it at one input. -/
def patrolPlaysWrong : ChangeSpec := { name := "patrolPlays", fn := fun _ => fun
  | [d1, d2] => { results := [.lit (.bool false)], args := [d1, d2] }
  | _ => none }
def PatrolPlaysWrongFalsely : Prop := patrolPlaysRow.holds Try.pinned (OpenSpec.ofChange patrolPlaysWrong)

/-- 'patinalaw09.PointReads': WHATEVER THE INPUT: true; the input reads as it did. -/
def pointReadsSpec : ChangeSpec := { name := "pointReads", fn := fun _ => fun
  | [d] => { results := [.lit (.bool true)], args := [d] }
  | _ => none }
def pointReadsRow : OpenClaim := { program := "ytnilidpafijdlac", sum := "b0f6306641b38e8b597166b12dbac7daebb4919cbb8eec6c276dc4a7df5535ea", func := "patina/patinalaw09.PointReads", spec := "pointReads", apart := false }
def PointReadsSaid : Prop := pointReadsRow.holds Try.pinned (OpenSpec.ofChange pointReadsSpec)

/-- ITS FALSE NEIGHBOUR: 'it returns false'. Refute it at one input. -/
def pointReadsWrong : ChangeSpec := { name := "pointReads", fn := fun _ => fun
  | [d] => { results := [.lit (.bool false)], args := [d] }
  | _ => none }
def PointReadsWrongFalsely : Prop := pointReadsRow.holds Try.pinned (OpenSpec.ofChange pointReadsWrong)

/-- 'patinalaw09.PointBack': WHATEVER THE INPUT: true; the input reads as it did. -/
def pointBackSpec : ChangeSpec := { name := "pointBack", fn := fun _ => fun
  | [d1, d2] => { results := [.lit (.bool true)], args := [d1, d2] }
  | _ => none }
def pointBackRow : OpenClaim := { program := "ytnilidpafijdlac", sum := "b0f6306641b38e8b597166b12dbac7daebb4919cbb8eec6c276dc4a7df5535ea", func := "patina/patinalaw09.PointBack", spec := "pointBack", apart := false }
def PointBackSaid : Prop := pointBackRow.holds Try.pinned (OpenSpec.ofChange pointBackSpec)

/-- ITS FALSE NEIGHBOUR: 'it returns false'. Refute it at one input. -/
def pointBackWrong : ChangeSpec := { name := "pointBack", fn := fun _ => fun
  | [d1, d2] => { results := [.lit (.bool false)], args := [d1, d2] }
  | _ => none }
def PointBackWrongFalsely : Prop := pointBackRow.holds Try.pinned (OpenSpec.ofChange pointBackWrong)

/-- 'patinalaw12.PmapPlays': WHATEVER THE INPUT: true; the input reads as it did. -/
def pmapPlaysSpec : ChangeSpec := { name := "pmapPlays", fn := fun _ => fun
  | [d] => { results := [.lit (.bool true)], args := [d] }
  | _ => none }
def pmapPlaysRow : OpenClaim := { program := "ytnilidpafijdlac", sum := "b0f6306641b38e8b597166b12dbac7daebb4919cbb8eec6c276dc4a7df5535ea", func := "patina/patinalaw12.PmapPlays", spec := "pmapPlays", apart := false }
def PmapPlaysSaid : Prop := pmapPlaysRow.holds Try.pinned (OpenSpec.ofChange pmapPlaysSpec)

/-- ITS FALSE NEIGHBOUR: 'it returns false'. Refute it at one input. -/
def pmapPlaysWrong : ChangeSpec := { name := "pmapPlays", fn := fun _ => fun
  | [d] => { results := [.lit (.bool false)], args := [d] }
  | _ => none }
def PmapPlaysWrongFalsely : Prop := pmapPlaysRow.holds Try.pinned (OpenSpec.ofChange pmapPlaysWrong)

/-- 'patinalaw12.PmapKeeps': WHATEVER THE INPUT: true; the input reads as it did. -/
def pmapKeepsSpec : ChangeSpec := { name := "pmapKeeps", fn := fun _ => fun
  | [d] => { results := [.lit (.bool true)], args := [d] }
  | _ => none }
def pmapKeepsRow : OpenClaim := { program := "ytnilidpafijdlac", sum := "b0f6306641b38e8b597166b12dbac7daebb4919cbb8eec6c276dc4a7df5535ea", func := "patina/patinalaw12.PmapKeeps", spec := "pmapKeeps", apart := false }
def PmapKeepsSaid : Prop := pmapKeepsRow.holds Try.pinned (OpenSpec.ofChange pmapKeepsSpec)

/-- ITS FALSE NEIGHBOUR: 'it returns false'. Refute it at one input. -/
def pmapKeepsWrong : ChangeSpec := { name := "pmapKeeps", fn := fun _ => fun
  | [d] => { results := [.lit (.bool false)], args := [d] }
  | _ => none }
def PmapKeepsWrongFalsely : Prop := pmapKeepsRow.holds Try.pinned (OpenSpec.ofChange pmapKeepsWrong)

/- THE SECOND FORM. 'bulk': how many values and letters a reading holds, each counted each time it is reached (what is shared counts as often as it is met; a slice's spare places count too). A statement '..UptoSaid' is the law's where the arguments, and the package variables that the reading takes, are together of bulk at most 1048576: NARROWER than '..Said'. Prove '..Said' where nothing that the law and all that it calls make is longer than what came in: it says more and counts as full. Else prove '..UptoSaid'. A law counts once. -/
mutual
def uptoBulk {H : Type} : DataW H → Nat
  | .lit (.string bytes) => bytes.length + 1
  | .lit _ => 1
  | .nil => 1
  | .ptr d => uptoBulk d + 1
  | .slice elems spare => uptoBulkAll elems + uptoBulkAll spare + 1
  | .agg parts => uptoBulkAll parts + 1
  | .iface _ d => uptoBulk d + 1
  | .map entries => uptoBulkEntries entries + 1
  | .held _ => 1
def uptoBulkAll {H : Type} : List (DataW H) → Nat
  | [] => 0
  | d :: r => uptoBulk d + uptoBulkAll r
def uptoBulkEntries {H : Type} : List (Lit × DataW H) → Nat
  | [] => 0
  | x :: r => uptoBulkEntry x + uptoBulkEntries r
def uptoBulkEntry {H : Type} : Lit × DataW H → Nat
  | (.string bytes, d) => bytes.length + uptoBulk d + 1
  | (_, d) => uptoBulk d + 1
 end
def uptoSmall : (H : Type) → List (DataW H) → Bool := fun _ ds => decide (uptoBulkAll ds ≤ 1048576)
def OpenSpec.upto (s : _root_.Go.ChangeSpec) : _root_.Go.OpenSpec := { _root_.Go.OpenSpec.ofChange s with cond := some uptoSmall }

/-- 'patinalaw15.PatrolQueues', WHERE WHAT IT READS IS OF BULK AT MOST 1048576: true; the input reads as it did. -/
def patrolQueuesUptoRow : OpenClaim := { program := "ytnilidpafijdlac", sum := "b0f6306641b38e8b597166b12dbac7daebb4919cbb8eec6c276dc4a7df5535ea", func := "patina/patinalaw15.PatrolQueues", spec := "patrolQueues", apart := false, narrowed := true }
def PatrolQueuesUptoSaid : Prop := patrolQueuesUptoRow.holds Try.pinned (OpenSpec.upto patrolQueuesSpec)

/-- 'patinalaw15.PatrolPlays', WHERE WHAT IT READS IS OF BULK AT MOST 1048576: true; the input reads as it did. -/
def patrolPlaysUptoRow : OpenClaim := { program := "ytnilidpafijdlac", sum := "b0f6306641b38e8b597166b12dbac7daebb4919cbb8eec6c276dc4a7df5535ea", func := "patina/patinalaw15.PatrolPlays", spec := "patrolPlays", apart := false, narrowed := true }
def PatrolPlaysUptoSaid : Prop := patrolPlaysUptoRow.holds Try.pinned (OpenSpec.upto patrolPlaysSpec)

/-- 'patinalaw09.PointReads', WHERE WHAT IT READS IS OF BULK AT MOST 1048576: true; the input reads as it did. -/
def pointReadsUptoRow : OpenClaim := { program := "ytnilidpafijdlac", sum := "b0f6306641b38e8b597166b12dbac7daebb4919cbb8eec6c276dc4a7df5535ea", func := "patina/patinalaw09.PointReads", spec := "pointReads", apart := false, narrowed := true }
def PointReadsUptoSaid : Prop := pointReadsUptoRow.holds Try.pinned (OpenSpec.upto pointReadsSpec)

/-- 'patinalaw09.PointBack', WHERE WHAT IT READS IS OF BULK AT MOST 1048576: true; the input reads as it did. -/
def pointBackUptoRow : OpenClaim := { program := "ytnilidpafijdlac", sum := "b0f6306641b38e8b597166b12dbac7daebb4919cbb8eec6c276dc4a7df5535ea", func := "patina/patinalaw09.PointBack", spec := "pointBack", apart := false, narrowed := true }
def PointBackUptoSaid : Prop := pointBackUptoRow.holds Try.pinned (OpenSpec.upto pointBackSpec)

/-- 'patinalaw12.PmapPlays', WHERE WHAT IT READS IS OF BULK AT MOST 1048576: true; the input reads as it did. -/
def pmapPlaysUptoRow : OpenClaim := { program := "ytnilidpafijdlac", sum := "b0f6306641b38e8b597166b12dbac7daebb4919cbb8eec6c276dc4a7df5535ea", func := "patina/patinalaw12.PmapPlays", spec := "pmapPlays", apart := false, narrowed := true }
def PmapPlaysUptoSaid : Prop := pmapPlaysUptoRow.holds Try.pinned (OpenSpec.upto pmapPlaysSpec)

/-- 'patinalaw12.PmapKeeps', WHERE WHAT IT READS IS OF BULK AT MOST 1048576: true; the input reads as it did. -/
def pmapKeepsUptoRow : OpenClaim := { program := "ytnilidpafijdlac", sum := "b0f6306641b38e8b597166b12dbac7daebb4919cbb8eec6c276dc4a7df5535ea", func := "patina/patinalaw12.PmapKeeps", spec := "pmapKeeps", apart := false, narrowed := true }
def PmapKeepsUptoSaid : Prop := pmapKeepsUptoRow.holds Try.pinned (OpenSpec.upto pmapKeepsSpec)

end Rows
end Go.Proofs.Ytnilidpafijdlac
