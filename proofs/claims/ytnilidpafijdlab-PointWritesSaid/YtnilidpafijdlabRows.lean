/-
  No cell of these rows narrows 'for every input' (looked for: loops, veiled, ifaces, maps, wideKeys, modest, calm, conditions, laid).
  DERIVED. THE GIVEN ROWS OF THIS SEAT. 6 by the template 'for every input the law returns true; each argument reads behind the call as it read before'; 0 by the template 'total and deterministic' (their statements: YtnilidpafijdlabTotals.lean).
  GIVEN WITH THE SEED: the statements are not yours to turn. If you find one false, say at which input.
  Laid BY PROGRAM, IN A SANDBOX (cutbox-rows.mjs): the forced cells as the released guide's own fill.sh prints them over the translation b60694d671530991… (all of the seat's roots in one cut). By AI agents, Wed Nov 11 2026. No macro, syntax, notation, axiom, sorry.
-/
import Derived.Test.YtnilidpafijdlabChecked
import GoSem.Claim
import GoSem.ClaimJoined
import GoSem.ClaimMapViews
import Derived.JoinedTies
import Derived.KernelRfl
namespace Go.Proofs.Ytnilidpafijdlab
/- THE CELL 'sum', in the pinned program and in every row, IS THE sha256 OF THE DUMP (.gsa) THAT YtnilidpafijdlabProg.lean LOADS. Nothing in Lean hashes anything: it is a label: what it is worth is what the hold of that sum in a sandbox is worth. -/
noncomputable def Try.pinned : Pinned := { name := "ytnilidpafijdlab", sum := "b60694d67153099161c31a5c967021cff2d6c1230a9a38faa4f04bc7f8a5c19c", checked := Try.checked }
namespace Rows
def none {H : Type} : Left H := { results := [], args := [] }

/-- 'patinalaw09.PointWrites': WHATEVER THE INPUT: true; the input reads as it did. -/
def pointWritesSpec : ChangeSpec := { name := "pointWrites", fn := fun _ => fun
  | [d] => { results := [.lit (.bool true)], args := [d] }
  | _ => none }
def pointWritesRow : OpenClaim := { program := "ytnilidpafijdlab", sum := "b60694d67153099161c31a5c967021cff2d6c1230a9a38faa4f04bc7f8a5c19c", func := "patina/patinalaw09.PointWrites", spec := "pointWrites", apart := false }
def PointWritesSaid : Prop := pointWritesRow.holds Try.pinned (OpenSpec.ofChange pointWritesSpec)

/-- ITS FALSE NEIGHBOUR: 'it returns false'. Refute it at one input. -/
def pointWritesWrong : ChangeSpec := { name := "pointWrites", fn := fun _ => fun
  | [d] => { results := [.lit (.bool false)], args := [d] }
  | _ => none }
def PointWritesWrongFalsely : Prop := pointWritesRow.holds Try.pinned (OpenSpec.ofChange pointWritesWrong)

/-- 'patinalaw13.FrontPlays': WHATEVER THE INPUT: true; the input reads as it did. -/
def frontPlaysSpec : ChangeSpec := { name := "frontPlays", fn := fun _ => fun
  | [d] => { results := [.lit (.bool true)], args := [d] }
  | _ => none }
def frontPlaysRow : OpenClaim := { program := "ytnilidpafijdlab", sum := "b60694d67153099161c31a5c967021cff2d6c1230a9a38faa4f04bc7f8a5c19c", func := "patina/patinalaw13.FrontPlays", spec := "frontPlays", apart := false }
def FrontPlaysSaid : Prop := frontPlaysRow.holds Try.pinned (OpenSpec.ofChange frontPlaysSpec)

/-- ITS FALSE NEIGHBOUR: 'it returns false'. Refute it at one input. -/
def frontPlaysWrong : ChangeSpec := { name := "frontPlays", fn := fun _ => fun
  | [d] => { results := [.lit (.bool false)], args := [d] }
  | _ => none }
def FrontPlaysWrongFalsely : Prop := frontPlaysRow.holds Try.pinned (OpenSpec.ofChange frontPlaysWrong)

/-- 'patinalaw13.FrontFills': WHATEVER THE INPUT: true; the input reads as it did. -/
def frontFillsSpec : ChangeSpec := { name := "frontFills", fn := fun _ => fun
  | [d1, d2, d3] => { results := [.lit (.bool true)], args := [d1, d2, d3] }
  | _ => none }
def frontFillsRow : OpenClaim := { program := "ytnilidpafijdlab", sum := "b60694d67153099161c31a5c967021cff2d6c1230a9a38faa4f04bc7f8a5c19c", func := "patina/patinalaw13.FrontFills", spec := "frontFills", apart := false }
def FrontFillsSaid : Prop := frontFillsRow.holds Try.pinned (OpenSpec.ofChange frontFillsSpec)

/-- ITS FALSE NEIGHBOUR: 'it returns false'. Refute it at one input. -/
def frontFillsWrong : ChangeSpec := { name := "frontFills", fn := fun _ => fun
  | [d1, d2, d3] => { results := [.lit (.bool false)], args := [d1, d2, d3] }
  | _ => none }
def FrontFillsWrongFalsely : Prop := frontFillsRow.holds Try.pinned (OpenSpec.ofChange frontFillsWrong)

/-- 'patinalaw11.PoolKeeps': WHATEVER THE INPUT: true; the input reads as it did. -/
def poolKeepsSpec : ChangeSpec := { name := "poolKeeps", fn := fun _ => fun
  | [d] => { results := [.lit (.bool true)], args := [d] }
  | _ => none }
def poolKeepsRow : OpenClaim := { program := "ytnilidpafijdlab", sum := "b60694d67153099161c31a5c967021cff2d6c1230a9a38faa4f04bc7f8a5c19c", func := "patina/patinalaw11.PoolKeeps", spec := "poolKeeps", apart := false }
def PoolKeepsSaid : Prop := poolKeepsRow.holds Try.pinned (OpenSpec.ofChange poolKeepsSpec)

/-- ITS FALSE NEIGHBOUR: 'it returns false'. Refute it at one input. -/
def poolKeepsWrong : ChangeSpec := { name := "poolKeeps", fn := fun _ => fun
  | [d] => { results := [.lit (.bool false)], args := [d] }
  | _ => none }
def PoolKeepsWrongFalsely : Prop := poolKeepsRow.holds Try.pinned (OpenSpec.ofChange poolKeepsWrong)

/-- 'patinalaw11.PoolPlays': WHATEVER THE INPUT: true; the input reads as it did. -/
def poolPlaysSpec : ChangeSpec := { name := "poolPlays", fn := fun _ => fun
  | [d] => { results := [.lit (.bool true)], args := [d] }
  | _ => none }
def poolPlaysRow : OpenClaim := { program := "ytnilidpafijdlab", sum := "b60694d67153099161c31a5c967021cff2d6c1230a9a38faa4f04bc7f8a5c19c", func := "patina/patinalaw11.PoolPlays", spec := "poolPlays", apart := false }
def PoolPlaysSaid : Prop := poolPlaysRow.holds Try.pinned (OpenSpec.ofChange poolPlaysSpec)

/-- ITS FALSE NEIGHBOUR: 'it returns false'. Refute it at one input. -/
def poolPlaysWrong : ChangeSpec := { name := "poolPlays", fn := fun _ => fun
  | [d] => { results := [.lit (.bool false)], args := [d] }
  | _ => none }
def PoolPlaysWrongFalsely : Prop := poolPlaysRow.holds Try.pinned (OpenSpec.ofChange poolPlaysWrong)

/-- 'patinalaw15.PatrolRounds': WHATEVER THE INPUT: true; the input reads as it did. -/
def patrolRoundsSpec : ChangeSpec := { name := "patrolRounds", fn := fun _ => fun
  | [d1, d2, d3] => { results := [.lit (.bool true)], args := [d1, d2, d3] }
  | _ => none }
def patrolRoundsRow : OpenClaim := { program := "ytnilidpafijdlab", sum := "b60694d67153099161c31a5c967021cff2d6c1230a9a38faa4f04bc7f8a5c19c", func := "patina/patinalaw15.PatrolRounds", spec := "patrolRounds", apart := false }
def PatrolRoundsSaid : Prop := patrolRoundsRow.holds Try.pinned (OpenSpec.ofChange patrolRoundsSpec)

/-- ITS FALSE NEIGHBOUR: 'it returns false'. Refute it at one input. -/
def patrolRoundsWrong : ChangeSpec := { name := "patrolRounds", fn := fun _ => fun
  | [d1, d2, d3] => { results := [.lit (.bool false)], args := [d1, d2, d3] }
  | _ => none }
def PatrolRoundsWrongFalsely : Prop := patrolRoundsRow.holds Try.pinned (OpenSpec.ofChange patrolRoundsWrong)

/- THE SECOND FORM. 'bulk': how many values and letters a reading holds, each counted each time it is reached (what is shared counts as often as it is met; a slice's spare places count too). A statement '..UptoSaid' is the law's where the arguments, and the package variables that the reading takes, are together of bulk at most 1048576: NARROWER than '..Said'. Prove '..Said' where nothing that the law and all that it calls make is longer than what came in: it says more and counts as full. Else prove '..UptoSaid'. A law counts once. -/
mutual
def uptoBulk {H : Type} : DataW H → Nat
  | .lit (.string bytes) => bytes.length + 1
  | .lit _ => 1
  | .nil => 1
  | .ptr d => uptoBulk d + 1
  | .slice elems spare => uptoBulkAll elems + uptoBulkAll spare + 1
  | .agg parts => uptoBulkAll parts + 1
  | .iface _ d => uptoBulk d + 1
  | .map entries => uptoBulkEntries entries + 1
  | .held _ => 1
def uptoBulkAll {H : Type} : List (DataW H) → Nat
  | [] => 0
  | d :: r => uptoBulk d + uptoBulkAll r
def uptoBulkEntries {H : Type} : List (Lit × DataW H) → Nat
  | [] => 0
  | x :: r => uptoBulkEntry x + uptoBulkEntries r
def uptoBulkEntry {H : Type} : Lit × DataW H → Nat
  | (.string bytes, d) => bytes.length + uptoBulk d + 1
  | (_, d) => uptoBulk d + 1
 end
def uptoSmall : (H : Type) → List (DataW H) → Bool := fun _ ds => decide (uptoBulkAll ds ≤ 1048576)
def OpenSpec.upto (s : _root_.Go.ChangeSpec) : _root_.Go.OpenSpec := { _root_.Go.OpenSpec.ofChange s with cond := some uptoSmall }

/-- 'patinalaw09.PointWrites', WHERE WHAT IT READS IS OF BULK AT MOST 1048576: true; the input reads as it did. -/
def pointWritesUptoRow : OpenClaim := { program := "ytnilidpafijdlab", sum := "b60694d67153099161c31a5c967021cff2d6c1230a9a38faa4f04bc7f8a5c19c", func := "patina/patinalaw09.PointWrites", spec := "pointWrites", apart := false, narrowed := true }
def PointWritesUptoSaid : Prop := pointWritesUptoRow.holds Try.pinned (OpenSpec.upto pointWritesSpec)

/-- 'patinalaw13.FrontPlays', WHERE WHAT IT READS IS OF BULK AT MOST 1048576: true; the input reads as it did. -/
def frontPlaysUptoRow : OpenClaim := { program := "ytnilidpafijdlab", sum := "b60694d67153099161c31a5c967021cff2d6c1230a9a38faa4f04bc7f8a5c19c", func := "patina/patinalaw13.FrontPlays", spec := "frontPlays", apart := false, narrowed := true }
def FrontPlaysUptoSaid : Prop := frontPlaysUptoRow.holds Try.pinned (OpenSpec.upto frontPlaysSpec)

/-- 'patinalaw13.FrontFills', WHERE WHAT IT READS IS OF BULK AT MOST 1048576: true; the input reads as it did. -/
def frontFillsUptoRow : OpenClaim := { program := "ytnilidpafijdlab", sum := "b60694d67153099161c31a5c967021cff2d6c1230a9a38faa4f04bc7f8a5c19c", func := "patina/patinalaw13.FrontFills", spec := "frontFills", apart := false, narrowed := true }
def FrontFillsUptoSaid : Prop := frontFillsUptoRow.holds Try.pinned (OpenSpec.upto frontFillsSpec)

/-- 'patinalaw11.PoolKeeps', WHERE WHAT IT READS IS OF BULK AT MOST 1048576: true; the input reads as it did. -/
def poolKeepsUptoRow : OpenClaim := { program := "ytnilidpafijdlab", sum := "b60694d67153099161c31a5c967021cff2d6c1230a9a38faa4f04bc7f8a5c19c", func := "patina/patinalaw11.PoolKeeps", spec := "poolKeeps", apart := false, narrowed := true }
def PoolKeepsUptoSaid : Prop := poolKeepsUptoRow.holds Try.pinned (OpenSpec.upto poolKeepsSpec)

/-- 'patinalaw11.PoolPlays', WHERE WHAT IT READS IS OF BULK AT MOST 1048576: true; the input reads as it did. -/
def poolPlaysUptoRow : OpenClaim := { program := "ytnilidpafijdlab", sum := "b60694d67153099161c31a5c967021cff2d6c1230a9a38faa4f04bc7f8a5c19c", func := "patina/patinalaw11.PoolPlays", spec := "poolPlays", apart := false, narrowed := true }
def PoolPlaysUptoSaid : Prop := poolPlaysUptoRow.holds Try.pinned (OpenSpec.upto poolPlaysSpec)

/-- 'patinalaw15.PatrolRounds', WHERE WHAT IT READS IS OF BULK AT MOST 1048576: true; the input reads as it did. -/
def patrolRoundsUptoRow : OpenClaim := { program := "ytnilidpafijdlab", sum := "b60694d67153099161c31a5c967021cff2d6c1230a9a38faa4f04bc7f8a5c19c", func := "patina/patinalaw15.PatrolRounds", spec := "patrolRounds", apart := false, narrowed := true }
def PatrolRoundsUptoSaid : Prop := patrolRoundsUptoRow.holds Try.pinned (OpenSpec.upto patrolRoundsSpec)

end Rows
end Go.Proofs.Ytnilidpafijdlab
