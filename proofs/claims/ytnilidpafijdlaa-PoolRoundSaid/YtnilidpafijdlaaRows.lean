/-
  No cell of these rows narrows 'for every input' (looked for: loops, veiled, ifaces, maps, wideKeys, modest, calm, conditions, laid).
  DERIVED. THE GIVEN ROWS OF THIS SEAT. 6 by the template 'for every input the law returns true; each argument reads behind the call as it read before'; 0 by the template 'total and deterministic' (their statements: YtnilidpafijdlaaTotals.lean).
  GIVEN WITH THE SEED: the statements are not yours to turn. If you find one false, say at which input.
  Laid BY PROGRAM, IN A SANDBOX (cutbox-rows.mjs): the forced cells as the released guide's own fill.sh prints them over the translation 2d41889085abf57e… (all of the seat's roots in one cut). By AI agents, Wed Nov 11 2026. No macro, syntax, notation, axiom, sorry.
-/
import Derived.Test.YtnilidpafijdlaaChecked
import GoSem.Claim
import GoSem.ClaimJoined
import GoSem.ClaimMapViews
import Derived.JoinedTies
import Derived.KernelRfl
namespace Go.Proofs.Ytnilidpafijdlaa
/- THE CELL 'sum', in the pinned program and in every row, IS THE sha256 OF THE DUMP (.gsa) THAT YtnilidpafijdlaaProg.lean LOADS. Nothing in Lean hashes anything: it is a label: what it is worth is what the hold of that sum in a sandbox is worth. -/
noncomputable def Try.pinned : Pinned := { name := "ytnilidpafijdlaa", sum := "2d41889085abf57efb797deebe5a44c91af4b216f114fb2f066564d6ea286aa3", checked := Try.checked }
namespace Rows
def none {H : Type} : Left H := { results := [], args := [] }

/-- 'patinalaw04.GeomHolds': WHATEVER THE INPUT: true; the input reads as it did. -/
def geomHoldsSpec : ChangeSpec := { name := "geomHolds", fn := fun _ => fun
  | [d1, d2] => { results := [.lit (.bool true)], args := [d1, d2] }
  | _ => none }
def geomHoldsRow : OpenClaim := { program := "ytnilidpafijdlaa", sum := "2d41889085abf57efb797deebe5a44c91af4b216f114fb2f066564d6ea286aa3", func := "patina/patinalaw04.GeomHolds", spec := "geomHolds", apart := false }
def GeomHoldsSaid : Prop := geomHoldsRow.holds Try.pinned (OpenSpec.ofChange geomHoldsSpec)

/-- ITS FALSE NEIGHBOUR: 'it returns false'. Refute it at one input. -/
def geomHoldsWrong : ChangeSpec := { name := "geomHolds", fn := fun _ => fun
  | [d1, d2] => { results := [.lit (.bool false)], args := [d1, d2] }
  | _ => none }
def GeomHoldsWrongFalsely : Prop := geomHoldsRow.holds Try.pinned (OpenSpec.ofChange geomHoldsWrong)

/-- 'patinalaw04.GeomOns': WHATEVER THE INPUT: true; the input reads as it did. -/
def geomOnsSpec : ChangeSpec := { name := "geomOns", fn := fun _ => fun
  | [d1, d2] => { results := [.lit (.bool true)], args := [d1, d2] }
  | _ => none }
def geomOnsRow : OpenClaim := { program := "ytnilidpafijdlaa", sum := "2d41889085abf57efb797deebe5a44c91af4b216f114fb2f066564d6ea286aa3", func := "patina/patinalaw04.GeomOns", spec := "geomOns", apart := false }
def GeomOnsSaid : Prop := geomOnsRow.holds Try.pinned (OpenSpec.ofChange geomOnsSpec)

/-- ITS FALSE NEIGHBOUR: 'it returns false'. Refute it at one input. -/
def geomOnsWrong : ChangeSpec := { name := "geomOns", fn := fun _ => fun
  | [d1, d2] => { results := [.lit (.bool false)], args := [d1, d2] }
  | _ => none }
def GeomOnsWrongFalsely : Prop := geomOnsRow.holds Try.pinned (OpenSpec.ofChange geomOnsWrong)

/-- 'patinalaw04.GeomPlaces': WHATEVER THE INPUT: true; the input reads as it did. -/
def geomPlacesSpec : ChangeSpec := { name := "geomPlaces", fn := fun _ => fun
  | [d1, d2, d3] => { results := [.lit (.bool true)], args := [d1, d2, d3] }
  | _ => none }
def geomPlacesRow : OpenClaim := { program := "ytnilidpafijdlaa", sum := "2d41889085abf57efb797deebe5a44c91af4b216f114fb2f066564d6ea286aa3", func := "patina/patinalaw04.GeomPlaces", spec := "geomPlaces", apart := false }
def GeomPlacesSaid : Prop := geomPlacesRow.holds Try.pinned (OpenSpec.ofChange geomPlacesSpec)

/-- ITS FALSE NEIGHBOUR: 'it returns false'. Refute it at one input. -/
def geomPlacesWrong : ChangeSpec := { name := "geomPlaces", fn := fun _ => fun
  | [d1, d2, d3] => { results := [.lit (.bool false)], args := [d1, d2, d3] }
  | _ => none }
def GeomPlacesWrongFalsely : Prop := geomPlacesRow.holds Try.pinned (OpenSpec.ofChange geomPlacesWrong)

/-- 'patinalaw04.GeomBits': WHATEVER THE INPUT: true; the input reads as it did. -/
def geomBitsSpec : ChangeSpec := { name := "geomBits", fn := fun _ => fun
  | [d] => { results := [.lit (.bool true)], args := [d] }
  | _ => none }
def geomBitsRow : OpenClaim := { program := "ytnilidpafijdlaa", sum := "2d41889085abf57efb797deebe5a44c91af4b216f114fb2f066564d6ea286aa3", func := "patina/patinalaw04.GeomBits", spec := "geomBits", apart := false }
def GeomBitsSaid : Prop := geomBitsRow.holds Try.pinned (OpenSpec.ofChange geomBitsSpec)

/-- ITS FALSE NEIGHBOUR: 'it returns false'. Refute it at one input. -/
def geomBitsWrong : ChangeSpec := { name := "geomBits", fn := fun _ => fun
  | [d] => { results := [.lit (.bool false)], args := [d] }
  | _ => none }
def GeomBitsWrongFalsely : Prop := geomBitsRow.holds Try.pinned (OpenSpec.ofChange geomBitsWrong)

/-- 'patinalaw04.GeomBack': WHATEVER THE INPUT: true; the input reads as it did. -/
def geomBackSpec : ChangeSpec := { name := "geomBack", fn := fun _ => fun
  | [d1, d2, d3, d4] => { results := [.lit (.bool true)], args := [d1, d2, d3, d4] }
  | _ => none }
def geomBackRow : OpenClaim := { program := "ytnilidpafijdlaa", sum := "2d41889085abf57efb797deebe5a44c91af4b216f114fb2f066564d6ea286aa3", func := "patina/patinalaw04.GeomBack", spec := "geomBack", apart := false }
def GeomBackSaid : Prop := geomBackRow.holds Try.pinned (OpenSpec.ofChange geomBackSpec)

/-- ITS FALSE NEIGHBOUR: 'it returns false'. Refute it at one input. -/
def geomBackWrong : ChangeSpec := { name := "geomBack", fn := fun _ => fun
  | [d1, d2, d3, d4] => { results := [.lit (.bool false)], args := [d1, d2, d3, d4] }
  | _ => none }
def GeomBackWrongFalsely : Prop := geomBackRow.holds Try.pinned (OpenSpec.ofChange geomBackWrong)

/-- 'patinalaw11.PoolRound': WHATEVER THE INPUT: true; the input reads as it did. -/
def poolRoundSpec : ChangeSpec := { name := "poolRound", fn := fun _ => fun
  | [d1, d2] => { results := [.lit (.bool true)], args := [d1, d2] }
  | _ => none }
def poolRoundRow : OpenClaim := { program := "ytnilidpafijdlaa", sum := "2d41889085abf57efb797deebe5a44c91af4b216f114fb2f066564d6ea286aa3", func := "patina/patinalaw11.PoolRound", spec := "poolRound", apart := false }
def PoolRoundSaid : Prop := poolRoundRow.holds Try.pinned (OpenSpec.ofChange poolRoundSpec)

/-- ITS FALSE NEIGHBOUR: 'it returns false'. Refute it at one input. -/
def poolRoundWrong : ChangeSpec := { name := "poolRound", fn := fun _ => fun
  | [d1, d2] => { results := [.lit (.bool false)], args := [d1, d2] }
  | _ => none }
def PoolRoundWrongFalsely : Prop := poolRoundRow.holds Try.pinned (OpenSpec.ofChange poolRoundWrong)

/- THE SECOND FORM. 'bulk': how many values and letters a reading holds, each counted each time it is reached (what is shared counts as often as it is met; a slice's spare places count too). A statement '..UptoSaid' is the law's where the arguments, and the package variables that the reading takes, are together of bulk at most 1048576: NARROWER than '..Said'. Prove '..Said' where nothing that the law and all that it calls make is longer than what came in: it says more and counts as full. Else prove '..UptoSaid'. A law counts once. -/
mutual
def uptoBulk {H : Type} : DataW H → Nat
  | .lit (.string bytes) => bytes.length + 1
  | .lit _ => 1
  | .nil => 1
  | .ptr d => uptoBulk d + 1
  | .slice elems spare => uptoBulkAll elems + uptoBulkAll spare + 1
  | .agg parts => uptoBulkAll parts + 1
  | .iface _ d => uptoBulk d + 1
  | .map entries => uptoBulkEntries entries + 1
  | .held _ => 1
def uptoBulkAll {H : Type} : List (DataW H) → Nat
  | [] => 0
  | d :: r => uptoBulk d + uptoBulkAll r
def uptoBulkEntries {H : Type} : List (Lit × DataW H) → Nat
  | [] => 0
  | x :: r => uptoBulkEntry x + uptoBulkEntries r
def uptoBulkEntry {H : Type} : Lit × DataW H → Nat
  | (.string bytes, d) => bytes.length + uptoBulk d + 1
  | (_, d) => uptoBulk d + 1
 end
def uptoSmall : (H : Type) → List (DataW H) → Bool := fun _ ds => decide (uptoBulkAll ds ≤ 1048576)
def OpenSpec.upto (s : _root_.Go.ChangeSpec) : _root_.Go.OpenSpec := { _root_.Go.OpenSpec.ofChange s with cond := some uptoSmall }

/-- 'patinalaw04.GeomHolds', WHERE WHAT IT READS IS OF BULK AT MOST 1048576: true; the input reads as it did. -/
def geomHoldsUptoRow : OpenClaim := { program := "ytnilidpafijdlaa", sum := "2d41889085abf57efb797deebe5a44c91af4b216f114fb2f066564d6ea286aa3", func := "patina/patinalaw04.GeomHolds", spec := "geomHolds", apart := false, narrowed := true }
def GeomHoldsUptoSaid : Prop := geomHoldsUptoRow.holds Try.pinned (OpenSpec.upto geomHoldsSpec)

/-- 'patinalaw04.GeomOns', WHERE WHAT IT READS IS OF BULK AT MOST 1048576: true; the input reads as it did. -/
def geomOnsUptoRow : OpenClaim := { program := "ytnilidpafijdlaa", sum := "2d41889085abf57efb797deebe5a44c91af4b216f114fb2f066564d6ea286aa3", func := "patina/patinalaw04.GeomOns", spec := "geomOns", apart := false, narrowed := true }
def GeomOnsUptoSaid : Prop := geomOnsUptoRow.holds Try.pinned (OpenSpec.upto geomOnsSpec)

/-- 'patinalaw04.GeomPlaces', WHERE WHAT IT READS IS OF BULK AT MOST 1048576: true; the input reads as it did. -/
def geomPlacesUptoRow : OpenClaim := { program := "ytnilidpafijdlaa", sum := "2d41889085abf57efb797deebe5a44c91af4b216f114fb2f066564d6ea286aa3", func := "patina/patinalaw04.GeomPlaces", spec := "geomPlaces", apart := false, narrowed := true }
def GeomPlacesUptoSaid : Prop := geomPlacesUptoRow.holds Try.pinned (OpenSpec.upto geomPlacesSpec)

/-- 'patinalaw04.GeomBits', WHERE WHAT IT READS IS OF BULK AT MOST 1048576: true; the input reads as it did. -/
def geomBitsUptoRow : OpenClaim := { program := "ytnilidpafijdlaa", sum := "2d41889085abf57efb797deebe5a44c91af4b216f114fb2f066564d6ea286aa3", func := "patina/patinalaw04.GeomBits", spec := "geomBits", apart := false, narrowed := true }
def GeomBitsUptoSaid : Prop := geomBitsUptoRow.holds Try.pinned (OpenSpec.upto geomBitsSpec)

/-- 'patinalaw04.GeomBack', WHERE WHAT IT READS IS OF BULK AT MOST 1048576: true; the input reads as it did. -/
def geomBackUptoRow : OpenClaim := { program := "ytnilidpafijdlaa", sum := "2d41889085abf57efb797deebe5a44c91af4b216f114fb2f066564d6ea286aa3", func := "patina/patinalaw04.GeomBack", spec := "geomBack", apart := false, narrowed := true }
def GeomBackUptoSaid : Prop := geomBackUptoRow.holds Try.pinned (OpenSpec.upto geomBackSpec)

/-- 'patinalaw11.PoolRound', WHERE WHAT IT READS IS OF BULK AT MOST 1048576: true; the input reads as it did. -/
def poolRoundUptoRow : OpenClaim := { program := "ytnilidpafijdlaa", sum := "2d41889085abf57efb797deebe5a44c91af4b216f114fb2f066564d6ea286aa3", func := "patina/patinalaw11.PoolRound", spec := "poolRound", apart := false, narrowed := true }
def PoolRoundUptoSaid : Prop := poolRoundUptoRow.holds Try.pinned (OpenSpec.upto poolRoundSpec)

end Rows
end Go.Proofs.Ytnilidpafijdlaa
