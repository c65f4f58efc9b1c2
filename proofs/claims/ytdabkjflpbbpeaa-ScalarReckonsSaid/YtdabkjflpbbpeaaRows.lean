/-
  No cell of these rows narrows 'for every input' (looked for: loops, veiled, ifaces, maps, wideKeys, modest, calm, conditions, laid).
  DERIVED. THE GIVEN ROWS OF THIS SEAT. 9 by the template 'for every input the law returns true; each argument reads behind the call as it read before'; 0 by the template 'total and deterministic' (their statements: YtdabkjflpbbpeaaTotals.lean).
  GIVEN WITH THE SEED: the statements are not yours to turn. If you find one false, say at which input.
  Laid BY PROGRAM, IN A SANDBOX (cutbox-rows.mjs): the forced cells as the released guide's own fill.sh prints them over the translation 454941e4d1ea0a88… (all of the seat's roots in one cut). By AI agents, Wed Nov 11 2026. No macro, syntax, notation, axiom, sorry.
-/
import Derived.Test.YtdabkjflpbbpeaaChecked
import GoSem.Claim
import GoSem.ClaimJoined
import GoSem.ClaimMapViews
import Derived.JoinedTies
import Derived.KernelRfl
namespace Go.Proofs.Ytdabkjflpbbpeaa
/- THE CELL 'sum', in the pinned program and in every row, IS THE sha256 OF THE DUMP (.gsa) THAT YtdabkjflpbbpeaaProg.lean LOADS. Nothing in Lean hashes anything: it is a label: what it is worth is what the hold of that sum in a sandbox is worth. -/
noncomputable def Try.pinned : Pinned := { name := "ytdabkjflpbbpeaa", sum := "454941e4d1ea0a884db7efc47b0ff8f2c660d4931cc984d8e2dcd1572fbba07e", checked := Try.checked }
namespace Rows
def none {H : Type} : Left H := { results := [], args := [] }

/-- 'casematelaw15.NumsDivides': WHATEVER THE INPUT: true; the input reads as it did. -/
def numsDividesSpec : ChangeSpec := { name := "numsDivides", fn := fun _ => fun
  | [d1, d2] => { results := [.lit (.bool true)], args := [d1, d2] }
  | _ => none }
def numsDividesRow : OpenClaim := { program := "ytdabkjflpbbpeaa", sum := "454941e4d1ea0a884db7efc47b0ff8f2c660d4931cc984d8e2dcd1572fbba07e", func := "casemate/casematelaw15.NumsDivides", spec := "numsDivides", inPlace := ["math/bits.Sub64", "math/bits.Add64"], apart := false }
def NumsDividesSaid : Prop := numsDividesRow.holds Try.pinned (OpenSpec.ofChange numsDividesSpec)

/-- ITS FALSE NEIGHBOUR: 'it returns false'. Refute it at one input. -/
def numsDividesWrong : ChangeSpec := { name := "numsDivides", fn := fun _ => fun
  | [d1, d2] => { results := [.lit (.bool false)], args := [d1, d2] }
  | _ => none }
def NumsDividesWrongFalsely : Prop := numsDividesRow.holds Try.pinned (OpenSpec.ofChange numsDividesWrong)

/-- 'casematelaw15.NumsSquares': WHATEVER THE INPUT: true; the input reads as it did. -/
def numsSquaresSpec : ChangeSpec := { name := "numsSquares", fn := fun _ => fun
  | [d1, d2] => { results := [.lit (.bool true)], args := [d1, d2] }
  | _ => none }
def numsSquaresRow : OpenClaim := { program := "ytdabkjflpbbpeaa", sum := "454941e4d1ea0a884db7efc47b0ff8f2c660d4931cc984d8e2dcd1572fbba07e", func := "casemate/casematelaw15.NumsSquares", spec := "numsSquares", inPlace := ["math/bits.Add64", "math/bits.Sub64"], apart := false }
def NumsSquaresSaid : Prop := numsSquaresRow.holds Try.pinned (OpenSpec.ofChange numsSquaresSpec)

/-- ITS FALSE NEIGHBOUR: 'it returns false'. Refute it at one input. -/
def numsSquaresWrong : ChangeSpec := { name := "numsSquares", fn := fun _ => fun
  | [d1, d2] => { results := [.lit (.bool false)], args := [d1, d2] }
  | _ => none }
def NumsSquaresWrongFalsely : Prop := numsSquaresRow.holds Try.pinned (OpenSpec.ofChange numsSquaresWrong)

/-- 'casematelaw15.NumsReckons': WHATEVER THE INPUT: true; the input reads as it did. -/
def numsReckonsSpec : ChangeSpec := { name := "numsReckons", fn := fun _ => fun
  | [d1, d2] => { results := [.lit (.bool true)], args := [d1, d2] }
  | _ => none }
def numsReckonsRow : OpenClaim := { program := "ytdabkjflpbbpeaa", sum := "454941e4d1ea0a884db7efc47b0ff8f2c660d4931cc984d8e2dcd1572fbba07e", func := "casemate/casematelaw15.NumsReckons", spec := "numsReckons", inPlace := ["math/bits.Add64", "math/bits.Sub64"], apart := false }
def NumsReckonsSaid : Prop := numsReckonsRow.holds Try.pinned (OpenSpec.ofChange numsReckonsSpec)

/-- ITS FALSE NEIGHBOUR: 'it returns false'. Refute it at one input. -/
def numsReckonsWrong : ChangeSpec := { name := "numsReckons", fn := fun _ => fun
  | [d1, d2] => { results := [.lit (.bool false)], args := [d1, d2] }
  | _ => none }
def NumsReckonsWrongFalsely : Prop := numsReckonsRow.holds Try.pinned (OpenSpec.ofChange numsReckonsWrong)

/-- 'casematelaw15.NumsLaws': WHATEVER THE INPUT: true; the input reads as it did. -/
def numsLawsSpec : ChangeSpec := { name := "numsLaws", fn := fun _ => fun
  | [d1, d2, d3] => { results := [.lit (.bool true)], args := [d1, d2, d3] }
  | _ => none }
def numsLawsRow : OpenClaim := { program := "ytdabkjflpbbpeaa", sum := "454941e4d1ea0a884db7efc47b0ff8f2c660d4931cc984d8e2dcd1572fbba07e", func := "casemate/casematelaw15.NumsLaws", spec := "numsLaws", inPlace := ["math/bits.Add64", "math/bits.Sub64"], apart := false }
def NumsLawsSaid : Prop := numsLawsRow.holds Try.pinned (OpenSpec.ofChange numsLawsSpec)

/-- ITS FALSE NEIGHBOUR: 'it returns false'. Refute it at one input. -/
def numsLawsWrong : ChangeSpec := { name := "numsLaws", fn := fun _ => fun
  | [d1, d2, d3] => { results := [.lit (.bool false)], args := [d1, d2, d3] }
  | _ => none }
def NumsLawsWrongFalsely : Prop := numsLawsRow.holds Try.pinned (OpenSpec.ofChange numsLawsWrong)

/-- 'casematelaw15.NumsRests': WHATEVER THE INPUT: true; the input reads as it did. -/
def numsRestsSpec : ChangeSpec := { name := "numsRests", fn := fun _ => fun
  | [d1, d2, d3] => { results := [.lit (.bool true)], args := [d1, d2, d3] }
  | _ => none }
def numsRestsRow : OpenClaim := { program := "ytdabkjflpbbpeaa", sum := "454941e4d1ea0a884db7efc47b0ff8f2c660d4931cc984d8e2dcd1572fbba07e", func := "casemate/casematelaw15.NumsRests", spec := "numsRests", inPlace := ["math/bits.Sub64", "math/bits.Add64"], apart := false }
def NumsRestsSaid : Prop := numsRestsRow.holds Try.pinned (OpenSpec.ofChange numsRestsSpec)

/-- ITS FALSE NEIGHBOUR: 'it returns false'. Refute it at one input. -/
def numsRestsWrong : ChangeSpec := { name := "numsRests", fn := fun _ => fun
  | [d1, d2, d3] => { results := [.lit (.bool false)], args := [d1, d2, d3] }
  | _ => none }
def NumsRestsWrongFalsely : Prop := numsRestsRow.holds Try.pinned (OpenSpec.ofChange numsRestsWrong)

/-- 'casematelaw15.NumsOrders': WHATEVER THE INPUT: true; the input reads as it did. -/
def numsOrdersSpec : ChangeSpec := { name := "numsOrders", fn := fun _ => fun
  | [d1, d2, d3] => { results := [.lit (.bool true)], args := [d1, d2, d3] }
  | _ => none }
def numsOrdersRow : OpenClaim := { program := "ytdabkjflpbbpeaa", sum := "454941e4d1ea0a884db7efc47b0ff8f2c660d4931cc984d8e2dcd1572fbba07e", func := "casemate/casematelaw15.NumsOrders", spec := "numsOrders", inPlace := ["math/bits.Add64", "math/bits.Sub64"], apart := false }
def NumsOrdersSaid : Prop := numsOrdersRow.holds Try.pinned (OpenSpec.ofChange numsOrdersSpec)

/-- ITS FALSE NEIGHBOUR: 'it returns false'. Refute it at one input. -/
def numsOrdersWrong : ChangeSpec := { name := "numsOrders", fn := fun _ => fun
  | [d1, d2, d3] => { results := [.lit (.bool false)], args := [d1, d2, d3] }
  | _ => none }
def NumsOrdersWrongFalsely : Prop := numsOrdersRow.holds Try.pinned (OpenSpec.ofChange numsOrdersWrong)

/-- 'casematelaw18.ScalarReckons': WHATEVER THE INPUT: true; the input reads as it did. -/
def scalarReckonsSpec : ChangeSpec := { name := "scalarReckons", fn := fun _ => fun
  | [d1, d2, d3, d4] => { results := [.lit (.bool true)], args := [d1, d2, d3, d4] }
  | _ => none }
def scalarReckonsRow : OpenClaim := { program := "ytdabkjflpbbpeaa", sum := "454941e4d1ea0a884db7efc47b0ff8f2c660d4931cc984d8e2dcd1572fbba07e", func := "casemate/casematelaw18.ScalarReckons", spec := "scalarReckons", inPlace := ["math/bits.Sub64", "math/bits.Add64"], unfollowed := true, recurses := true, apart := false }
def ScalarReckonsSaid : Prop := scalarReckonsRow.holds Try.pinned (OpenSpec.ofChange scalarReckonsSpec)

/-- ITS FALSE NEIGHBOUR: 'it returns false'. Refute it at one input. -/
def scalarReckonsWrong : ChangeSpec := { name := "scalarReckons", fn := fun _ => fun
  | [d1, d2, d3, d4] => { results := [.lit (.bool false)], args := [d1, d2, d3, d4] }
  | _ => none }
def ScalarReckonsWrongFalsely : Prop := scalarReckonsRow.holds Try.pinned (OpenSpec.ofChange scalarReckonsWrong)

/-- 'casematelaw18.ScalarLaws': WHATEVER THE INPUT: true; the input reads as it did. -/
def scalarLawsSpec : ChangeSpec := { name := "scalarLaws", fn := fun _ => fun
  | [d1, d2, d3] => { results := [.lit (.bool true)], args := [d1, d2, d3] }
  | _ => none }
def scalarLawsRow : OpenClaim := { program := "ytdabkjflpbbpeaa", sum := "454941e4d1ea0a884db7efc47b0ff8f2c660d4931cc984d8e2dcd1572fbba07e", func := "casemate/casematelaw18.ScalarLaws", spec := "scalarLaws", inPlace := ["math/bits.Sub64", "math/bits.Add64"], unfollowed := true, recurses := true, apart := false }
def ScalarLawsSaid : Prop := scalarLawsRow.holds Try.pinned (OpenSpec.ofChange scalarLawsSpec)

/-- ITS FALSE NEIGHBOUR: 'it returns false'. Refute it at one input. -/
def scalarLawsWrong : ChangeSpec := { name := "scalarLaws", fn := fun _ => fun
  | [d1, d2, d3] => { results := [.lit (.bool false)], args := [d1, d2, d3] }
  | _ => none }
def ScalarLawsWrongFalsely : Prop := scalarLawsRow.holds Try.pinned (OpenSpec.ofChange scalarLawsWrong)

/-- 'casematelaw18.ScalarGroups': WHATEVER THE INPUT: true; the input reads as it did. -/
def scalarGroupsSpec : ChangeSpec := { name := "scalarGroups", fn := fun _ => fun
  | [d1, d2, d3] => { results := [.lit (.bool true)], args := [d1, d2, d3] }
  | _ => none }
def scalarGroupsRow : OpenClaim := { program := "ytdabkjflpbbpeaa", sum := "454941e4d1ea0a884db7efc47b0ff8f2c660d4931cc984d8e2dcd1572fbba07e", func := "casemate/casematelaw18.ScalarGroups", spec := "scalarGroups", inPlace := ["math/bits.Add64", "math/bits.Sub64"], unfollowed := true, recurses := true, apart := false }
def ScalarGroupsSaid : Prop := scalarGroupsRow.holds Try.pinned (OpenSpec.ofChange scalarGroupsSpec)

/-- ITS FALSE NEIGHBOUR: 'it returns false'. Refute it at one input. -/
def scalarGroupsWrong : ChangeSpec := { name := "scalarGroups", fn := fun _ => fun
  | [d1, d2, d3] => { results := [.lit (.bool false)], args := [d1, d2, d3] }
  | _ => none }
def ScalarGroupsWrongFalsely : Prop := scalarGroupsRow.holds Try.pinned (OpenSpec.ofChange scalarGroupsWrong)

/- THE SECOND FORM. 'bulk': how many values and letters a reading holds, each counted each time it is reached (what is shared counts as often as it is met; a slice's spare places count too). A statement '..UptoSaid' is the law's where the arguments, and the package variables that the reading takes, are together of bulk at most 1048576: NARROWER than '..Said'. Prove '..Said' where nothing that the law and all that it calls make is longer than what came in: it says more and counts as full. Else prove '..UptoSaid'. A law counts once. -/
mutual
def uptoBulk {H : Type} : DataW H → Nat
  | .lit (.string bytes) => bytes.length + 1
  | .lit _ => 1
  | .nil => 1
  | .ptr d => uptoBulk d + 1
  | .slice elems spare => uptoBulkAll elems + uptoBulkAll spare + 1
  | .agg parts => uptoBulkAll parts + 1
  | .iface _ d => uptoBulk d + 1
  | .map entries => uptoBulkEntries entries + 1
  | .held _ => 1
def uptoBulkAll {H : Type} : List (DataW H) → Nat
  | [] => 0
  | d :: r => uptoBulk d + uptoBulkAll r
def uptoBulkEntries {H : Type} : List (Lit × DataW H) → Nat
  | [] => 0
  | x :: r => uptoBulkEntry x + uptoBulkEntries r
def uptoBulkEntry {H : Type} : Lit × DataW H → Nat
  | (.string bytes, d) => bytes.length + uptoBulk d + 1
  | (_, d) => uptoBulk d + 1
 end
def uptoSmall : (H : Type) → List (DataW H) → Bool := fun _ ds => decide (uptoBulkAll ds ≤ 1048576)
def OpenSpec.upto (s : _root_.Go.ChangeSpec) : _root_.Go.OpenSpec := { _root_.Go.OpenSpec.ofChange s with cond := some uptoSmall }

/-- 'casematelaw15.NumsDivides', WHERE WHAT IT READS IS OF BULK AT MOST 1048576: true; the input reads as it did. -/
def numsDividesUptoRow : OpenClaim := { program := "ytdabkjflpbbpeaa", sum := "454941e4d1ea0a884db7efc47b0ff8f2c660d4931cc984d8e2dcd1572fbba07e", func := "casemate/casematelaw15.NumsDivides", spec := "numsDivides", inPlace := ["math/bits.Sub64", "math/bits.Add64"], apart := false, narrowed := true }
def NumsDividesUptoSaid : Prop := numsDividesUptoRow.holds Try.pinned (OpenSpec.upto numsDividesSpec)

/-- 'casematelaw15.NumsSquares', WHERE WHAT IT READS IS OF BULK AT MOST 1048576: true; the input reads as it did. -/
def numsSquaresUptoRow : OpenClaim := { program := "ytdabkjflpbbpeaa", sum := "454941e4d1ea0a884db7efc47b0ff8f2c660d4931cc984d8e2dcd1572fbba07e", func := "casemate/casematelaw15.NumsSquares", spec := "numsSquares", inPlace := ["math/bits.Add64", "math/bits.Sub64"], apart := false, narrowed := true }
def NumsSquaresUptoSaid : Prop := numsSquaresUptoRow.holds Try.pinned (OpenSpec.upto numsSquaresSpec)

/-- 'casematelaw15.NumsReckons', WHERE WHAT IT READS IS OF BULK AT MOST 1048576: true; the input reads as it did. -/
def numsReckonsUptoRow : OpenClaim := { program := "ytdabkjflpbbpeaa", sum := "454941e4d1ea0a884db7efc47b0ff8f2c660d4931cc984d8e2dcd1572fbba07e", func := "casemate/casematelaw15.NumsReckons", spec := "numsReckons", inPlace := ["math/bits.Add64", "math/bits.Sub64"], apart := false, narrowed := true }
def NumsReckonsUptoSaid : Prop := numsReckonsUptoRow.holds Try.pinned (OpenSpec.upto numsReckonsSpec)

/-- 'casematelaw15.NumsLaws', WHERE WHAT IT READS IS OF BULK AT MOST 1048576: true; the input reads as it did. -/
def numsLawsUptoRow : OpenClaim := { program := "ytdabkjflpbbpeaa", sum := "454941e4d1ea0a884db7efc47b0ff8f2c660d4931cc984d8e2dcd1572fbba07e", func := "casemate/casematelaw15.NumsLaws", spec := "numsLaws", inPlace := ["math/bits.Add64", "math/bits.Sub64"], apart := false, narrowed := true }
def NumsLawsUptoSaid : Prop := numsLawsUptoRow.holds Try.pinned (OpenSpec.upto numsLawsSpec)

/-- 'casematelaw15.NumsRests', WHERE WHAT IT READS IS OF BULK AT MOST 1048576: true; the input reads as it did. -/
def numsRestsUptoRow : OpenClaim := { program := "ytdabkjflpbbpeaa", sum := "454941e4d1ea0a884db7efc47b0ff8f2c660d4931cc984d8e2dcd1572fbba07e", func := "casemate/casematelaw15.NumsRests", spec := "numsRests", inPlace := ["math/bits.Sub64", "math/bits.Add64"], apart := false, narrowed := true }
def NumsRestsUptoSaid : Prop := numsRestsUptoRow.holds Try.pinned (OpenSpec.upto numsRestsSpec)

/-- 'casematelaw15.NumsOrders', WHERE WHAT IT READS IS OF BULK AT MOST 1048576: true; the input reads as it did. -/
def numsOrdersUptoRow : OpenClaim := { program := "ytdabkjflpbbpeaa", sum := "454941e4d1ea0a884db7efc47b0ff8f2c660d4931cc984d8e2dcd1572fbba07e", func := "casemate/casematelaw15.NumsOrders", spec := "numsOrders", inPlace := ["math/bits.Add64", "math/bits.Sub64"], apart := false, narrowed := true }
def NumsOrdersUptoSaid : Prop := numsOrdersUptoRow.holds Try.pinned (OpenSpec.upto numsOrdersSpec)

/-- 'casematelaw18.ScalarReckons', WHERE WHAT IT READS IS OF BULK AT MOST 1048576: true; the input reads as it did. -/
def scalarReckonsUptoRow : OpenClaim := { program := "ytdabkjflpbbpeaa", sum := "454941e4d1ea0a884db7efc47b0ff8f2c660d4931cc984d8e2dcd1572fbba07e", func := "casemate/casematelaw18.ScalarReckons", spec := "scalarReckons", inPlace := ["math/bits.Sub64", "math/bits.Add64"], unfollowed := true, recurses := true, apart := false, narrowed := true }
def ScalarReckonsUptoSaid : Prop := scalarReckonsUptoRow.holds Try.pinned (OpenSpec.upto scalarReckonsSpec)

/-- 'casematelaw18.ScalarLaws', WHERE WHAT IT READS IS OF BULK AT MOST 1048576: true; the input reads as it did. -/
def scalarLawsUptoRow : OpenClaim := { program := "ytdabkjflpbbpeaa", sum := "454941e4d1ea0a884db7efc47b0ff8f2c660d4931cc984d8e2dcd1572fbba07e", func := "casemate/casematelaw18.ScalarLaws", spec := "scalarLaws", inPlace := ["math/bits.Sub64", "math/bits.Add64"], unfollowed := true, recurses := true, apart := false, narrowed := true }
def ScalarLawsUptoSaid : Prop := scalarLawsUptoRow.holds Try.pinned (OpenSpec.upto scalarLawsSpec)

/-- 'casematelaw18.ScalarGroups', WHERE WHAT IT READS IS OF BULK AT MOST 1048576: true; the input reads as it did. -/
def scalarGroupsUptoRow : OpenClaim := { program := "ytdabkjflpbbpeaa", sum := "454941e4d1ea0a884db7efc47b0ff8f2c660d4931cc984d8e2dcd1572fbba07e", func := "casemate/casematelaw18.ScalarGroups", spec := "scalarGroups", inPlace := ["math/bits.Add64", "math/bits.Sub64"], unfollowed := true, recurses := true, apart := false, narrowed := true }
def ScalarGroupsUptoSaid : Prop := scalarGroupsUptoRow.holds Try.pinned (OpenSpec.upto scalarGroupsSpec)

end Rows
end Go.Proofs.Ytdabkjflpbbpeaa
