/-
  No cell of these rows narrows 'for every input' (looked for: loops, veiled, ifaces, maps, wideKeys, modest, calm, conditions, laid).
  DERIVED. THE GIVEN ROWS OF THIS SEAT. 14 by the template 'for every input the law returns true; each argument reads behind the call as it read before'; 0 by the template 'total and deterministic' (their statements: YtmlmbolcblafmaaTotals.lean).
  GIVEN WITH THE SEED: the statements are not yours to turn. If you find one false, say at which input.
  Laid BY PROGRAM, IN A SANDBOX (cutbox-rows.mjs): the forced cells as the released guide's own fill.sh prints them over the translation 89f9a518895dca0e… (all of the seat's roots in one cut). By AI agents, Wed Nov 11 2026. No macro, syntax, notation, axiom, sorry.
-/
import Derived.Test.YtmlmbolcblafmaaChecked
import GoSem.Claim
import GoSem.ClaimJoined
import GoSem.ClaimMapViews
import Derived.JoinedTies
import Derived.KernelRfl
namespace Go.Proofs.Ytmlmbolcblafmaa
/- THE CELL 'sum', in the pinned program and in every row, IS THE sha256 OF THE DUMP (.gsa) THAT YtmlmbolcblafmaaProg.lean LOADS. Nothing in Lean hashes anything: it is a label: what it is worth is what the hold of that sum in a sandbox is worth. -/
noncomputable def Try.pinned : Pinned := { name := "ytmlmbolcblafmaa", sum := "89f9a518895dca0e02439f008c21ded3f1d78878d98b72921aedac4ad8ea22ab", checked := Try.checked }
namespace Rows
def none {H : Type} : Left H := { results := [], args := [] }

/-- 'casematelaw16.FieldReckons': WHATEVER THE INPUT: true; the input reads as it did. -/
def fieldReckonsSpec : ChangeSpec := { name := "fieldReckons", fn := fun _ => fun
  | [d1, d2] => { results := [.lit (.bool true)], args := [d1, d2] }
  | _ => none }
def fieldReckonsRow : OpenClaim := { program := "ytmlmbolcblafmaa", sum := "89f9a518895dca0e02439f008c21ded3f1d78878d98b72921aedac4ad8ea22ab", func := "casemate/casematelaw16.FieldReckons", spec := "fieldReckons", inPlace := ["math/bits.Sub64", "math/bits.Add64"], unfollowed := true, recurses := true, apart := false }
def FieldReckonsSaid : Prop := fieldReckonsRow.holds Try.pinned (OpenSpec.ofChange fieldReckonsSpec)

/-- ITS FALSE NEIGHBOUR: 'it returns false'. Refute it at one input. -/
def fieldReckonsWrong : ChangeSpec := { name := "fieldReckons", fn := fun _ => fun
  | [d1, d2] => { results := [.lit (.bool false)], args := [d1, d2] }
  | _ => none }
def FieldReckonsWrongFalsely : Prop := fieldReckonsRow.holds Try.pinned (OpenSpec.ofChange fieldReckonsWrong)

/-- 'casematelaw16.FieldInverts': WHATEVER THE INPUT: true; the input reads as it did. -/
def fieldInvertsSpec : ChangeSpec := { name := "fieldInverts", fn := fun _ => fun
  | [d] => { results := [.lit (.bool true)], args := [d] }
  | _ => none }
def fieldInvertsRow : OpenClaim := { program := "ytmlmbolcblafmaa", sum := "89f9a518895dca0e02439f008c21ded3f1d78878d98b72921aedac4ad8ea22ab", func := "casemate/casematelaw16.FieldInverts", spec := "fieldInverts", inPlace := ["math/bits.Sub64", "math/bits.Add64"], unfollowed := true, recurses := true, apart := false }
def FieldInvertsSaid : Prop := fieldInvertsRow.holds Try.pinned (OpenSpec.ofChange fieldInvertsSpec)

/-- ITS FALSE NEIGHBOUR: 'it returns false'. Refute it at one input. -/
def fieldInvertsWrong : ChangeSpec := { name := "fieldInverts", fn := fun _ => fun
  | [d] => { results := [.lit (.bool false)], args := [d] }
  | _ => none }
def FieldInvertsWrongFalsely : Prop := fieldInvertsRow.holds Try.pinned (OpenSpec.ofChange fieldInvertsWrong)

/-- 'casematelaw16.FieldRoots': WHATEVER THE INPUT: true; the input reads as it did. -/
def fieldRootsSpec : ChangeSpec := { name := "fieldRoots", fn := fun _ => fun
  | [d] => { results := [.lit (.bool true)], args := [d] }
  | _ => none }
def fieldRootsRow : OpenClaim := { program := "ytmlmbolcblafmaa", sum := "89f9a518895dca0e02439f008c21ded3f1d78878d98b72921aedac4ad8ea22ab", func := "casemate/casematelaw16.FieldRoots", spec := "fieldRoots", inPlace := ["math/bits.Sub64", "math/bits.Add64"], unfollowed := true, recurses := true, apart := false }
def FieldRootsSaid : Prop := fieldRootsRow.holds Try.pinned (OpenSpec.ofChange fieldRootsSpec)

/-- ITS FALSE NEIGHBOUR: 'it returns false'. Refute it at one input. -/
def fieldRootsWrong : ChangeSpec := { name := "fieldRoots", fn := fun _ => fun
  | [d] => { results := [.lit (.bool false)], args := [d] }
  | _ => none }
def FieldRootsWrongFalsely : Prop := fieldRootsRow.holds Try.pinned (OpenSpec.ofChange fieldRootsWrong)

/-- 'casematelaw16.FieldSquares': WHATEVER THE INPUT: true; the input reads as it did. -/
def fieldSquaresSpec : ChangeSpec := { name := "fieldSquares", fn := fun _ => fun
  | [d] => { results := [.lit (.bool true)], args := [d] }
  | _ => none }
def fieldSquaresRow : OpenClaim := { program := "ytmlmbolcblafmaa", sum := "89f9a518895dca0e02439f008c21ded3f1d78878d98b72921aedac4ad8ea22ab", func := "casemate/casematelaw16.FieldSquares", spec := "fieldSquares", inPlace := ["math/bits.Sub64", "math/bits.Add64"], unfollowed := true, recurses := true, apart := false }
def FieldSquaresSaid : Prop := fieldSquaresRow.holds Try.pinned (OpenSpec.ofChange fieldSquaresSpec)

/-- ITS FALSE NEIGHBOUR: 'it returns false'. Refute it at one input. -/
def fieldSquaresWrong : ChangeSpec := { name := "fieldSquares", fn := fun _ => fun
  | [d] => { results := [.lit (.bool false)], args := [d] }
  | _ => none }
def FieldSquaresWrongFalsely : Prop := fieldSquaresRow.holds Try.pinned (OpenSpec.ofChange fieldSquaresWrong)

/-- 'casematelaw16.FieldLaws': WHATEVER THE INPUT: true; the input reads as it did. -/
def fieldLawsSpec : ChangeSpec := { name := "fieldLaws", fn := fun _ => fun
  | [d1, d2, d3] => { results := [.lit (.bool true)], args := [d1, d2, d3] }
  | _ => none }
def fieldLawsRow : OpenClaim := { program := "ytmlmbolcblafmaa", sum := "89f9a518895dca0e02439f008c21ded3f1d78878d98b72921aedac4ad8ea22ab", func := "casemate/casematelaw16.FieldLaws", spec := "fieldLaws", inPlace := ["math/bits.Sub64", "math/bits.Add64"], unfollowed := true, recurses := true, apart := false }
def FieldLawsSaid : Prop := fieldLawsRow.holds Try.pinned (OpenSpec.ofChange fieldLawsSpec)

/-- ITS FALSE NEIGHBOUR: 'it returns false'. Refute it at one input. -/
def fieldLawsWrong : ChangeSpec := { name := "fieldLaws", fn := fun _ => fun
  | [d1, d2, d3] => { results := [.lit (.bool false)], args := [d1, d2, d3] }
  | _ => none }
def FieldLawsWrongFalsely : Prop := fieldLawsRow.holds Try.pinned (OpenSpec.ofChange fieldLawsWrong)

/-- 'casematelaw16.FieldProducts': WHATEVER THE INPUT: true; the input reads as it did. -/
def fieldProductsSpec : ChangeSpec := { name := "fieldProducts", fn := fun _ => fun
  | [d1, d2] => { results := [.lit (.bool true)], args := [d1, d2] }
  | _ => none }
def fieldProductsRow : OpenClaim := { program := "ytmlmbolcblafmaa", sum := "89f9a518895dca0e02439f008c21ded3f1d78878d98b72921aedac4ad8ea22ab", func := "casemate/casematelaw16.FieldProducts", spec := "fieldProducts", inPlace := ["math/bits.Sub64", "math/bits.Add64"], unfollowed := true, recurses := true, apart := false }
def FieldProductsSaid : Prop := fieldProductsRow.holds Try.pinned (OpenSpec.ofChange fieldProductsSpec)

/-- ITS FALSE NEIGHBOUR: 'it returns false'. Refute it at one input. -/
def fieldProductsWrong : ChangeSpec := { name := "fieldProducts", fn := fun _ => fun
  | [d1, d2] => { results := [.lit (.bool false)], args := [d1, d2] }
  | _ => none }
def FieldProductsWrongFalsely : Prop := fieldProductsRow.holds Try.pinned (OpenSpec.ofChange fieldProductsWrong)

/-- 'casematelaw17.CurveOn': WHATEVER THE INPUT: true; the input reads as it did. -/
def curveOnSpec : ChangeSpec := { name := "curveOn", fn := fun _ => fun
  | [d1, d2, d3] => { results := [.lit (.bool true)], args := [d1, d2, d3] }
  | _ => none }
def curveOnRow : OpenClaim := { program := "ytmlmbolcblafmaa", sum := "89f9a518895dca0e02439f008c21ded3f1d78878d98b72921aedac4ad8ea22ab", func := "casemate/casematelaw17.CurveOn", spec := "curveOn", inPlace := ["math/bits.Sub64", "math/bits.Add64"], unfollowed := true, recurses := true, apart := false }
def CurveOnSaid : Prop := curveOnRow.holds Try.pinned (OpenSpec.ofChange curveOnSpec)

/-- ITS FALSE NEIGHBOUR: 'it returns false'. Refute it at one input. -/
def curveOnWrong : ChangeSpec := { name := "curveOn", fn := fun _ => fun
  | [d1, d2, d3] => { results := [.lit (.bool false)], args := [d1, d2, d3] }
  | _ => none }
def CurveOnWrongFalsely : Prop := curveOnRow.holds Try.pinned (OpenSpec.ofChange curveOnWrong)

/-- 'casematelaw17.CurveAdds': WHATEVER THE INPUT: true; the input reads as it did. -/
def curveAddsSpec : ChangeSpec := { name := "curveAdds", fn := fun _ => fun
  | [d1, d2] => { results := [.lit (.bool true)], args := [d1, d2] }
  | _ => none }
def curveAddsRow : OpenClaim := { program := "ytmlmbolcblafmaa", sum := "89f9a518895dca0e02439f008c21ded3f1d78878d98b72921aedac4ad8ea22ab", func := "casemate/casematelaw17.CurveAdds", spec := "curveAdds", inPlace := ["math/bits.Sub64", "math/bits.Add64"], unfollowed := true, recurses := true, apart := false }
def CurveAddsSaid : Prop := curveAddsRow.holds Try.pinned (OpenSpec.ofChange curveAddsSpec)

/-- ITS FALSE NEIGHBOUR: 'it returns false'. Refute it at one input. -/
def curveAddsWrong : ChangeSpec := { name := "curveAdds", fn := fun _ => fun
  | [d1, d2] => { results := [.lit (.bool false)], args := [d1, d2] }
  | _ => none }
def CurveAddsWrongFalsely : Prop := curveAddsRow.holds Try.pinned (OpenSpec.ofChange curveAddsWrong)

/-- 'casematelaw17.CurveLaws': WHATEVER THE INPUT: true; the input reads as it did. -/
def curveLawsSpec : ChangeSpec := { name := "curveLaws", fn := fun _ => fun
  | [d1, d2, d3] => { results := [.lit (.bool true)], args := [d1, d2, d3] }
  | _ => none }
def curveLawsRow : OpenClaim := { program := "ytmlmbolcblafmaa", sum := "89f9a518895dca0e02439f008c21ded3f1d78878d98b72921aedac4ad8ea22ab", func := "casemate/casematelaw17.CurveLaws", spec := "curveLaws", inPlace := ["math/bits.Sub64", "math/bits.Add64"], unfollowed := true, recurses := true, apart := false }
def CurveLawsSaid : Prop := curveLawsRow.holds Try.pinned (OpenSpec.ofChange curveLawsSpec)

/-- ITS FALSE NEIGHBOUR: 'it returns false'. Refute it at one input. -/
def curveLawsWrong : ChangeSpec := { name := "curveLaws", fn := fun _ => fun
  | [d1, d2, d3] => { results := [.lit (.bool false)], args := [d1, d2, d3] }
  | _ => none }
def CurveLawsWrongFalsely : Prop := curveLawsRow.holds Try.pinned (OpenSpec.ofChange curveLawsWrong)

/-- 'casematelaw17.CurvePacks': WHATEVER THE INPUT: true; the input reads as it did. -/
def curvePacksSpec : ChangeSpec := { name := "curvePacks", fn := fun _ => fun
  | [d1, d2] => { results := [.lit (.bool true)], args := [d1, d2] }
  | _ => none }
def curvePacksRow : OpenClaim := { program := "ytmlmbolcblafmaa", sum := "89f9a518895dca0e02439f008c21ded3f1d78878d98b72921aedac4ad8ea22ab", func := "casemate/casematelaw17.CurvePacks", spec := "curvePacks", inPlace := ["math/bits.Sub64", "math/bits.Add64"], unfollowed := true, recurses := true, apart := false }
def CurvePacksSaid : Prop := curvePacksRow.holds Try.pinned (OpenSpec.ofChange curvePacksSpec)

/-- ITS FALSE NEIGHBOUR: 'it returns false'. Refute it at one input. -/
def curvePacksWrong : ChangeSpec := { name := "curvePacks", fn := fun _ => fun
  | [d1, d2] => { results := [.lit (.bool false)], args := [d1, d2] }
  | _ => none }
def CurvePacksWrongFalsely : Prop := curvePacksRow.holds Try.pinned (OpenSpec.ofChange curvePacksWrong)

/-- 'casematelaw17.CurveUnpacks': WHATEVER THE INPUT: true; the input reads as it did. -/
def curveUnpacksSpec : ChangeSpec := { name := "curveUnpacks", fn := fun _ => fun
  | [d] => { results := [.lit (.bool true)], args := [d] }
  | _ => none }
def curveUnpacksRow : OpenClaim := { program := "ytmlmbolcblafmaa", sum := "89f9a518895dca0e02439f008c21ded3f1d78878d98b72921aedac4ad8ea22ab", func := "casemate/casematelaw17.CurveUnpacks", spec := "curveUnpacks", inPlace := ["math/bits.Sub64", "math/bits.Add64"], unfollowed := true, recurses := true, apart := false }
def CurveUnpacksSaid : Prop := curveUnpacksRow.holds Try.pinned (OpenSpec.ofChange curveUnpacksSpec)

/-- ITS FALSE NEIGHBOUR: 'it returns false'. Refute it at one input. -/
def curveUnpacksWrong : ChangeSpec := { name := "curveUnpacks", fn := fun _ => fun
  | [d] => { results := [.lit (.bool false)], args := [d] }
  | _ => none }
def CurveUnpacksWrongFalsely : Prop := curveUnpacksRow.holds Try.pinned (OpenSpec.ofChange curveUnpacksWrong)

/-- 'casematelaw17.CurveOrders': WHATEVER THE INPUT: true; the input reads as it did. -/
def curveOrdersSpec : ChangeSpec := { name := "curveOrders", fn := fun _ => fun
  | [d] => { results := [.lit (.bool true)], args := [d] }
  | _ => none }
def curveOrdersRow : OpenClaim := { program := "ytmlmbolcblafmaa", sum := "89f9a518895dca0e02439f008c21ded3f1d78878d98b72921aedac4ad8ea22ab", func := "casemate/casematelaw17.CurveOrders", spec := "curveOrders", inPlace := ["math/bits.Sub64", "math/bits.Add64"], unfollowed := true, recurses := true, apart := false }
def CurveOrdersSaid : Prop := curveOrdersRow.holds Try.pinned (OpenSpec.ofChange curveOrdersSpec)

/-- ITS FALSE NEIGHBOUR: 'it returns false'. Refute it at one input. -/
def curveOrdersWrong : ChangeSpec := { name := "curveOrders", fn := fun _ => fun
  | [d] => { results := [.lit (.bool false)], args := [d] }
  | _ => none }
def CurveOrdersWrongFalsely : Prop := curveOrdersRow.holds Try.pinned (OpenSpec.ofChange curveOrdersWrong)

/-- 'casematelaw17.CurveTwo': WHATEVER THE INPUT: true; the input reads as it did. -/
def curveTwoSpec : ChangeSpec := { name := "curveTwo", fn := fun _ => fun
  | [d] => { results := [.lit (.bool true)], args := [d] }
  | _ => none }
def curveTwoRow : OpenClaim := { program := "ytmlmbolcblafmaa", sum := "89f9a518895dca0e02439f008c21ded3f1d78878d98b72921aedac4ad8ea22ab", func := "casemate/casematelaw17.CurveTwo", spec := "curveTwo", inPlace := ["math/bits.Sub64", "math/bits.Add64"], unfollowed := true, recurses := true, apart := false }
def CurveTwoSaid : Prop := curveTwoRow.holds Try.pinned (OpenSpec.ofChange curveTwoSpec)

/-- ITS FALSE NEIGHBOUR: 'it returns false'. Refute it at one input. -/
def curveTwoWrong : ChangeSpec := { name := "curveTwo", fn := fun _ => fun
  | [d] => { results := [.lit (.bool false)], args := [d] }
  | _ => none }
def CurveTwoWrongFalsely : Prop := curveTwoRow.holds Try.pinned (OpenSpec.ofChange curveTwoWrong)

/-- 'casematelaw17.CurveScales': WHATEVER THE INPUT: true; the input reads as it did. -/
def curveScalesSpec : ChangeSpec := { name := "curveScales", fn := fun _ => fun
  | [d1, d2] => { results := [.lit (.bool true)], args := [d1, d2] }
  | _ => none }
def curveScalesRow : OpenClaim := { program := "ytmlmbolcblafmaa", sum := "89f9a518895dca0e02439f008c21ded3f1d78878d98b72921aedac4ad8ea22ab", func := "casemate/casematelaw17.CurveScales", spec := "curveScales", inPlace := ["math/bits.Sub64", "math/bits.Add64"], unfollowed := true, recurses := true, apart := false }
def CurveScalesSaid : Prop := curveScalesRow.holds Try.pinned (OpenSpec.ofChange curveScalesSpec)

/-- ITS FALSE NEIGHBOUR: 'it returns false'. Refute it at one input. -/
def curveScalesWrong : ChangeSpec := { name := "curveScales", fn := fun _ => fun
  | [d1, d2] => { results := [.lit (.bool false)], args := [d1, d2] }
  | _ => none }
def CurveScalesWrongFalsely : Prop := curveScalesRow.holds Try.pinned (OpenSpec.ofChange curveScalesWrong)

/- THE SECOND FORM. 'bulk': how many values and letters a reading holds, each counted each time it is reached (what is shared counts as often as it is met; a slice's spare places count too). A statement '..UptoSaid' is the law's where the arguments, and the package variables that the reading takes, are together of bulk at most 1048576: NARROWER than '..Said'. Prove '..Said' where nothing that the law and all that it calls make is longer than what came in: it says more and counts as full. Else prove '..UptoSaid'. A law counts once. -/
mutual
def uptoBulk {H : Type} : DataW H → Nat
  | .lit (.string bytes) => bytes.length + 1
  | .lit _ => 1
  | .nil => 1
  | .ptr d => uptoBulk d + 1
  | .slice elems spare => uptoBulkAll elems + uptoBulkAll spare + 1
  | .agg parts => uptoBulkAll parts + 1
  | .iface _ d => uptoBulk d + 1
  | .map entries => uptoBulkEntries entries + 1
  | .held _ => 1
def uptoBulkAll {H : Type} : List (DataW H) → Nat
  | [] => 0
  | d :: r => uptoBulk d + uptoBulkAll r
def uptoBulkEntries {H : Type} : List (Lit × DataW H) → Nat
  | [] => 0
  | x :: r => uptoBulkEntry x + uptoBulkEntries r
def uptoBulkEntry {H : Type} : Lit × DataW H → Nat
  | (.string bytes, d) => bytes.length + uptoBulk d + 1
  | (_, d) => uptoBulk d + 1
 end
def uptoSmall : (H : Type) → List (DataW H) → Bool := fun _ ds => decide (uptoBulkAll ds ≤ 1048576)
def OpenSpec.upto (s : _root_.Go.ChangeSpec) : _root_.Go.OpenSpec := { _root_.Go.OpenSpec.ofChange s with cond := some uptoSmall }

/-- 'casematelaw16.FieldReckons', WHERE WHAT IT READS IS OF BULK AT MOST 1048576: true; the input reads as it did. -/
def fieldReckonsUptoRow : OpenClaim := { program := "ytmlmbolcblafmaa", sum := "89f9a518895dca0e02439f008c21ded3f1d78878d98b72921aedac4ad8ea22ab", func := "casemate/casematelaw16.FieldReckons", spec := "fieldReckons", inPlace := ["math/bits.Sub64", "math/bits.Add64"], unfollowed := true, recurses := true, apart := false, narrowed := true }
def FieldReckonsUptoSaid : Prop := fieldReckonsUptoRow.holds Try.pinned (OpenSpec.upto fieldReckonsSpec)

/-- 'casematelaw16.FieldInverts', WHERE WHAT IT READS IS OF BULK AT MOST 1048576: true; the input reads as it did. -/
def fieldInvertsUptoRow : OpenClaim := { program := "ytmlmbolcblafmaa", sum := "89f9a518895dca0e02439f008c21ded3f1d78878d98b72921aedac4ad8ea22ab", func := "casemate/casematelaw16.FieldInverts", spec := "fieldInverts", inPlace := ["math/bits.Sub64", "math/bits.Add64"], unfollowed := true, recurses := true, apart := false, narrowed := true }
def FieldInvertsUptoSaid : Prop := fieldInvertsUptoRow.holds Try.pinned (OpenSpec.upto fieldInvertsSpec)

/-- 'casematelaw16.FieldRoots', WHERE WHAT IT READS IS OF BULK AT MOST 1048576: true; the input reads as it did. -/
def fieldRootsUptoRow : OpenClaim := { program := "ytmlmbolcblafmaa", sum := "89f9a518895dca0e02439f008c21ded3f1d78878d98b72921aedac4ad8ea22ab", func := "casemate/casematelaw16.FieldRoots", spec := "fieldRoots", inPlace := ["math/bits.Sub64", "math/bits.Add64"], unfollowed := true, recurses := true, apart := false, narrowed := true }
def FieldRootsUptoSaid : Prop := fieldRootsUptoRow.holds Try.pinned (OpenSpec.upto fieldRootsSpec)

/-- 'casematelaw16.FieldSquares', WHERE WHAT IT READS IS OF BULK AT MOST 1048576: true; the input reads as it did. -/
def fieldSquaresUptoRow : OpenClaim := { program := "ytmlmbolcblafmaa", sum := "89f9a518895dca0e02439f008c21ded3f1d78878d98b72921aedac4ad8ea22ab", func := "casemate/casematelaw16.FieldSquares", spec := "fieldSquares", inPlace := ["math/bits.Sub64", "math/bits.Add64"], unfollowed := true, recurses := true, apart := false, narrowed := true }
def FieldSquaresUptoSaid : Prop := fieldSquaresUptoRow.holds Try.pinned (OpenSpec.upto fieldSquaresSpec)

/-- 'casematelaw16.FieldLaws', WHERE WHAT IT READS IS OF BULK AT MOST 1048576: true; the input reads as it did. -/
def fieldLawsUptoRow : OpenClaim := { program := "ytmlmbolcblafmaa", sum := "89f9a518895dca0e02439f008c21ded3f1d78878d98b72921aedac4ad8ea22ab", func := "casemate/casematelaw16.FieldLaws", spec := "fieldLaws", inPlace := ["math/bits.Sub64", "math/bits.Add64"], unfollowed := true, recurses := true, apart := false, narrowed := true }
def FieldLawsUptoSaid : Prop := fieldLawsUptoRow.holds Try.pinned (OpenSpec.upto fieldLawsSpec)

/-- 'casematelaw16.FieldProducts', WHERE WHAT IT READS IS OF BULK AT MOST 1048576: true; the input reads as it did. -/
def fieldProductsUptoRow : OpenClaim := { program := "ytmlmbolcblafmaa", sum := "89f9a518895dca0e02439f008c21ded3f1d78878d98b72921aedac4ad8ea22ab", func := "casemate/casematelaw16.FieldProducts", spec := "fieldProducts", inPlace := ["math/bits.Sub64", "math/bits.Add64"], unfollowed := true, recurses := true, apart := false, narrowed := true }
def FieldProductsUptoSaid : Prop := fieldProductsUptoRow.holds Try.pinned (OpenSpec.upto fieldProductsSpec)

/-- 'casematelaw17.CurveOn', WHERE WHAT IT READS IS OF BULK AT MOST 1048576: true; the input reads as it did. -/
def curveOnUptoRow : OpenClaim := { program := "ytmlmbolcblafmaa", sum := "89f9a518895dca0e02439f008c21ded3f1d78878d98b72921aedac4ad8ea22ab", func := "casemate/casematelaw17.CurveOn", spec := "curveOn", inPlace := ["math/bits.Sub64", "math/bits.Add64"], unfollowed := true, recurses := true, apart := false, narrowed := true }
def CurveOnUptoSaid : Prop := curveOnUptoRow.holds Try.pinned (OpenSpec.upto curveOnSpec)

/-- 'casematelaw17.CurveAdds', WHERE WHAT IT READS IS OF BULK AT MOST 1048576: true; the input reads as it did. -/
def curveAddsUptoRow : OpenClaim := { program := "ytmlmbolcblafmaa", sum := "89f9a518895dca0e02439f008c21ded3f1d78878d98b72921aedac4ad8ea22ab", func := "casemate/casematelaw17.CurveAdds", spec := "curveAdds", inPlace := ["math/bits.Sub64", "math/bits.Add64"], unfollowed := true, recurses := true, apart := false, narrowed := true }
def CurveAddsUptoSaid : Prop := curveAddsUptoRow.holds Try.pinned (OpenSpec.upto curveAddsSpec)

/-- 'casematelaw17.CurveLaws', WHERE WHAT IT READS IS OF BULK AT MOST 1048576: true; the input reads as it did. -/
def curveLawsUptoRow : OpenClaim := { program := "ytmlmbolcblafmaa", sum := "89f9a518895dca0e02439f008c21ded3f1d78878d98b72921aedac4ad8ea22ab", func := "casemate/casematelaw17.CurveLaws", spec := "curveLaws", inPlace := ["math/bits.Sub64", "math/bits.Add64"], unfollowed := true, recurses := true, apart := false, narrowed := true }
def CurveLawsUptoSaid : Prop := curveLawsUptoRow.holds Try.pinned (OpenSpec.upto curveLawsSpec)

/-- 'casematelaw17.CurvePacks', WHERE WHAT IT READS IS OF BULK AT MOST 1048576: true; the input reads as it did. -/
def curvePacksUptoRow : OpenClaim := { program := "ytmlmbolcblafmaa", sum := "89f9a518895dca0e02439f008c21ded3f1d78878d98b72921aedac4ad8ea22ab", func := "casemate/casematelaw17.CurvePacks", spec := "curvePacks", inPlace := ["math/bits.Sub64", "math/bits.Add64"], unfollowed := true, recurses := true, apart := false, narrowed := true }
def CurvePacksUptoSaid : Prop := curvePacksUptoRow.holds Try.pinned (OpenSpec.upto curvePacksSpec)

/-- 'casematelaw17.CurveUnpacks', WHERE WHAT IT READS IS OF BULK AT MOST 1048576: true; the input reads as it did. -/
def curveUnpacksUptoRow : OpenClaim := { program := "ytmlmbolcblafmaa", sum := "89f9a518895dca0e02439f008c21ded3f1d78878d98b72921aedac4ad8ea22ab", func := "casemate/casematelaw17.CurveUnpacks", spec := "curveUnpacks", inPlace := ["math/bits.Sub64", "math/bits.Add64"], unfollowed := true, recurses := true, apart := false, narrowed := true }
def CurveUnpacksUptoSaid : Prop := curveUnpacksUptoRow.holds Try.pinned (OpenSpec.upto curveUnpacksSpec)

/-- 'casematelaw17.CurveOrders', WHERE WHAT IT READS IS OF BULK AT MOST 1048576: true; the input reads as it did. -/
def curveOrdersUptoRow : OpenClaim := { program := "ytmlmbolcblafmaa", sum := "89f9a518895dca0e02439f008c21ded3f1d78878d98b72921aedac4ad8ea22ab", func := "casemate/casematelaw17.CurveOrders", spec := "curveOrders", inPlace := ["math/bits.Sub64", "math/bits.Add64"], unfollowed := true, recurses := true, apart := false, narrowed := true }
def CurveOrdersUptoSaid : Prop := curveOrdersUptoRow.holds Try.pinned (OpenSpec.upto curveOrdersSpec)

/-- 'casematelaw17.CurveTwo', WHERE WHAT IT READS IS OF BULK AT MOST 1048576: true; the input reads as it did. -/
def curveTwoUptoRow : OpenClaim := { program := "ytmlmbolcblafmaa", sum := "89f9a518895dca0e02439f008c21ded3f1d78878d98b72921aedac4ad8ea22ab", func := "casemate/casematelaw17.CurveTwo", spec := "curveTwo", inPlace := ["math/bits.Sub64", "math/bits.Add64"], unfollowed := true, recurses := true, apart := false, narrowed := true }
def CurveTwoUptoSaid : Prop := curveTwoUptoRow.holds Try.pinned (OpenSpec.upto curveTwoSpec)

/-- 'casematelaw17.CurveScales', WHERE WHAT IT READS IS OF BULK AT MOST 1048576: true; the input reads as it did. -/
def curveScalesUptoRow : OpenClaim := { program := "ytmlmbolcblafmaa", sum := "89f9a518895dca0e02439f008c21ded3f1d78878d98b72921aedac4ad8ea22ab", func := "casemate/casematelaw17.CurveScales", spec := "curveScales", inPlace := ["math/bits.Sub64", "math/bits.Add64"], unfollowed := true, recurses := true, apart := false, narrowed := true }
def CurveScalesUptoSaid : Prop := curveScalesUptoRow.holds Try.pinned (OpenSpec.upto curveScalesSpec)

end Rows
end Go.Proofs.Ytmlmbolcblafmaa
