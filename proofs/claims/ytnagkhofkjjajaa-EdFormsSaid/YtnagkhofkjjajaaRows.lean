/-
  No cell of these rows narrows 'for every input' (looked for: loops, veiled, ifaces, maps, wideKeys, modest, calm, conditions, laid).
  DERIVED. THE GIVEN ROWS OF THIS SEAT. 4 by the template 'for every input the law returns true; each argument reads behind the call as it read before'; 0 by the template 'total and deterministic' (their statements: YtnagkhofkjjajaaTotals.lean).
  GIVEN WITH THE SEED: the statements are not yours to turn. If you find one false, say at which input.
  Laid BY PROGRAM, IN A SANDBOX (cutbox-rows.mjs): the forced cells as the released guide's own fill.sh prints them over the translation 63ab169ca1e3256d… (all of the seat's roots in one cut). By AI agents, Wed Nov 11 2026. No macro, syntax, notation, axiom, sorry.
-/
import Derived.Test.YtnagkhofkjjajaaChecked
import GoSem.Claim
import GoSem.ClaimJoined
import GoSem.ClaimMapViews
import Derived.JoinedTies
import Derived.KernelRfl
namespace Go.Proofs.Ytnagkhofkjjajaa
/- THE CELL 'sum', in the pinned program and in every row, IS THE sha256 OF THE DUMP (.gsa) THAT YtnagkhofkjjajaaProg.lean LOADS. Nothing in Lean hashes anything: it is a label: what it is worth is what the hold of that sum in a sandbox is worth. -/
noncomputable def Try.pinned : Pinned := { name := "ytnagkhofkjjajaa", sum := "63ab169ca1e3256dab0710e5d9b91fbd688e4c036b80e19fb01d420b6634add9", checked := Try.checked }
namespace Rows
def none {H : Type} : Left H := { results := [], args := [] }

/-- 'casematelaw18.ScalarScales': WHATEVER THE INPUT: true; the input reads as it did. -/
def scalarScalesSpec : ChangeSpec := { name := "scalarScales", fn := fun _ => fun
  | [d] => { results := [.lit (.bool true)], args := [d] }
  | _ => none }
def scalarScalesRow : OpenClaim := { program := "ytnagkhofkjjajaa", sum := "63ab169ca1e3256dab0710e5d9b91fbd688e4c036b80e19fb01d420b6634add9", func := "casemate/casematelaw18.ScalarScales", spec := "scalarScales", inPlace := ["math/bits.Sub64", "math/bits.Add64"], unfollowed := true, recurses := true, apart := false }
def ScalarScalesSaid : Prop := scalarScalesRow.holds Try.pinned (OpenSpec.ofChange scalarScalesSpec)

/-- ITS FALSE NEIGHBOUR: 'it returns false'. Refute it at one input. -/
def scalarScalesWrong : ChangeSpec := { name := "scalarScales", fn := fun _ => fun
  | [d] => { results := [.lit (.bool false)], args := [d] }
  | _ => none }
def ScalarScalesWrongFalsely : Prop := scalarScalesRow.holds Try.pinned (OpenSpec.ofChange scalarScalesWrong)

/-- 'casematelaw19.EdVerifies': WHATEVER THE INPUT: true; the input reads as it did. -/
def edVerifiesSpec : ChangeSpec := { name := "edVerifies", fn := fun _ => fun
  | [d1, d2] => { results := [.lit (.bool true)], args := [d1, d2] }
  | _ => none }
def edVerifiesRow : OpenClaim := { program := "ytnagkhofkjjajaa", sum := "63ab169ca1e3256dab0710e5d9b91fbd688e4c036b80e19fb01d420b6634add9", func := "casemate/casematelaw19.EdVerifies", spec := "edVerifies", inPlace := ["math/bits.Add64", "math/bits.Sub64"], unfollowed := true, recurses := true, apart := false }
def EdVerifiesSaid : Prop := edVerifiesRow.holds Try.pinned (OpenSpec.ofChange edVerifiesSpec)

/-- ITS FALSE NEIGHBOUR: 'it returns false'. Refute it at one input. -/
def edVerifiesWrong : ChangeSpec := { name := "edVerifies", fn := fun _ => fun
  | [d1, d2] => { results := [.lit (.bool false)], args := [d1, d2] }
  | _ => none }
def EdVerifiesWrongFalsely : Prop := edVerifiesRow.holds Try.pinned (OpenSpec.ofChange edVerifiesWrong)

/-- 'casematelaw19.EdOne': WHATEVER THE INPUT: true; the input reads as it did. -/
def edOneSpec : ChangeSpec := { name := "edOne", fn := fun _ => fun
  | [d1, d2, d3] => { results := [.lit (.bool true)], args := [d1, d2, d3] }
  | _ => none }
def edOneRow : OpenClaim := { program := "ytnagkhofkjjajaa", sum := "63ab169ca1e3256dab0710e5d9b91fbd688e4c036b80e19fb01d420b6634add9", func := "casemate/casematelaw19.EdOne", spec := "edOne", inPlace := ["math/bits.Add64", "math/bits.Sub64"], unfollowed := true, recurses := true, apart := false }
def EdOneSaid : Prop := edOneRow.holds Try.pinned (OpenSpec.ofChange edOneSpec)

/-- ITS FALSE NEIGHBOUR: 'it returns false'. Refute it at one input. -/
def edOneWrong : ChangeSpec := { name := "edOne", fn := fun _ => fun
  | [d1, d2, d3] => { results := [.lit (.bool false)], args := [d1, d2, d3] }
  | _ => none }
def EdOneWrongFalsely : Prop := edOneRow.holds Try.pinned (OpenSpec.ofChange edOneWrong)

/-- 'casematelaw19.EdForms': WHATEVER THE INPUT: true; the input reads as it did. -/
def edFormsSpec : ChangeSpec := { name := "edForms", fn := fun _ => fun
  | [d1, d2] => { results := [.lit (.bool true)], args := [d1, d2] }
  | _ => none }
def edFormsRow : OpenClaim := { program := "ytnagkhofkjjajaa", sum := "63ab169ca1e3256dab0710e5d9b91fbd688e4c036b80e19fb01d420b6634add9", func := "casemate/casematelaw19.EdForms", spec := "edForms", inPlace := ["math/bits.Add64", "math/bits.Sub64"], unfollowed := true, recurses := true, apart := false }
def EdFormsSaid : Prop := edFormsRow.holds Try.pinned (OpenSpec.ofChange edFormsSpec)

/-- ITS FALSE NEIGHBOUR: 'it returns false'. Refute it at one input. -/
def edFormsWrong : ChangeSpec := { name := "edForms", fn := fun _ => fun
  | [d1, d2] => { results := [.lit (.bool false)], args := [d1, d2] }
  | _ => none }
def EdFormsWrongFalsely : Prop := edFormsRow.holds Try.pinned (OpenSpec.ofChange edFormsWrong)

/- THE SECOND FORM. 'bulk': how many values and letters a reading holds, each counted each time it is reached (what is shared counts as often as it is met; a slice's spare places count too). A statement '..UptoSaid' is the law's where the arguments, and the package variables that the reading takes, are together of bulk at most 1048576: NARROWER than '..Said'. Prove '..Said' where nothing that the law and all that it calls make is longer than what came in: it says more and counts as full. Else prove '..UptoSaid'. A law counts once. -/
mutual
def uptoBulk {H : Type} : DataW H → Nat
  | .lit (.string bytes) => bytes.length + 1
  | .lit _ => 1
  | .nil => 1
  | .ptr d => uptoBulk d + 1
  | .slice elems spare => uptoBulkAll elems + uptoBulkAll spare + 1
  | .agg parts => uptoBulkAll parts + 1
  | .iface _ d => uptoBulk d + 1
  | .map entries => uptoBulkEntries entries + 1
  | .held _ => 1
def uptoBulkAll {H : Type} : List (DataW H) → Nat
  | [] => 0
  | d :: r => uptoBulk d + uptoBulkAll r
def uptoBulkEntries {H : Type} : List (Lit × DataW H) → Nat
  | [] => 0
  | x :: r => uptoBulkEntry x + uptoBulkEntries r
def uptoBulkEntry {H : Type} : Lit × DataW H → Nat
  | (.string bytes, d) => bytes.length + uptoBulk d + 1
  | (_, d) => uptoBulk d + 1
 end
def uptoSmall : (H : Type) → List (DataW H) → Bool := fun _ ds => decide (uptoBulkAll ds ≤ 1048576)
def OpenSpec.upto (s : _root_.Go.ChangeSpec) : _root_.Go.OpenSpec := { _root_.Go.OpenSpec.ofChange s with cond := some uptoSmall }

/-- 'casematelaw18.ScalarScales', WHERE WHAT IT READS IS OF BULK AT MOST 1048576: true; the input reads as it did. -/
def scalarScalesUptoRow : OpenClaim := { program := "ytnagkhofkjjajaa", sum := "63ab169ca1e3256dab0710e5d9b91fbd688e4c036b80e19fb01d420b6634add9", func := "casemate/casematelaw18.ScalarScales", spec := "scalarScales", inPlace := ["math/bits.Sub64", "math/bits.Add64"], unfollowed := true, recurses := true, apart := false, narrowed := true }
def ScalarScalesUptoSaid : Prop := scalarScalesUptoRow.holds Try.pinned (OpenSpec.upto scalarScalesSpec)

/-- 'casematelaw19.EdVerifies', WHERE WHAT IT READS IS OF BULK AT MOST 1048576: true; the input reads as it did. -/
def edVerifiesUptoRow : OpenClaim := { program := "ytnagkhofkjjajaa", sum := "63ab169ca1e3256dab0710e5d9b91fbd688e4c036b80e19fb01d420b6634add9", func := "casemate/casematelaw19.EdVerifies", spec := "edVerifies", inPlace := ["math/bits.Add64", "math/bits.Sub64"], unfollowed := true, recurses := true, apart := false, narrowed := true }
def EdVerifiesUptoSaid : Prop := edVerifiesUptoRow.holds Try.pinned (OpenSpec.upto edVerifiesSpec)

/-- 'casematelaw19.EdOne', WHERE WHAT IT READS IS OF BULK AT MOST 1048576: true; the input reads as it did. -/
def edOneUptoRow : OpenClaim := { program := "ytnagkhofkjjajaa", sum := "63ab169ca1e3256dab0710e5d9b91fbd688e4c036b80e19fb01d420b6634add9", func := "casemate/casematelaw19.EdOne", spec := "edOne", inPlace := ["math/bits.Add64", "math/bits.Sub64"], unfollowed := true, recurses := true, apart := false, narrowed := true }
def EdOneUptoSaid : Prop := edOneUptoRow.holds Try.pinned (OpenSpec.upto edOneSpec)

/-- 'casematelaw19.EdForms', WHERE WHAT IT READS IS OF BULK AT MOST 1048576: true; the input reads as it did. -/
def edFormsUptoRow : OpenClaim := { program := "ytnagkhofkjjajaa", sum := "63ab169ca1e3256dab0710e5d9b91fbd688e4c036b80e19fb01d420b6634add9", func := "casemate/casematelaw19.EdForms", spec := "edForms", inPlace := ["math/bits.Add64", "math/bits.Sub64"], unfollowed := true, recurses := true, apart := false, narrowed := true }
def EdFormsUptoSaid : Prop := edFormsUptoRow.holds Try.pinned (OpenSpec.upto edFormsSpec)

end Rows
end Go.Proofs.Ytnagkhofkjjajaa
