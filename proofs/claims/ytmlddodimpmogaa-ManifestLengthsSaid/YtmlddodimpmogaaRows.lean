/-
  No cell of these rows narrows 'for every input' (looked for: loops, veiled, ifaces, maps, wideKeys, modest, calm, conditions, laid).
  DERIVED. THE GIVEN ROWS OF THIS SEAT. 10 by the template 'for every input the law returns true; each argument reads behind the call as it read before'; 0 by the template 'total and deterministic' (their statements: YtmlddodimpmogaaTotals.lean).
  GIVEN WITH THE SEED: the statements are not yours to turn. If you find one false, say at which input.
  Laid BY PROGRAM, IN A SANDBOX (cutbox-rows.mjs): the forced cells as the released guide's own fill.sh prints them over the translation 742d7f1893365a5b… (all of the seat's roots in one cut). By AI agents, Wed Nov 11 2026. No macro, syntax, notation, axiom, sorry.
-/
import Derived.Test.YtmlddodimpmogaaChecked
import GoSem.Claim
import GoSem.ClaimJoined
import GoSem.ClaimMapViews
import Derived.JoinedTies
import Derived.KernelRfl
namespace Go.Proofs.Ytmlddodimpmogaa
/- THE CELL 'sum', in the pinned program and in every row, IS THE sha256 OF THE DUMP (.gsa) THAT YtmlddodimpmogaaProg.lean LOADS. Nothing in Lean hashes anything: it is a label: what it is worth is what the hold of that sum in a sandbox is worth. -/
noncomputable def Try.pinned : Pinned := { name := "ytmlddodimpmogaa", sum := "742d7f1893365a5b250d525493f95ac8cf42630183af007f89e67c7f9e0a01d2", checked := Try.checked }
namespace Rows
def none {H : Type} : Left H := { results := [], args := [] }

/-- 'casematelaw20.ManifestLays': WHATEVER THE INPUT: true; the input reads as it did. -/
def manifestLaysSpec : ChangeSpec := { name := "manifestLays", fn := fun _ => fun
  | [d] => { results := [.lit (.bool true)], args := [d] }
  | _ => none }
def manifestLaysRow : OpenClaim := { program := "ytmlddodimpmogaa", sum := "742d7f1893365a5b250d525493f95ac8cf42630183af007f89e67c7f9e0a01d2", func := "casemate/casematelaw20.ManifestLays", spec := "manifestLays", unfollowed := true, recurses := true, apart := false }
def ManifestLaysSaid : Prop := manifestLaysRow.holds Try.pinned (OpenSpec.ofChange manifestLaysSpec)

/-- ITS FALSE NEIGHBOUR: 'it returns false'. Refute it at one input. -/
def manifestLaysWrong : ChangeSpec := { name := "manifestLays", fn := fun _ => fun
  | [d] => { results := [.lit (.bool false)], args := [d] }
  | _ => none }
def ManifestLaysWrongFalsely : Prop := manifestLaysRow.holds Try.pinned (OpenSpec.ofChange manifestLaysWrong)

/-- 'casematelaw20.ManifestParses': WHATEVER THE INPUT: true; the input reads as it did. -/
def manifestParsesSpec : ChangeSpec := { name := "manifestParses", fn := fun _ => fun
  | [d] => { results := [.lit (.bool true)], args := [d] }
  | _ => none }
def manifestParsesRow : OpenClaim := { program := "ytmlddodimpmogaa", sum := "742d7f1893365a5b250d525493f95ac8cf42630183af007f89e67c7f9e0a01d2", func := "casemate/casematelaw20.ManifestParses", spec := "manifestParses", unfollowed := true, recurses := true, apart := false }
def ManifestParsesSaid : Prop := manifestParsesRow.holds Try.pinned (OpenSpec.ofChange manifestParsesSpec)

/-- ITS FALSE NEIGHBOUR: 'it returns false'. Refute it at one input. -/
def manifestParsesWrong : ChangeSpec := { name := "manifestParses", fn := fun _ => fun
  | [d] => { results := [.lit (.bool false)], args := [d] }
  | _ => none }
def ManifestParsesWrongFalsely : Prop := manifestParsesRow.holds Try.pinned (OpenSpec.ofChange manifestParsesWrong)

/-- 'casematelaw20.ManifestBack': WHATEVER THE INPUT: true; the input reads as it did. -/
def manifestBackSpec : ChangeSpec := { name := "manifestBack", fn := fun _ => fun
  | [d1, d2] => { results := [.lit (.bool true)], args := [d1, d2] }
  | _ => none }
def manifestBackRow : OpenClaim := { program := "ytmlddodimpmogaa", sum := "742d7f1893365a5b250d525493f95ac8cf42630183af007f89e67c7f9e0a01d2", func := "casemate/casematelaw20.ManifestBack", spec := "manifestBack", unfollowed := true, recurses := true, apart := false }
def ManifestBackSaid : Prop := manifestBackRow.holds Try.pinned (OpenSpec.ofChange manifestBackSpec)

/-- ITS FALSE NEIGHBOUR: 'it returns false'. Refute it at one input. -/
def manifestBackWrong : ChangeSpec := { name := "manifestBack", fn := fun _ => fun
  | [d1, d2] => { results := [.lit (.bool false)], args := [d1, d2] }
  | _ => none }
def ManifestBackWrongFalsely : Prop := manifestBackRow.holds Try.pinned (OpenSpec.ofChange manifestBackWrong)

/-- 'casematelaw20.ManifestSplits': WHATEVER THE INPUT: true; the input reads as it did. -/
def manifestSplitsSpec : ChangeSpec := { name := "manifestSplits", fn := fun _ => fun
  | [d] => { results := [.lit (.bool true)], args := [d] }
  | _ => none }
def manifestSplitsRow : OpenClaim := { program := "ytmlddodimpmogaa", sum := "742d7f1893365a5b250d525493f95ac8cf42630183af007f89e67c7f9e0a01d2", func := "casemate/casematelaw20.ManifestSplits", spec := "manifestSplits", unfollowed := true, recurses := true, apart := false }
def ManifestSplitsSaid : Prop := manifestSplitsRow.holds Try.pinned (OpenSpec.ofChange manifestSplitsSpec)

/-- ITS FALSE NEIGHBOUR: 'it returns false'. Refute it at one input. -/
def manifestSplitsWrong : ChangeSpec := { name := "manifestSplits", fn := fun _ => fun
  | [d] => { results := [.lit (.bool false)], args := [d] }
  | _ => none }
def ManifestSplitsWrongFalsely : Prop := manifestSplitsRow.holds Try.pinned (OpenSpec.ofChange manifestSplitsWrong)

/-- 'casematelaw20.ManifestLengths': WHATEVER THE INPUT: true; the input reads as it did. -/
def manifestLengthsSpec : ChangeSpec := { name := "manifestLengths", fn := fun _ => fun
  | [d1, d2] => { results := [.lit (.bool true)], args := [d1, d2] }
  | _ => none }
def manifestLengthsRow : OpenClaim := { program := "ytmlddodimpmogaa", sum := "742d7f1893365a5b250d525493f95ac8cf42630183af007f89e67c7f9e0a01d2", func := "casemate/casematelaw20.ManifestLengths", spec := "manifestLengths", unfollowed := true, recurses := true, apart := false }
def ManifestLengthsSaid : Prop := manifestLengthsRow.holds Try.pinned (OpenSpec.ofChange manifestLengthsSpec)

/-- ITS FALSE NEIGHBOUR: 'it returns false'. Refute it at one input. -/
def manifestLengthsWrong : ChangeSpec := { name := "manifestLengths", fn := fun _ => fun
  | [d1, d2] => { results := [.lit (.bool false)], args := [d1, d2] }
  | _ => none }
def ManifestLengthsWrongFalsely : Prop := manifestLengthsRow.holds Try.pinned (OpenSpec.ofChange manifestLengthsWrong)

/-- 'casematelaw21.KeysLay': WHATEVER THE INPUT: true; the input reads as it did. -/
def keysLaySpec : ChangeSpec := { name := "keysLay", fn := fun _ => fun
  | [d1, d2] => { results := [.lit (.bool true)], args := [d1, d2] }
  | _ => none }
def keysLayRow : OpenClaim := { program := "ytmlddodimpmogaa", sum := "742d7f1893365a5b250d525493f95ac8cf42630183af007f89e67c7f9e0a01d2", func := "casemate/casematelaw21.KeysLay", spec := "keysLay", unfollowed := true, recurses := true, apart := false }
def KeysLaySaid : Prop := keysLayRow.holds Try.pinned (OpenSpec.ofChange keysLaySpec)

/-- ITS FALSE NEIGHBOUR: 'it returns false'. Refute it at one input. -/
def keysLayWrong : ChangeSpec := { name := "keysLay", fn := fun _ => fun
  | [d1, d2] => { results := [.lit (.bool false)], args := [d1, d2] }
  | _ => none }
def KeysLayWrongFalsely : Prop := keysLayRow.holds Try.pinned (OpenSpec.ofChange keysLayWrong)

/-- 'casematelaw21.KeysRevoked': WHATEVER THE INPUT: true; the input reads as it did. -/
def keysRevokedSpec : ChangeSpec := { name := "keysRevoked", fn := fun _ => fun
  | [d1, d2, d3] => { results := [.lit (.bool true)], args := [d1, d2, d3] }
  | _ => none }
def keysRevokedRow : OpenClaim := { program := "ytmlddodimpmogaa", sum := "742d7f1893365a5b250d525493f95ac8cf42630183af007f89e67c7f9e0a01d2", func := "casemate/casematelaw21.KeysRevoked", spec := "keysRevoked", unfollowed := true, recurses := true, apart := false }
def KeysRevokedSaid : Prop := keysRevokedRow.holds Try.pinned (OpenSpec.ofChange keysRevokedSpec)

/-- ITS FALSE NEIGHBOUR: 'it returns false'. Refute it at one input. -/
def keysRevokedWrong : ChangeSpec := { name := "keysRevoked", fn := fun _ => fun
  | [d1, d2, d3] => { results := [.lit (.bool false)], args := [d1, d2, d3] }
  | _ => none }
def KeysRevokedWrongFalsely : Prop := keysRevokedRow.holds Try.pinned (OpenSpec.ofChange keysRevokedWrong)

/-- 'casematelaw21.KeysEach': WHATEVER THE INPUT: true; the input reads as it did. -/
def keysEachSpec : ChangeSpec := { name := "keysEach", fn := fun _ => fun
  | [d1, d2] => { results := [.lit (.bool true)], args := [d1, d2] }
  | _ => none }
def keysEachRow : OpenClaim := { program := "ytmlddodimpmogaa", sum := "742d7f1893365a5b250d525493f95ac8cf42630183af007f89e67c7f9e0a01d2", func := "casemate/casematelaw21.KeysEach", spec := "keysEach", unfollowed := true, recurses := true, apart := false }
def KeysEachSaid : Prop := keysEachRow.holds Try.pinned (OpenSpec.ofChange keysEachSpec)

/-- ITS FALSE NEIGHBOUR: 'it returns false'. Refute it at one input. -/
def keysEachWrong : ChangeSpec := { name := "keysEach", fn := fun _ => fun
  | [d1, d2] => { results := [.lit (.bool false)], args := [d1, d2] }
  | _ => none }
def KeysEachWrongFalsely : Prop := keysEachRow.holds Try.pinned (OpenSpec.ofChange keysEachWrong)

/-- 'casematelaw21.KeysParse': WHATEVER THE INPUT: true; the input reads as it did. -/
def keysParseSpec : ChangeSpec := { name := "keysParse", fn := fun _ => fun
  | [d] => { results := [.lit (.bool true)], args := [d] }
  | _ => none }
def keysParseRow : OpenClaim := { program := "ytmlddodimpmogaa", sum := "742d7f1893365a5b250d525493f95ac8cf42630183af007f89e67c7f9e0a01d2", func := "casemate/casematelaw21.KeysParse", spec := "keysParse", unfollowed := true, recurses := true, apart := false }
def KeysParseSaid : Prop := keysParseRow.holds Try.pinned (OpenSpec.ofChange keysParseSpec)

/-- ITS FALSE NEIGHBOUR: 'it returns false'. Refute it at one input. -/
def keysParseWrong : ChangeSpec := { name := "keysParse", fn := fun _ => fun
  | [d] => { results := [.lit (.bool false)], args := [d] }
  | _ => none }
def KeysParseWrongFalsely : Prop := keysParseRow.holds Try.pinned (OpenSpec.ofChange keysParseWrong)

/-- 'casematelaw21.KeysBack': WHATEVER THE INPUT: true; the input reads as it did. -/
def keysBackSpec : ChangeSpec := { name := "keysBack", fn := fun _ => fun
  | [d1, d2] => { results := [.lit (.bool true)], args := [d1, d2] }
  | _ => none }
def keysBackRow : OpenClaim := { program := "ytmlddodimpmogaa", sum := "742d7f1893365a5b250d525493f95ac8cf42630183af007f89e67c7f9e0a01d2", func := "casemate/casematelaw21.KeysBack", spec := "keysBack", unfollowed := true, recurses := true, apart := false }
def KeysBackSaid : Prop := keysBackRow.holds Try.pinned (OpenSpec.ofChange keysBackSpec)

/-- ITS FALSE NEIGHBOUR: 'it returns false'. Refute it at one input. -/
def keysBackWrong : ChangeSpec := { name := "keysBack", fn := fun _ => fun
  | [d1, d2] => { results := [.lit (.bool false)], args := [d1, d2] }
  | _ => none }
def KeysBackWrongFalsely : Prop := keysBackRow.holds Try.pinned (OpenSpec.ofChange keysBackWrong)

/- THE SECOND FORM. 'bulk': how many values and letters a reading holds, each counted each time it is reached (what is shared counts as often as it is met; a slice's spare places count too). A statement '..UptoSaid' is the law's where the arguments, and the package variables that the reading takes, are together of bulk at most 1048576: NARROWER than '..Said'. Prove '..Said' where nothing that the law and all that it calls make is longer than what came in: it says more and counts as full. Else prove '..UptoSaid'. A law counts once. -/
mutual
def uptoBulk {H : Type} : DataW H → Nat
  | .lit (.string bytes) => bytes.length + 1
  | .lit _ => 1
  | .nil => 1
  | .ptr d => uptoBulk d + 1
  | .slice elems spare => uptoBulkAll elems + uptoBulkAll spare + 1
  | .agg parts => uptoBulkAll parts + 1
  | .iface _ d => uptoBulk d + 1
  | .map entries => uptoBulkEntries entries + 1
  | .held _ => 1
def uptoBulkAll {H : Type} : List (DataW H) → Nat
  | [] => 0
  | d :: r => uptoBulk d + uptoBulkAll r
def uptoBulkEntries {H : Type} : List (Lit × DataW H) → Nat
  | [] => 0
  | x :: r => uptoBulkEntry x + uptoBulkEntries r
def uptoBulkEntry {H : Type} : Lit × DataW H → Nat
  | (.string bytes, d) => bytes.length + uptoBulk d + 1
  | (_, d) => uptoBulk d + 1
 end
def uptoSmall : (H : Type) → List (DataW H) → Bool := fun _ ds => decide (uptoBulkAll ds ≤ 1048576)
def OpenSpec.upto (s : _root_.Go.ChangeSpec) : _root_.Go.OpenSpec := { _root_.Go.OpenSpec.ofChange s with cond := some uptoSmall }

/-- 'casematelaw20.ManifestLays', WHERE WHAT IT READS IS OF BULK AT MOST 1048576: true; the input reads as it did. -/
def manifestLaysUptoRow : OpenClaim := { program := "ytmlddodimpmogaa", sum := "742d7f1893365a5b250d525493f95ac8cf42630183af007f89e67c7f9e0a01d2", func := "casemate/casematelaw20.ManifestLays", spec := "manifestLays", unfollowed := true, recurses := true, apart := false, narrowed := true }
def ManifestLaysUptoSaid : Prop := manifestLaysUptoRow.holds Try.pinned (OpenSpec.upto manifestLaysSpec)

/-- 'casematelaw20.ManifestParses', WHERE WHAT IT READS IS OF BULK AT MOST 1048576: true; the input reads as it did. -/
def manifestParsesUptoRow : OpenClaim := { program := "ytmlddodimpmogaa", sum := "742d7f1893365a5b250d525493f95ac8cf42630183af007f89e67c7f9e0a01d2", func := "casemate/casematelaw20.ManifestParses", spec := "manifestParses", unfollowed := true, recurses := true, apart := false, narrowed := true }
def ManifestParsesUptoSaid : Prop := manifestParsesUptoRow.holds Try.pinned (OpenSpec.upto manifestParsesSpec)

/-- 'casematelaw20.ManifestBack', WHERE WHAT IT READS IS OF BULK AT MOST 1048576: true; the input reads as it did. -/
def manifestBackUptoRow : OpenClaim := { program := "ytmlddodimpmogaa", sum := "742d7f1893365a5b250d525493f95ac8cf42630183af007f89e67c7f9e0a01d2", func := "casemate/casematelaw20.ManifestBack", spec := "manifestBack", unfollowed := true, recurses := true, apart := false, narrowed := true }
def ManifestBackUptoSaid : Prop := manifestBackUptoRow.holds Try.pinned (OpenSpec.upto manifestBackSpec)

/-- 'casematelaw20.ManifestSplits', WHERE WHAT IT READS IS OF BULK AT MOST 1048576: true; the input reads as it did. -/
def manifestSplitsUptoRow : OpenClaim := { program := "ytmlddodimpmogaa", sum := "742d7f1893365a5b250d525493f95ac8cf42630183af007f89e67c7f9e0a01d2", func := "casemate/casematelaw20.ManifestSplits", spec := "manifestSplits", unfollowed := true, recurses := true, apart := false, narrowed := true }
def ManifestSplitsUptoSaid : Prop := manifestSplitsUptoRow.holds Try.pinned (OpenSpec.upto manifestSplitsSpec)

/-- 'casematelaw20.ManifestLengths', WHERE WHAT IT READS IS OF BULK AT MOST 1048576: true; the input reads as it did. -/
def manifestLengthsUptoRow : OpenClaim := { program := "ytmlddodimpmogaa", sum := "742d7f1893365a5b250d525493f95ac8cf42630183af007f89e67c7f9e0a01d2", func := "casemate/casematelaw20.ManifestLengths", spec := "manifestLengths", unfollowed := true, recurses := true, apart := false, narrowed := true }
def ManifestLengthsUptoSaid : Prop := manifestLengthsUptoRow.holds Try.pinned (OpenSpec.upto manifestLengthsSpec)

/-- 'casematelaw21.KeysLay', WHERE WHAT IT READS IS OF BULK AT MOST 1048576: true; the input reads as it did. -/
def keysLayUptoRow : OpenClaim := { program := "ytmlddodimpmogaa", sum := "742d7f1893365a5b250d525493f95ac8cf42630183af007f89e67c7f9e0a01d2", func := "casemate/casematelaw21.KeysLay", spec := "keysLay", unfollowed := true, recurses := true, apart := false, narrowed := true }
def KeysLayUptoSaid : Prop := keysLayUptoRow.holds Try.pinned (OpenSpec.upto keysLaySpec)

/-- 'casematelaw21.KeysRevoked', WHERE WHAT IT READS IS OF BULK AT MOST 1048576: true; the input reads as it did. -/
def keysRevokedUptoRow : OpenClaim := { program := "ytmlddodimpmogaa", sum := "742d7f1893365a5b250d525493f95ac8cf42630183af007f89e67c7f9e0a01d2", func := "casemate/casematelaw21.KeysRevoked", spec := "keysRevoked", unfollowed := true, recurses := true, apart := false, narrowed := true }
def KeysRevokedUptoSaid : Prop := keysRevokedUptoRow.holds Try.pinned (OpenSpec.upto keysRevokedSpec)

/-- 'casematelaw21.KeysEach', WHERE WHAT IT READS IS OF BULK AT MOST 1048576: true; the input reads as it did. -/
def keysEachUptoRow : OpenClaim := { program := "ytmlddodimpmogaa", sum := "742d7f1893365a5b250d525493f95ac8cf42630183af007f89e67c7f9e0a01d2", func := "casemate/casematelaw21.KeysEach", spec := "keysEach", unfollowed := true, recurses := true, apart := false, narrowed := true }
def KeysEachUptoSaid : Prop := keysEachUptoRow.holds Try.pinned (OpenSpec.upto keysEachSpec)

/-- 'casematelaw21.KeysParse', WHERE WHAT IT READS IS OF BULK AT MOST 1048576: true; the input reads as it did. -/
def keysParseUptoRow : OpenClaim := { program := "ytmlddodimpmogaa", sum := "742d7f1893365a5b250d525493f95ac8cf42630183af007f89e67c7f9e0a01d2", func := "casemate/casematelaw21.KeysParse", spec := "keysParse", unfollowed := true, recurses := true, apart := false, narrowed := true }
def KeysParseUptoSaid : Prop := keysParseUptoRow.holds Try.pinned (OpenSpec.upto keysParseSpec)

/-- 'casematelaw21.KeysBack', WHERE WHAT IT READS IS OF BULK AT MOST 1048576: true; the input reads as it did. -/
def keysBackUptoRow : OpenClaim := { program := "ytmlddodimpmogaa", sum := "742d7f1893365a5b250d525493f95ac8cf42630183af007f89e67c7f9e0a01d2", func := "casemate/casematelaw21.KeysBack", spec := "keysBack", unfollowed := true, recurses := true, apart := false, narrowed := true }
def KeysBackUptoSaid : Prop := keysBackUptoRow.holds Try.pinned (OpenSpec.upto keysBackSpec)

end Rows
end Go.Proofs.Ytmlddodimpmogaa
