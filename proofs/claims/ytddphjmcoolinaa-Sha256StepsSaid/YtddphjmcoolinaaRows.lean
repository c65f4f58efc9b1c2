/-
  No cell of these rows narrows 'for every input' (looked for: loops, veiled, ifaces, maps, wideKeys, modest, calm, conditions, laid).
  DERIVED. THE GIVEN ROWS OF THIS SEAT. 12 by the template 'for every input the law returns true; each argument reads behind the call as it read before'; 0 by the template 'total and deterministic' (their statements: YtddphjmcoolinaaTotals.lean).
  GIVEN WITH THE SEED: the statements are not yours to turn. If you find one false, say at which input.
  Laid BY PROGRAM, IN A SANDBOX (cutbox-rows.mjs): the forced cells as the released guide's own fill.sh prints them over the translation 87f6b0f6db9f7863… (all of the seat's roots in one cut). By AI agents, Wed Nov 11 2026. No macro, syntax, notation, axiom, sorry.
-/
import Derived.Test.YtddphjmcoolinaaChecked
import GoSem.Claim
import GoSem.ClaimJoined
import GoSem.ClaimMapViews
import Derived.JoinedTies
import Derived.KernelRfl
namespace Go.Proofs.Ytddphjmcoolinaa
/- THE CELL 'sum', in the pinned program and in every row, IS THE sha256 OF THE DUMP (.gsa) THAT YtddphjmcoolinaaProg.lean LOADS. Nothing in Lean hashes anything: it is a label: what it is worth is what the hold of that sum in a sandbox is worth. -/
noncomputable def Try.pinned : Pinned := { name := "ytddphjmcoolinaa", sum := "87f6b0f6db9f786330ecc5a867a5c34a045c711504b0b300d0e726700c3f9d08", checked := Try.checked }
namespace Rows
def none {H : Type} : Left H := { results := [], args := [] }

/-- 'casematelaw14.Sha512Constants': WHATEVER THE INPUT: true; the input reads as it did. -/
def sha512ConstantsSpec : ChangeSpec := { name := "sha512Constants", fn := fun _ => fun
  | [d] => { results := [.lit (.bool true)], args := [d] }
  | _ => none }
def sha512ConstantsRow : OpenClaim := { program := "ytddphjmcoolinaa", sum := "87f6b0f6db9f786330ecc5a867a5c34a045c711504b0b300d0e726700c3f9d08", func := "casemate/casematelaw14.Sha512Constants", spec := "sha512Constants", inPlace := ["math/bits.Add64"], apart := false }
def Sha512ConstantsSaid : Prop := sha512ConstantsRow.holds Try.pinned (OpenSpec.ofChange sha512ConstantsSpec)

/-- ITS FALSE NEIGHBOUR: 'it returns false'. Refute it at one input. -/
def sha512ConstantsWrong : ChangeSpec := { name := "sha512Constants", fn := fun _ => fun
  | [d] => { results := [.lit (.bool false)], args := [d] }
  | _ => none }
def Sha512ConstantsWrongFalsely : Prop := sha512ConstantsRow.holds Try.pinned (OpenSpec.ofChange sha512ConstantsWrong)

/-- 'casematelaw14.Sha512Sums': WHATEVER THE INPUT: true; the input reads as it did. -/
def sha512SumsSpec : ChangeSpec := { name := "sha512Sums", fn := fun _ => fun
  | [d] => { results := [.lit (.bool true)], args := [d] }
  | _ => none }
def sha512SumsRow : OpenClaim := { program := "ytddphjmcoolinaa", sum := "87f6b0f6db9f786330ecc5a867a5c34a045c711504b0b300d0e726700c3f9d08", func := "casemate/casematelaw14.Sha512Sums", spec := "sha512Sums", inPlace := ["math/bits.Add64"], apart := false }
def Sha512SumsSaid : Prop := sha512SumsRow.holds Try.pinned (OpenSpec.ofChange sha512SumsSpec)

/-- ITS FALSE NEIGHBOUR: 'it returns false'. Refute it at one input. -/
def sha512SumsWrong : ChangeSpec := { name := "sha512Sums", fn := fun _ => fun
  | [d] => { results := [.lit (.bool false)], args := [d] }
  | _ => none }
def Sha512SumsWrongFalsely : Prop := sha512SumsRow.holds Try.pinned (OpenSpec.ofChange sha512SumsWrong)

/-- 'casematelaw14.Sha512Parts': WHATEVER THE INPUT: true; the input reads as it did. -/
def sha512PartsSpec : ChangeSpec := { name := "sha512Parts", fn := fun _ => fun
  | [d1, d2, d3] => { results := [.lit (.bool true)], args := [d1, d2, d3] }
  | _ => none }
def sha512PartsRow : OpenClaim := { program := "ytddphjmcoolinaa", sum := "87f6b0f6db9f786330ecc5a867a5c34a045c711504b0b300d0e726700c3f9d08", func := "casemate/casematelaw14.Sha512Parts", spec := "sha512Parts", inPlace := ["math/bits.Add64"], apart := false }
def Sha512PartsSaid : Prop := sha512PartsRow.holds Try.pinned (OpenSpec.ofChange sha512PartsSpec)

/-- ITS FALSE NEIGHBOUR: 'it returns false'. Refute it at one input. -/
def sha512PartsWrong : ChangeSpec := { name := "sha512Parts", fn := fun _ => fun
  | [d1, d2, d3] => { results := [.lit (.bool false)], args := [d1, d2, d3] }
  | _ => none }
def Sha512PartsWrongFalsely : Prop := sha512PartsRow.holds Try.pinned (OpenSpec.ofChange sha512PartsWrong)

/-- 'casematelaw14.Sha512Blocks': WHATEVER THE INPUT: true; the input reads as it did. -/
def sha512BlocksSpec : ChangeSpec := { name := "sha512Blocks", fn := fun _ => fun
  | [d1, d2] => { results := [.lit (.bool true)], args := [d1, d2] }
  | _ => none }
def sha512BlocksRow : OpenClaim := { program := "ytddphjmcoolinaa", sum := "87f6b0f6db9f786330ecc5a867a5c34a045c711504b0b300d0e726700c3f9d08", func := "casemate/casematelaw14.Sha512Blocks", spec := "sha512Blocks", inPlace := ["math/bits.Add64"], apart := false }
def Sha512BlocksSaid : Prop := sha512BlocksRow.holds Try.pinned (OpenSpec.ofChange sha512BlocksSpec)

/-- ITS FALSE NEIGHBOUR: 'it returns false'. Refute it at one input. -/
def sha512BlocksWrong : ChangeSpec := { name := "sha512Blocks", fn := fun _ => fun
  | [d1, d2] => { results := [.lit (.bool false)], args := [d1, d2] }
  | _ => none }
def Sha512BlocksWrongFalsely : Prop := sha512BlocksRow.holds Try.pinned (OpenSpec.ofChange sha512BlocksWrong)

/-- 'casematelaw14.Sha512Steps': WHATEVER THE INPUT: true; the input reads as it did. -/
def sha512StepsSpec : ChangeSpec := { name := "sha512Steps", fn := fun _ => fun
  | [d] => { results := [.lit (.bool true)], args := [d] }
  | _ => none }
def sha512StepsRow : OpenClaim := { program := "ytddphjmcoolinaa", sum := "87f6b0f6db9f786330ecc5a867a5c34a045c711504b0b300d0e726700c3f9d08", func := "casemate/casematelaw14.Sha512Steps", spec := "sha512Steps", inPlace := ["math/bits.Add64"], apart := false }
def Sha512StepsSaid : Prop := sha512StepsRow.holds Try.pinned (OpenSpec.ofChange sha512StepsSpec)

/-- ITS FALSE NEIGHBOUR: 'it returns false'. Refute it at one input. -/
def sha512StepsWrong : ChangeSpec := { name := "sha512Steps", fn := fun _ => fun
  | [d] => { results := [.lit (.bool false)], args := [d] }
  | _ => none }
def Sha512StepsWrongFalsely : Prop := sha512StepsRow.holds Try.pinned (OpenSpec.ofChange sha512StepsWrong)

/-- 'casematelaw13.Sha256Constants': WHATEVER THE INPUT: true; the input reads as it did. -/
def sha256ConstantsSpec : ChangeSpec := { name := "sha256Constants", fn := fun _ => fun
  | [d] => { results := [.lit (.bool true)], args := [d] }
  | _ => none }
def sha256ConstantsRow : OpenClaim := { program := "ytddphjmcoolinaa", sum := "87f6b0f6db9f786330ecc5a867a5c34a045c711504b0b300d0e726700c3f9d08", func := "casemate/casematelaw13.Sha256Constants", spec := "sha256Constants", inPlace := ["math/bits.Add64", "sync/atomic.LoadUint32", "(*internal/sync.Mutex).Lock", "internal/race.Disable", "sync/atomic.CompareAndSwapInt32", "internal/race.Enable", "internal/race.Acquire", "(*internal/sync.Mutex).lockSlow", "internal/sync.runtime_canSpin", "internal/sync.runtime_doSpin", "internal/sync.throw", "internal/sync.runtime_nanotime", "internal/sync.runtime_SemacquireMutex", "sync/atomic.AddInt32", "(*internal/sync.Mutex).Unlock", "internal/race.ReleaseMerge", "(*internal/sync.Mutex).unlockSlow", "internal/sync.fatal", "internal/sync.runtime_Semrelease", "sync/atomic.StoreUint32", "sync/atomic.AddInt64", "sync/atomic.LoadInt64"], unfollowed := true, recurses := true, apart := false }
def Sha256ConstantsSaid : Prop := sha256ConstantsRow.holds Try.pinned (OpenSpec.ofChange sha256ConstantsSpec)

/-- ITS FALSE NEIGHBOUR: 'it returns false'. Refute it at one input. -/
def sha256ConstantsWrong : ChangeSpec := { name := "sha256Constants", fn := fun _ => fun
  | [d] => { results := [.lit (.bool false)], args := [d] }
  | _ => none }
def Sha256ConstantsWrongFalsely : Prop := sha256ConstantsRow.holds Try.pinned (OpenSpec.ofChange sha256ConstantsWrong)

/-- 'casematelaw13.Sha256Sums': WHATEVER THE INPUT: true; the input reads as it did. -/
def sha256SumsSpec : ChangeSpec := { name := "sha256Sums", fn := fun _ => fun
  | [d] => { results := [.lit (.bool true)], args := [d] }
  | _ => none }
def sha256SumsRow : OpenClaim := { program := "ytddphjmcoolinaa", sum := "87f6b0f6db9f786330ecc5a867a5c34a045c711504b0b300d0e726700c3f9d08", func := "casemate/casematelaw13.Sha256Sums", spec := "sha256Sums", inPlace := ["math/bits.Add64", "sync/atomic.LoadUint32", "(*internal/sync.Mutex).Lock", "internal/race.Disable", "sync/atomic.CompareAndSwapInt32", "internal/race.Enable", "internal/race.Acquire", "(*internal/sync.Mutex).lockSlow", "internal/sync.runtime_canSpin", "internal/sync.runtime_doSpin", "internal/sync.throw", "internal/sync.runtime_nanotime", "internal/sync.runtime_SemacquireMutex", "sync/atomic.AddInt32", "(*internal/sync.Mutex).Unlock", "internal/race.ReleaseMerge", "(*internal/sync.Mutex).unlockSlow", "internal/sync.fatal", "internal/sync.runtime_Semrelease", "sync/atomic.StoreUint32", "sync/atomic.AddInt64", "sync/atomic.LoadInt64"], unfollowed := true, recurses := true, apart := false }
def Sha256SumsSaid : Prop := sha256SumsRow.holds Try.pinned (OpenSpec.ofChange sha256SumsSpec)

/-- ITS FALSE NEIGHBOUR: 'it returns false'. Refute it at one input. -/
def sha256SumsWrong : ChangeSpec := { name := "sha256Sums", fn := fun _ => fun
  | [d] => { results := [.lit (.bool false)], args := [d] }
  | _ => none }
def Sha256SumsWrongFalsely : Prop := sha256SumsRow.holds Try.pinned (OpenSpec.ofChange sha256SumsWrong)

/-- 'casematelaw13.Sha256Writes': WHATEVER THE INPUT: true; the input reads as it did. -/
def sha256WritesSpec : ChangeSpec := { name := "sha256Writes", fn := fun _ => fun
  | [d] => { results := [.lit (.bool true)], args := [d] }
  | _ => none }
def sha256WritesRow : OpenClaim := { program := "ytddphjmcoolinaa", sum := "87f6b0f6db9f786330ecc5a867a5c34a045c711504b0b300d0e726700c3f9d08", func := "casemate/casematelaw13.Sha256Writes", spec := "sha256Writes", inPlace := ["math/bits.Add64", "sync/atomic.LoadUint32", "(*internal/sync.Mutex).Lock", "internal/race.Disable", "sync/atomic.CompareAndSwapInt32", "internal/race.Enable", "internal/race.Acquire", "(*internal/sync.Mutex).lockSlow", "internal/sync.runtime_canSpin", "internal/sync.runtime_doSpin", "internal/sync.throw", "internal/sync.runtime_nanotime", "internal/sync.runtime_SemacquireMutex", "sync/atomic.AddInt32", "(*internal/sync.Mutex).Unlock", "internal/race.ReleaseMerge", "(*internal/sync.Mutex).unlockSlow", "internal/sync.fatal", "internal/sync.runtime_Semrelease", "sync/atomic.StoreUint32", "sync/atomic.AddInt64", "sync/atomic.LoadInt64"], unfollowed := true, recurses := true, apart := false }
def Sha256WritesSaid : Prop := sha256WritesRow.holds Try.pinned (OpenSpec.ofChange sha256WritesSpec)

/-- ITS FALSE NEIGHBOUR: 'it returns false'. Refute it at one input. -/
def sha256WritesWrong : ChangeSpec := { name := "sha256Writes", fn := fun _ => fun
  | [d] => { results := [.lit (.bool false)], args := [d] }
  | _ => none }
def Sha256WritesWrongFalsely : Prop := sha256WritesRow.holds Try.pinned (OpenSpec.ofChange sha256WritesWrong)

/-- 'casematelaw13.Sha256Pads': WHATEVER THE INPUT: true; the input reads as it did. -/
def sha256PadsSpec : ChangeSpec := { name := "sha256Pads", fn := fun _ => fun
  | [d] => { results := [.lit (.bool true)], args := [d] }
  | _ => none }
def sha256PadsRow : OpenClaim := { program := "ytddphjmcoolinaa", sum := "87f6b0f6db9f786330ecc5a867a5c34a045c711504b0b300d0e726700c3f9d08", func := "casemate/casematelaw13.Sha256Pads", spec := "sha256Pads", inPlace := ["math/bits.Add64", "sync/atomic.LoadUint32", "(*internal/sync.Mutex).Lock", "internal/race.Disable", "sync/atomic.CompareAndSwapInt32", "internal/race.Enable", "internal/race.Acquire", "(*internal/sync.Mutex).lockSlow", "internal/sync.runtime_canSpin", "internal/sync.runtime_doSpin", "internal/sync.throw", "internal/sync.runtime_nanotime", "internal/sync.runtime_SemacquireMutex", "sync/atomic.AddInt32", "(*internal/sync.Mutex).Unlock", "internal/race.ReleaseMerge", "(*internal/sync.Mutex).unlockSlow", "internal/sync.fatal", "internal/sync.runtime_Semrelease", "sync/atomic.StoreUint32", "sync/atomic.AddInt64", "sync/atomic.LoadInt64"], unfollowed := true, recurses := true, apart := false }
def Sha256PadsSaid : Prop := sha256PadsRow.holds Try.pinned (OpenSpec.ofChange sha256PadsSpec)

/-- ITS FALSE NEIGHBOUR: 'it returns false'. Refute it at one input. -/
def sha256PadsWrong : ChangeSpec := { name := "sha256Pads", fn := fun _ => fun
  | [d] => { results := [.lit (.bool false)], args := [d] }
  | _ => none }
def Sha256PadsWrongFalsely : Prop := sha256PadsRow.holds Try.pinned (OpenSpec.ofChange sha256PadsWrong)

/-- 'casematelaw13.Sha256Lengths': WHATEVER THE INPUT: true; the input reads as it did. -/
def sha256LengthsSpec : ChangeSpec := { name := "sha256Lengths", fn := fun _ => fun
  | [d] => { results := [.lit (.bool true)], args := [d] }
  | _ => none }
def sha256LengthsRow : OpenClaim := { program := "ytddphjmcoolinaa", sum := "87f6b0f6db9f786330ecc5a867a5c34a045c711504b0b300d0e726700c3f9d08", func := "casemate/casematelaw13.Sha256Lengths", spec := "sha256Lengths", inPlace := ["math/bits.Add64", "sync/atomic.LoadUint32", "(*internal/sync.Mutex).Lock", "internal/race.Disable", "sync/atomic.CompareAndSwapInt32", "internal/race.Enable", "internal/race.Acquire", "(*internal/sync.Mutex).lockSlow", "internal/sync.runtime_canSpin", "internal/sync.runtime_doSpin", "internal/sync.throw", "internal/sync.runtime_nanotime", "internal/sync.runtime_SemacquireMutex", "sync/atomic.AddInt32", "(*internal/sync.Mutex).Unlock", "internal/race.ReleaseMerge", "(*internal/sync.Mutex).unlockSlow", "internal/sync.fatal", "internal/sync.runtime_Semrelease", "sync/atomic.StoreUint32", "sync/atomic.AddInt64", "sync/atomic.LoadInt64"], unfollowed := true, recurses := true, apart := false }
def Sha256LengthsSaid : Prop := sha256LengthsRow.holds Try.pinned (OpenSpec.ofChange sha256LengthsSpec)

/-- ITS FALSE NEIGHBOUR: 'it returns false'. Refute it at one input. -/
def sha256LengthsWrong : ChangeSpec := { name := "sha256Lengths", fn := fun _ => fun
  | [d] => { results := [.lit (.bool false)], args := [d] }
  | _ => none }
def Sha256LengthsWrongFalsely : Prop := sha256LengthsRow.holds Try.pinned (OpenSpec.ofChange sha256LengthsWrong)

/-- 'casematelaw13.Sha256Blocks': WHATEVER THE INPUT: true; the input reads as it did. -/
def sha256BlocksSpec : ChangeSpec := { name := "sha256Blocks", fn := fun _ => fun
  | [d1, d2] => { results := [.lit (.bool true)], args := [d1, d2] }
  | _ => none }
def sha256BlocksRow : OpenClaim := { program := "ytddphjmcoolinaa", sum := "87f6b0f6db9f786330ecc5a867a5c34a045c711504b0b300d0e726700c3f9d08", func := "casemate/casematelaw13.Sha256Blocks", spec := "sha256Blocks", inPlace := ["math/bits.Add64", "sync/atomic.LoadUint32", "(*internal/sync.Mutex).Lock", "internal/race.Disable", "sync/atomic.CompareAndSwapInt32", "internal/race.Enable", "internal/race.Acquire", "(*internal/sync.Mutex).lockSlow", "internal/sync.runtime_canSpin", "internal/sync.runtime_doSpin", "internal/sync.throw", "internal/sync.runtime_nanotime", "internal/sync.runtime_SemacquireMutex", "sync/atomic.AddInt32", "(*internal/sync.Mutex).Unlock", "internal/race.ReleaseMerge", "(*internal/sync.Mutex).unlockSlow", "internal/sync.fatal", "internal/sync.runtime_Semrelease", "sync/atomic.StoreUint32", "sync/atomic.AddInt64", "sync/atomic.LoadInt64"], unfollowed := true, recurses := true, apart := false }
def Sha256BlocksSaid : Prop := sha256BlocksRow.holds Try.pinned (OpenSpec.ofChange sha256BlocksSpec)

/-- ITS FALSE NEIGHBOUR: 'it returns false'. Refute it at one input. -/
def sha256BlocksWrong : ChangeSpec := { name := "sha256Blocks", fn := fun _ => fun
  | [d1, d2] => { results := [.lit (.bool false)], args := [d1, d2] }
  | _ => none }
def Sha256BlocksWrongFalsely : Prop := sha256BlocksRow.holds Try.pinned (OpenSpec.ofChange sha256BlocksWrong)

/-- 'casematelaw13.Sha256Steps': WHATEVER THE INPUT: true; the input reads as it did. -/
def sha256StepsSpec : ChangeSpec := { name := "sha256Steps", fn := fun _ => fun
  | [d] => { results := [.lit (.bool true)], args := [d] }
  | _ => none }
def sha256StepsRow : OpenClaim := { program := "ytddphjmcoolinaa", sum := "87f6b0f6db9f786330ecc5a867a5c34a045c711504b0b300d0e726700c3f9d08", func := "casemate/casematelaw13.Sha256Steps", spec := "sha256Steps", inPlace := ["math/bits.Add64", "sync/atomic.LoadUint32", "(*internal/sync.Mutex).Lock", "internal/race.Disable", "sync/atomic.CompareAndSwapInt32", "internal/race.Enable", "internal/race.Acquire", "(*internal/sync.Mutex).lockSlow", "internal/sync.runtime_canSpin", "internal/sync.runtime_doSpin", "internal/sync.throw", "internal/sync.runtime_nanotime", "internal/sync.runtime_SemacquireMutex", "sync/atomic.AddInt32", "(*internal/sync.Mutex).Unlock", "internal/race.ReleaseMerge", "(*internal/sync.Mutex).unlockSlow", "internal/sync.fatal", "internal/sync.runtime_Semrelease", "sync/atomic.StoreUint32", "sync/atomic.AddInt64", "sync/atomic.LoadInt64"], unfollowed := true, recurses := true, apart := false }
def Sha256StepsSaid : Prop := sha256StepsRow.holds Try.pinned (OpenSpec.ofChange sha256StepsSpec)

/-- ITS FALSE NEIGHBOUR: 'it returns false'. Refute it at one input. -/
def sha256StepsWrong : ChangeSpec := { name := "sha256Steps", fn := fun _ => fun
  | [d] => { results := [.lit (.bool false)], args := [d] }
  | _ => none }
def Sha256StepsWrongFalsely : Prop := sha256StepsRow.holds Try.pinned (OpenSpec.ofChange sha256StepsWrong)

/- THE SECOND FORM. 'bulk': how many values and letters a reading holds, each counted each time it is reached (what is shared counts as often as it is met; a slice's spare places count too). A statement '..UptoSaid' is the law's where the arguments, and the package variables that the reading takes, are together of bulk at most 1048576: NARROWER than '..Said'. Prove '..Said' where nothing that the law and all that it calls make is longer than what came in: it says more and counts as full. Else prove '..UptoSaid'. A law counts once. -/
mutual
def uptoBulk {H : Type} : DataW H → Nat
  | .lit (.string bytes) => bytes.length + 1
  | .lit _ => 1
  | .nil => 1
  | .ptr d => uptoBulk d + 1
  | .slice elems spare => uptoBulkAll elems + uptoBulkAll spare + 1
  | .agg parts => uptoBulkAll parts + 1
  | .iface _ d => uptoBulk d + 1
  | .map entries => uptoBulkEntries entries + 1
  | .held _ => 1
def uptoBulkAll {H : Type} : List (DataW H) → Nat
  | [] => 0
  | d :: r => uptoBulk d + uptoBulkAll r
def uptoBulkEntries {H : Type} : List (Lit × DataW H) → Nat
  | [] => 0
  | x :: r => uptoBulkEntry x + uptoBulkEntries r
def uptoBulkEntry {H : Type} : Lit × DataW H → Nat
  | (.string bytes, d) => bytes.length + uptoBulk d + 1
  | (_, d) => uptoBulk d + 1
 end
def uptoSmall : (H : Type) → List (DataW H) → Bool := fun _ ds => decide (uptoBulkAll ds ≤ 1048576)
def OpenSpec.upto (s : _root_.Go.ChangeSpec) : _root_.Go.OpenSpec := { _root_.Go.OpenSpec.ofChange s with cond := some uptoSmall }

/-- 'casematelaw14.Sha512Constants', WHERE WHAT IT READS IS OF BULK AT MOST 1048576: true; the input reads as it did. -/
def sha512ConstantsUptoRow : OpenClaim := { program := "ytddphjmcoolinaa", sum := "87f6b0f6db9f786330ecc5a867a5c34a045c711504b0b300d0e726700c3f9d08", func := "casemate/casematelaw14.Sha512Constants", spec := "sha512Constants", inPlace := ["math/bits.Add64"], apart := false, narrowed := true }
def Sha512ConstantsUptoSaid : Prop := sha512ConstantsUptoRow.holds Try.pinned (OpenSpec.upto sha512ConstantsSpec)

/-- 'casematelaw14.Sha512Sums', WHERE WHAT IT READS IS OF BULK AT MOST 1048576: true; the input reads as it did. -/
def sha512SumsUptoRow : OpenClaim := { program := "ytddphjmcoolinaa", sum := "87f6b0f6db9f786330ecc5a867a5c34a045c711504b0b300d0e726700c3f9d08", func := "casemate/casematelaw14.Sha512Sums", spec := "sha512Sums", inPlace := ["math/bits.Add64"], apart := false, narrowed := true }
def Sha512SumsUptoSaid : Prop := sha512SumsUptoRow.holds Try.pinned (OpenSpec.upto sha512SumsSpec)

/-- 'casematelaw14.Sha512Parts', WHERE WHAT IT READS IS OF BULK AT MOST 1048576: true; the input reads as it did. -/
def sha512PartsUptoRow : OpenClaim := { program := "ytddphjmcoolinaa", sum := "87f6b0f6db9f786330ecc5a867a5c34a045c711504b0b300d0e726700c3f9d08", func := "casemate/casematelaw14.Sha512Parts", spec := "sha512Parts", inPlace := ["math/bits.Add64"], apart := false, narrowed := true }
def Sha512PartsUptoSaid : Prop := sha512PartsUptoRow.holds Try.pinned (OpenSpec.upto sha512PartsSpec)

/-- 'casematelaw14.Sha512Blocks', WHERE WHAT IT READS IS OF BULK AT MOST 1048576: true; the input reads as it did. -/
def sha512BlocksUptoRow : OpenClaim := { program := "ytddphjmcoolinaa", sum := "87f6b0f6db9f786330ecc5a867a5c34a045c711504b0b300d0e726700c3f9d08", func := "casemate/casematelaw14.Sha512Blocks", spec := "sha512Blocks", inPlace := ["math/bits.Add64"], apart := false, narrowed := true }
def Sha512BlocksUptoSaid : Prop := sha512BlocksUptoRow.holds Try.pinned (OpenSpec.upto sha512BlocksSpec)

/-- 'casematelaw14.Sha512Steps', WHERE WHAT IT READS IS OF BULK AT MOST 1048576: true; the input reads as it did. -/
def sha512StepsUptoRow : OpenClaim := { program := "ytddphjmcoolinaa", sum := "87f6b0f6db9f786330ecc5a867a5c34a045c711504b0b300d0e726700c3f9d08", func := "casemate/casematelaw14.Sha512Steps", spec := "sha512Steps", inPlace := ["math/bits.Add64"], apart := false, narrowed := true }
def Sha512StepsUptoSaid : Prop := sha512StepsUptoRow.holds Try.pinned (OpenSpec.upto sha512StepsSpec)

/-- 'casematelaw13.Sha256Constants', WHERE WHAT IT READS IS OF BULK AT MOST 1048576: true; the input reads as it did. -/
def sha256ConstantsUptoRow : OpenClaim := { program := "ytddphjmcoolinaa", sum := "87f6b0f6db9f786330ecc5a867a5c34a045c711504b0b300d0e726700c3f9d08", func := "casemate/casematelaw13.Sha256Constants", spec := "sha256Constants", inPlace := ["math/bits.Add64", "sync/atomic.LoadUint32", "(*internal/sync.Mutex).Lock", "internal/race.Disable", "sync/atomic.CompareAndSwapInt32", "internal/race.Enable", "internal/race.Acquire", "(*internal/sync.Mutex).lockSlow", "internal/sync.runtime_canSpin", "internal/sync.runtime_doSpin", "internal/sync.throw", "internal/sync.runtime_nanotime", "internal/sync.runtime_SemacquireMutex", "sync/atomic.AddInt32", "(*internal/sync.Mutex).Unlock", "internal/race.ReleaseMerge", "(*internal/sync.Mutex).unlockSlow", "internal/sync.fatal", "internal/sync.runtime_Semrelease", "sync/atomic.StoreUint32", "sync/atomic.AddInt64", "sync/atomic.LoadInt64"], unfollowed := true, recurses := true, apart := false, narrowed := true }
def Sha256ConstantsUptoSaid : Prop := sha256ConstantsUptoRow.holds Try.pinned (OpenSpec.upto sha256ConstantsSpec)

/-- 'casematelaw13.Sha256Sums', WHERE WHAT IT READS IS OF BULK AT MOST 1048576: true; the input reads as it did. -/
def sha256SumsUptoRow : OpenClaim := { program := "ytddphjmcoolinaa", sum := "87f6b0f6db9f786330ecc5a867a5c34a045c711504b0b300d0e726700c3f9d08", func := "casemate/casematelaw13.Sha256Sums", spec := "sha256Sums", inPlace := ["math/bits.Add64", "sync/atomic.LoadUint32", "(*internal/sync.Mutex).Lock", "internal/race.Disable", "sync/atomic.CompareAndSwapInt32", "internal/race.Enable", "internal/race.Acquire", "(*internal/sync.Mutex).lockSlow", "internal/sync.runtime_canSpin", "internal/sync.runtime_doSpin", "internal/sync.throw", "internal/sync.runtime_nanotime", "internal/sync.runtime_SemacquireMutex", "sync/atomic.AddInt32", "(*internal/sync.Mutex).Unlock", "internal/race.ReleaseMerge", "(*internal/sync.Mutex).unlockSlow", "internal/sync.fatal", "internal/sync.runtime_Semrelease", "sync/atomic.StoreUint32", "sync/atomic.AddInt64", "sync/atomic.LoadInt64"], unfollowed := true, recurses := true, apart := false, narrowed := true }
def Sha256SumsUptoSaid : Prop := sha256SumsUptoRow.holds Try.pinned (OpenSpec.upto sha256SumsSpec)

/-- 'casematelaw13.Sha256Writes', WHERE WHAT IT READS IS OF BULK AT MOST 1048576: true; the input reads as it did. -/
def sha256WritesUptoRow : OpenClaim := { program := "ytddphjmcoolinaa", sum := "87f6b0f6db9f786330ecc5a867a5c34a045c711504b0b300d0e726700c3f9d08", func := "casemate/casematelaw13.Sha256Writes", spec := "sha256Writes", inPlace := ["math/bits.Add64", "sync/atomic.LoadUint32", "(*internal/sync.Mutex).Lock", "internal/race.Disable", "sync/atomic.CompareAndSwapInt32", "internal/race.Enable", "internal/race.Acquire", "(*internal/sync.Mutex).lockSlow", "internal/sync.runtime_canSpin", "internal/sync.runtime_doSpin", "internal/sync.throw", "internal/sync.runtime_nanotime", "internal/sync.runtime_SemacquireMutex", "sync/atomic.AddInt32", "(*internal/sync.Mutex).Unlock", "internal/race.ReleaseMerge", "(*internal/sync.Mutex).unlockSlow", "internal/sync.fatal", "internal/sync.runtime_Semrelease", "sync/atomic.StoreUint32", "sync/atomic.AddInt64", "sync/atomic.LoadInt64"], unfollowed := true, recurses := true, apart := false, narrowed := true }
def Sha256WritesUptoSaid : Prop := sha256WritesUptoRow.holds Try.pinned (OpenSpec.upto sha256WritesSpec)

/-- 'casematelaw13.Sha256Pads', WHERE WHAT IT READS IS OF BULK AT MOST 1048576: true; the input reads as it did. -/
def sha256PadsUptoRow : OpenClaim := { program := "ytddphjmcoolinaa", sum := "87f6b0f6db9f786330ecc5a867a5c34a045c711504b0b300d0e726700c3f9d08", func := "casemate/casematelaw13.Sha256Pads", spec := "sha256Pads", inPlace := ["math/bits.Add64", "sync/atomic.LoadUint32", "(*internal/sync.Mutex).Lock", "internal/race.Disable", "sync/atomic.CompareAndSwapInt32", "internal/race.Enable", "internal/race.Acquire", "(*internal/sync.Mutex).lockSlow", "internal/sync.runtime_canSpin", "internal/sync.runtime_doSpin", "internal/sync.throw", "internal/sync.runtime_nanotime", "internal/sync.runtime_SemacquireMutex", "sync/atomic.AddInt32", "(*internal/sync.Mutex).Unlock", "internal/race.ReleaseMerge", "(*internal/sync.Mutex).unlockSlow", "internal/sync.fatal", "internal/sync.runtime_Semrelease", "sync/atomic.StoreUint32", "sync/atomic.AddInt64", "sync/atomic.LoadInt64"], unfollowed := true, recurses := true, apart := false, narrowed := true }
def Sha256PadsUptoSaid : Prop := sha256PadsUptoRow.holds Try.pinned (OpenSpec.upto sha256PadsSpec)

/-- 'casematelaw13.Sha256Lengths', WHERE WHAT IT READS IS OF BULK AT MOST 1048576: true; the input reads as it did. -/
def sha256LengthsUptoRow : OpenClaim := { program := "ytddphjmcoolinaa", sum := "87f6b0f6db9f786330ecc5a867a5c34a045c711504b0b300d0e726700c3f9d08", func := "casemate/casematelaw13.Sha256Lengths", spec := "sha256Lengths", inPlace := ["math/bits.Add64", "sync/atomic.LoadUint32", "(*internal/sync.Mutex).Lock", "internal/race.Disable", "sync/atomic.CompareAndSwapInt32", "internal/race.Enable", "internal/race.Acquire", "(*internal/sync.Mutex).lockSlow", "internal/sync.runtime_canSpin", "internal/sync.runtime_doSpin", "internal/sync.throw", "internal/sync.runtime_nanotime", "internal/sync.runtime_SemacquireMutex", "sync/atomic.AddInt32", "(*internal/sync.Mutex).Unlock", "internal/race.ReleaseMerge", "(*internal/sync.Mutex).unlockSlow", "internal/sync.fatal", "internal/sync.runtime_Semrelease", "sync/atomic.StoreUint32", "sync/atomic.AddInt64", "sync/atomic.LoadInt64"], unfollowed := true, recurses := true, apart := false, narrowed := true }
def Sha256LengthsUptoSaid : Prop := sha256LengthsUptoRow.holds Try.pinned (OpenSpec.upto sha256LengthsSpec)

/-- 'casematelaw13.Sha256Blocks', WHERE WHAT IT READS IS OF BULK AT MOST 1048576: true; the input reads as it did. -/
def sha256BlocksUptoRow : OpenClaim := { program := "ytddphjmcoolinaa", sum := "87f6b0f6db9f786330ecc5a867a5c34a045c711504b0b300d0e726700c3f9d08", func := "casemate/casematelaw13.Sha256Blocks", spec := "sha256Blocks", inPlace := ["math/bits.Add64", "sync/atomic.LoadUint32", "(*internal/sync.Mutex).Lock", "internal/race.Disable", "sync/atomic.CompareAndSwapInt32", "internal/race.Enable", "internal/race.Acquire", "(*internal/sync.Mutex).lockSlow", "internal/sync.runtime_canSpin", "internal/sync.runtime_doSpin", "internal/sync.throw", "internal/sync.runtime_nanotime", "internal/sync.runtime_SemacquireMutex", "sync/atomic.AddInt32", "(*internal/sync.Mutex).Unlock", "internal/race.ReleaseMerge", "(*internal/sync.Mutex).unlockSlow", "internal/sync.fatal", "internal/sync.runtime_Semrelease", "sync/atomic.StoreUint32", "sync/atomic.AddInt64", "sync/atomic.LoadInt64"], unfollowed := true, recurses := true, apart := false, narrowed := true }
def Sha256BlocksUptoSaid : Prop := sha256BlocksUptoRow.holds Try.pinned (OpenSpec.upto sha256BlocksSpec)

/-- 'casematelaw13.Sha256Steps', WHERE WHAT IT READS IS OF BULK AT MOST 1048576: true; the input reads as it did. -/
def sha256StepsUptoRow : OpenClaim := { program := "ytddphjmcoolinaa", sum := "87f6b0f6db9f786330ecc5a867a5c34a045c711504b0b300d0e726700c3f9d08", func := "casemate/casematelaw13.Sha256Steps", spec := "sha256Steps", inPlace := ["math/bits.Add64", "sync/atomic.LoadUint32", "(*internal/sync.Mutex).Lock", "internal/race.Disable", "sync/atomic.CompareAndSwapInt32", "internal/race.Enable", "internal/race.Acquire", "(*internal/sync.Mutex).lockSlow", "internal/sync.runtime_canSpin", "internal/sync.runtime_doSpin", "internal/sync.throw", "internal/sync.runtime_nanotime", "internal/sync.runtime_SemacquireMutex", "sync/atomic.AddInt32", "(*internal/sync.Mutex).Unlock", "internal/race.ReleaseMerge", "(*internal/sync.Mutex).unlockSlow", "internal/sync.fatal", "internal/sync.runtime_Semrelease", "sync/atomic.StoreUint32", "sync/atomic.AddInt64", "sync/atomic.LoadInt64"], unfollowed := true, recurses := true, apart := false, narrowed := true }
def Sha256StepsUptoSaid : Prop := sha256StepsUptoRow.holds Try.pinned (OpenSpec.upto sha256StepsSpec)

end Rows
end Go.Proofs.Ytddphjmcoolinaa
