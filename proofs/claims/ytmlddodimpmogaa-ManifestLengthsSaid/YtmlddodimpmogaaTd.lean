/- The table of types. -/
import Derived.Test.YtmlddodimpmogaaYc
import Derived.Test.YtmlddodimpmogaaProg
namespace Go.Proofs.Ytmlddodimpmogaa
open Go.Proofs
def PT0 : Nat := 85
def CA0 : Nat := 32
def TD0 : List (Nat × TD) := [
  (3, ⟨.i .i64, 1, 8, false⟩),
  (4, ⟨.b, 1, 1, false⟩),
  (5, ⟨.i .u8, 1, 1, false⟩),
  (9, ⟨.s, 1, 16, false⟩),
  (22, ⟨.sl 67, 1, 24, false⟩),
  (24, ⟨.st [(3, 0), (3, 1), (3, 2), (3, 3), (22, 4)], 5, 56, false⟩),
  (25, ⟨.sl 5, 1, 24, false⟩),
  (26, ⟨.i .i64, 1, 8, false⟩),
  (42, ⟨.sl 55, 1, 24, false⟩),
  (45, ⟨.ar 32 5, 32, 32, true⟩),
  (55, ⟨.st [(3, 0), (45, 1), (4, 33)], 34, 48, true⟩),
  (57, ⟨.sl 3, 1, 24, false⟩),
  (67, ⟨.st [(3, 0), (3, 1), (45, 2)], 34, 48, true⟩),
  (70, ⟨.pt, 1, 8, false⟩),
  (72, ⟨.st [(25, 0)], 1, 24, false⟩),
  (74, ⟨.pt, 1, 8, false⟩),
  (75, ⟨.sl 74, 1, 24, false⟩),
  (82, ⟨.i .u64, 1, 8, false⟩),
  (85, ⟨.st [], 0, 0, false⟩)]
end Go.Proofs.Ytmlddodimpmogaa
