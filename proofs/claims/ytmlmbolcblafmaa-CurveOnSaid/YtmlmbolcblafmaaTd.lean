/- The table of types. -/
import Derived.Test.YtmlmbolcblafmaaYc
import Derived.Test.YtmlmbolcblafmaaProg
namespace Go.Proofs.Ytmlmbolcblafmaa
open Go.Proofs
def PT0 : Nat := 0
def TD0 : List (Nat × TD) := [
  (3, ⟨.i .i64, 1, 8, false⟩),
  (4, ⟨.b, 1, 1, false⟩),
  (5, ⟨.i .u8, 1, 1, false⟩),
  (22, ⟨.ar 32 5, 32, 32, true⟩),
  (23, ⟨.i .i64, 1, 8, false⟩),
  (36, ⟨.st [(22, 0), (22, 32)], 64, 64, true⟩),
  (37, ⟨.sl 5, 1, 24, false⟩),
  (58, ⟨.i .u64, 1, 8, false⟩),
  (60, ⟨.ar 4 58, 4, 32, true⟩),
  (74, ⟨.ar 16 3, 16, 128, true⟩),
  (76, ⟨.ar 32 3, 32, 256, true⟩),
  (77, ⟨.ar 17 3, 17, 136, true⟩),
  (83, ⟨.st [(22, 0), (22, 32), (22, 64), (22, 96)], 128, 128, true⟩),
  (88, ⟨.sl 58, 1, 24, false⟩),
  (89, ⟨.sl 58, 1, 24, false⟩),
  (96, ⟨.ar 8 58, 8, 64, true⟩),
  (98, ⟨.sl 36, 1, 24, false⟩)]
end Go.Proofs.Ytmlmbolcblafmaa
