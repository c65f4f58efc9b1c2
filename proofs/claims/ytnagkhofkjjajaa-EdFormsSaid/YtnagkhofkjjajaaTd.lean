/- The table of types. -/
import Derived.Test.YtnagkhofkjjajaaYc
import Derived.Test.YtnagkhofkjjajaaProg
namespace Go.Proofs.Ytnagkhofkjjajaa
open Go.Proofs
def PT0 : Nat := 0
def CA0 : Nat := 0
def SP0 : List (Nat × Sp) := []
def TD0 : List (Nat × TD) := [
  (3, ⟨.i .i64, 1, 8, false⟩),
  (4, ⟨.b, 1, 1, false⟩),
  (5, ⟨.i .u8, 1, 1, false⟩),
  (9, ⟨.s, 1, 16, false⟩),
  (22, ⟨.sl 5, 1, 24, false⟩),
  (23, ⟨.ar 32 5, 32, 32, true⟩),
  (26, ⟨.st [(23, 0), (23, 32)], 64, 64, true⟩),
  (27, ⟨.i .i64, 1, 8, false⟩),
  (34, ⟨.ar 64 5, 64, 64, true⟩),
  (51, ⟨.st [(23, 0), (23, 32), (23, 64), (23, 96)], 128, 128, true⟩),
  (62, ⟨.i .u64, 1, 8, false⟩),
  (66, ⟨.sl 70, 1, 24, false⟩),
  (67, ⟨.sl 70, 1, 24, false⟩),
  (70, ⟨.i .u64, 1, 8, false⟩),
  (74, ⟨.sl 26, 1, 24, false⟩),
  (78, ⟨.ar 4 70, 4, 32, true⟩),
  (84, ⟨.sl 22, 1, 24, false⟩),
  (96, ⟨.ar 80 70, 80, 640, true⟩),
  (98, ⟨.ar 8 70, 8, 64, true⟩),
  (101, ⟨.pt, 1, 8, false⟩),
  (103, ⟨.sl 3, 1, 24, false⟩)]
end Go.Proofs.Ytnagkhofkjjajaa
