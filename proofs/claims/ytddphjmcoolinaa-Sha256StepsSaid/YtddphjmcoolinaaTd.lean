/- The table of types. -/
import Derived.Test.YtddphjmcoolinaaYc
import Derived.Test.YtddphjmcoolinaaProg
namespace Go.Proofs.Ytddphjmcoolinaa
open Go.Proofs
def PT0 : Nat := 0
def CA0 : Nat := 0
def SP0 : List (Nat × Sp) := [(73, .ad 2), (75, .ld .i64), (81, .os 47 21 [.R, .L, .R, .O] [.R, .R, .O, .R, .O, .L]), (83, .ld .u32)]
def TD0 : List (Nat × TD) := [
  (2, ⟨.i .i64, 1, 8, false⟩),
  (3, ⟨.i .i64, 1, 8, false⟩),
  (4, ⟨.b, 1, 1, false⟩),
  (5, ⟨.i .u8, 1, 1, false⟩),
  (9, ⟨.s, 1, 16, false⟩),
  (21, ⟨.i .i32, 1, 4, false⟩),
  (23, ⟨.i .u64, 1, 8, false⟩),
  (24, ⟨.ar 80 23, 80, 640, true⟩),
  (26, ⟨.ar 8 23, 8, 64, true⟩),
  (29, ⟨.sl 5, 1, 24, false⟩),
  (30, ⟨.ar 64 5, 64, 64, true⟩),
  (36, ⟨.i .i64, 1, 8, false⟩),
  (41, ⟨.i .u64, 1, 8, false⟩),
  (42, ⟨.sl 3, 1, 24, false⟩),
  (47, ⟨.i .u32, 1, 4, false⟩),
  (48, ⟨.ar 8 47, 8, 32, true⟩),
  (50, ⟨.ar 64 47, 64, 256, true⟩),
  (53, ⟨.ar 32 5, 32, 32, true⟩),
  (55, ⟨.sl 29, 1, 24, false⟩),
  (56, ⟨.pt, 1, 8, false⟩),
  (67, ⟨.pt, 1, 8, false⟩),
  (75, ⟨.st [], 0, 0, false⟩),
  (76, ⟨.st [], 0, 0, false⟩),
  (78, ⟨.st [(76, 0), (47, 0)], 1, 4, false⟩),
  (80, ⟨.st [(21, 0), (47, 1)], 2, 8, true⟩),
  (82, ⟨.st [(75, 0), (80, 0)], 2, 8, false⟩),
  (84, ⟨.st [(75, 0), (78, 0), (82, 1)], 3, 12, false⟩),
  (85, ⟨.st [], 0, 0, false⟩),
  (87, ⟨.st [(76, 0), (85, 0), (2, 0)], 1, 8, false⟩),
  (89, ⟨.st [(84, 0), (50, 3), (48, 67), (29, 75), (87, 76)], 77, 336, false⟩),
  (92, ⟨.pt, 1, 8, false⟩),
  (97, ⟨.sl 23, 1, 24, false⟩),
  (107, ⟨.pt, 1, 8, false⟩),
  (109, ⟨.pt, 1, 8, false⟩),
  (112, ⟨.pt, 1, 8, false⟩),
  (113, ⟨.pt, 1, 8, false⟩),
  (115, ⟨.pt, 1, 8, false⟩),
  (117, ⟨.pt, 1, 8, false⟩),
  (120, ⟨.pt, 1, 8, false⟩),
  (122, ⟨.pt, 1, 8, false⟩)]
end Go.Proofs.Ytddphjmcoolinaa
