/- math/bits.Add64 and Sub64 in this translation. -/
import Derived.Test.YtddphjmcoolinaaTi
import Derived.Laws.Externs
namespace Go.Proofs.Ytddphjmcoolinaa
open Go.Proofs

theorem ext_add64 (x y c : Nat) (hc : c ≤ 1) (w : World) : (callFunc 69 [.int .u64 ((x : Nat) : Int), .int .u64 ((y : Nat) : Int), .int .u64 ((c : Nat) : Int)].toArray).run Try.prog w =
    .ok (.value (.tuple #[.int .u64 (((x + y + c) % 18446744073709551616 : Nat) : Int), .int .u64 (((x + y + c) / 18446744073709551616 : Nat) : Int)])) w := by
  rw [run_callFunc_extern (e := add64Entry) Try.func69 (by kernel_rfl) (by kernel_rfl) (by kernel_rfl) (by kernel_rfl)]
  rw [run_add64 (x : Int) (y : Int) (c : Int) (by omega) (by omega) (by omega) (by omega)]
  simp only [Result.andThen]
  congr 5

end Go.Proofs.Ytddphjmcoolinaa
