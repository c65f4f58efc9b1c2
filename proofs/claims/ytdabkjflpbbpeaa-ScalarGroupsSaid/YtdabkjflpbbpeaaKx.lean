/- math/bits.Add64 and Sub64 in this translation. -/
import Derived.Test.YtdabkjflpbbpeaaTi
import Derived.Laws.Externs
namespace Go.Proofs.Ytdabkjflpbbpeaa
open Go.Proofs

theorem ext_add64 (x y c : Nat) (hc : c ≤ 1) (w : World) : (callFunc 42 [.int .u64 ((x : Nat) : Int), .int .u64 ((y : Nat) : Int), .int .u64 ((c : Nat) : Int)].toArray).run Try.prog w =
    .ok (.value (.tuple #[.int .u64 (((x + y + c) % 18446744073709551616 : Nat) : Int), .int .u64 (((x + y + c) / 18446744073709551616 : Nat) : Int)])) w := by
  rw [run_callFunc_extern (e := add64Entry) Try.func42 (by kernel_rfl) (by kernel_rfl) (by kernel_rfl) (by kernel_rfl)]
  rw [run_add64 (x : Int) (y : Int) (c : Int) (by omega) (by omega) (by omega) (by omega)]
  simp only [Result.andThen]
  congr 5

def sub64E : Array Value → Sem Value := fun args => do
  let (x, y, b) ← Extern.MathBitsCarry.three "Sub64" args
  pure (Extern.MathBitsCarry.pair ((x + Extern.MathBitsCarry.m64 - y - b) % Extern.MathBitsCarry.m64) (if x < y + b then 1 else 0))
theorem ext_sub64 (x y c : Nat) (hc : c ≤ 1) (w : World) : (callFunc 49 [.int .u64 ((x : Nat) : Int), .int .u64 ((y : Nat) : Int), .int .u64 ((c : Nat) : Int)].toArray).run Try.prog w =
    .ok (.value (.tuple #[.int .u64 (((x + 18446744073709551616 - y - c) % 18446744073709551616 : Nat) : Int), .int .u64 ((if x < y + c then 1 else 0 : Nat) : Int)])) w := by
  rw [run_callFunc_extern (e := sub64E) Try.func49 (by kernel_rfl) (by kernel_rfl) (by kernel_rfl) (by kernel_rfl)]
  have : c = 0 ∨ c = 1 := by omega
  rcases this with rfl | rfl <;> rfl
end Go.Proofs.Ytdabkjflpbbpeaa
