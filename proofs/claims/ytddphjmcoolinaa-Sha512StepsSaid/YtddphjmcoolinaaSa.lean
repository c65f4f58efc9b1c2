/- Words of 64 bits turned: lemmas. -/
import Derived.Test.YtddphjmcoolinaaKh
set_option linter.unusedVariables false
namespace Go.Proofs.Ytddphjmcoolinaa
open Go.RowKit
def ror (x n : Nat) : Nat := x / 2 ^ n ||| x * 2 ^ (64 - n) % 18446744073709551616
theorem and63' {n : Nat} (h1 : 1 ≤ n) (h2 : n ≤ 63) : (18446744073709551616 - n) &&& 63 = 64 - n := by
  rw [show (63 : Nat) = 2 ^ 6 - 1 from rfl, Nat.and_two_pow_sub_one_eq_mod]
  omega
theorem rl_ror {x n : Nat} (hx : x < 18446744073709551616) (h1 : 1 ≤ n) (h2 : n ≤ 63) :
    (x * 2 ^ ((18446744073709551616 - n) &&& 63) % 18446744073709551616 ||| x / 2 ^ ((64 + 18446744073709551616 - ((18446744073709551616 - n) &&& 63)) % 18446744073709551616)) = ror x n := by
  rw [and63' h1 h2, show (64 + 18446744073709551616 - (64 - n)) % 18446744073709551616 = n by omega, Nat.or_comm]
  rfl
theorem ror_lt {x n : Nat} (hx : x < 18446744073709551616) : ror x n < 18446744073709551616 := by
  unfold ror
  exact Nat.or_lt_two_pow (n := 64) (Nat.lt_of_le_of_lt (Nat.div_le_self _ _) hx) (Nat.mod_lt _ (by decide))
end Go.Proofs.Ytddphjmcoolinaa
