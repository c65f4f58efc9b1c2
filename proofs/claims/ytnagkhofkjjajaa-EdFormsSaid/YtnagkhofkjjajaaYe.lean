/- Functions of the model's own, as plain functions. -/
import Derived.Test.YtnagkhofkjjajaaYc
namespace Go.Proofs.Ytnagkhofkjjajaa
def F_add64 (x y c : Nat) : Option (Nat × Nat) := gd (c ≤ 1) (some ((x + y + c) % 18446744073709551616, (x + y + c) / 18446744073709551616))
def F_sub64 (x y c : Nat) : Option (Nat × Nat) := gd (c ≤ 1) (some ((x + 18446744073709551616 - y - c) % 18446744073709551616, if x < y + c then 1 else 0))
end Go.Proofs.Ytnagkhofkjjajaa
