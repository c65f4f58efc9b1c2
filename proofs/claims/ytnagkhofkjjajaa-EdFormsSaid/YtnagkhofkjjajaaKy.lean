/- A program without a function that runs another and tells whether it went through, and without one that runs another once. Lemmas, no statement of the claim. -/
import Derived.Test.YtnagkhofkjjajaaZh
import Derived.Test.YtnagkhofkjjajaaSe
namespace Go.Proofs.Ytnagkhofkjjajaa
theorem ca0 : 0 < CA0 → CaOk Try.prog PT0 CA0 := fun h => absurd h (by decide)
theorem sp0 : AllSp Try.prog SP0 := trivial
end Go.Proofs.Ytnagkhofkjjajaa
