/- The program's facts for the symbolic walk: types, orders, functions of the model's own. -/
import Derived.Test.YtmlddodimpmogaaZg
import Derived.Test.YtmlddodimpmogaaTd
import Derived.Test.YtmlddodimpmogaaYe
import Derived.Laws.Externs
set_option linter.unusedVariables false
set_option maxRecDepth 100000
namespace Go.Proofs.Ytmlddodimpmogaa
open Go.Proofs
theorem td0 : TDok Try.prog TD0 := td_ok (by kernel_rfl)
theorem wide0 : Try.prog.follows .mixedOrders = true := by kernel_rfl
def AllCt (P : Program) : List (Nat × Ct) → Prop
  | [] => True
  | (g, c) :: r => CtOk P g c ∧ AllCt P r
def AllFi (P : Program) : List (Nat × FI) → Prop
  | [] => True
  | (g, f) :: r => FiOk P g f ∧ AllFi P r
theorem env_ok {P : Program} {E : Env} (ca : 0 < E.ca → CaOk P E.pt E.ca) (h : AllCt P E.ct) (k : AllFi P E.fi) : EnvOk P E := by
  have key : ∀ (l : List (Nat × Ct)), AllCt P l → ∀ g c, look0 l g = some c → CtOk P g c := by
    intro l
    induction l with
    | nil => intro _ g c h; cases h
    | cons x r ih =>
      obtain ⟨i, v⟩ := x
      intro h g c hg
      have hg : (bif Nat.beq i g then some v else look0 r g) = some c := hg
      cases hb : Nat.beq i g with
      | true => rw [hb] at hg; cases hg; rw [← Nat.eq_of_beq_eq_true hb]; exact h.1
      | false => rw [hb] at hg; exact ih h.2 g c hg
  have key2 : ∀ (l : List (Nat × FI)), AllFi P l → ∀ g f, look0 l g = some f → FiOk P g f := by
    intro l
    induction l with
    | nil => intro _ g c h; cases h
    | cons x r ih =>
      obtain ⟨i, v⟩ := x
      intro h g c hg
      have hg : (bif Nat.beq i g then some v else look0 r g) = some c := hg
      cases hb : Nat.beq i g with
      | true => rw [hb] at hg; cases hg; rw [← Nat.eq_of_beq_eq_true hb]; exact h.1
      | false => rw [hb] at hg; exact ih h.2 g c hg
  exact ⟨ca, key _ h, key2 _ k⟩
end Go.Proofs.Ytmlddodimpmogaa
