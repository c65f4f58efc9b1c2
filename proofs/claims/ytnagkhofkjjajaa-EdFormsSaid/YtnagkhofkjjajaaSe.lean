/- The program's facts for the symbolic walk: types, orders, functions of the model's own. -/
import Derived.Test.YtnagkhofkjjajaaZg
import Derived.Test.YtnagkhofkjjajaaTd
import Derived.Test.YtnagkhofkjjajaaYe
import Derived.Laws.Externs
set_option linter.unusedVariables false
set_option maxRecDepth 100000
namespace Go.Proofs.Ytnagkhofkjjajaa
open Go.Proofs
theorem td0 : TDok Try.prog TD0 := td_ok (by kernel_rfl)
theorem wide0 : Try.prog.follows .mixedOrders = true := by kernel_rfl
def AllCt (P : Program) : List (Nat × Ct) → Prop
  | [] => True
  | (g, c) :: r => CtOk P g c ∧ AllCt P r
def AllFi (P : Program) : List (Nat × FI) → Prop
  | [] => True
  | (g, f) :: r => FiOk P g f ∧ AllFi P r
def AllSp (P : Program) : List (Nat × Sp) → Prop
  | [] => True
  | (g, s) :: r => SpOk P g s ∧ AllSp P r
theorem env_ok {P : Program} {E : Env} (ca : 0 < E.ca → CaOk P E.pt E.ca) (sp : AllSp P E.sp) (h : AllCt P E.ct) (k : AllFi P E.fi) : EnvOk P E := by
  have key : ∀ (l : List (Nat × Ct)), AllCt P l → ∀ g c, look0 l g = some c → CtOk P g c := by
    intro l
    induction l with
    | nil => intro _ g c h; cases h
    | cons x r ih =>
      obtain ⟨i, v⟩ := x
      intro h g c hg
      have hg : (bif Nat.beq i g then some v else look0 r g) = some c := hg
      cases hb : Nat.beq i g with
      | true => rw [hb] at hg; cases hg; rw [← Nat.eq_of_beq_eq_true hb]; exact h.1
      | false => rw [hb] at hg; exact ih h.2 g c hg
  have key2 : ∀ (l : List (Nat × FI)), AllFi P l → ∀ g f, look0 l g = some f → FiOk P g f := by
    intro l
    induction l with
    | nil => intro _ g c h; cases h
    | cons x r ih =>
      obtain ⟨i, v⟩ := x
      intro h g c hg
      have hg : (bif Nat.beq i g then some v else look0 r g) = some c := hg
      cases hb : Nat.beq i g with
      | true => rw [hb] at hg; cases hg; rw [← Nat.eq_of_beq_eq_true hb]; exact h.1
      | false => rw [hb] at hg; exact ih h.2 g c hg
  have key3 : ∀ (l : List (Nat × Sp)), AllSp P l → ∀ g s, look0 l g = some s → SpOk P g s := by
    intro l
    induction l with
    | nil => intro _ g c h; cases h
    | cons x r ih =>
      obtain ⟨i, v⟩ := x
      intro h g c hg
      have hg : (bif Nat.beq i g then some v else look0 r g) = some c := hg
      cases hb : Nat.beq i g with
      | true => rw [hb] at hg; cases hg; rw [← Nat.eq_of_beq_eq_true hb]; exact h.1
      | false => rw [hb] at hg; exact ih h.2 g c hg
  exact ⟨ca, key3 _ sp, key _ h, key2 _ k⟩
def C_add64 : Ct := ⟨u3, u2, ext3 F_add64⟩
theorem ok_add64 : CtOk Try.prog 59 C_add64 := ext3_ok fun x y c r hx hy h => by
  obtain ⟨hc, h⟩ := gd_some h
  cases h
  refine ⟨Nat.mod_lt _ (by decide), Nat.div_lt_of_lt_mul (by omega), fun w => ?_⟩
  rw [run_callFunc_extern (e := add64Entry) Try.func59 (by kernel_rfl) (by kernel_rfl) (by kernel_rfl) (by kernel_rfl)]
  rw [run_add64 (x : Int) (y : Int) (c : Int) (by omega) (by omega) (by omega) (by omega)]
  simp only [Result.andThen]
  congr 5
def sub64E : Array Value → Sem Value := fun args => do
  let (x, y, b) ← Extern.MathBitsCarry.three "Sub64" args
  pure (Extern.MathBitsCarry.pair ((x + Extern.MathBitsCarry.m64 - y - b) % Extern.MathBitsCarry.m64) (if x < y + b then 1 else 0))
def C_sub64 : Ct := ⟨u3, u2, ext3 F_sub64⟩
theorem ok_sub64 : CtOk Try.prog 69 C_sub64 := ext3_ok fun x y c r hx hy h => by
  obtain ⟨hc, h⟩ := gd_some h
  cases h
  refine ⟨Nat.mod_lt _ (by decide), by show (if x < y + c then 1 else 0) < _; split <;> decide, fun w => ?_⟩
  rw [run_callFunc_extern (e := sub64E) Try.func69 (by kernel_rfl) (by kernel_rfl) (by kernel_rfl) (by kernel_rfl)]
  have : c = 0 ∨ c = 1 := by omega
  rcases this with rfl | rfl <;> rfl
end Go.Proofs.Ytnagkhofkjjajaa
