/- The field of 2^255 - 19 and the group of the curve over it. Plain, no statement of the claim. -/
import Derived.Test.YtnagkhofkjjajaaQi
import Derived.Test.YtnagkhofkjjajaaTa
set_option linter.unusedVariables false
set_option maxRecDepth 10000
set_option maxHeartbeats 2000000
namespace Go.Proofs.Ytnagkhofkjjajaa
instance : NeZero pp := ⟨by decide +kernel⟩
abbrev FF := Fin pp
theorem ff0 : ((0 : FF) : Fin pp).val = 0 := by decide +kernel
theorem ff1 : ((1 : FF) : Fin pp).val = 1 := by decide +kernel
def iv (a : FF) : FF := ⟨invN a.val, inv_lt _⟩
theorem ff_ne {a : FF} (h : a ≠ 0) : a.val ≠ 0 := fun e => h (Fin.ext (by rw [e, ff0]))
theorem ff_inv {a : FF} (h : a ≠ 0) : a * iv a = 1 := by
  apply Fin.ext
  rw [Fin.val_mul, ff1]
  exact inv_mul a.isLt (ff_ne h)
theorem ff_mul0 {a b : FF} (h : a * b = 0) : a = 0 ∨ b = 0 := by
  have e : a.val * b.val % pp = 0 := by rw [← Fin.val_mul, h, ff0]
  rcases (mul_zero_p a.isLt b.isLt).1 e with q | q
  · exact .inl (Fin.ext (by rw [q, ff0]))
  · exact .inr (Fin.ext (by rw [q, ff0]))
theorem ff_mul_ne {a b : FF} (ha : a ≠ 0) (hb : b ≠ 0) : a * b ≠ 0 := fun e => (ff_mul0 e).elim ha hb
theorem ff_cancel {a b c : FF} (hc : c ≠ 0) (h : a * c = b * c) : a = b := by
  have e := ff_inv hc
  have h1 : a * c * iv c = b * c * iv c := by rw [h]
  grind
theorem ff_inv_u {a b : FF} (h : a * b = 1) : iv a = b := by
  have ha : a ≠ 0 := fun e => by subst e; exact absurd h (by rw [Fin.zero_mul]; decide +kernel)
  have e := ff_inv ha
  grind
/-- the curve's number -/
def cD : Nat := 37095705934669439343138083508754565189542113879843219016388785533085940283555
def cd : FF := ⟨cD, by decide +kernel⟩
theorem cd_eq : (121666 : FF) * cd = - 121665 := by decide +kernel
theorem nsq {u : FF} : u * u ≠ cd := fun e => by
  have h1 := root_sq u.isLt
  have h2 : u.val * u.val % pp = cD := congrArg Fin.val e
  rw [h2] at h1
  revert h1; decide +kernel
/-- the root of -1 -/
def ci : FF := ⟨pwF pp 253 2 E2, by decide +kernel⟩
theorem ci_sq : ci * ci = -1 := by decide +kernel
theorem two_ne : (2 : FF) ≠ 0 := by decide +kernel
theorem sqd {A B : FF} (h : A * A = cd * (B * B)) : B = 0 := by
  by_cases hB : B = 0
  · exact hB
  · exfalso
    have e := ff_inv hB
    exact nsq (u := A * iv B) (by grind)
def onC (x y : FF) : Prop := y * y - x * x = 1 + cd * (x * x) * (y * y)
theorem D_ne {x1 y1 x2 y2 : FF} (h1 : onC x1 y1) (h2 : onC x2 y2) : cd * (x1 * x2 * (y1 * y2)) * (cd * (x1 * x2 * (y1 * y2))) ≠ 1 := by
  intro hD
  unfold onC at h1 h2
  have hi := ci_sq
  generalize ci = i at hi
  have key : ∀ e : FF, e * e = 1 → (i * x1 + e * (cd * (x1 * x2 * (y1 * y2))) * y1) * (i * x1 + e * (cd * (x1 * x2 * (y1 * y2))) * y1) = cd * ((x1 * y1 * (i * x2 + e * y2)) * (x1 * y1 * (i * x2 + e * y2))) := by
    intro e he
    grind
  have k1 := sqd (key 1 (by decide +kernel))
  have k2 := sqd (key (-1) (by decide +kernel))
  have k3 : x1 * y1 * y2 = 0 := by
    have : (2 : FF) * (x1 * y1 * y2) = 0 := by grind
    rcases ff_mul0 this with q | q
    · exact absurd q two_ne
    · exact q
  have k4 : cd * (x1 * x2 * (y1 * y2)) = 0 := by
    have : cd * (x1 * x2 * (y1 * y2)) = cd * x2 * (x1 * y1 * y2) := by grind
    rw [this, k3, Fin.mul_zero]
  rw [k4, Fin.mul_zero] at hD
  exact absurd hD (by decide +kernel)
theorem u_ne {x1 y1 x2 y2 : FF} (h1 : onC x1 y1) (h2 : onC x2 y2) : 1 + cd * (x1 * x2 * (y1 * y2)) ≠ 0 := by
  intro h
  apply D_ne h1 h2
  generalize cd * (x1 * x2 * (y1 * y2)) = D at h ⊢
  grind
theorem v_ne {x1 y1 x2 y2 : FF} (h1 : onC x1 y1) (h2 : onC x2 y2) : 1 - cd * (x1 * x2 * (y1 * y2)) ≠ 0 := by
  intro h
  apply D_ne h1 h2
  generalize cd * (x1 * x2 * (y1 * y2)) = D at h ⊢
  grind
end Go.Proofs.Ytnagkhofkjjajaa

set_option linter.unusedVariables false
set_option maxRecDepth 10000
set_option maxHeartbeats 1000000
namespace Go.Proofs.Ytnagkhofkjjajaa
theorem closure_id (x1 y1 x2 y2 d : FF) : ((y1*y2+x1*x2)*(y1*y2+x1*x2)*((1+d*(x1*x2*(y1*y2)))*(1+d*(x1*x2*(y1*y2)))) - (x1*y2+y1*x2)*(x1*y2+y1*x2)*((1-d*(x1*x2*(y1*y2)))*(1-d*(x1*x2*(y1*y2)))) - (1+d*(x1*x2*(y1*y2)))*(1+d*(x1*x2*(y1*y2)))*((1-d*(x1*x2*(y1*y2)))*(1-d*(x1*x2*(y1*y2)))) - d*((x1*y2+y1*x2)*(x1*y2+y1*x2))*((y1*y2+x1*x2)*(y1*y2+x1*x2))) = ((1)*x1*x1*y1*y1*x2*x2*x2*x2*y2*y2*y2*y2*d*d*d + (-1)*x1*x1*x2*x2*x2*x2*y2*y2*y2*y2*d*d + (-1)*x1*x1*x2*x2*x2*x2*y2*y2*d + (1)*x1*x1*x2*x2*y2*y2*y2*y2*d + (1)*y1*y1*x2*x2*x2*x2*y2*y2*y2*y2*d*d + (1)*y1*y1*x2*x2*x2*x2*y2*y2*d + (-1)*y1*y1*x2*x2*y2*y2*y2*y2*d + (-1)*x2*x2*x2*x2*y2*y2*y2*y2*d*d + (-2)*x2*x2*x2*x2*y2*y2*y2*y2*d + (-2)*x2*x2*x2*x2*y2*y2 + (1)*x2*x2*x2*x2 + (2)*x2*x2*y2*y2*y2*y2 + (-2)*x2*x2*y2*y2*d + (-4)*x2*x2*y2*y2 + (1)*y2*y2*y2*y2)*(y1*y1 - x1*x1 - 1 - d*(x1*x1)*(y1*y1)) + ((1)*x1*x1*x1*x1*x2*x2*y2*y2*d + (2)*x1*x1*x2*x2*y2*y2*d + (2)*x1*x1*x2*x2*y2*y2 + (-1)*x1*x1*x2*x2 + (1)*x1*x1*y2*y2 + (1)*y1*y1*y1*y1*x2*x2*y2*y2*d + (-2)*y1*y1*x2*x2*y2*y2*d + (-2)*y1*y1*x2*x2*y2*y2 + (1)*y1*y1*x2*x2 + (-1)*y1*y1*y2*y2 + (1)*x2*x2*y2*y2*d + (2)*x2*x2*y2*y2 + (-1)*x2*x2 + (1)*y2*y2 + (1))*(y2*y2 - x2*x2 - 1 - d*(x2*x2)*(y2*y2)) := by grind
theorem assoc_x (x1 y1 x2 y2 x3 y3 d : FF) : ((x1*y2+y1*x2)*(1-d*(x1*x2*(y1*y2)))*y3 + (y1*y2+x1*x2)*(1+d*(x1*x2*(y1*y2)))*x3)*((1+d*(x2*x3*(y2*y3)))*(1-d*(x2*x3*(y2*y3))) + d*(x1*y1*((x2*y3+y2*x3)*(y2*y3+x2*x3)))) - (x1*((y2*y3+x2*x3)*(1+d*(x2*x3*(y2*y3)))) + y1*((x2*y3+y2*x3)*(1-d*(x2*x3*(y2*y3)))))*((1+d*(x1*x2*(y1*y2)))*(1-d*(x1*x2*(y1*y2))) + d*((x1*y2+y1*x2)*(y1*y2+x1*x2)*(x3*y3))) = ((-1)*x1*x2*x2*x2*x2*y2*y2*y2*x3*x3*y3*d*d + (-1)*x1*x2*x2*x2*x2*y2*x3*x3*y3*d + (-1)*x1*x2*x2*x2*y2*y2*y2*y2*x3*y3*y3*d*d + (-1)*x1*x2*x2*x2*y2*y2*x3*x3*x3*d + (-1)*x1*x2*x2*x2*y2*y2*x3*d + (1)*x1*x2*x2*y2*y2*y2*y3*y3*y3*d + (-1)*x1*x2*x2*y2*y2*y2*y3*d + (1)*x1*x2*y2*y2*y2*y2*x3*y3*y3*d + (1)*y1*x2*x2*x2*x2*y2*y2*y2*x3*y3*y3*d*d + (1)*y1*x2*x2*x2*x2*y2*x3*y3*y3*d + (1)*y1*x2*x2*x2*y2*y2*y2*y2*x3*x3*y3*d*d + (1)*y1*x2*x2*x2*y2*y2*y3*y3*y3*d + (-1)*y1*x2*x2*x2*y2*y2*y3*d + (-1)*y1*x2*x2*y2*y2*y2*x3*x3*x3*d + (-1)*y1*x2*x2*y2*y2*y2*x3*d + (-1)*y1*x2*y2*y2*y2*y2*x3*x3*y3*d)*(y1*y1 - x1*x1 - 1 - d*(x1*x1)*(y1*y1)) + ((1)*x1*x1*x1*x2*x2*y2*x3*x3*y3*d + (1)*x1*x1*x1*x2*y2*y2*x3*y3*y3*d + (1)*x1*x1*x1*x2*x3*x3*x3*y3*y3*d + (1)*x1*x1*x1*x2*x3*x3*x3 + (-1)*x1*x1*x1*x2*x3*y3*y3 + (1)*x1*x1*x1*x2*x3 + (1)*x1*x1*x1*y2*x3*x3*y3*y3*y3*d + (1)*x1*x1*x1*y2*x3*x3*y3 + (-1)*x1*x1*x1*y2*y3*y3*y3 + (1)*x1*x1*x1*y2*y3 + (1)*x1*x1*y1*x2*x2*y2*x3*x3*x3*y3*y3*d*d + (-1)*x1*x1*y1*x2*x2*y2*x3*y3*y3*d + (-1)*x1*x1*y1*x2*y2*y2*x3*x3*y3*y3*y3*d*d + (-1)*x1*x1*y1*x2*y2*y2*x3*x3*y3*d + (1)*x1*x1*y1*x2*x3*x3*y3*y3*y3*d + (1)*x1*x1*y1*x2*x3*x3*y3 + (-1)*x1*x1*y1*x2*y3*y3*y3 + (1)*x1*x1*y1*x2*y3 + (1)*x1*x1*y1*y2*x3*x3*x3*y3*y3*d + (1)*x1*x1*y1*y2*x3*x3*x3 + (-1)*x1*x1*y1*y2*x3*y3*y3 + (1)*x1*x1*y1*y2*x3 + (-1)*x1*y1*y1*x2*x2*y2*x3*x3*y3*y3*y3*d*d + (-1)*x1*y1*y1*x2*x2*y2*x3*x3*y3*d + (1)*x1*y1*y1*x2*y2*y2*x3*x3*x3*y3*y3*d*d + (-1)*x1*y1*y1*x2*y2*y2*x3*y3*y3*d + (-1)*x1*y1*y1*x2*x3*x3*x3*y3*y3*d + (-1)*x1*y1*y1*x2*x3*x3*x3 + (1)*x1*y1*y1*x2*x3*y3*y3 + (-1)*x1*y1*y1*x2*x3 + (-1)*x1*y1*y1*y2*x3*x3*y3*y3*y3*d + (-1)*x1*y1*y1*y2*x3*x3*y3 + (1)*x1*y1*y1*y2*y3*y3*y3 + (-1)*x1*y1*y1*y2*y3 + (1)*x1*x2*x2*y2*x3*x3*y3*d + (1)*x1*x2*y2*y2*x3*y3*y3*d + (1)*x1*x2*x3*x3*x3*y3*y3*d + (1)*x1*x2*x3*x3*x3 + (-1)*x1*x2*x3*y3*y3 + (1)*x1*x2*x3 + (1)*x1*y2*x3*x3*y3*y3*y3*d + (1)*x1*y2*x3*x3*y3 + (-1)*x1*y2*y3*y3*y3 + (1)*x1*y2*y3 + (1)*y1*y1*y1*x2*x2*y2*x3*y3*y3*d + (1)*y1*y1*y1*x2*y2*y2*x3*x3*y3*d + (-1)*y1*y1*y1*x2*x3*x3*y3*y3*y3*d + (-1)*y1*y1*y1*x2*x3*x3*y3 + (1)*y1*y1*y1*x2*y3*y3*y3 + (-1)*y1*y1*y1*x2*y3 + (-1)*y1*y1*y1*y2*x3*x3*x3*y3*y3*d + (-1)*y1*y1*y1*y2*x3*x3*x3 + (1)*y1*y1*y1*y2*x3*y3*y3 + (-1)*y1*y1*y1*y2*x3 + (-1)*y1*x2*x2*y2*x3*y3*y3*d + (-1)*y1*x2*y2*y2*x3*x3*y3*d + (1)*y1*x2*x3*x3*y3*y3*y3*d + (1)*y1*x2*x3*x3*y3 + (-1)*y1*x2*y3*y3*y3 + (1)*y1*x2*y3 + (1)*y1*y2*x3*x3*x3*y3*y3*d + (1)*y1*y2*x3*x3*x3 + (-1)*y1*y2*x3*y3*y3 + (1)*y1*y2*x3)*(y2*y2 - x2*x2 - 1 - d*(x2*x2)*(y2*y2)) + ((-1)*x1*x1*x1*x2*x2*x2*x3 + (-1)*x1*x1*x1*x2*x2*y2*y3 + (1)*x1*x1*x1*x2*y2*y2*x3 + (-1)*x1*x1*x1*x2*x3 + (1)*x1*x1*x1*y2*y2*y2*y3 + (-1)*x1*x1*x1*y2*y3 + (-1)*x1*x1*y1*x2*x2*x2*y3 + (-1)*x1*x1*y1*x2*x2*y2*x3*d + (-1)*x1*x1*y1*x2*x2*y2*x3 + (1)*x1*x1*y1*x2*y2*y2*y3*d + (1)*x1*x1*y1*x2*y2*y2*y3 + (-1)*x1*x1*y1*x2*y3 + (1)*x1*x1*y1*y2*y2*y2*x3 + (-1)*x1*x1*y1*y2*x3 + (1)*x1*y1*y1*x2*x2*x2*x3 + (1)*x1*y1*y1*x2*x2*y2*y3*d + (1)*x1*y1*y1*x2*x2*y2*y3 + (-1)*x1*y1*y1*x2*y2*y2*x3*d + (-1)*x1*y1*y1*x2*y2*y2*x3 + (1)*x1*y1*y1*x2*x3 + (-1)*x1*y1*y1*y2*y2*y2*y3 + (1)*x1*y1*y1*y2*y3 + (-1)*x1*x2*x2*x2*x3 + (-1)*x1*x2*x2*y2*y3 + (1)*x1*x2*y2*y2*x3 + (-1)*x1*x2*x3 + (1)*x1*y2*y2*y2*y3 + (-1)*x1*y2*y3 + (1)*y1*y1*y1*x2*x2*x2*y3 + (1)*y1*y1*y1*x2*x2*y2*x3 + (-1)*y1*y1*y1*x2*y2*y2*y3 + (1)*y1*y1*y1*x2*y3 + (-1)*y1*y1*y1*y2*y2*y2*x3 + (1)*y1*y1*y1*y2*x3 + (-1)*y1*x2*x2*x2*y3 + (-1)*y1*x2*x2*y2*x3 + (1)*y1*x2*y2*y2*y3 + (-1)*y1*x2*y3 + (1)*y1*y2*y2*y2*x3 + (-1)*y1*y2*x3)*(y3*y3 - x3*x3 - 1 - d*(x3*x3)*(y3*y3)) := by grind
theorem assoc_y (x1 y1 x2 y2 x3 y3 d : FF) : ((y1*y2+x1*x2)*(1+d*(x1*x2*(y1*y2)))*y3 + (x1*y2+y1*x2)*(1-d*(x1*x2*(y1*y2)))*x3)*((1+d*(x2*x3*(y2*y3)))*(1-d*(x2*x3*(y2*y3))) - d*(x1*y1*((x2*y3+y2*x3)*(y2*y3+x2*x3)))) - (y1*((y2*y3+x2*x3)*(1+d*(x2*x3*(y2*y3)))) + x1*((x2*y3+y2*x3)*(1-d*(x2*x3*(y2*y3)))))*((1+d*(x1*x2*(y1*y2)))*(1-d*(x1*x2*(y1*y2))) - d*((x1*y2+y1*x2)*(y1*y2+x1*x2)*(x3*y3))) = ((1)*x1*x2*x2*x2*x2*y2*y2*y2*x3*y3*y3*d*d + (1)*x1*x2*x2*x2*x2*y2*x3*y3*y3*d + (1)*x1*x2*x2*x2*y2*y2*y2*y2*x3*x3*y3*d*d + (1)*x1*x2*x2*x2*y2*y2*y3*y3*y3*d + (-1)*x1*x2*x2*x2*y2*y2*y3*d + (-1)*x1*x2*x2*y2*y2*y2*x3*x3*x3*d + (-1)*x1*x2*x2*y2*y2*y2*x3*d + (-1)*x1*x2*y2*y2*y2*y2*x3*x3*y3*d + (-1)*y1*x2*x2*x2*x2*y2*y2*y2*x3*x3*y3*d*d + (-1)*y1*x2*x2*x2*x2*y2*x3*x3*y3*d + (-1)*y1*x2*x2*x2*y2*y2*y2*y2*x3*y3*y3*d*d + (-1)*y1*x2*x2*x2*y2*y2*x3*x3*x3*d + (-1)*y1*x2*x2*x2*y2*y2*x3*d + (1)*y1*x2*x2*y2*y2*y2*y3*y3*y3*d + (-1)*y1*x2*x2*y2*y2*y2*y3*d + (1)*y1*x2*y2*y2*y2*y2*x3*y3*y3*d)*(y1*y1 - x1*x1 - 1 - d*(x1*x1)*(y1*y1)) + ((-1)*x1*x1*x1*x2*x2*y2*x3*y3*y3*d + (-1)*x1*x1*x1*x2*y2*y2*x3*x3*y3*d + (1)*x1*x1*x1*x2*x3*x3*y3*y3*y3*d + (1)*x1*x1*x1*x2*x3*x3*y3 + (-1)*x1*x1*x1*x2*y3*y3*y3 + (1)*x1*x1*x1*x2*y3 + (1)*x1*x1*x1*y2*x3*x3*x3*y3*y3*d + (1)*x1*x1*x1*y2*x3*x3*x3 + (-1)*x1*x1*x1*y2*x3*y3*y3 + (1)*x1*x1*x1*y2*x3 + (1)*x1*x1*y1*x2*x2*y2*x3*x3*y3*y3*y3*d*d + (1)*x1*x1*y1*x2*x2*y2*x3*x3*y3*d + (-1)*x1*x1*y1*x2*y2*y2*x3*x3*x3*y3*y3*d*d + (1)*x1*x1*y1*x2*y2*y2*x3*y3*y3*d + (1)*x1*x1*y1*x2*x3*x3*x3*y3*y3*d + (1)*x1*x1*y1*x2*x3*x3*x3 + (-1)*x1*x1*y1*x2*x3*y3*y3 + (1)*x1*x1*y1*x2*x3 + (1)*x1*x1*y1*y2*x3*x3*y3*y3*y3*d + (1)*x1*x1*y1*y2*x3*x3*y3 + (-1)*x1*x1*y1*y2*y3*y3*y3 + (1)*x1*x1*y1*y2*y3 + (-1)*x1*y1*y1*x2*x2*y2*x3*x3*x3*y3*y3*d*d + (1)*x1*y1*y1*x2*x2*y2*x3*y3*y3*d + (1)*x1*y1*y1*x2*y2*y2*x3*x3*y3*y3*y3*d*d + (1)*x1*y1*y1*x2*y2*y2*x3*x3*y3*d + (-1)*x1*y1*y1*x2*x3*x3*y3*y3*y3*d + (-1)*x1*y1*y1*x2*x3*x3*y3 + (1)*x1*y1*y1*x2*y3*y3*y3 + (-1)*x1*y1*y1*x2*y3 + (-1)*x1*y1*y1*y2*x3*x3*x3*y3*y3*d + (-1)*x1*y1*y1*y2*x3*x3*x3 + (1)*x1*y1*y1*y2*x3*y3*y3 + (-1)*x1*y1*y1*y2*x3 + (-1)*x1*x2*x2*y2*x3*y3*y3*d + (-1)*x1*x2*y2*y2*x3*x3*y3*d + (1)*x1*x2*x3*x3*y3*y3*y3*d + (1)*x1*x2*x3*x3*y3 + (-1)*x1*x2*y3*y3*y3 + (1)*x1*x2*y3 + (1)*x1*y2*x3*x3*x3*y3*y3*d + (1)*x1*y2*x3*x3*x3 + (-1)*x1*y2*x3*y3*y3 + (1)*x1*y2*x3 + (-1)*y1*y1*y1*x2*x2*y2*x3*x3*y3*d + (-1)*y1*y1*y1*x2*y2*y2*x3*y3*y3*d + (-1)*y1*y1*y1*x2*x3*x3*x3*y3*y3*d + (-1)*y1*y1*y1*x2*x3*x3*x3 + (1)*y1*y1*y1*x2*x3*y3*y3 + (-1)*y1*y1*y1*x2*x3 + (-1)*y1*y1*y1*y2*x3*x3*y3*y3*y3*d + (-1)*y1*y1*y1*y2*x3*x3*y3 + (1)*y1*y1*y1*y2*y3*y3*y3 + (-1)*y1*y1*y1*y2*y3 + (1)*y1*x2*x2*y2*x3*x3*y3*d + (1)*y1*x2*y2*y2*x3*y3*y3*d + (1)*y1*x2*x3*x3*x3*y3*y3*d + (1)*y1*x2*x3*x3*x3 + (-1)*y1*x2*x3*y3*y3 + (1)*y1*x2*x3 + (1)*y1*y2*x3*x3*y3*y3*y3*d + (1)*y1*y2*x3*x3*y3 + (-1)*y1*y2*y3*y3*y3 + (1)*y1*y2*y3)*(y2*y2 - x2*x2 - 1 - d*(x2*x2)*(y2*y2)) + ((-1)*x1*x1*x1*x2*x2*x2*y3 + (-1)*x1*x1*x1*x2*x2*y2*x3 + (1)*x1*x1*x1*x2*y2*y2*y3 + (-1)*x1*x1*x1*x2*y3 + (1)*x1*x1*x1*y2*y2*y2*x3 + (-1)*x1*x1*x1*y2*x3 + (-1)*x1*x1*y1*x2*x2*x2*x3 + (-1)*x1*x1*y1*x2*x2*y2*y3*d + (-1)*x1*x1*y1*x2*x2*y2*y3 + (1)*x1*x1*y1*x2*y2*y2*x3*d + (1)*x1*x1*y1*x2*y2*y2*x3 + (-1)*x1*x1*y1*x2*x3 + (1)*x1*x1*y1*y2*y2*y2*y3 + (-1)*x1*x1*y1*y2*y3 + (1)*x1*y1*y1*x2*x2*x2*y3 + (1)*x1*y1*y1*x2*x2*y2*x3*d + (1)*x1*y1*y1*x2*x2*y2*x3 + (-1)*x1*y1*y1*x2*y2*y2*y3*d + (-1)*x1*y1*y1*x2*y2*y2*y3 + (1)*x1*y1*y1*x2*y3 + (-1)*x1*y1*y1*y2*y2*y2*x3 + (1)*x1*y1*y1*y2*x3 + (-1)*x1*x2*x2*x2*y3 + (-1)*x1*x2*x2*y2*x3 + (1)*x1*x2*y2*y2*y3 + (-1)*x1*x2*y3 + (1)*x1*y2*y2*y2*x3 + (-1)*x1*y2*x3 + (1)*y1*y1*y1*x2*x2*x2*x3 + (1)*y1*y1*y1*x2*x2*y2*y3 + (-1)*y1*y1*y1*x2*y2*y2*x3 + (1)*y1*y1*y1*x2*x3 + (-1)*y1*y1*y1*y2*y2*y2*y3 + (1)*y1*y1*y1*y2*y3 + (-1)*y1*x2*x2*x2*x3 + (-1)*y1*x2*x2*y2*y3 + (1)*y1*x2*y2*y2*x3 + (-1)*y1*x2*x3 + (1)*y1*y2*y2*y2*y3 + (-1)*y1*y2*y3)*(y3*y3 - x3*x3 - 1 - d*(x3*x3)*(y3*y3)) := by grind
end Go.Proofs.Ytnagkhofkjjajaa

set_option linter.unusedVariables false
set_option maxRecDepth 10000
set_option maxHeartbeats 2000000
namespace Go.Proofs.Ytnagkhofkjjajaa
abbrev PP := FF × FF
def onP (P : PP) : Prop := onC P.1 P.2
def pD (P Q : PP) : FF := cd * (P.1 * Q.1 * (P.2 * Q.2))
def padd (P Q : PP) : PP := ((P.1 * Q.2 + P.2 * Q.1) * iv (1 + pD P Q), (P.2 * Q.2 + P.1 * Q.1) * iv (1 - pD P Q))
def p0 : PP := (0, 1)
def pneg (P : PP) : PP := (- P.1, P.2)
/-- by products -/
def isSum (P Q R : PP) : Prop := R.1 * (1 + pD P Q) = P.1 * Q.2 + P.2 * Q.1 ∧ R.2 * (1 - pD P Q) = P.2 * Q.2 + P.1 * Q.1
theorem padd_u {P Q : PP} (h1 : onP P) (h2 : onP Q) : 1 + pD P Q ≠ 0 := u_ne h1 h2
theorem padd_v {P Q : PP} (h1 : onP P) (h2 : onP Q) : 1 - pD P Q ≠ 0 := v_ne h1 h2
theorem padd_is {P Q : PP} (h1 : onP P) (h2 : onP Q) : isSum P Q (padd P Q) := by
  have a := ff_inv (padd_u h1 h2)
  have b := ff_inv (padd_v h1 h2)
  unfold padd isSum
  dsimp only
  generalize iv (1 + pD P Q) = i at *
  generalize iv (1 - pD P Q) = k at *
  generalize pD P Q = D at *
  constructor <;> grind -lia -order -linarith -mbtc (splits := 0) (ematch := 0)
theorem isSum_eq {P Q R : PP} (h1 : onP P) (h2 : onP Q) (h : isSum P Q R) : R = padd P Q := by
  obtain ⟨a, b⟩ := padd_is h1 h2
  obtain ⟨c, d⟩ := h
  exact Prod.ext (ff_cancel (padd_u h1 h2) (c.trans a.symm)) (ff_cancel (padd_v h1 h2) (d.trans b.symm))
theorem padd_on {P Q : PP} (h1 : onP P) (h2 : onP Q) : onP (padd P Q) := by
  obtain ⟨a, b⟩ := padd_is h1 h2
  have hu := padd_u h1 h2
  have hv := padd_v h1 h2
  generalize padd P Q = R at *
  obtain ⟨x1, y1⟩ := P
  obtain ⟨x2, y2⟩ := Q
  obtain ⟨X, Y⟩ := R
  unfold onP onC pD at *
  dsimp only at *
  have id := closure_id x1 y1 x2 y2 cd
  have e1 : y1 * y1 - x1 * x1 - 1 - cd * (x1 * x1) * (y1 * y1) = 0 := by rw [h1]; grind -lia -order -linarith -mbtc (splits := 0) (ematch := 0)
  have e2 : y2 * y2 - x2 * x2 - 1 - cd * (x2 * x2) * (y2 * y2) = 0 := by rw [h2]; grind -lia -order -linarith -mbtc (splits := 0) (ematch := 0)
  rw [e1, e2, Fin.mul_zero, Fin.mul_zero, Fin.add_zero, ← a, ← b] at id
  clear h1 h2 e1 e2
  generalize 1 + cd * (x1 * x2 * (y1 * y2)) = u at *
  generalize 1 - cd * (x1 * x2 * (y1 * y2)) = v at *
  clear a b
  have hw : u * u * (v * v) ≠ 0 := ff_mul_ne (ff_mul_ne hu hu) (ff_mul_ne hv hv)
  apply ff_cancel hw
  grind -lia -order -linarith -mbtc (splits := 0) (ematch := 0)
theorem padd_comm (P Q : PP) : padd P Q = padd Q P := by
  have e : pD P Q = pD Q P := by unfold pD; grind -lia -order -linarith -mbtc (splits := 0) (ematch := 0)
  unfold padd
  rw [e]
  apply Prod.ext <;> dsimp only <;> grind -lia -order -linarith -mbtc (splits := 0) (ematch := 0)
theorem p0_on : onP p0 := by unfold onP onC p0; decide +kernel
theorem padd_0 (P : PP) (h : onP P) : padd P p0 = P := by
  refine (isSum_eq h p0_on ?_).symm
  unfold isSum pD p0
  dsimp only
  constructor <;> grind -lia -order -linarith -mbtc (splits := 0) (ematch := 0)
theorem pneg_on {P : PP} (h : onP P) : onP (pneg P) := by
  unfold onP onC pneg at *
  dsimp only
  grind -lia -order -linarith -mbtc (splits := 0) (ematch := 0)
theorem padd_neg {P : PP} (h : onP P) : padd P (pneg P) = p0 := by
  refine (isSum_eq h (pneg_on h) ?_).symm
  unfold onP onC at h
  unfold isSum pD p0 pneg
  dsimp only
  constructor <;> grind -lia -order -linarith -mbtc (splits := 0) (ematch := 0)
theorem sub0 {a b : FF} (h : a - b = 0) : a = b := by grind -lia -order -linarith -mbtc (splits := 0) (ematch := 0)
theorem asx (s1 s2 t1 t2 x1 y1 x3 y3 u v u' v' d : FF) : (s1 * y3 + s2 * x3) * (u * v * (u' * v') * (1 + d * (x1 * t1 * (y1 * t2)))) - (x1 * t2 + y1 * t1) * (u * v * (u' * v') * (1 + d * (s1 * x3 * (s2 * y3)))) =
    (s1 * u * v * y3 + s2 * v * u * x3) * (u' * v' + d * (x1 * y1 * (t1 * u' * (t2 * v')))) - (x1 * (t2 * v' * u') + y1 * (t1 * u' * v')) * (u * v + d * (s1 * u * (s2 * v) * (x3 * y3))) := by grind -lia -order -linarith -mbtc (splits := 0) (ematch := 0)
theorem asy (s1 s2 t1 t2 x1 y1 x3 y3 u v u' v' d : FF) : (s2 * y3 + s1 * x3) * (u * v * (u' * v') * (1 - d * (x1 * t1 * (y1 * t2)))) - (y1 * t2 + x1 * t1) * (u * v * (u' * v') * (1 - d * (s1 * x3 * (s2 * y3)))) =
    (s2 * v * u * y3 + s1 * u * v * x3) * (u' * v' - d * (x1 * y1 * (t1 * u' * (t2 * v')))) - (y1 * (t2 * v' * u') + x1 * (t1 * u' * v')) * (u * v - d * (s1 * u * (s2 * v) * (x3 * y3))) := by grind -lia -order -linarith -mbtc (splits := 0) (ematch := 0)
theorem padd_assoc {P Q R : PP} (h1 : onP P) (h2 : onP Q) (h3 : onP R) : padd (padd P Q) R = padd P (padd Q R) := by
  obtain ⟨a1, a2⟩ := padd_is h1 h2
  obtain ⟨b1, b2⟩ := padd_is h2 h3
  obtain ⟨c1, c2⟩ := padd_is (padd_on h1 h2) h3
  obtain ⟨d1, d2⟩ := padd_is h1 (padd_on h2 h3)
  have hu := padd_u h1 h2
  have hv := padd_v h1 h2
  have hu' := padd_u h2 h3
  have hv' := padd_v h2 h3
  have hw1 := padd_u (padd_on h1 h2) h3
  have hw2 := padd_v (padd_on h1 h2) h3
  have hw1' := padd_u h1 (padd_on h2 h3)
  have hw2' := padd_v h1 (padd_on h2 h3)
  generalize padd (padd P Q) R = A at *
  generalize padd P (padd Q R) = B at *
  generalize padd P Q = S at *
  generalize padd Q R = T at *
  obtain ⟨x1, y1⟩ := P
  obtain ⟨x2, y2⟩ := Q
  obtain ⟨x3, y3⟩ := R
  obtain ⟨s1, s2⟩ := S
  obtain ⟨t1, t2⟩ := T
  unfold onP onC pD at *
  dsimp only at *
  have e1 : y1 * y1 - x1 * x1 - 1 - cd * (x1 * x1) * (y1 * y1) = 0 := by rw [h1]; grind -lia -order -linarith -mbtc (splits := 0) (ematch := 0)
  have e2 : y2 * y2 - x2 * x2 - 1 - cd * (x2 * x2) * (y2 * y2) = 0 := by rw [h2]; grind -lia -order -linarith -mbtc (splits := 0) (ematch := 0)
  have e3 : y3 * y3 - x3 * x3 - 1 - cd * (x3 * x3) * (y3 * y3) = 0 := by rw [h3]; grind -lia -order -linarith -mbtc (splits := 0) (ematch := 0)
  have ix := assoc_x x1 y1 x2 y2 x3 y3 cd
  have iy := assoc_y x1 y1 x2 y2 x3 y3 cd
  rw [e1, e2, e3, Fin.mul_zero, Fin.mul_zero, Fin.mul_zero, Fin.add_zero, Fin.add_zero, ← a1, ← a2, ← b1, ← b2] at ix iy
  clear e1 e2 e3 h1 h2 h3 a1 a2 b1 b2
  generalize 1 + cd * (x1 * x2 * (y1 * y2)) = u at *
  generalize 1 - cd * (x1 * x2 * (y1 * y2)) = v at *
  generalize 1 + cd * (x2 * x3 * (y2 * y3)) = u' at *
  generalize 1 - cd * (x2 * x3 * (y2 * y3)) = v' at *
  apply Prod.ext
  · have hw : u * v * (u' * v') * ((1 + cd * (s1 * x3 * (s2 * y3))) * (1 + cd * (x1 * t1 * (y1 * t2)))) ≠ 0 := ff_mul_ne (ff_mul_ne (ff_mul_ne hu hv) (ff_mul_ne hu' hv')) (ff_mul_ne hw1 hw1')
    apply ff_cancel hw
    have p : A.1 * (u * v * (u' * v') * ((1 + cd * (s1 * x3 * (s2 * y3))) * (1 + cd * (x1 * t1 * (y1 * t2))))) = (s1 * y3 + s2 * x3) * (u * v * (u' * v') * (1 + cd * (x1 * t1 * (y1 * t2)))) := by rw [← c1]; grind -lia -order -linarith -mbtc (splits := 0) (ematch := 0)
    have p' : B.1 * (u * v * (u' * v') * ((1 + cd * (s1 * x3 * (s2 * y3))) * (1 + cd * (x1 * t1 * (y1 * t2))))) = (x1 * t2 + y1 * t1) * (u * v * (u' * v') * (1 + cd * (s1 * x3 * (s2 * y3)))) := by rw [← d1]; grind -lia -order -linarith -mbtc (splits := 0) (ematch := 0)
    rw [p, p']
    exact sub0 ((asx ..).trans ix)
  · have hw : u * v * (u' * v') * ((1 - cd * (s1 * x3 * (s2 * y3))) * (1 - cd * (x1 * t1 * (y1 * t2)))) ≠ 0 := ff_mul_ne (ff_mul_ne (ff_mul_ne hu hv) (ff_mul_ne hu' hv')) (ff_mul_ne hw2 hw2')
    apply ff_cancel hw
    have p : A.2 * (u * v * (u' * v') * ((1 - cd * (s1 * x3 * (s2 * y3))) * (1 - cd * (x1 * t1 * (y1 * t2))))) = (s2 * y3 + s1 * x3) * (u * v * (u' * v') * (1 - cd * (x1 * t1 * (y1 * t2)))) := by rw [← c2]; grind -lia -order -linarith -mbtc (splits := 0) (ematch := 0)
    have p' : B.2 * (u * v * (u' * v') * ((1 - cd * (s1 * x3 * (s2 * y3))) * (1 - cd * (x1 * t1 * (y1 * t2))))) = (y1 * t2 + x1 * t1) * (u * v * (u' * v') * (1 - cd * (s1 * x3 * (s2 * y3)))) := by rw [← d2]; grind -lia -order -linarith -mbtc (splits := 0) (ematch := 0)
    rw [p, p']
    exact sub0 ((asy ..).trans iy)
/-! ### Times -/
def smul : Nat → PP → PP
  | 0, _ => p0
  | n + 1, P => padd (smul n P) P
theorem smul_on (n : Nat) {P : PP} (h : onP P) : onP (smul n P) := by
  induction n with
  | zero => exact p0_on
  | succ n ih => exact padd_on ih h
theorem smul_1 {P : PP} (h : onP P) : smul 1 P = P := by
  show padd p0 P = P
  rw [padd_comm, padd_0 P h]
theorem smul_add (m n : Nat) {P : PP} (h : onP P) : smul (m + n) P = padd (smul m P) (smul n P) := by
  induction n with
  | zero => show smul m P = padd (smul m P) p0; rw [padd_0 _ (smul_on m h)]
  | succ n ih =>
    show padd (smul (m + n) P) P = padd (smul m P) (padd (smul n P) P)
    rw [ih, padd_assoc (smul_on m h) (smul_on n h) h]
theorem smul_p0 (n : Nat) : smul n p0 = p0 := by
  induction n with
  | zero => rfl
  | succ n ih => show padd (smul n p0) p0 = p0; rw [padd_0 _ (smul_on n p0_on), ih]
theorem smul_mul (m n : Nat) {P : PP} (h : onP P) : smul (m * n) P = smul n (smul m P) := by
  induction n with
  | zero => rfl
  | succ n ih => rw [Nat.mul_succ, smul_add _ _ h, ih]; rfl
theorem padd_swap {P Q R T : PP} (h1 : onP P) (h2 : onP Q) (h3 : onP R) (h4 : onP T) : padd (padd P Q) (padd R T) = padd (padd P R) (padd Q T) := by
  rw [padd_assoc h1 h2 (padd_on h3 h4), ← padd_assoc h2 h3 h4, padd_comm Q R, padd_assoc h3 h2 h4, ← padd_assoc h1 h3 (padd_on h2 h4)]
theorem smul_padd (n : Nat) {P Q : PP} (h1 : onP P) (h2 : onP Q) : smul n (padd P Q) = padd (smul n P) (smul n Q) := by
  induction n with
  | zero => exact (padd_0 p0 p0_on).symm
  | succ n ih =>
    show padd (smul n (padd P Q)) (padd P Q) = padd (padd (smul n P) P) (padd (smul n Q) Q)
    rw [ih, padd_swap (smul_on n h1) (smul_on n h2) h1 h2]
theorem padd_cancel {P Q R : PP} (h1 : onP P) (h2 : onP Q) (h3 : onP R) (h : padd P R = padd Q R) : P = Q := by
  rw [← padd_0 P h1, ← padd_0 Q h2, ← padd_neg h3, ← padd_assoc h1 h3 (pneg_on h3), ← padd_assoc h2 h3 (pneg_on h3), h]
/-! ### Places -/
abbrev PL := FF × FF × FF × FF
def rep (P : PP) (z : FF) : PL := (P.1 * z, P.2 * z, z, P.1 * P.2 * z)
def plus (p q : PL) : PL :=
  let a := (p.2.1 - p.1) * (q.2.1 - q.1)
  let b := (p.2.1 + p.1) * (q.2.1 + q.1)
  let c := p.2.2.2 * (cd + cd) * q.2.2.2
  let w := (p.2.2.1 + p.2.2.1) * q.2.2.1
  ((b - a) * (w - c), (w + c) * (b + a), (w - c) * (w + c), (b - a) * (b + a))
theorem rep_plus {P Q : PP} (h1 : onP P) (h2 : onP Q) {z w : FF} (hz : z ≠ 0) (hw : w ≠ 0) : ∃ k, k ≠ 0 ∧ plus (rep P z) (rep Q w) = rep (padd P Q) k := by
  obtain ⟨a, b⟩ := padd_is h1 h2
  have hu := padd_u h1 h2
  have hv := padd_v h1 h2
  refine ⟨4 * (z * w * (z * w)) * ((1 + pD P Q) * (1 - pD P Q)), ff_mul_ne (ff_mul_ne (by decide +kernel) (ff_mul_ne (ff_mul_ne hz hw) (ff_mul_ne hz hw))) (ff_mul_ne hu hv), ?_⟩
  generalize padd P Q = R at *
  obtain ⟨x1, y1⟩ := P
  obtain ⟨x2, y2⟩ := Q
  obtain ⟨X, Y⟩ := R
  unfold plus rep pD at *
  dsimp only at *
  have g : ∀ D : FF, D = cd * (x1 * x2 * (y1 * y2)) → x1 * y1 * z * (cd + cd) * (x2 * y2 * w) = 2 * (z * w) * D := by intro D e; rw [e]; grind -lia -order -linarith -mbtc (splits := 0) (ematch := 0)
  rw [g _ rfl]
  generalize cd * (x1 * x2 * (y1 * y2)) = D at *
  clear g
  have q1 : (y1 * z + x1 * z) * (y2 * w + x2 * w) - (y1 * z - x1 * z) * (y2 * w - x2 * w) = 2 * (z * w) * (X * (1 + D)) := by rw [a]; grind -lia -order -linarith -mbtc (splits := 0) (ematch := 0)
  have q2 : (y1 * z + x1 * z) * (y2 * w + x2 * w) + (y1 * z - x1 * z) * (y2 * w - x2 * w) = 2 * (z * w) * (Y * (1 - D)) := by rw [b]; grind -lia -order -linarith -mbtc (splits := 0) (ematch := 0)
  have q3 : (z + z) * w - 2 * (z * w) * D = 2 * (z * w) * (1 - D) := by grind -lia -order -linarith -mbtc (splits := 0) (ematch := 0)
  have q4 : (z + z) * w + 2 * (z * w) * D = 2 * (z * w) * (1 + D) := by grind -lia -order -linarith -mbtc (splits := 0) (ematch := 0)
  rw [q1, q2, q3, q4]
  refine Prod.ext ?_ (Prod.ext ?_ (Prod.ext ?_ ?_)) <;> dsimp only <;> grind -lia -order -linarith -mbtc (splits := 0) (ematch := 0)
theorem rep_plain (P : PP) {z : FF} (hz : z ≠ 0) : ((rep P z).1 * iv (rep P z).2.2.1, (rep P z).2.1 * iv (rep P z).2.2.1) = P := by
  have e := ff_inv hz
  unfold rep
  dsimp only
  apply Prod.ext <;> dsimp only <;> grind -lia -order -linarith -mbtc (splits := 0) (ematch := 0)
end Go.Proofs.Ytnagkhofkjjajaa

set_option linter.unusedVariables false
set_option maxRecDepth 10000
set_option maxHeartbeats 2000000
namespace Go.Proofs.Ytnagkhofkjjajaa
def bf (a : FF) : List Nat := b32 a.val
theorem bf_q (a : FF) : a.val < 115792089237316195423570985008687907853269984665640564039457584007913129639936 := p_q a.isLt
theorem bf_eq {a b : FF} : bf a = bf b ↔ a = b := by
  unfold bf
  rw [b32_eq (bf_q a) (bf_q b)]
  exact ⟨Fin.ext, congrArg _⟩
theorem bf_by (a : FF) : LB 256 (bf a) := b32_by _
theorem bf_len (a : FF) : (bf a).length = 32 := b32_len _
theorem bf0 : List.replicate 32 0 = bf 0 := by unfold bf; rw [ff0]; exact b32_0
theorem bf1 : (List.replicate 32 0).set 0 1 = bf 1 := by unfold bf; rw [ff1]; decide
theorem bf_of {n : Nat} (h : n < pp) : b32 n = bf ⟨n, h⟩ := rfl
theorem c_mul (a b : FF) : F_curve_mul (bf a) (bf b) = some (bf (a * b)) := by
  unfold F_curve_mul bf
  rw [P_FMul (bf_q a) (bf_q b), if_pos ⟨a.isLt, b.isLt⟩, bnd_mk, Fin.val_mul]
theorem c_add (a b : FF) : F_curve_add (bf a) (bf b) = some (bf (a + b)) := by
  unfold F_curve_add bf
  rw [P_FAdd (bf_q a) (bf_q b), if_pos ⟨a.isLt, b.isLt⟩, bnd_mk, Fin.val_add]
theorem c_sub (a b : FF) : F_curve_sub (bf a) (bf b) = some (bf (a - b)) := by
  unfold F_curve_sub bf
  rw [P_FSub (bf_q a) (bf_q b), if_pos ⟨a.isLt, b.isLt⟩, bnd_mk, Fin.val_sub, Nat.add_comm (pp - b.val)]
theorem iv0 : iv 0 = 0 := by decide +kernel
theorem c_inv (a : FF) : F_curve_inv (bf a) = some (bf (iv a)) := by
  by_cases q : a = 0
  · subst q
    rw [iv0]
    unfold F_curve_inv bf
    rw [P_FInv (bf_q 0), if_pos (0 : FF).isLt, if_pos ff0, bnd_mk, ff0]
  · unfold F_curve_inv bf
    rw [P_FInv (bf_q a), if_pos a.isLt, if_neg (ff_ne q), bnd_mk]
    rfl
theorem c_n0 : F_curve_num ((0 : Nat) : Int) = some (bf 0) := congrArg some (by decide +kernel)
theorem c_n1 : F_curve_num ((1 : Nat) : Int) = some (bf 1) := congrArg some (by decide +kernel)
theorem c_n4 : F_curve_num ((4 : Nat) : Int) = some (bf 4) := congrArg some (by decide +kernel)
theorem c_n5 : F_curve_num ((5 : Nat) : Int) = some (bf 5) := congrArg some (by decide +kernel)
theorem c_n65 : F_curve_num ((121665 : Nat) : Int) = some (bf 121665) := congrArg some (by decide +kernel)
theorem c_n66 : F_curve_num ((121666 : Nat) : Int) = some (bf 121666) := congrArg some (by decide +kernel)
theorem c_d : F_curve_d = some (bf cd) := by
  unfold F_curve_d
  rw [c_n0, bnd_mk, c_n65, bnd_mk, c_sub, bnd_mk, c_n66, bnd_mk, c_inv, bnd_mk, c_mul, bnd_mk]
  exact congrArg some (congrArg bf (by decide +kernel))
theorem f_is (a : FF) : F_field_Is (bf a) = some true := by
  unfold bf; rw [P_FIs (bf_q a), decide_eq_true a.isLt]
/-! ### Points -/
def bpt (P : PP) : List Nat × List Nat := (bf P.1, bf P.2)
theorem bpt_eq {P Q : PP} : (bf P.1 = bf Q.1 ∧ bf P.2 = bf Q.2) ↔ P = Q := by
  rw [bf_eq, bf_eq]
  exact ⟨fun h => Prod.ext h.1 h.2, fun h => by rw [h]; exact ⟨rfl, rfl⟩⟩
instance (P : PP) : Decidable (onP P) := by unfold onP onC; exact inferInstance
theorem c_On (P : PP) : F_curve_On (bpt P) = some (decide (onP P)) := by
  unfold F_curve_On bpt
  simp only [f_is, bnd_mk, c_mul, c_sub, c_n1, c_d, c_add, ↓reduceIte, bf_eq]
  congr 1
  apply decide_eq_decide.2
  unfold onP onC
  rw [show P.1 * P.1 * (P.2 * P.2) = (P.1 * P.1) * (P.2 * P.2) from rfl, show cd * (P.1 * P.1) * (P.2 * P.2) = cd * ((P.1 * P.1) * (P.2 * P.2)) by grind -lia -order -linarith -mbtc (splits := 0) (ematch := 0)]
theorem n66_ne : (121666 : FF) ≠ 0 := by decide +kernel
instance (P Q R : PP) : Decidable (isSum P Q R) := by unfold isSum; exact inferInstance
theorem c_on1 {x : List Nat × List Nat} {b : Bool} (h : F_curve_On x = some b) : F_curve_on [x] = some (if b = true then ((0 : Nat) : Int) else ((170 : Nat) : Int)) := by
  unfold F_curve_on
  have s0 : F_curve_on_l1 [x] 0 = if b = true then some (.inl 1) else some (.inr (.inr ((170 : Nat) : Int))) := by
    unfold F_curve_on_l1
    rw [if_pos (by simp), gd_pos (by simp), show [x].getD 0 ([], []) = x from rfl, h, bnd_mk]
    cases b
    · rw [if_neg (by decide), if_neg (by decide)]
    · rw [if_pos rfl, if_pos rfl, gd_pos (by decide)]
  have s1 : F_curve_on_l1 [x] 1 = some (.inr (.inl ())) := by
    unfold F_curve_on_l1
    rw [if_neg (by simp)]
  cases b
  · rw [if_neg (by decide)] at s0
    rw [run_exit s0, bnd_mk, sel_inr, if_neg (by decide)]
  · rw [if_pos rfl] at s0
    rw [run_next s0 (run_exit s1), bnd_mk, sel_inl, if_pos rfl]
theorem c_on2 {x y : List Nat × List Nat} {a b : Bool} (h : F_curve_On x = some a) (g : F_curve_On y = some b) : F_curve_on [x, y] = some (if (a && b) = true then ((0 : Nat) : Int) else ((170 : Nat) : Int)) := by
  unfold F_curve_on
  have s0 : F_curve_on_l1 [x, y] 0 = if a = true then some (.inl 1) else some (.inr (.inr ((170 : Nat) : Int))) := by
    unfold F_curve_on_l1
    rw [if_pos (by simp), gd_pos (by simp), show [x, y].getD 0 ([], []) = x from rfl, h, bnd_mk]
    cases a
    · rw [if_neg (by decide), if_neg (by decide)]
    · rw [if_pos rfl, if_pos rfl, gd_pos (by decide)]
  have s1 : F_curve_on_l1 [x, y] 1 = if b = true then some (.inl 2) else some (.inr (.inr ((170 : Nat) : Int))) := by
    unfold F_curve_on_l1
    rw [if_pos (by simp), gd_pos (by simp), show [x, y].getD 1 ([], []) = y from rfl, g, bnd_mk]
    cases b
    · rw [if_neg (by decide), if_neg (by decide)]
    · rw [if_pos rfl, if_pos rfl, gd_pos (by decide)]
  have s2 : F_curve_on_l1 [x, y] 2 = some (.inr (.inl ())) := by
    unfold F_curve_on_l1
    rw [if_neg (by simp)]
  cases a
  · rw [if_neg (by decide)] at s0
    rw [run_exit s0, bnd_mk, sel_inr, Bool.false_and, if_neg (by decide)]
  · rw [if_pos rfl] at s0
    cases b
    · rw [if_neg (by decide)] at s1
      rw [run_next s0 (run_exit s1), bnd_mk, sel_inr, Bool.and_false, if_neg (by decide)]
    · rw [if_pos rfl] at s1
      rw [run_next s0 (run_next s1 (run_exit s2)), bnd_mk, sel_inl, Bool.and_true, if_pos rfl]
/-! ### Places -/
theorem c_plus (x1 y1 z1 t1 x2 y2 z2 t2 : FF) : F_curve_place_plus (bf x1, bf y1, bf z1, bf t1) (bf x2, bf y2, bf z2, bf t2) (bf (cd + cd)) = some (bf (plus (x1, y1, z1, t1) (x2, y2, z2, t2)).1, bf (plus (x1, y1, z1, t1) (x2, y2, z2, t2)).2.1, bf (plus (x1, y1, z1, t1) (x2, y2, z2, t2)).2.2.1, bf (plus (x1, y1, z1, t1) (x2, y2, z2, t2)).2.2.2) := by
  unfold F_curve_place_plus plus
  simp only [bnd_mk, c_mul, c_add, c_sub]
def bl (p : PL) : List Nat × List Nat × List Nat × List Nat := (bf p.1, bf p.2.1, bf p.2.2.1, bf p.2.2.2)
theorem c_padd {P Q : PP} (h1 : onP P) (h2 : onP Q) {z w : FF} (hz : z ≠ 0) (hw : w ≠ 0) : ∃ k, k ≠ 0 ∧ F_curve_place_plus (bl (rep P z)) (bl (rep Q w)) (bf (cd + cd)) = some (bl (rep (padd P Q) k)) := by
  obtain ⟨k, hk, e⟩ := rep_plus h1 h2 hz hw
  refine ⟨k, hk, ?_⟩
  rw [← e]
  exact c_plus ..
theorem c_plain (P : PP) {z : FF} (hz : z ≠ 0) : F_curve_place_plain (bl (rep P z)) = some (bpt P) := by
  have e := rep_plain P hz
  unfold F_curve_place_plain bl bpt
  simp only [bnd_mk, c_mul, c_inv]
  exact congrArg (fun Q : PP => some (bf Q.1, bf Q.2)) e
theorem c_of (P : PP) : F_curve_of (bpt P) = some (bl (rep P 1)) := by
  unfold F_curve_of bl rep bpt
  simp only [bnd_mk, c_mul, c_n1, Fin.mul_one]
theorem one_ne : (1 : FF) ≠ 0 := by decide +kernel
theorem c_Zero : F_curve_Zero = some (bpt p0) := by
  unfold F_curve_Zero bpt p0
  rw [c_n1, bnd_mk, bf0]
theorem none_pt : ((List.replicate 32 0 : List Nat), (List.replicate 32 0 : List Nat)) = (bf 0, bf 0) := by rw [bf0]
theorem c_Add {P Q : PP} (h1 : onP P) (h2 : onP Q) : F_curve_Add (bpt P) (bpt Q) = some (bpt (padd P Q), ((0 : Nat) : Int)) := by
  unfold F_curve_Add
  rw [c_on2 (c_On P) (c_On Q), bnd_mk, decide_eq_true h1, decide_eq_true h2, if_pos (show (true && true) = true from rfl), if_pos rfl, c_of, bnd_mk]
  obtain ⟨k, hk, e⟩ := c_padd h1 h2 one_ne one_ne
  show bnd (F_curve_of (bpt Q)) _ = _
  rw [c_of, bnd_mk]
  show bnd F_curve_d _ = _
  simp only [c_d, bnd_mk, c_add]
  show bnd (F_curve_place_plus (bl (rep P 1)) (bl (rep Q 1)) (bf (cd + cd))) _ = _
  rw [e, bnd_mk]
  show bnd (F_curve_place_plain (bl (rep (padd P Q) k))) _ = _
  rw [c_plain _ hk, bnd_mk]
theorem c_Add_no {x y : List Nat × List Nat} {a b : Bool} (h1 : F_curve_On x = some a) (h2 : F_curve_On y = some b) (h : (a && b) = false) : F_curve_Add x y = some ((bf 0, bf 0), ((170 : Nat) : Int)) := by
  unfold F_curve_Add
  rw [c_on2 h1 h2, bnd_mk, h, if_neg (by decide), if_neg (by decide), none_pt]
end Go.Proofs.Ytnagkhofkjjajaa

set_option linter.unusedVariables false
set_option maxRecDepth 10000
set_option maxHeartbeats 2000000
namespace Go.Proofs.Ytnagkhofkjjajaa
theorem by_get {l : List Nat} (h : LB 256 l) {k : Nat} (hk : k < l.length) : l.getD k 0 = nv 256 l / 256 ^ k % 256 := by
  have e := leb_nv (b := 256) (by decide) (k := l.length) rfl h
  have e2 := leb_get (b := 256) l.length (nv 256 l) k hk
  rw [e] at e2
  exact e2
theorem by_bit {l : List Nat} (h : LB 256 l) {i : Nat} (hi : i < 8 * l.length) : (l.getD (i / 8) 0 / 2 ^ (i % 8)) &&& 1 = nv 256 l / 2 ^ i % 2 := by
  rw [by_get h (by omega), Nat.and_one_is_mod]
  have e : (2 : Nat) ^ i = 256 ^ (i / 8) * 2 ^ (i % 8) := by
    rw [show (256 : Nat) = 2 ^ 8 from rfl, ← Nat.pow_mul, ← Nat.pow_add]
    congr 1
    omega
  rw [e, ← Nat.div_div_eq_div_mul]
  generalize nv 256 l / 256 ^ (i / 8) = m
  have hr : i % 8 < 8 := Nat.mod_lt _ (by decide)
  generalize i % 8 = r at hr
  match r, hr with
  | 0, _ => simp only [Nat.pow_zero]; omega
  | 1, _ => simp only [Nat.reducePow]; omega
  | 2, _ => simp only [Nat.reducePow]; omega
  | 3, _ => simp only [Nat.reducePow]; omega
  | 4, _ => simp only [Nat.reducePow]; omega
  | 5, _ => simp only [Nat.reducePow]; omega
  | 6, _ => simp only [Nat.reducePow]; omega
  | 7, _ => simp only [Nat.reducePow]; omega
theorem smul_dbl {P : PP} (h : onP P) (m : Nat) : smul (2 * m) P = padd (smul m P) (smul m P) := by rw [Nat.two_mul, smul_add _ _ h]
theorem smul_dbl1 {P : PP} (h : onP P) (m : Nat) : smul (2 * m + 1) P = padd (padd (smul m P) (smul m P)) P := by rw [smul_add _ _ h, smul_dbl h, smul_1 h]
theorem div_bit (n j : Nat) : n / 2 ^ j = 2 * (n / 2 ^ (j + 1)) + n / 2 ^ j % 2 := by
  rw [Nat.pow_succ, ← Nat.div_div_eq_div_mul]; omega
theorem c_Scale {l : List Nat} (hb : LB 256 l) (hl : l.length ≤ 1000000000) {P : PP} (h1 : onP P) : F_curve_Scale l (bpt P) = some (bpt (smul (nv 256 l) P), ((0 : Nat) : Int)) := by
  have hloop : ∃ x, run (F_curve_Scale_l1 l (bf (cd + cd)) (bl (rep P 1)).1 (bl (rep P 1)).2.1 (bl (rep P 1)).2.2.1 (bl (rep P 1)).2.2.2) (((((8 * l.length) : Nat) : Int) - ((1 : Nat) : Int)), bl (rep p0 1)) = some x ∧ ∃ z, z ≠ 0 ∧ x = bl (rep (smul (nv 256 l) P) z) := by
    refine run_inv (fun s => ∃ j z, j ≤ 8 * l.length ∧ z ≠ 0 ∧ s = (((j : Int) - ((1 : Nat) : Int)), bl (rep (smul (nv 256 l / 2 ^ j) P) z))) (fun s => (s.1 + 1).toNat) (fun x => ∃ z, z ≠ 0 ∧ x = bl (rep (smul (nv 256 l) P) z)) ?_ _ ⟨8 * l.length, 1, Nat.le_refl _, one_ne, ?_⟩
    · rintro s ⟨j, z, hj, hz, rfl⟩
      cases j with
      | zero =>
        right
        refine ⟨bl (rep (smul (nv 256 l) P) z), ?_, z, hz, rfl⟩
        rw [Nat.pow_zero, Nat.div_one]
        unfold F_curve_Scale_l1 bl
        dsimp only
        rw [if_neg (by omega)]
      | succ j =>
        left
        have hon := smul_on (nv 256 l / 2 ^ (j + 1)) h1
        obtain ⟨k, hk, e⟩ := c_padd hon hon hz hz
        obtain ⟨k', hk', e'⟩ := c_padd (padd_on hon hon) h1 hk one_ne
        have ix : (((j + 1 : Nat) : Int) - ((1 : Nat) : Int)) = (j : Int) := by omega
        have ix1 : Int.toNat ((j : Int) / ((8 : Nat) : Int)) = j / 8 := by omega
        have ix2 : Int.toNat ((j : Int) % ((8 : Nat) : Int)) = j % 8 := by omega
        have hbit := by_bit hb (i := j) (by omega)
        have hdv := div_bit (nv 256 l) j
        by_cases q : nv 256 l / 2 ^ j % 2 = 1
        · refine ⟨(((j : Nat) : Int) - ((1 : Nat) : Int), bl (rep (smul (nv 256 l / 2 ^ j) P) k')), ?_, ⟨j, k', by omega, hk', rfl⟩, ?_⟩
          · rw [hdv, q, smul_dbl1 h1]
            rw [ix]
            unfold F_curve_Scale_l1
            show (if ((0 : Nat) : Int) ≤ (j : Int) then bnd (F_curve_place_plus (bl (rep (smul (nv 256 l / 2 ^ (j + 1)) P) z)) (bl (rep (smul (nv 256 l / 2 ^ (j + 1)) P) z)) (bf (cd + cd))) _ else _) = _
            rw [if_pos (by omega), e, bnd_mk]
            unfold bl at e' ⊢
            dsimp only at e' ⊢
            rw [gd_pos (by omega), gd_pos (by omega), gd_pos (by omega), gd_pos (by omega), gd_pos (by omega), gd_pos (by omega), gd_pos (by omega), ix1, ix2, hbit, if_pos q, e', bnd_mk]
            dsimp only
            rw [gd_pos (by omega), gd_pos (by omega)]
          · dsimp only; omega
        · have q0 : nv 256 l / 2 ^ j % 2 = 0 := by omega
          refine ⟨(((j : Nat) : Int) - ((1 : Nat) : Int), bl (rep (smul (nv 256 l / 2 ^ j) P) k)), ?_, ⟨j, k, by omega, hk, rfl⟩, ?_⟩
          · rw [q0, Nat.add_zero] at hdv
            rw [hdv, smul_dbl h1]
            rw [ix]
            unfold F_curve_Scale_l1
            show (if ((0 : Nat) : Int) ≤ (j : Int) then bnd (F_curve_place_plus (bl (rep (smul (nv 256 l / 2 ^ (j + 1)) P) z)) (bl (rep (smul (nv 256 l / 2 ^ (j + 1)) P) z)) (bf (cd + cd))) _ else _) = _
            rw [if_pos (by omega), e, bnd_mk]
            unfold bl at e' ⊢
            dsimp only at e' ⊢
            rw [gd_pos (by omega), gd_pos (by omega), gd_pos (by omega), gd_pos (by omega), gd_pos (by omega), gd_pos (by omega), gd_pos (by omega), ix1, ix2, hbit, if_neg q]
            rw [gd_pos (by omega), gd_pos (by omega)]
          · dsimp only; omega
    · have : nv 256 l / 2 ^ (8 * l.length) = 0 := by
        apply Nat.div_eq_of_lt
        rw [Nat.pow_mul]
        exact nv_lt l hb
      rw [this]
      rfl
  obtain ⟨x, hx, z, hz, rfl⟩ := hloop
  unfold F_curve_Scale
  rw [c_on1 (c_On P), bnd_mk, decide_eq_true h1, if_pos (show true = true from rfl), if_pos rfl, c_d, bnd_mk, bnd_mk, c_add, bnd_mk, c_Zero, bnd_mk]
  show bnd (F_curve_of (bpt p0)) _ = _
  rw [c_of, bnd_mk]
  show bnd (F_curve_of (bpt P)) _ = _
  rw [c_of, bnd_mk]
  show bnd (gd _ (run (F_curve_Scale_l1 l (bf (cd + cd)) (bl (rep P 1)).1 (bl (rep P 1)).2.1 (bl (rep P 1)).2.2.1 (bl (rep P 1)).2.2.2) (((((8 * l.length) : Nat) : Int) - ((1 : Nat) : Int)), bl (rep p0 1)))) _ = _
  rw [gd_pos (by omega), hx, bnd_mk]
  show bnd (F_curve_place_plain (bl (rep (smul (nv 256 l) P) z))) _ = _
  rw [c_plain _ hz, bnd_mk]
theorem c_Scale_no {l : List Nat} {x : List Nat × List Nat} (h1 : F_curve_On x = some false) : F_curve_Scale l x = some ((bf 0, bf 0), ((170 : Nat) : Int)) := by
  unfold F_curve_Scale
  rw [c_on1 h1, bnd_mk, if_neg (by decide), if_neg (by decide), none_pt]
/-! ### Packing -/
def packN (P : PP) : Nat := P.2.val + 2 ^ 255 * (P.1.val % 2)
theorem pp_255 : pp < 2 ^ 255 := by decide +kernel
theorem packN_lt (P : PP) : packN P < 115792089237316195423570985008687907853269984665640564039457584007913129639936 := by
  have h1 := P.2.isLt
  have h2 := pp_255
  have h3 : P.1.val % 2 < 2 := Nat.mod_lt _ (by decide)
  unfold packN
  simp only [Nat.reducePow] at *
  omega
theorem q31 : (256 : Nat) ^ 31 = 452312848583266388373324160190187140051835877600158453279131187530910662656 := by decide +kernel
theorem b32_31 (n : Nat) : (b32 n).getD 31 0 = n / 452312848583266388373324160190187140051835877600158453279131187530910662656 % 256 := by
  rw [leb_get 32 n 31 (by decide), q31]
/-- the last byte set -/
theorem b32_set31 {n v : Nat} (hn : n < 115792089237316195423570985008687907853269984665640564039457584007913129639936) (hv : v < 256) : (b32 n).set 31 v = b32 (n % 452312848583266388373324160190187140051835877600158453279131187530910662656 + 452312848583266388373324160190187140051835877600158453279131187530910662656 * v) := by
  refine leb_of (by decide) (by simp [b32_len]) ((b32_by n).set hv 31) ?_
  have h := nv_set 256 (b32 n) 31 v (by rw [b32_len]; decide)
  rw [nvb hn, b32_31, q31] at h
  omega
theorem byte31 {n : Nat} (h : n < 115792089237316195423570985008687907853269984665640564039457584007913129639936) : n / 452312848583266388373324160190187140051835877600158453279131187530910662656 % 256 = n / 452312848583266388373324160190187140051835877600158453279131187530910662656 := by omega
theorem or128 {a b : Nat} (ha : a < 128) (hb : b < 2) : a ||| (b * 2 ^ 7) % 256 = a + 128 * b := by
  have e : (b * 2 ^ 7) % 256 = 2 ^ 7 * b := by simp only [Nat.reducePow]; omega
  rw [e, Nat.or_comm, ← Nat.two_pow_add_eq_or_of_lt (i := 7) ha b]
  simp only [Nat.reducePow]; omega
theorem y31 (y : FF) : y.val / 452312848583266388373324160190187140051835877600158453279131187530910662656 < 128 := by
  have h1 := y.isLt
  have h2 := pp_255
  simp only [Nat.reducePow] at h2
  omega
theorem c_Pack {P : PP} (h1 : onP P) : F_curve_Pack (bpt P) = some (b32 (packN P), ((0 : Nat) : Int)) := by
  unfold F_curve_Pack
  rw [c_on1 (c_On P), bnd_mk, decide_eq_true h1, if_pos (show true = true from rfl), if_pos rfl]
  unfold bpt bf
  dsimp only
  have hy := y31 P.2
  rw [leb_get 32 P.1.val 0 (by decide), b32_31, byte31 (bf_q P.2), Nat.pow_zero, Nat.div_one, Nat.and_one_is_mod, Nat.mod_mod_of_dvd _ (by decide), or128 hy (Nat.mod_lt _ (by decide))]
  have hm : P.1.val % 2 < 2 := Nat.mod_lt _ (by decide)
  rw [b32_set31 (bf_q P.2) (by omega)]
  congr 3
  unfold packN
  simp only [Nat.reducePow]
  omega
theorem c_Pack_no {x : List Nat × List Nat} (h1 : F_curve_On x = some false) : F_curve_Pack x = some (bf 0, ((170 : Nat) : Int)) := by
  unfold F_curve_Pack
  rw [c_on1 h1, bnd_mk, if_neg (by decide), if_neg (by decide), bf0]
/-! ### Unpacking -/
def xx (y : FF) : FF := (y * y - 1) * iv (cd * (y * y) + 1)
theorem den_ne (y : FF) : cd * (y * y) + 1 ≠ 0 := by
  intro h
  have e : ci * ci = cd * (y * y) := by rw [ci_sq]; grind -lia -order -linarith -mbtc (splits := 0) (ematch := 0)
  have hy := sqd e
  subst hy
  revert h
  decide +kernel
theorem xx_on (x y : FF) : onP (x, y) ↔ x * x = xx y := by
  have e := ff_inv (den_ne y)
  have hd := den_ne y
  unfold xx onP onC
  dsimp only
  constructor
  · intro h
    apply ff_cancel hd
    generalize iv (cd * (y * y) + 1) = i at *
    grind -lia -order -linarith -mbtc (splits := 0) (ematch := 0)
  · intro h
    generalize iv (cd * (y * y) + 1) = i at *
    grind -lia -order -linarith -mbtc (splits := 0) (ematch := 0)
def rt (a : FF) : Option FF := if (rootN a.val).2 = true then some (Fin.ofNat pp (rootN a.val).1) else none
theorem rt_some {a r : FF} (h : rt a = some r) : (rootN a.val).2 = true ∧ (rootN a.val).1 = r.val ∧ r.val % 2 = 0 ∧ r * r = a := by
  unfold rt at h
  by_cases q : (rootN a.val).2 = true
  · rw [if_pos q] at h
    obtain ⟨h1, h2, h3⟩ := root_ok a.isLt q
    have e : r.val = (rootN a.val).1 := by
      cases h
      rw [Fin.val_ofNat, Nat.mod_eq_of_lt h1]
    refine ⟨q, e.symm, by rw [e]; exact h2, Fin.ext ?_⟩
    rw [Fin.val_mul, e, h3]
  · rw [if_neg q] at h; cases h
theorem rt_none {a : FF} (h : rt a = none) : (rootN a.val).2 = false := by
  unfold rt at h
  by_cases q : (rootN a.val).2 = true
  · rw [if_pos q] at h; cases h
  · exact Bool.eq_false_iff.2 q
theorem rt_sq (x : FF) : ∃ r, rt (x * x) = some r ∧ (x.val % 2 = 0 → r = x) ∧ (x.val % 2 = 1 → r ≠ 0 ∧ - r = x) := by
  have h := root_sq x.isLt
  rw [← Fin.val_mul] at h
  refine ⟨Fin.ofNat pp (rootN (x * x).val).1, if_pos h, ?_⟩
  obtain ⟨q, e1, e2, e3⟩ := rt_some (a := x * x) (r := Fin.ofNat pp (rootN (x * x).val).1) (if_pos h)
  generalize Fin.ofNat pp (rootN (x * x).val).1 = r at *
  have e4 : r.val * r.val % pp = x.val * x.val % pp := by rw [← Fin.val_mul, ← Fin.val_mul, e3]
  have ho := pp_odd
  rcases sq_eq r.isLt x.isLt e4 with g | g
  · refine ⟨fun _ => Fin.ext g, fun hx => ?_⟩
    omega
  · refine ⟨fun hx => by omega, fun hx => ?_⟩
    have hr : r ≠ 0 := fun e => by
      subst e
      rw [ff0] at g
      have := x.isLt
      omega
    refine ⟨hr, Fin.ext ?_⟩
    rw [Fin.val_neg, if_neg hr]
    omega
/-- what 32 bytes are told as -/
def unp (n : Nat) : Option PP :=
  if h : n % 2 ^ 255 < pp then
    match rt (xx ⟨n % 2 ^ 255, h⟩) with
    | some r => if n / 2 ^ 255 = 1 then (if r = 0 then none else some (- r, ⟨n % 2 ^ 255, h⟩)) else some (r, ⟨n % 2 ^ 255, h⟩)
    | none => none
  else none
theorem and127 {a : Nat} (h : a < 256) : a &&& 127 = a % 128 := Nat.and_two_pow_sub_one_eq_mod a 7
theorem low255 {n : Nat} (hn : n < 115792089237316195423570985008687907853269984665640564039457584007913129639936) : (b32 n).set 31 ((b32 n).getD 31 0 &&& 127) = b32 (n % 2 ^ 255) := by
  rw [b32_31, byte31 hn, and127 (by omega), b32_set31 hn (by omega)]
  congr 1
  simp only [Nat.reducePow]
  omega
theorem top255 {n : Nat} (hn : n < 115792089237316195423570985008687907853269984665640564039457584007913129639936) : (b32 n).getD 31 0 / 2 ^ 7 = n / 2 ^ 255 := by
  rw [b32_31, byte31 hn]
  simp only [Nat.reducePow]
  omega
theorem c_Unpack {n : Nat} (hn : n < 115792089237316195423570985008687907853269984665640564039457584007913129639936) : F_curve_Unpack (b32 n) = some (match unp n with
    | some P => (bpt P, ((0 : Nat) : Int))
    | none => ((bf 0, bf 0), ((170 : Nat) : Int))) := by
  unfold F_curve_Unpack unp
  simp only [low255 hn, top255 hn]
  have hlo : n % 2 ^ 255 < 115792089237316195423570985008687907853269984665640564039457584007913129639936 := Nat.lt_of_le_of_lt (Nat.mod_le _ _) hn
  rw [P_FIs hlo, bnd_mk]
  by_cases q : n % 2 ^ 255 < pp
  · rw [decide_eq_true q, if_pos rfl, dif_pos q, bf_of q]
    generalize (⟨n % 2 ^ 255, q⟩ : FF) = y
    generalize n / 2 ^ 255 = o
    rw [c_mul, bnd_mk, c_n1, bnd_mk, c_sub, bnd_mk, c_d, bnd_mk, c_mul, bnd_mk, bnd_mk, c_add, bnd_mk, c_inv, bnd_mk, c_mul, bnd_mk]
    rw [show (y * y - 1) * iv (cd * (y * y) + 1) = xx y from rfl]
    have hR : F_field_Root (bf (xx y)) = some (b32 (rootN (xx y).val).1, (rootN (xx y).val).2, 0) := by
      unfold bf
      rw [P_FRoot (bf_q _), if_pos (xx y).isLt]
    rw [hR, bnd_mk]
    dsimp only
    cases hr : rt (xx y) with
    | none =>
      dsimp only
      rw [rt_none hr, if_neg (by decide), bnd_mk, sel_inr, none_pt]
    | some r =>
      obtain ⟨q1, e1, e2, e3⟩ := rt_some hr
      rw [q1, if_pos rfl, e1, show b32 r.val = bf r from rfl]
      dsimp only
      by_cases qo : o = 1
      · rw [if_pos qo, if_pos qo, if_pos qo, c_n0, bnd_mk, bnd_mk]
        by_cases q0 : r = 0
        · rw [if_pos q0, if_pos (bf_eq.2 q0), bnd_mk, sel_inr, none_pt]
        · rw [if_neg q0, if_neg (fun h => q0 (bf_eq.1 h)), bnd_mk, sel_inl, c_sub, bnd_mk, bnd_mk, show (0 : FF) - r = - r by grind -lia -order -linarith -mbtc (splits := 0) (ematch := 0)]
          rfl
      · rw [if_neg qo, if_neg qo, if_neg qo, bnd_mk, sel_inl, bnd_mk]
        rfl
  · rw [decide_eq_false q, if_neg (by decide), dif_neg q, none_pt]
theorem unp_pack {P : PP} (h : onP P) : unp (packN P) = some P := by
  obtain ⟨x, y⟩ := P
  have h2 := pp_255
  have hy := y.isLt
  have hx2 : x.val % 2 < 2 := Nat.mod_lt _ (by decide)
  have e1 : packN (x, y) % 2 ^ 255 = y.val := by
    unfold packN
    dsimp only
    rw [Nat.add_mul_mod_self_left, Nat.mod_eq_of_lt (by omega)]
  have e2 : packN (x, y) / 2 ^ 255 = x.val % 2 := by
    unfold packN
    dsimp only
    rw [Nat.add_mul_div_left _ _ (by decide), Nat.div_eq_of_lt (by omega), Nat.zero_add]
  have hxx := (xx_on x y).1 h
  obtain ⟨r, hr, g1, g2⟩ := rt_sq x
  unfold unp
  rw [dif_pos (by rw [e1]; exact hy)]
  have e3 : (⟨packN (x, y) % 2 ^ 255, by rw [e1]; exact hy⟩ : FF) = y := Fin.ext e1
  rw [e3, ← hxx, hr, e2]
  dsimp only
  by_cases q : x.val % 2 = 1
  · obtain ⟨g3, g4⟩ := g2 q
    rw [if_pos q, if_neg g3, g4]
  · rw [if_neg q, g1 (by omega)]
theorem pack_unp {n : Nat} (hn : n < 115792089237316195423570985008687907853269984665640564039457584007913129639936) {P : PP} (h : unp n = some P) : onP P ∧ packN P = n := by
  have ho := pp_odd
  unfold unp at h
  by_cases q : n % 2 ^ 255 < pp
  · rw [dif_pos q] at h
    cases hr : rt (xx ⟨n % 2 ^ 255, q⟩) with
    | none => rw [hr] at h; cases h
    | some r =>
      rw [hr] at h
      dsimp only at h
      obtain ⟨q1, e1, e2, e3⟩ := rt_some hr
      have hsp : n = n % 2 ^ 255 + 2 ^ 255 * (n / 2 ^ 255) := (Nat.mod_add_div n (2 ^ 255)).symm
      by_cases qo : n / 2 ^ 255 = 1
      · rw [if_pos qo] at h
        by_cases q0 : r = 0
        · rw [if_pos q0] at h; cases h
        · rw [if_neg q0] at h
          cases h
          refine ⟨(xx_on _ _).2 (Eq.trans (by grind -lia -order -linarith -mbtc (splits := 0) (ematch := 0)) e3), ?_⟩
          unfold packN
          dsimp only
          have hv : (- r).val % 2 = 1 := by
            rw [Fin.val_neg, if_neg q0]
            have := r.isLt
            have := ff_ne q0
            omega
          rw [hv, ← qo]
          exact hsp.symm
      · rw [if_neg qo] at h
        cases h
        refine ⟨(xx_on _ _).2 e3, ?_⟩
        unfold packN
        dsimp only
        have q0 : n / 2 ^ 255 = 0 := by
          have : n / 2 ^ 255 < 2 := by
            rw [Nat.div_lt_iff_lt_mul (by decide)]
            exact Nat.lt_of_lt_of_le hn (by decide +kernel)
          omega
        rw [e2, ← q0]
        exact hsp.symm
  · rw [dif_neg q] at h; cases h
end Go.Proofs.Ytnagkhofkjjajaa

set_option linter.unusedVariables false
set_option linter.unusedSimpArgs false
set_option maxRecDepth 10000
set_option maxHeartbeats 2000000
namespace Go.Proofs.Ytnagkhofkjjajaa
/-- a point of the curve -/
abbrev GP := {P : PP // onP P}
def gadd (P Q : GP) : GP := ⟨padd P.1 Q.1, padd_on P.2 Q.2⟩
def gneg (P : GP) : GP := ⟨pneg P.1, pneg_on P.2⟩
def g0 : GP := ⟨p0, p0_on⟩
def gmul (n : Nat) (P : GP) : GP := ⟨smul n P.1, smul_on n P.2⟩
theorem gadd_comm (P Q : GP) : gadd P Q = gadd Q P := Subtype.ext (padd_comm _ _)
theorem gadd_assoc (P Q R : GP) : gadd (gadd P Q) R = gadd P (gadd Q R) := Subtype.ext (padd_assoc P.2 Q.2 R.2)
theorem gadd_0 (P : GP) : gadd P g0 = P := Subtype.ext (padd_0 _ P.2)
theorem gadd_neg (P : GP) : gadd P (gneg P) = g0 := Subtype.ext (padd_neg P.2)
theorem g0_add (P : GP) : gadd g0 P = P := by rw [gadd_comm, gadd_0]
theorem gmul_0 (P : GP) : gmul 0 P = g0 := rfl
theorem gmul_1 (P : GP) : gmul 1 P = P := Subtype.ext (smul_1 P.2)
theorem gmul_succ (n : Nat) (P : GP) : gmul (n + 1) P = gadd (gmul n P) P := rfl
theorem gmul_add (m n : Nat) (P : GP) : gmul (m + n) P = gadd (gmul m P) (gmul n P) := Subtype.ext (smul_add m n P.2)
theorem gmul_mul (m n : Nat) (P : GP) : gmul (m * n) P = gmul n (gmul m P) := Subtype.ext (smul_mul m n P.2)
theorem gmul_g0 (n : Nat) : gmul n g0 = g0 := Subtype.ext (smul_p0 n)
theorem gmul_gadd (n : Nat) (P Q : GP) : gmul n (gadd P Q) = gadd (gmul n P) (gmul n Q) := Subtype.ext (smul_padd n P.2 Q.2)
theorem gadd_cancel {P Q R : GP} (h : gadd P R = gadd Q R) : P = Q := Subtype.ext (padd_cancel P.2 Q.2 R.2 (congrArg Subtype.val h))
def gx (P : GP) : List Nat := bf P.1.1
def gy (P : GP) : List Nat := bf P.1.2
theorem gp_eq {P Q : GP} : (gx P = gx Q ∧ gy P = gy Q) ↔ P = Q := by
  unfold gx gy
  rw [bpt_eq]
  exact ⟨Subtype.ext, congrArg _⟩
theorem gx_by (P : GP) : LB 256 (gx P) := b32_by _
theorem gy_by (P : GP) : LB 256 (gy P) := b32_by _
def bB : PP := (⟨15112221349535400772501151409588531511454012693041857206046113283949847762202, by decide +kernel⟩, ⟨46316835694926478169428394003475163141307993866256225615783033603165251855960, by decide +kernel⟩)
theorem bB_on : onP bB := by unfold onP onC; decide +kernel
def gB : GP := ⟨bB, bB_on⟩
theorem g_Base : F_curve_Base = some (gx gB, gy gB) := by
  unfold F_curve_Base
  rw [c_n4, bnd_mk, c_n5, bnd_mk, c_inv, bnd_mk, c_mul, bnd_mk]
  unfold bf
  rw [c_Unpack (bf_q _), show unp (4 * iv 5).val = some bB by decide +kernel, bnd_mk]
  rfl
theorem g_Add (P Q : GP) : F_curve_Add (gx P, gy P) (gx Q, gy Q) = some ((gx (gadd P Q), gy (gadd P Q)), ((0 : Nat) : Int)) := c_Add P.2 Q.2
theorem g_Scale {l : List Nat} (hb : LB 256 l) (hl : l.length ≤ 1000000000) (P : GP) : F_curve_Scale l (gx P, gy P) = some ((gx (gmul (nv 256 l) P), gy (gmul (nv 256 l) P)), ((0 : Nat) : Int)) := c_Scale hb hl P.2
theorem g_Pack (P : GP) : F_curve_Pack (gx P, gy P) = some (b32 (packN P.1), ((0 : Nat) : Int)) := c_Pack P.2
theorem g_On (P : GP) : F_curve_On (gx P, gy P) = some true := (c_On P.1).trans (congrArg some (decide_eq_true P.2))
theorem g_Zero : F_curve_Zero = some (gx g0, gy g0) := c_Zero
theorem g_eqT (P : GP) : ((gx P = gx P ∧ gy P = gy P)) = True := eq_true ⟨rfl, rfl⟩
theorem bf1' : (bf 0).set 0 1 = bf 1 := by rw [← bf0, bf1]
theorem g_Unpack (P : GP) : F_curve_Unpack (b32 (packN P.1)) = some ((gx P, gy P), ((0 : Nat) : Int)) := by
  rw [c_Unpack (packN_lt _), unp_pack P.2]
  rfl
theorem gneg_two {P : GP} : P = gneg P ↔ gadd P P = g0 := by
  constructor
  · intro h
    have := gadd_neg P
    rw [← h] at this
    exact this
  · intro h
    apply gadd_cancel (R := P)
    rw [h, gadd_comm (gneg P), gadd_neg]
end Go.Proofs.Ytnagkhofkjjajaa

set_option linter.unusedVariables false
set_option maxRecDepth 10000
namespace Go.Proofs.Ytnagkhofkjjajaa
theorem run_trim {f : Nat → Option (Nat ⊕ Nat)} (l : List Nat) (hl : l.length ≤ 9223372036854775807)
    (hf : ∀ n, f n = if (0 : Nat) < n then (gd ((0 : Int) ≤ (((n : Nat) : Int) - ((1 : Nat) : Int))) (gd ((((n : Nat) : Int) - ((1 : Nat) : Int)) < ((n : Nat) : Int)) (if (l.getD (Int.toNat (((n : Nat) : Int) - ((1 : Nat) : Int))) 0) = 0 then (gd ((0 : Int) ≤ (((n : Nat) : Int) - ((1 : Nat) : Int))) (gd ((Int.toNat (((n : Nat) : Int) - ((1 : Nat) : Int))) ≤ n) (some (.inl (Int.toNat (((n : Nat) : Int) - ((1 : Nat) : Int))))))) else (some (.inr n))))) else (some (.inr n))) :
    run f l.length = some (tlen l) := by
  have key := run_inv (f := f) (fun k : Nat => k ≤ l.length ∧ ∀ j : Nat, k ≤ j → l.getD j 0 = 0) (fun k => k) (fun k => k = tlen l) ?_ l.length ⟨Nat.le_refl _, fun j hj => getD_ge hj⟩
  · obtain ⟨r, hr, rfl⟩ := key
    exact hr
  · rintro k ⟨h2, h3⟩
    rw [hf]
    by_cases q : 0 < k
    · have e : Int.toNat ((k : Int) - ((1 : Nat) : Int)) = k - 1 := by omega
      rw [if_pos q, gd_pos (by omega), gd_pos (by omega), e]
      by_cases a : l.getD (k - 1) 0 = 0
      · left
        rw [if_pos a, gd_pos (by omega), gd_pos (by omega)]
        exact ⟨_, rfl, ⟨by omega, fun j hj => trim_step (fun j hj => h3 j (by omega)) a j (by omega)⟩, by omega⟩
      · right
        rw [if_neg a]
        exact ⟨_, rfl, (tlen_spec l k (by omega) (fun j hj => h3 j (by omega)) (.inr a)).symm⟩
    · right
      rw [if_neg q]
      exact ⟨_, rfl, (tlen_spec l k (by omega) (fun j hj => h3 j (by omega)) (.inl (by omega))).symm⟩
theorem P_nread {l : List Nat} (hb : LB 256 l) (hl : l.length ≤ 1000000000) : F_nums_read l = some (dig 18446744073709551616 (nv 256 l)) := by
  unfold F_nums_read
  rw [gd_pos (by omega), gd_pos (by omega)]
  have key := run_inv (f := F_nums_read_l1 l) (fun s : Nat × List Nat => s.1 ≤ l.length ∧ s.2.length = (l.length + 7) / 8 ∧ LB 18446744073709551616 s.2 ∧ nv 18446744073709551616 s.2 = nv 256 (l.take s.1)) (fun s => l.length - s.1)
    (fun r => r.length = (l.length + 7) / 8 ∧ LB 18446744073709551616 r ∧ nv 18446744073709551616 r = nv 256 l) ?_ (0, List.replicate ((l.length + 7) / 8) 0) ⟨Nat.zero_le _, by simp, LB.rep (by decide) _, by dsimp only; rw [nv_replicate]; rfl⟩
  · obtain ⟨r, hr, h1, h2, h3⟩ := key
    rw [hr, bnd_mk]
    have ht := run_trim (f := F_nums_read_l2 r) r (by omega) (fun n => by unfold F_nums_read_l2; rfl)
    rw [h1] at ht
    rw [ht, bnd_mk, ← h3, ← trimL_dig (by decide) h2]
    rfl
  · rintro ⟨n, z⟩ ⟨h1, h2, h3, h4⟩
    dsimp only at h1 h2 h3 h4
    unfold F_nums_read_l1
    dsimp only
    by_cases q : n < l.length
    · left
      obtain ⟨g1, g2, g3⟩ := read_step q hb h2 h4 (h3.get (by decide) _)
      rw [if_pos q, gd_pos q, gd_pos (by omega), gd_pos (by omega), gd_pos (by omega), gd_pos (by omega)]
      exact ⟨_, rfl, ⟨by dsimp only; omega, g1, h3.set g3 _, g2⟩, by dsimp only; omega⟩
    · right
      rw [if_neg q]
      refine ⟨_, rfl, h2, h3, ?_⟩
      rw [List.take_of_length_le (by omega)] at h4
      exact h4
theorem P_nat {l : List Nat} (i : Nat) : F_nums_row_at l ((i : Nat) : Int) = some (l.getD i 0) := by
  unfold F_nums_row_at
  by_cases q : i < l.length
  · rw [if_pos (by omega), gd_pos (by omega), gd_pos (by omega)]
    congr 2
  · rw [if_neg (by omega), getD_ge (by omega)]
theorem leb_app {b j k x y : Nat} (hb : 0 < b) (hx : x < b ^ j) : leb b j x ++ leb b k y = leb b (j + k) (x + b ^ j * y) := by
  have h1 : (leb b j x ++ leb b k y).length = j + k := by rw [List.length_append, leb_len, leb_len]
  have h2 : LB b (leb b j x ++ leb b k y) := LB.app (leb_lt hb j x) (leb_lt hb k y)
  refine (leb_of hb h1 h2 rfl).trans (leb_of hb (leb_len ..) (leb_lt hb _ _) ?_).symm
  rw [nv_leb hb, nv_append, nv_leb hb, nv_leb hb, leb_len, Nat.mod_eq_of_lt hx, Nat.pow_add, Nat.mod_mul, Nat.add_mul_mod_self_left, Nat.mod_eq_of_lt hx, Nat.add_mul_div_left _ _ (Nat.pow_pos hb), Nat.div_eq_of_lt hx, Nat.zero_add]
theorem bytes_one {w j : Nat} (hj : j < 8) : w / 2 ^ (8 * j) % 256 = w / 256 ^ j % 256 := by
  rw [Nat.pow_mul]
theorem P_word {l acc : List Nat} (hb : LB 18446744073709551616 l) (hl : l.length ≤ 1000000000) (n k : Nat) (ha : acc.length ≤ 10000000000) : run (F_nums_row_bytes_l3 l k) (acc, 0) = some (acc ++ leb 256 8 (l.getD k 0)) := by
  have h := run_for (f := F_nums_row_bytes_l3 l k) (x := acc ++ leb 256 8 (l.getD k 0)) (fun j => (acc ++ (leb 256 8 (l.getD k 0)).take j, j)) 8 (fun j hj => ?_) ?_
  · simpa using h
  · have hlen : (acc ++ (leb 256 8 (l.getD k 0)).take j).length = acc.length + j := by rw [List.length_append, List.length_take, leb_len]; omega
    unfold F_nums_row_bytes_l3
    dsimp only
    rw [if_pos hj, gd_pos (by omega), gd_pos (by rw [hlen]; omega), gd_pos (by omega)]
    congr 3
    rw [List.append_assoc, List.take_add_one, List.getElem?_eq_getElem (by rw [leb_len]; exact hj)]
    congr 2
    have e := leb_get (b := 256) 8 (l.getD k 0) j hj
    rw [List.getD_eq_getElem?_getD, List.getElem?_eq_getElem (by rw [leb_len]; exact hj)] at e
    have e2 : (leb 256 8 (l.getD k 0))[j]'(by rw [leb_len]; exact hj) = l.getD k 0 / 256 ^ j % 256 := e
    rw [e2, bytes_one hj]
    rfl
  · unfold F_nums_row_bytes_l3
    dsimp only
    rw [if_neg (by decide), List.take_of_length_le (by rw [leb_len]; decide)]
theorem P_nbytes {l : List Nat} (hb : LB 18446744073709551616 l) (hl : l.length ≤ 1000000000) : F_nums_row_bytes l = some (dig 256 (nv 18446744073709551616 l)) := by
  unfold F_nums_row_bytes
  have ht := run_trim (f := F_nums_row_bytes_l1 l) l (by omega) (fun n => by unfold F_nums_row_bytes_l1; rfl)
  have hle := tlen_le l
  rw [ht, bnd_mk]
  have h := run_for (f := F_nums_row_bytes_l2 l (tlen l)) (x := leb 256 (8 * tlen l) (nv 18446744073709551616 (l.take (tlen l)))) (fun k => (leb 256 (8 * k) (nv 18446744073709551616 (l.take k)), k)) (tlen l) (fun k hk => ?_) ?_
  · have e : (leb 256 (8 * 0) (nv 18446744073709551616 (l.take 0)), 0) = (([] : List Nat), 0) := rfl
    rw [e] at h
    rw [h, bnd_mk]
    generalize hr : leb 256 (8 * tlen l) (nv 18446744073709551616 (l.take (tlen l))) = r
    have h2 : LB 256 r := by rw [← hr]; exact leb_lt (by decide) _ _
    have h1 : r.length = 8 * tlen l := by rw [← hr, leb_len]
    have h3 : nv 256 r = nv 18446744073709551616 l := by
      rw [← hr, nv_leb (by decide), ← nv_trim _ l, Nat.mod_eq_of_lt]
      · rfl
      · rw [← bp]
        have := nv_lt (l.take (tlen l)) (LB.take hb _)
        rwa [List.length_take, Nat.min_eq_left hle] at this
    have ht2 := run_trim (f := F_nums_row_bytes_l4 r) r (by omega) (fun n => by unfold F_nums_row_bytes_l4; rfl)
    rw [ht2, bnd_mk, ← h3, ← trimL_dig (by decide) h2]
    rfl
  · unfold F_nums_row_bytes_l2
    dsimp only
    rw [if_pos hk, gd_pos hk, P_word hb hl 0 k (by rw [leb_len]; omega), bnd_mk, gd_pos (by omega)]
    congr 3
    have h1 := nv_lt (l.take k) (LB.take hb _)
    rw [List.length_take, Nat.min_eq_left (by omega), bp] at h1
    rw [leb_app (by decide) h1, nv_take_succ _ _ _ (by omega), bp]
    congr 1
  · unfold F_nums_row_bytes_l2
    dsimp only
    rw [if_neg (Nat.lt_irrefl _)]
theorem dig_LB {b : Nat} (hb : 2 ≤ b) (n : Nat) : LB b (dig b n) := (dig_spec hb n).2.2.1
theorem P_nAdd {xs ys : List Nat} (hx : LB 256 xs) (hy : LB 256 ys) (hl : xs.length ≤ 1000000) (hl' : ys.length ≤ 1000000) : F_nums_Add xs ys = some (dig 256 (nv 256 xs + nv 256 ys)) := by
  unfold F_nums_Add
  rw [P_nread hx (by omega), bnd_mk, P_nread hy (by omega), bnd_mk]
  have hX := dig_LB (b := 18446744073709551616) (by decide) (nv 256 xs)
  have hY := dig_LB (b := 18446744073709551616) (by decide) (nv 256 ys)
  have l1 := read_len (M := 1000000) hx rfl hl
  have l2 := read_len (M := 1000000) hy rfl hl'
  have v1 := nv_dig (b := 18446744073709551616) (by decide) (nv 256 xs)
  have v2 := nv_dig (b := 18446744073709551616) (by decide) (nv 256 ys)
  generalize dig 18446744073709551616 (nv 256 xs) = X at *
  generalize dig 18446744073709551616 (nv 256 ys) = Y at *
  rw [gd_pos (by omega), gd_pos (by omega)]
  have key := run_inv (f := F_nums_Add_l1 X Y) (fun s : Nat × Nat × List Nat => s.1 ≤ 1 ∧ s.2.1 ≤ max X.length Y.length + 1 ∧ s.2.2.length = max X.length Y.length + 1 ∧ LB 18446744073709551616 s.2.2 ∧ nv 18446744073709551616 (s.2.2.take s.2.1) + s.1 * 18446744073709551616 ^ s.2.1 = nv 18446744073709551616 (X.take s.2.1) + nv 18446744073709551616 (Y.take s.2.1))
    (fun s => max X.length Y.length + 1 - s.2.1) (fun r => r.length = max X.length Y.length + 1 ∧ LB 18446744073709551616 r ∧ nv 18446744073709551616 r = nv 18446744073709551616 X + nv 18446744073709551616 Y) ?_ (0, 0, List.replicate (max X.length Y.length + 1) 0) ⟨Nat.zero_le _, Nat.zero_le _, by simp, LB.rep (by decide) _, by simp⟩
  · obtain ⟨r, hr, h1, h2, h3⟩ := key
    rw [hr, bnd_mk, P_nbytes h2 (by omega), bnd_mk, h3, v1, v2]
  · rintro ⟨c, n, z⟩ ⟨h1, h2, h3, h4, h5⟩
    dsimp only at h1 h2 h3 h4 h5
    unfold F_nums_Add_l1
    dsimp only
    by_cases q : n < max X.length Y.length + 1
    · left
      have a1 := hX.get (by decide) n
      have a2 := hY.get (by decide) n
      rw [if_pos q, P_nat, bnd_mk, P_nat, bnd_mk, A64 h1, bnd_mk]
      dsimp only
      rw [gd_pos q, gd_pos (by omega)]
      have e := add_step (b := 18446744073709551616) (xs := X) (ys := Y) (zs := z) (k := n) (c := c) (by omega) h5
      refine ⟨_, rfl, ⟨by dsimp only; omega, by dsimp only; omega, by simpa using h3, h4.set (Nat.mod_lt _ (by decide)) _, e⟩, by dsimp only; omega⟩
    · right
      rw [if_neg q]
      exact ⟨_, rfl, h3, h4, add_done h3 (by omega) (by omega) hX hY (by omega) h5⟩
theorem P_nmul_in {xs ys zs : List Nat} {i M : Nat} (hX : LB 18446744073709551616 xs) (hY : LB 18446744073709551616 ys) (hM : M = xs.length + ys.length) (hM2 : M ≤ 10000000) (hi : i < xs.length) (hz : zs.length = M) (hZ : LB 18446744073709551616 zs) (h0 : ∀ j, i + ys.length ≤ j → zs.getD j 0 = 0) (hv : MO 18446744073709551616 xs ys zs i) :
    ∃ c z, run (F_nums_Mul_l2 xs ys i) (0, 0, zs) = some (c, z) ∧ z.length = M ∧ LB 18446744073709551616 z ∧ c < 18446744073709551616 ∧ (∀ j, i + ys.length ≤ j → z.getD j 0 = 0) ∧ MI 18446744073709551616 xs ys z i c ys.length := by
  have key := run_inv (f := F_nums_Mul_l2 xs ys i) (fun s : Nat × Nat × List Nat => s.2.1 ≤ ys.length ∧ s.2.2.length = M ∧ LB 18446744073709551616 s.2.2 ∧ s.1 < 18446744073709551616 ∧ (∀ j, i + ys.length ≤ j → s.2.2.getD j 0 = 0) ∧ MI 18446744073709551616 xs ys s.2.2 i s.1 s.2.1)
    (fun s => ys.length - s.2.1) (fun r => r.2.length = M ∧ LB 18446744073709551616 r.2 ∧ r.1 < 18446744073709551616 ∧ (∀ j, i + ys.length ≤ j → r.2.getD j 0 = 0) ∧ MI 18446744073709551616 xs ys r.2 i r.1 ys.length) ?_ (0, 0, zs) ⟨Nat.zero_le _, hz, hZ, Nat.zero_lt_succ _, h0, MI.start hv⟩
  · obtain ⟨⟨b, z⟩, hr, h⟩ := key
    exact ⟨b, z, hr, h⟩
  · rintro ⟨c, k, z⟩ ⟨h1, h2, h3, h4, h5, h6⟩
    dsimp only at h1 h2 h3 h4 h5 h6
    unfold F_nums_Mul_l2
    dsimp only
    by_cases q : k < ys.length
    · left
      have hx := hX.get (by decide) i
      have hy := hY.get (by decide) k
      have ho := h3.get (by decide) (i + k)
      obtain ⟨e1, e2⟩ := mul_words hx hy ho h4
      rw [if_pos q, gd_pos q, P_Mul64 hx hy, bnd_mk]
      dsimp only
      rw [gd_pos (by clear e1 e2; omega), gd_pos (by clear e1 e2; omega), A64 (by decide), bnd_mk]
      dsimp only
      rw [A64 (by decide), bnd_mk]
      dsimp only
      rw [gd_pos (by clear e1 e2; omega), gd_pos (by clear e1 e2; omega), gd_pos (by clear e1 e2; omega)]
      refine ⟨_, rfl, ⟨by clear e1 e2; dsimp only; omega, by simpa using h2, h3.set (Nat.mod_lt _ (by decide)) _, Nat.mod_lt _ (by decide), fun j hj => ?_, ?_⟩, by clear e1 e2; dsimp only; omega⟩
      · dsimp only
        rw [set_get (by clear e1 e2; omega)]; exact h5 j hj
      · exact MI.step (by clear e1 e2; omega) h6 e1 e2
    · right
      have : k = ys.length := by omega
      subst this
      rw [if_neg q]
      exact ⟨_, rfl, h2, h3, h4, h5, h6⟩
theorem P_nMul {xs ys : List Nat} (hx : LB 256 xs) (hy : LB 256 ys) (hl : xs.length ≤ 1000000) (hl' : ys.length ≤ 1000000) : F_nums_Mul xs ys = some (dig 256 (nv 256 xs * nv 256 ys)) := by
  unfold F_nums_Mul
  rw [P_nread hx (by omega), bnd_mk, P_nread hy (by omega), bnd_mk]
  have hX := dig_LB (b := 18446744073709551616) (by decide) (nv 256 xs)
  have hY := dig_LB (b := 18446744073709551616) (by decide) (nv 256 ys)
  have l1 := read_len (M := 1000000) hx rfl hl
  have l2 := read_len (M := 1000000) hy rfl hl'
  have v1 := nv_dig (b := 18446744073709551616) (by decide) (nv 256 xs)
  have v2 := nv_dig (b := 18446744073709551616) (by decide) (nv 256 ys)
  generalize dig 18446744073709551616 (nv 256 xs) = X at *
  generalize dig 18446744073709551616 (nv 256 ys) = Y at *
  rw [gd_pos (by omega), gd_pos (by omega)]
  have key := run_inv (f := F_nums_Mul_l1 X Y) (fun s : Nat × List Nat => s.1 ≤ X.length ∧ s.2.length = X.length + Y.length ∧ LB 18446744073709551616 s.2 ∧ (∀ j, s.1 + Y.length ≤ j → s.2.getD j 0 = 0) ∧ MO 18446744073709551616 X Y s.2 s.1)
    (fun s => X.length - s.1) (fun r => r.length = X.length + Y.length ∧ LB 18446744073709551616 r ∧ nv 18446744073709551616 r = nv 18446744073709551616 X * nv 18446744073709551616 Y) ?_ (0, List.replicate (X.length + Y.length) 0) ⟨Nat.zero_le _, by simp, LB.rep (by decide) _, fun j _ => rep_getD _ _, MO.start _⟩
  · obtain ⟨r, hr, h1, h2, h3⟩ := key
    rw [hr, bnd_mk, P_nbytes h2 (by omega), bnd_mk, h3, v1, v2]
  · rintro ⟨i, z⟩ ⟨h1, h2, h3, h4, h5⟩
    dsimp only at h1 h2 h3 h4 h5
    unfold F_nums_Mul_l1
    dsimp only
    by_cases q : i < X.length
    · left
      obtain ⟨c, w, g1, g2, g3, g4, g5, g6⟩ := P_nmul_in hX hY rfl (by omega) q h2 h3 h4 h5
      rw [if_pos q, gd_pos q, g1, bnd_mk]
      dsimp only
      by_cases q0 : 0 < Y.length
      · rw [if_pos q0, gd_pos (by omega), gd_pos (by omega), bnd_mk, gd_pos (by omega)]
        refine ⟨_, rfl, ⟨by dsimp only; omega, by simpa using g2, g3.set g4 _, fun j hj => ?_, MI.stop rfl (by omega) (g5 _ (by omega)) g6⟩, by dsimp only; omega⟩
        dsimp only at hj ⊢
        rw [set_get (by omega)]; exact g5 j (by omega)
      · rw [if_neg q0, bnd_mk, gd_pos (by omega)]
        have hY0 : Y.length = 0 := by omega
        refine ⟨_, rfl, ⟨by dsimp only; omega, g2, g3, fun j hj => g5 j (by dsimp only at hj; omega), ?_⟩, by dsimp only; omega⟩
        exact mul_none hY0 g6
    · right
      rw [if_neg q]
      exact ⟨_, rfl, h2, h3, MO.stop (by omega) h5⟩
end Go.Proofs.Ytnagkhofkjjajaa

set_option linter.unusedVariables false
set_option linter.unusedSimpArgs false
set_option maxRecDepth 10000
set_option maxHeartbeats 2000000
namespace Go.Proofs.Ytnagkhofkjjajaa
def unpC (lo o : Nat) : Option PP :=
  if h : lo < pp then
    match rt (xx ⟨lo, h⟩) with
    | some r => if o = 1 then (if r = 0 then none else some (- r, ⟨lo, h⟩)) else some (r, ⟨lo, h⟩)
    | none => none
  else none
theorem unp_eq (n : Nat) : unp n = unpC (n % 2 ^ 255) (n / 2 ^ 255) := rfl
theorem unpC_two (lo : Nat) : (∀ o, unpC lo o = none) ∨ (∃ y, unpC lo 1 = none ∧ unpC lo 0 = some (0, y)) ∨ ∃ r y, r ≠ 0 ∧ unpC lo 1 = some (- r, y) ∧ unpC lo 0 = some (r, y) := by
  by_cases h : lo < pp
  · have h2 : ∀ o, unpC lo o = match rt (xx ⟨lo, h⟩) with
      | some r => if o = 1 then (if r = 0 then none else some ((- r, ⟨lo, h⟩) : PP)) else some ((r, ⟨lo, h⟩) : PP)
      | none => none := fun o => by unfold unpC; exact dif_pos h
    cases hr : rt (xx ⟨lo, h⟩) with
    | none => exact .inl fun o => by rw [h2, hr]
    | some r =>
      rw [h2, h2, hr]
      right
      by_cases q : r = 0
      · subst q
        exact .inl ⟨_, if_pos rfl, rfl⟩
      · exact .inr ⟨r, _, q, if_neg q, rfl⟩
  · exact .inl fun _ => by unfold unpC; exact dif_neg h
theorem unp_two {n n' : Nat} (hn : n < 115792089237316195423570985008687907853269984665640564039457584007913129639936) (e1 : n' % 2 ^ 255 = n % 2 ^ 255) (e2 : n / 2 ^ 255 + n' / 2 ^ 255 = 1) :
    (unp n = none ∧ unp n' = none) ∨ (∃ y, (unp n = some (0, y) ∧ unp n' = none) ∨ (unp n = none ∧ unp n' = some (0, y))) ∨ ∃ P, onP P ∧ unp n = some P ∧ unp n' = some (pneg P) := by
  have hc : (n / 2 ^ 255 = 0 ∧ n' / 2 ^ 255 = 1) ∨ (n / 2 ^ 255 = 1 ∧ n' / 2 ^ 255 = 0) := by omega
  have h := unpC_two (n % 2 ^ 255)
  have hon : ∀ P, unp n = some P → onP P := fun P hP => (pack_unp hn hP).1
  rw [unp_eq n', e1]
  rw [unp_eq n] at hon ⊢
  rcases h with h | ⟨y, h1, h0⟩ | ⟨r, y, hr, h1, h0⟩
  · exact .inl ⟨h _, h _⟩
  · right; left
    rcases hc with ⟨a, b⟩ | ⟨a, b⟩ <;> rw [a, b, h0, h1]
    · exact ⟨y, .inl ⟨rfl, rfl⟩⟩
    · exact ⟨y, .inr ⟨rfl, rfl⟩⟩
  · right; right
    rcases hc with ⟨a, b⟩ | ⟨a, b⟩ <;> rw [a] at hon <;> rw [a, b, h0, h1]
    · exact ⟨(r, y), hon _ h0, rfl, rfl⟩
    · refine ⟨(- r, y), hon _ h1, rfl, ?_⟩
      unfold pneg
      dsimp only
      rw [show - - r = r by grind -lia -order -linarith -mbtc (splits := 0) (ematch := 0)]
theorem flip31 {n : Nat} (hn : n < 115792089237316195423570985008687907853269984665640564039457584007913129639936) : ∃ n', n' < 115792089237316195423570985008687907853269984665640564039457584007913129639936 ∧ (b32 n).set 31 (((b32 n).getD 31 0 + 128) % 256) = b32 n' ∧ n' % 2 ^ 255 = n % 2 ^ 255 ∧ n / 2 ^ 255 + n' / 2 ^ 255 = 1 := by
  refine ⟨n % 452312848583266388373324160190187140051835877600158453279131187530910662656 + 452312848583266388373324160190187140051835877600158453279131187530910662656 * ((n / 452312848583266388373324160190187140051835877600158453279131187530910662656 + 128) % 256), ?_, ?_⟩
  · omega
  · rw [b32_31, byte31 hn, b32_set31 hn (Nat.mod_lt _ (by decide))]
    refine ⟨rfl, ?_, ?_⟩
    · simp only [Nat.reducePow]; omega
    · simp only [Nat.reducePow]; omega
theorem dig_len_le {n k : Nat} (h : n < 256 ^ k) : (dig 256 n).length ≤ k := by
  obtain ⟨e, h1, _, _⟩ := dig_spec (b := 256) (by decide) n
  exact nm_length (b := 256) (by decide) h1 (by rw [e]; exact h)
end Go.Proofs.Ytnagkhofkjjajaa
