/- The field of 2^255 - 19 and the group of the curve over it. Plain, no statement of the claim. -/
import Derived.Test.YtmlmbolcblafmaaQh
set_option linter.unusedVariables false
set_option maxRecDepth 10000
set_option maxHeartbeats 2000000
namespace Go.Proofs.Ytmlmbolcblafmaa
instance : NeZero pp := ⟨by decide +kernel⟩
abbrev FF := Fin pp
theorem ff0 : ((0 : FF) : Fin pp).val = 0 := by decide +kernel
theorem ff1 : ((1 : FF) : Fin pp).val = 1 := by decide +kernel
def iv (a : FF) : FF := ⟨invN a.val, inv_lt _⟩
theorem ff_ne {a : FF} (h : a ≠ 0) : a.val ≠ 0 := fun e => h (Fin.ext (by rw [e, ff0]))
theorem ff_inv {a : FF} (h : a ≠ 0) : a * iv a = 1 := by
  apply Fin.ext
  rw [Fin.val_mul, ff1]
  exact inv_mul a.isLt (ff_ne h)
theorem ff_mul0 {a b : FF} (h : a * b = 0) : a = 0 ∨ b = 0 := by
  have e : a.val * b.val % pp = 0 := by rw [← Fin.val_mul, h, ff0]
  rcases (mul_zero_p a.isLt b.isLt).1 e with q | q
  · exact .inl (Fin.ext (by rw [q, ff0]))
  · exact .inr (Fin.ext (by rw [q, ff0]))
theorem ff_mul_ne {a b : FF} (ha : a ≠ 0) (hb : b ≠ 0) : a * b ≠ 0 := fun e => (ff_mul0 e).elim ha hb
theorem ff_cancel {a b c : FF} (hc : c ≠ 0) (h : a * c = b * c) : a = b := by
  have e := ff_inv hc
  have h1 : a * c * iv c = b * c * iv c := by rw [h]
  grind
theorem ff_inv_u {a b : FF} (h : a * b = 1) : iv a = b := by
  have ha : a ≠ 0 := fun e => by subst e; exact absurd h (by rw [Fin.zero_mul]; decide +kernel)
  have e := ff_inv ha
  grind
/-- the curve's number -/
def cD : Nat := 37095705934669439343138083508754565189542113879843219016388785533085940283555
def cd : FF := ⟨cD, by decide +kernel⟩
theorem cd_eq : (121666 : FF) * cd = - 121665 := by decide +kernel
theorem nsq {u : FF} : u * u ≠ cd := fun e => by
  have h1 := root_sq u.isLt
  have h2 : u.val * u.val % pp = cD := congrArg Fin.val e
  rw [h2] at h1
  revert h1; decide +kernel
/-- the root of -1 -/
def ci : FF := ⟨pwF pp 253 2 E2, by decide +kernel⟩
theorem ci_sq : ci * ci = -1 := by decide +kernel
theorem two_ne : (2 : FF) ≠ 0 := by decide +kernel
theorem sqd {A B : FF} (h : A * A = cd * (B * B)) : B = 0 := by
  by_cases hB : B = 0
  · exact hB
  · exfalso
    have e := ff_inv hB
    exact nsq (u := A * iv B) (by grind)
def onC (x y : FF) : Prop := y * y - x * x = 1 + cd * (x * x) * (y * y)
theorem D_ne {x1 y1 x2 y2 : FF} (h1 : onC x1 y1) (h2 : onC x2 y2) : cd * (x1 * x2 * (y1 * y2)) * (cd * (x1 * x2 * (y1 * y2))) ≠ 1 := by
  intro hD
  unfold onC at h1 h2
  have hi := ci_sq
  generalize ci = i at hi
  have key : ∀ e : FF, e * e = 1 → (i * x1 + e * (cd * (x1 * x2 * (y1 * y2))) * y1) * (i * x1 + e * (cd * (x1 * x2 * (y1 * y2))) * y1) = cd * ((x1 * y1 * (i * x2 + e * y2)) * (x1 * y1 * (i * x2 + e * y2))) := by
    intro e he
    grind
  have k1 := sqd (key 1 (by decide +kernel))
  have k2 := sqd (key (-1) (by decide +kernel))
  have k3 : x1 * y1 * y2 = 0 := by
    have : (2 : FF) * (x1 * y1 * y2) = 0 := by grind
    rcases ff_mul0 this with q | q
    · exact absurd q two_ne
    · exact q
  have k4 : cd * (x1 * x2 * (y1 * y2)) = 0 := by
    have : cd * (x1 * x2 * (y1 * y2)) = cd * x2 * (x1 * y1 * y2) := by grind
    rw [this, k3, Fin.mul_zero]
  rw [k4, Fin.mul_zero] at hD
  exact absurd hD (by decide +kernel)
theorem u_ne {x1 y1 x2 y2 : FF} (h1 : onC x1 y1) (h2 : onC x2 y2) : 1 + cd * (x1 * x2 * (y1 * y2)) ≠ 0 := by
  intro h
  apply D_ne h1 h2
  generalize cd * (x1 * x2 * (y1 * y2)) = D at h ⊢
  grind
theorem v_ne {x1 y1 x2 y2 : FF} (h1 : onC x1 y1) (h2 : onC x2 y2) : 1 - cd * (x1 * x2 * (y1 * y2)) ≠ 0 := by
  intro h
  apply D_ne h1 h2
  generalize cd * (x1 * x2 * (y1 * y2)) = D at h ⊢
  grind
end Go.Proofs.Ytmlmbolcblafmaa
