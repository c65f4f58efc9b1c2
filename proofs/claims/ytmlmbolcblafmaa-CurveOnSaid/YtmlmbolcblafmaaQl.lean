/- The group of the curve's points, and places of four numbers. Plain, no statement of the claim. -/
import Derived.Test.YtmlmbolcblafmaaQj
set_option linter.unusedVariables false
set_option maxRecDepth 10000
set_option maxHeartbeats 2000000
namespace Go.Proofs.Ytmlmbolcblafmaa
abbrev PP := FF × FF
def onP (P : PP) : Prop := onC P.1 P.2
def pD (P Q : PP) : FF := cd * (P.1 * Q.1 * (P.2 * Q.2))
def padd (P Q : PP) : PP := ((P.1 * Q.2 + P.2 * Q.1) * iv (1 + pD P Q), (P.2 * Q.2 + P.1 * Q.1) * iv (1 - pD P Q))
def p0 : PP := (0, 1)
def pneg (P : PP) : PP := (- P.1, P.2)
/-- by products -/
def isSum (P Q R : PP) : Prop := R.1 * (1 + pD P Q) = P.1 * Q.2 + P.2 * Q.1 ∧ R.2 * (1 - pD P Q) = P.2 * Q.2 + P.1 * Q.1
theorem padd_u {P Q : PP} (h1 : onP P) (h2 : onP Q) : 1 + pD P Q ≠ 0 := u_ne h1 h2
theorem padd_v {P Q : PP} (h1 : onP P) (h2 : onP Q) : 1 - pD P Q ≠ 0 := v_ne h1 h2
theorem padd_is {P Q : PP} (h1 : onP P) (h2 : onP Q) : isSum P Q (padd P Q) := by
  have a := ff_inv (padd_u h1 h2)
  have b := ff_inv (padd_v h1 h2)
  unfold padd isSum
  dsimp only
  generalize iv (1 + pD P Q) = i at *
  generalize iv (1 - pD P Q) = k at *
  generalize pD P Q = D at *
  constructor <;> grind -lia -order -linarith -mbtc (splits := 0) (ematch := 0)
theorem isSum_eq {P Q R : PP} (h1 : onP P) (h2 : onP Q) (h : isSum P Q R) : R = padd P Q := by
  obtain ⟨a, b⟩ := padd_is h1 h2
  obtain ⟨c, d⟩ := h
  exact Prod.ext (ff_cancel (padd_u h1 h2) (c.trans a.symm)) (ff_cancel (padd_v h1 h2) (d.trans b.symm))
theorem padd_on {P Q : PP} (h1 : onP P) (h2 : onP Q) : onP (padd P Q) := by
  obtain ⟨a, b⟩ := padd_is h1 h2
  have hu := padd_u h1 h2
  have hv := padd_v h1 h2
  generalize padd P Q = R at *
  obtain ⟨x1, y1⟩ := P
  obtain ⟨x2, y2⟩ := Q
  obtain ⟨X, Y⟩ := R
  unfold onP onC pD at *
  dsimp only at *
  have id := closure_id x1 y1 x2 y2 cd
  have e1 : y1 * y1 - x1 * x1 - 1 - cd * (x1 * x1) * (y1 * y1) = 0 := by rw [h1]; grind -lia -order -linarith -mbtc (splits := 0) (ematch := 0)
  have e2 : y2 * y2 - x2 * x2 - 1 - cd * (x2 * x2) * (y2 * y2) = 0 := by rw [h2]; grind -lia -order -linarith -mbtc (splits := 0) (ematch := 0)
  rw [e1, e2, Fin.mul_zero, Fin.mul_zero, Fin.add_zero, ← a, ← b] at id
  clear h1 h2 e1 e2
  generalize 1 + cd * (x1 * x2 * (y1 * y2)) = u at *
  generalize 1 - cd * (x1 * x2 * (y1 * y2)) = v at *
  clear a b
  have hw : u * u * (v * v) ≠ 0 := ff_mul_ne (ff_mul_ne hu hu) (ff_mul_ne hv hv)
  apply ff_cancel hw
  grind -lia -order -linarith -mbtc (splits := 0) (ematch := 0)
theorem padd_comm (P Q : PP) : padd P Q = padd Q P := by
  have e : pD P Q = pD Q P := by unfold pD; grind -lia -order -linarith -mbtc (splits := 0) (ematch := 0)
  unfold padd
  rw [e]
  apply Prod.ext <;> dsimp only <;> grind -lia -order -linarith -mbtc (splits := 0) (ematch := 0)
theorem p0_on : onP p0 := by unfold onP onC p0; decide +kernel
theorem padd_0 (P : PP) (h : onP P) : padd P p0 = P := by
  refine (isSum_eq h p0_on ?_).symm
  unfold isSum pD p0
  dsimp only
  constructor <;> grind -lia -order -linarith -mbtc (splits := 0) (ematch := 0)
theorem pneg_on {P : PP} (h : onP P) : onP (pneg P) := by
  unfold onP onC pneg at *
  dsimp only
  grind -lia -order -linarith -mbtc (splits := 0) (ematch := 0)
theorem padd_neg {P : PP} (h : onP P) : padd P (pneg P) = p0 := by
  refine (isSum_eq h (pneg_on h) ?_).symm
  unfold onP onC at h
  unfold isSum pD p0 pneg
  dsimp only
  constructor <;> grind -lia -order -linarith -mbtc (splits := 0) (ematch := 0)
theorem sub0 {a b : FF} (h : a - b = 0) : a = b := by grind -lia -order -linarith -mbtc (splits := 0) (ematch := 0)
theorem asx (s1 s2 t1 t2 x1 y1 x3 y3 u v u' v' d : FF) : (s1 * y3 + s2 * x3) * (u * v * (u' * v') * (1 + d * (x1 * t1 * (y1 * t2)))) - (x1 * t2 + y1 * t1) * (u * v * (u' * v') * (1 + d * (s1 * x3 * (s2 * y3)))) =
    (s1 * u * v * y3 + s2 * v * u * x3) * (u' * v' + d * (x1 * y1 * (t1 * u' * (t2 * v')))) - (x1 * (t2 * v' * u') + y1 * (t1 * u' * v')) * (u * v + d * (s1 * u * (s2 * v) * (x3 * y3))) := by grind -lia -order -linarith -mbtc (splits := 0) (ematch := 0)
theorem asy (s1 s2 t1 t2 x1 y1 x3 y3 u v u' v' d : FF) : (s2 * y3 + s1 * x3) * (u * v * (u' * v') * (1 - d * (x1 * t1 * (y1 * t2)))) - (y1 * t2 + x1 * t1) * (u * v * (u' * v') * (1 - d * (s1 * x3 * (s2 * y3)))) =
    (s2 * v * u * y3 + s1 * u * v * x3) * (u' * v' - d * (x1 * y1 * (t1 * u' * (t2 * v')))) - (y1 * (t2 * v' * u') + x1 * (t1 * u' * v')) * (u * v - d * (s1 * u * (s2 * v) * (x3 * y3))) := by grind -lia -order -linarith -mbtc (splits := 0) (ematch := 0)
theorem padd_assoc {P Q R : PP} (h1 : onP P) (h2 : onP Q) (h3 : onP R) : padd (padd P Q) R = padd P (padd Q R) := by
  obtain ⟨a1, a2⟩ := padd_is h1 h2
  obtain ⟨b1, b2⟩ := padd_is h2 h3
  obtain ⟨c1, c2⟩ := padd_is (padd_on h1 h2) h3
  obtain ⟨d1, d2⟩ := padd_is h1 (padd_on h2 h3)
  have hu := padd_u h1 h2
  have hv := padd_v h1 h2
  have hu' := padd_u h2 h3
  have hv' := padd_v h2 h3
  have hw1 := padd_u (padd_on h1 h2) h3
  have hw2 := padd_v (padd_on h1 h2) h3
  have hw1' := padd_u h1 (padd_on h2 h3)
  have hw2' := padd_v h1 (padd_on h2 h3)
  generalize padd (padd P Q) R = A at *
  generalize padd P (padd Q R) = B at *
  generalize padd P Q = S at *
  generalize padd Q R = T at *
  obtain ⟨x1, y1⟩ := P
  obtain ⟨x2, y2⟩ := Q
  obtain ⟨x3, y3⟩ := R
  obtain ⟨s1, s2⟩ := S
  obtain ⟨t1, t2⟩ := T
  unfold onP onC pD at *
  dsimp only at *
  have e1 : y1 * y1 - x1 * x1 - 1 - cd * (x1 * x1) * (y1 * y1) = 0 := by rw [h1]; grind -lia -order -linarith -mbtc (splits := 0) (ematch := 0)
  have e2 : y2 * y2 - x2 * x2 - 1 - cd * (x2 * x2) * (y2 * y2) = 0 := by rw [h2]; grind -lia -order -linarith -mbtc (splits := 0) (ematch := 0)
  have e3 : y3 * y3 - x3 * x3 - 1 - cd * (x3 * x3) * (y3 * y3) = 0 := by rw [h3]; grind -lia -order -linarith -mbtc (splits := 0) (ematch := 0)
  have ix := assoc_x x1 y1 x2 y2 x3 y3 cd
  have iy := assoc_y x1 y1 x2 y2 x3 y3 cd
  rw [e1, e2, e3, Fin.mul_zero, Fin.mul_zero, Fin.mul_zero, Fin.add_zero, Fin.add_zero, ← a1, ← a2, ← b1, ← b2] at ix iy
  clear e1 e2 e3 h1 h2 h3 a1 a2 b1 b2
  generalize 1 + cd * (x1 * x2 * (y1 * y2)) = u at *
  generalize 1 - cd * (x1 * x2 * (y1 * y2)) = v at *
  generalize 1 + cd * (x2 * x3 * (y2 * y3)) = u' at *
  generalize 1 - cd * (x2 * x3 * (y2 * y3)) = v' at *
  apply Prod.ext
  · have hw : u * v * (u' * v') * ((1 + cd * (s1 * x3 * (s2 * y3))) * (1 + cd * (x1 * t1 * (y1 * t2)))) ≠ 0 := ff_mul_ne (ff_mul_ne (ff_mul_ne hu hv) (ff_mul_ne hu' hv')) (ff_mul_ne hw1 hw1')
    apply ff_cancel hw
    have p : A.1 * (u * v * (u' * v') * ((1 + cd * (s1 * x3 * (s2 * y3))) * (1 + cd * (x1 * t1 * (y1 * t2))))) = (s1 * y3 + s2 * x3) * (u * v * (u' * v') * (1 + cd * (x1 * t1 * (y1 * t2)))) := by rw [← c1]; grind -lia -order -linarith -mbtc (splits := 0) (ematch := 0)
    have p' : B.1 * (u * v * (u' * v') * ((1 + cd * (s1 * x3 * (s2 * y3))) * (1 + cd * (x1 * t1 * (y1 * t2))))) = (x1 * t2 + y1 * t1) * (u * v * (u' * v') * (1 + cd * (s1 * x3 * (s2 * y3)))) := by rw [← d1]; grind -lia -order -linarith -mbtc (splits := 0) (ematch := 0)
    rw [p, p']
    exact sub0 ((asx ..).trans ix)
  · have hw : u * v * (u' * v') * ((1 - cd * (s1 * x3 * (s2 * y3))) * (1 - cd * (x1 * t1 * (y1 * t2)))) ≠ 0 := ff_mul_ne (ff_mul_ne (ff_mul_ne hu hv) (ff_mul_ne hu' hv')) (ff_mul_ne hw2 hw2')
    apply ff_cancel hw
    have p : A.2 * (u * v * (u' * v') * ((1 - cd * (s1 * x3 * (s2 * y3))) * (1 - cd * (x1 * t1 * (y1 * t2))))) = (s2 * y3 + s1 * x3) * (u * v * (u' * v') * (1 - cd * (x1 * t1 * (y1 * t2)))) := by rw [← c2]; grind -lia -order -linarith -mbtc (splits := 0) (ematch := 0)
    have p' : B.2 * (u * v * (u' * v') * ((1 - cd * (s1 * x3 * (s2 * y3))) * (1 - cd * (x1 * t1 * (y1 * t2))))) = (y1 * t2 + x1 * t1) * (u * v * (u' * v') * (1 - cd * (s1 * x3 * (s2 * y3)))) := by rw [← d2]; grind -lia -order -linarith -mbtc (splits := 0) (ematch := 0)
    rw [p, p']
    exact sub0 ((asy ..).trans iy)
/-! ### Times -/
def smul : Nat → PP → PP
  | 0, _ => p0
  | n + 1, P => padd (smul n P) P
theorem smul_on (n : Nat) {P : PP} (h : onP P) : onP (smul n P) := by
  induction n with
  | zero => exact p0_on
  | succ n ih => exact padd_on ih h
theorem smul_1 {P : PP} (h : onP P) : smul 1 P = P := by
  show padd p0 P = P
  rw [padd_comm, padd_0 P h]
theorem smul_add (m n : Nat) {P : PP} (h : onP P) : smul (m + n) P = padd (smul m P) (smul n P) := by
  induction n with
  | zero => show smul m P = padd (smul m P) p0; rw [padd_0 _ (smul_on m h)]
  | succ n ih =>
    show padd (smul (m + n) P) P = padd (smul m P) (padd (smul n P) P)
    rw [ih, padd_assoc (smul_on m h) (smul_on n h) h]
theorem smul_p0 (n : Nat) : smul n p0 = p0 := by
  induction n with
  | zero => rfl
  | succ n ih => show padd (smul n p0) p0 = p0; rw [padd_0 _ (smul_on n p0_on), ih]
theorem smul_mul (m n : Nat) {P : PP} (h : onP P) : smul (m * n) P = smul n (smul m P) := by
  induction n with
  | zero => rfl
  | succ n ih => rw [Nat.mul_succ, smul_add _ _ h, ih]; rfl
theorem padd_swap {P Q R T : PP} (h1 : onP P) (h2 : onP Q) (h3 : onP R) (h4 : onP T) : padd (padd P Q) (padd R T) = padd (padd P R) (padd Q T) := by
  rw [padd_assoc h1 h2 (padd_on h3 h4), ← padd_assoc h2 h3 h4, padd_comm Q R, padd_assoc h3 h2 h4, ← padd_assoc h1 h3 (padd_on h2 h4)]
theorem smul_padd (n : Nat) {P Q : PP} (h1 : onP P) (h2 : onP Q) : smul n (padd P Q) = padd (smul n P) (smul n Q) := by
  induction n with
  | zero => exact (padd_0 p0 p0_on).symm
  | succ n ih =>
    show padd (smul n (padd P Q)) (padd P Q) = padd (padd (smul n P) P) (padd (smul n Q) Q)
    rw [ih, padd_swap (smul_on n h1) (smul_on n h2) h1 h2]
theorem padd_cancel {P Q R : PP} (h1 : onP P) (h2 : onP Q) (h3 : onP R) (h : padd P R = padd Q R) : P = Q := by
  rw [← padd_0 P h1, ← padd_0 Q h2, ← padd_neg h3, ← padd_assoc h1 h3 (pneg_on h3), ← padd_assoc h2 h3 (pneg_on h3), h]
/-! ### Places -/
abbrev PL := FF × FF × FF × FF
def rep (P : PP) (z : FF) : PL := (P.1 * z, P.2 * z, z, P.1 * P.2 * z)
def plus (p q : PL) : PL :=
  let a := (p.2.1 - p.1) * (q.2.1 - q.1)
  let b := (p.2.1 + p.1) * (q.2.1 + q.1)
  let c := p.2.2.2 * (cd + cd) * q.2.2.2
  let w := (p.2.2.1 + p.2.2.1) * q.2.2.1
  ((b - a) * (w - c), (w + c) * (b + a), (w - c) * (w + c), (b - a) * (b + a))
theorem rep_plus {P Q : PP} (h1 : onP P) (h2 : onP Q) {z w : FF} (hz : z ≠ 0) (hw : w ≠ 0) : ∃ k, k ≠ 0 ∧ plus (rep P z) (rep Q w) = rep (padd P Q) k := by
  obtain ⟨a, b⟩ := padd_is h1 h2
  have hu := padd_u h1 h2
  have hv := padd_v h1 h2
  refine ⟨4 * (z * w * (z * w)) * ((1 + pD P Q) * (1 - pD P Q)), ff_mul_ne (ff_mul_ne (by decide +kernel) (ff_mul_ne (ff_mul_ne hz hw) (ff_mul_ne hz hw))) (ff_mul_ne hu hv), ?_⟩
  generalize padd P Q = R at *
  obtain ⟨x1, y1⟩ := P
  obtain ⟨x2, y2⟩ := Q
  obtain ⟨X, Y⟩ := R
  unfold plus rep pD at *
  dsimp only at *
  have g : ∀ D : FF, D = cd * (x1 * x2 * (y1 * y2)) → x1 * y1 * z * (cd + cd) * (x2 * y2 * w) = 2 * (z * w) * D := by intro D e; rw [e]; grind -lia -order -linarith -mbtc (splits := 0) (ematch := 0)
  rw [g _ rfl]
  generalize cd * (x1 * x2 * (y1 * y2)) = D at *
  clear g
  have q1 : (y1 * z + x1 * z) * (y2 * w + x2 * w) - (y1 * z - x1 * z) * (y2 * w - x2 * w) = 2 * (z * w) * (X * (1 + D)) := by rw [a]; grind -lia -order -linarith -mbtc (splits := 0) (ematch := 0)
  have q2 : (y1 * z + x1 * z) * (y2 * w + x2 * w) + (y1 * z - x1 * z) * (y2 * w - x2 * w) = 2 * (z * w) * (Y * (1 - D)) := by rw [b]; grind -lia -order -linarith -mbtc (splits := 0) (ematch := 0)
  have q3 : (z + z) * w - 2 * (z * w) * D = 2 * (z * w) * (1 - D) := by grind -lia -order -linarith -mbtc (splits := 0) (ematch := 0)
  have q4 : (z + z) * w + 2 * (z * w) * D = 2 * (z * w) * (1 + D) := by grind -lia -order -linarith -mbtc (splits := 0) (ematch := 0)
  rw [q1, q2, q3, q4]
  refine Prod.ext ?_ (Prod.ext ?_ (Prod.ext ?_ ?_)) <;> dsimp only <;> grind -lia -order -linarith -mbtc (splits := 0) (ematch := 0)
theorem rep_plain (P : PP) {z : FF} (hz : z ≠ 0) : ((rep P z).1 * iv (rep P z).2.2.1, (rep P z).2.1 * iv (rep P z).2.2.1) = P := by
  have e := ff_inv hz
  unfold rep
  dsimp only
  apply Prod.ext <;> dsimp only <;> grind -lia -order -linarith -mbtc (splits := 0) (ematch := 0)
end Go.Proofs.Ytmlmbolcblafmaa
