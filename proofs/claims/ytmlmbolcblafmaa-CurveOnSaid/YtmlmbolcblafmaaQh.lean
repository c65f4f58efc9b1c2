/- The numbers of layer 16: inverses, squares, roots. Plain, no program. -/
import Derived.Test.YtmlmbolcblafmaaQg
set_option linter.unusedVariables false
set_option linter.unusedSimpArgs false
set_option maxRecDepth 10000
namespace Go.Proofs.Ytmlmbolcblafmaa
theorem pp_odd : pp % 2 = 1 := by decide +kernel
theorem pp_two : 2 < pp := by decide +kernel
/-- half of p - 1 -/
def EH : Nat := 2 * E2
theorem eh : pp - 1 = EH * 2 := by decide +kernel
theorem e12 : 2 * E1 = E2 + 1 := by decide +kernel
theorem half : 2 ^ EH % pp = pp - 1 := by
  rw [← pwF_eq pp 255 2 EH (by decide +kernel)]; decide +kernel
theorem m1_sq : (pp - 1) * (pp - 1) % pp = 1 := by decide +kernel
theorem one_p : 1 % pp = 1 := by decide +kernel
theorem m1_pow (j : Nat) : (pp - 1) ^ j % pp = if j % 2 = 0 then 1 else pp - 1 := by
  induction j with
  | zero => rw [Nat.pow_zero, if_pos rfl, one_p]
  | succ j ih =>
    rw [Nat.pow_succ, ← Nat.mod_mul_mod, ih]
    by_cases q : j % 2 = 0
    · rw [if_pos q, if_neg (by omega), Nat.one_mul, Nat.mod_eq_of_lt (by have := pp_pos; omega)]
    · rw [if_neg q, if_pos (by omega), m1_sq]
theorem two_half (k : Nat) : 2 ^ (k * EH) % pp = if k % 2 = 0 then 1 else pp - 1 := by
  rw [Nat.mul_comm, Nat.pow_mul, Nat.pow_mod, half, m1_pow]
theorem md_self {x : Nat} (h : x < pp) : x % pp = x := Nat.mod_eq_of_lt h
theorem ex_two {x : Nat} (hx : x < pp) (h0 : x ≠ 0) : ∃ k, x = 2 ^ k % pp := by
  obtain ⟨k, _, e⟩ := pp_ord.all (a := x) (by rw [md_self hx]; exact h0)
  rw [md_self hx] at e
  exact ⟨k, e⟩
theorem fermat {x : Nat} (hx : x < pp) (h0 : x ≠ 0) : x ^ (pp - 1) % pp = 1 := pp_ord.fermat (by rw [md_self hx]; exact h0)
theorem mul_zero_p {a b : Nat} (ha : a < pp) (hb : b < pp) : a * b % pp = 0 ↔ (a = 0 ∨ b = 0) := by
  constructor
  · intro h
    rcases pp_prime.mul (Nat.dvd_of_mod_eq_zero h) with q | q
    · left
      apply Classical.byContradiction
      intro h0
      have := Nat.le_of_dvd (by omega) q
      omega
    · right
      apply Classical.byContradiction
      intro h0
      have := Nat.le_of_dvd (by omega) q
      omega
  · rintro (rfl | rfl)
    · rw [Nat.zero_mul, Nat.zero_mod]
    · rw [Nat.mul_zero, Nat.zero_mod]
theorem sq_neg {r : Nat} (h : r ≤ pp) : (pp - r) * (pp - r) % pp = r * r % pp := by
  obtain ⟨d, hd⟩ : ∃ d, pp = r + d := ⟨pp - r, by omega⟩
  have e : pp - r = d := by omega
  rw [e]
  have h1 : d * d + pp * r = r * r + pp * d := by rw [hd, Nat.add_mul, Nat.add_mul, Nat.mul_comm d r]; omega
  rw [← Nat.add_mul_mod_self_left (d * d) pp r, h1, Nat.add_mul_mod_self_left]
theorem sq_eq' {r a : Nat} (hr : r < pp) (ha : a < pp) (hle : a ≤ r) (h : r * r % pp = a * a % pp) : r = a ∨ r + a = pp := by
  obtain ⟨d, hd⟩ : ∃ d, r = a + d := ⟨r - a, by omega⟩
  have e : r * r = a * a + d * (r + a) := by
    subst hd
    simp only [Nat.add_mul, Nat.mul_add, Nat.mul_comm a d]; omega
  have hm : d * (r + a) % pp = 0 := by
    rw [e] at h
    have := Nat.sub_mod_eq_zero_of_mod_eq h
    rwa [Nat.add_sub_cancel_left] at this
  rcases pp_prime.mul (Nat.dvd_of_mod_eq_zero hm) with q | q
  · left
    rcases Nat.eq_zero_or_pos d with z | z
    · omega
    · have := Nat.le_of_dvd z q; omega
  · rcases Nat.eq_zero_or_pos (r + a) with z | z
    · left; omega
    · right
      obtain ⟨t, ht⟩ := q
      have : t = 1 := by
        rcases Nat.lt_or_ge t 2 with w | w
        · have : t = 0 ∨ t = 1 := by omega
          rcases this with rfl | rfl
          · rw [Nat.mul_zero] at ht; omega
          · rfl
        · have := Nat.mul_le_mul_left pp w; omega
      subst this
      omega
theorem sq_eq {r a : Nat} (hr : r < pp) (ha : a < pp) (h : r * r % pp = a * a % pp) : r = a ∨ r + a = pp := by
  rcases Nat.le_total a r with q | q
  · exact sq_eq' hr ha q h
  · rcases sq_eq' ha hr q h.symm with e | e
    · exact .inl e.symm
    · exact .inr (by omega)
/-- what is told of a root -/
theorem root_ok {x : Nat} (hx : x < pp) (h : (rootN x).2 = true) : (rootN x).1 < pp ∧ (rootN x).1 % 2 = 0 ∧ (rootN x).1 * (rootN x).1 % pp = x := by
  unfold rootN at h ⊢
  dsimp only at h ⊢
  have hlt : (if pwF pp 252 x E1 * pwF pp 252 x E1 % pp = x then pwF pp 252 x E1 else pwF pp 252 x E1 * pwF pp 253 2 E2 % pp) < pp := by
    split
    · exact e1_p _
    · exact Nat.mod_lt _ pp_pos
  generalize (if pwF pp 252 x E1 * pwF pp 252 x E1 % pp = x then pwF pp 252 x E1 else pwF pp 252 x E1 * pwF pp 253 2 E2 % pp) = r at *
  by_cases q : r * r % pp = x
  · rw [if_pos q]
    dsimp only
    by_cases q2 : r % 2 = 1
    · rw [if_pos q2]
      have h1 := pp_odd
      rw [Nat.mod_eq_of_lt (show pp - r < pp by omega)]
      exact ⟨by omega, by omega, by rw [sq_neg (by omega), q]⟩
    · rw [if_neg q2]
      exact ⟨hlt, by omega, q⟩
  · rw [if_neg q] at h
    cases h
theorem root_no {x : Nat} (h : (rootN x).2 = false) : (rootN x).1 = 0 := by
  unfold rootN at h ⊢
  dsimp only at h ⊢
  generalize (if pwF pp 252 x E1 * pwF pp 252 x E1 % pp = x then pwF pp 252 x E1 else pwF pp 252 x E1 * pwF pp 253 2 E2 % pp) = r at *
  by_cases q : r * r % pp = x
  · rw [if_pos q] at h; cases h
  · rw [if_neg q]
/-- a square's exponent is even -/
theorem sq_even {r k : Nat} (h : r * r % pp = 2 ^ k % pp) : k % 2 = 0 := by
  have hr0 : r % pp ≠ 0 := fun e => by
    rw [Nat.mul_mod, e] at h
    have h3 : (2 ^ k % pp) ≠ 0 := fun e2 => by
      have hd : pp ∣ 2 ^ k := Nat.dvd_of_mod_eq_zero e2
      have : ∀ k, ¬ pp ∣ 2 ^ k := by
        intro k
        induction k with
        | zero => intro hd; have := Nat.le_of_dvd (by decide) hd; have := pp_two; omega
        | succ k ih =>
          intro hd
          rw [Nat.pow_succ] at hd
          rcases pp_prime.mul hd with q | q
          · exact ih q
          · have := Nat.le_of_dvd (by decide) q; have := pp_two; omega
      exact this k hd
    rw [← h] at h3
    exact h3 rfl
  have h1 : (r * r) ^ EH % pp = 1 := by
    rw [← Nat.pow_two, ← Nat.pow_mul, Nat.mul_comm, ← eh]
    exact pp_ord.fermat hr0
  have h2 : (r * r) ^ EH % pp = (if k % 2 = 0 then 1 else pp - 1) := by
    rw [Nat.pow_mod, h, ← Nat.pow_mod, ← Nat.pow_mul, two_half]
  rw [h1] at h2
  apply Classical.byContradiction
  intro q
  rw [if_neg q] at h2
  have := pp_two
  omega
theorem r0_sq (x : Nat) : pwF pp 252 x E1 * pwF pp 252 x E1 % pp = x ^ E2 * x % pp := by
  rw [pwF_eq _ _ _ _ (by decide +kernel), pw2, e12, Nat.pow_succ]
theorem i_sq : pwF pp 253 2 E2 * pwF pp 253 2 E2 % pp = pp - 1 := by decide +kernel
theorem root_pow {x k : Nat} (hx : x = 2 ^ k % pp) : (rootN x).2 = decide (k % 2 = 0) := by
  have hlt : x < pp := by rw [hx]; exact Nat.mod_lt _ pp_pos
  by_cases q : k % 2 = 0
  · rw [decide_eq_true q]
    obtain ⟨j, rfl⟩ : ∃ j, k = 2 * j := ⟨k / 2, by omega⟩
    have hE : x ^ E2 % pp = if j % 2 = 0 then 1 else pp - 1 := by
      rw [hx, ← Nat.pow_mod, ← Nat.pow_mul, show 2 * j * E2 = j * EH by unfold EH; rw [Nat.mul_assoc, Nat.mul_left_comm], two_half]
    have h1 : pwF pp 252 x E1 * pwF pp 252 x E1 % pp = (if j % 2 = 0 then 1 else pp - 1) * x % pp := by
      rw [r0_sq, ← Nat.mod_mul_mod, hE]
    unfold rootN
    dsimp only
    by_cases q2 : pwF pp 252 x E1 * pwF pp 252 x E1 % pp = x
    · rw [if_pos q2, if_pos q2]
    · rw [if_neg q2]
      have hj : ¬ j % 2 = 0 := fun e => q2 (by rw [h1, if_pos e, Nat.one_mul, md_self hlt])
      rw [if_neg hj] at h1
      have h2 : pwF pp 252 x E1 * pwF pp 253 2 E2 % pp * (pwF pp 252 x E1 * pwF pp 253 2 E2 % pp) % pp = x := by
        rw [← Nat.mul_mod, Nat.mul_mul_mul_comm, Nat.mul_mod, h1, i_sq, Nat.mod_mul_mod, Nat.mul_right_comm, ← Nat.mod_mul_mod, m1_sq, Nat.one_mul, md_self hlt]
      rw [if_pos h2]
  · rw [decide_eq_false q]
    cases hb : (rootN x).2 with
    | false => rfl
    | true =>
      have := (root_ok hlt hb).2.2
      rw [hx] at this
      rw [← hx] at this
      exact absurd (sq_even (by rw [this, hx])) q
theorem zpow : pwF pp 252 0 E1 = 0 := by decide +kernel
theorem root_zero : rootN 0 = (0, true) := by decide +kernel
theorem root_sq {a : Nat} (ha : a < pp) : (rootN (a * a % pp)).2 = true := by
  by_cases q : a = 0
  · subst q; rw [Nat.zero_mul, Nat.zero_mod, root_zero]
  · obtain ⟨k, hk⟩ := ex_two ha q
    rw [root_pow (k := 2 * k) (by rw [hk, pw2])]
    exact decide_eq_true (by omega)
theorem root_twice {a : Nat} (ha : a < pp) (h0 : a ≠ 0) : (rootN a).2 ≠ (rootN ((a + a) % pp)).2 := by
  obtain ⟨k, hk⟩ := ex_two ha h0
  rw [root_pow hk, root_pow (k := k + 1) (by rw [← Nat.mul_two, hk, Nat.mod_mul_mod, Nat.pow_succ])]
  by_cases q : k % 2 = 0
  · rw [decide_eq_true q, decide_eq_false (by omega)]; decide
  · rw [decide_eq_false q, decide_eq_true (by omega)]; decide
/-! ### inverses -/
def invN (a : Nat) : Nat := pwF pp 255 a EI
theorem inv_eq (a : Nat) : invN a = a ^ EI % pp := pwF_eq _ _ _ _ (by decide +kernel)
theorem inv_lt (a : Nat) : invN a < pp := by rw [inv_eq]; exact Nat.mod_lt _ pp_pos
theorem inv_mul {a : Nat} (ha : a < pp) (h0 : a ≠ 0) : a * invN a % pp = 1 := by
  rw [inv_eq, Nat.mul_mod_mod, Nat.mul_comm, ← Nat.pow_succ, show EI.succ = pp - 1 by decide +kernel]
  exact fermat ha h0
theorem inv_prod (a b : Nat) : invN a * invN b % pp = invN (a * b % pp) := by
  rw [inv_eq, inv_eq, inv_eq, ← Nat.mul_mod, ← Nat.mul_pow, ← Nat.pow_mod]
end Go.Proofs.Ytmlmbolcblafmaa
