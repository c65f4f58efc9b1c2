/- One block of the digest, in plain numbers: definitions and lemmas. -/
import Derived.Test.YtddphjmcoolinaaSa
import Derived.Test.YtddphjmcoolinaaNa
set_option linter.unusedVariables false
namespace Go.Proofs.Ytddphjmcoolinaa
/-- word i of the block, after k bytes of it -/
def be8 (d : List Nat) (i : Nat) : Nat → Nat
  | 0 => 0
  | k + 1 => (be8 d i k * 2 ^ 8 % 18446744073709551616) ||| d.getD (8 * i + k) 0
def wn (d l : List Nat) (i : Nat) : Nat := if i < 16 then be8 d i 8 else
  ((((l.getD (i - 16) 0 + ((ror (l.getD (i - 15) 0) 1 ^^^ ror (l.getD (i - 15) 0) 8) ^^^ (l.getD (i - 15) 0 / 2 ^ 7))) % 18446744073709551616 + l.getD (i - 7) 0) % 18446744073709551616) +
    ((ror (l.getD (i - 2) 0) 19 ^^^ ror (l.getD (i - 2) 0) 61) ^^^ (l.getD (i - 2) 0 / 2 ^ 6))) % 18446744073709551616
def ws (d : List Nat) : Nat → List Nat
  | 0 => []
  | i + 1 => ws d i ++ [wn d (ws d i) i]
theorem ws_length (d : List Nat) : ∀ i, (ws d i).length = i := by
  intro i
  induction i with
  | zero => rfl
  | succ i ih => simp [ws, ih]
theorem be8_lt {d : List Nat} (hd : By d) (i : Nat) : ∀ k, be8 d i k < 18446744073709551616 := by
  intro k
  cases k with
  | zero => show 0 < 18446744073709551616; decide
  | succ k =>
    refine Nat.or_lt_two_pow (n := 64) (Nat.mod_lt _ (by decide)) ?_
    have := getD_lt (by decide) hd (8 * i + k)
    omega
theorem wn_lt {d l : List Nat} (hd : By d) (i : Nat) : wn d l i < 18446744073709551616 := by
  unfold wn
  split
  · exact be8_lt hd i 8
  · exact Nat.mod_lt _ (by decide)
theorem ws_lt {d : List Nat} (hd : By d) : ∀ i x, x ∈ ws d i → x < 18446744073709551616 := by
  intro i
  induction i with
  | zero => intro x h; cases h
  | succ i ih =>
    intro x h
    rcases List.mem_append.1 h with q | q
    · exact ih x q
    · simp at q; subst q; exact wn_lt hd i
/-- the array of words, the first i of them made -/
def wf (d : List Nat) (i v : Nat) : List Nat := ws d i ++ v :: List.replicate (79 - i) 0
theorem wf_length {d : List Nat} {i v : Nat} (h : i < 80) : (wf d i v).length = 80 := by simp [wf, ws_length]; omega
theorem wf_set {d : List Nat} {i v u : Nat} : (wf d i v).set i u = wf d i u := by
  unfold wf
  rw [List.set_append_right _ _ (by rw [ws_length]; exact Nat.le_refl _), ws_length, Nat.sub_self]
  rfl
theorem wf_self {d : List Nat} {i v : Nat} : (wf d i v).getD i 0 = v := by
  unfold wf
  rw [List.getD_eq_getElem?_getD, List.getElem?_append_right (by rw [ws_length]; exact Nat.le_refl _), ws_length, Nat.sub_self]
  rfl
theorem wf_old {d : List Nat} {i v j : Nat} (h : j < i) : (wf d i v).getD j 0 = (ws d i).getD j 0 := by
  unfold wf
  rw [List.getD_eq_getElem?_getD, List.getElem?_append_left (by rw [ws_length]; exact h), ← List.getD_eq_getElem?_getD]
theorem wf_next {d : List Nat} {i : Nat} (h : i < 79) : wf d i (wn d (ws d i) i) = wf d (i + 1) 0 := by
  unfold wf
  rw [show 79 - i = (79 - (i + 1)) + 1 by omega, List.replicate_succ]
  simp [ws, List.append_assoc]
theorem wf_last {d : List Nat} : wf d 79 (wn d (ws d 79) 79) = ws d 80 := by simp [wf, ws]
def wg (d : List Nat) (i : Nat) : List Nat := ws d i ++ List.replicate (80 - i) 0
theorem wg_wf {d : List Nat} {i : Nat} (h : i < 80) : wg d i = wf d i 0 := by
  unfold wg wf
  rw [show 80 - i = (79 - i) + 1 by omega, List.replicate_succ]
theorem wf_wg {d : List Nat} {i : Nat} (h : i < 80) : wf d i (wn d (ws d i) i) = wg d (i + 1) := by
  unfold wg wf
  rw [show 80 - (i + 1) = 79 - i by omega]
  simp [ws, List.append_assoc]
theorem be8_step {d : List Nat} {i k : Nat} : (wf d i (be8 d i k)).set i ((((wf d i (be8 d i k)).getD i 0) * 2 ^ 8 % 18446744073709551616) ||| ((d.drop (8 * i)).getD k 0)) = wf d i (be8 d i (k + 1)) := by
  rw [wf_set, wf_self, getD_drop]
  rfl
theorem wn_big {d : List Nat} {i : Nat} (h : 16 ≤ i) (h8 : i < 80) : (wf d i 0).set i
    (((((wf d i 0).getD (i - 16) 0 + ((ror ((wf d i 0).getD (i - 15) 0) 1 ^^^ ror ((wf d i 0).getD (i - 15) 0) 8) ^^^ ((wf d i 0).getD (i - 15) 0 / 2 ^ 7))) % 18446744073709551616 + (wf d i 0).getD (i - 7) 0) % 18446744073709551616 +
      ((ror ((wf d i 0).getD (i - 2) 0) 19 ^^^ ror ((wf d i 0).getD (i - 2) 0) 61) ^^^ ((wf d i 0).getD (i - 2) 0 / 2 ^ 6))) % 18446744073709551616) = wf d i (wn d (ws d i) i) := by
  rw [wf_set, wf_old (by omega), wf_old (by omega), wf_old (by omega), wf_old (by omega)]
  unfold wn
  rw [if_neg (by omega)]
theorem addst_step {s r zs : List Nat} {m : Nat} (hm : m < zs.length) (hz : ∀ q, q < m → zs.getD q 0 = (s.getD q 0 + r.getD q 0) % 18446744073709551616) (hz2 : ∀ q, m ≤ q → zs.getD q 0 = s.getD q 0) :
    ∀ q, q < m + 1 → (zs.set m ((zs.getD m 0 + r.getD m 0) % 18446744073709551616)).getD q 0 = (s.getD q 0 + r.getD q 0) % 18446744073709551616 := fun q hq => by
  rw [getD_set _ _ _ _ hm]
  by_cases e : m = q
  · rw [if_pos e, ← e, hz2 m (Nat.le_refl m)]
  · rw [if_neg e]; exact hz q (by omega)
/-- the first sum of a round -/
def rt1 (s : List Nat) (k w : Nat) : Nat := ((((s.getD 7 0 + ((ror (s.getD 4 0) 14 ^^^ ror (s.getD 4 0) 18) ^^^ ror (s.getD 4 0) 41)) % 18446744073709551616 +
  ((s.getD 4 0 &&& s.getD 5 0) ^^^ ((18446744073709551616 - 1 - s.getD 4 0) &&& s.getD 6 0))) % 18446744073709551616 + k) % 18446744073709551616 + w) % 18446744073709551616
def rt2 (s : List Nat) : Nat := (((ror (s.getD 0 0) 28 ^^^ ror (s.getD 0 0) 34) ^^^ ror (s.getD 0 0) 39) + (((s.getD 0 0 &&& s.getD 1 0) ^^^ (s.getD 0 0 &&& s.getD 2 0)) ^^^ (s.getD 1 0 &&& s.getD 2 0))) % 18446744073709551616
def rnd (s : List Nat) (k w : Nat) : List Nat := [(rt1 s k w + rt2 s) % 18446744073709551616, s.getD 0 0, s.getD 1 0, s.getD 2 0, (s.getD 3 0 + rt1 s k w) % 18446744073709551616, s.getD 4 0, s.getD 5 0, s.getD 6 0]
def rs (K l s : List Nat) : Nat → List Nat
  | 0 => s
  | i + 1 => rnd (rs K l s i) (K.getD i 0) (l.getD i 0)
/-- what a block makes of a state -/
def blockN (K s d : List Nat) : List Nat := (List.range 8).map fun i => (s.getD i 0 + (rs K (ws d 80) s 80).getD i 0) % 18446744073709551616
end Go.Proofs.Ytddphjmcoolinaa
