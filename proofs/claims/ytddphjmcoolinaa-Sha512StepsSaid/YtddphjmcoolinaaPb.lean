/- Roots found bit by bit; a row held against a number. -/
import Derived.Test.YtddphjmcoolinaaPa
set_option linter.unusedVariables false
set_option linter.unusedSimpArgs false
set_option maxRecDepth 10000
namespace Go.Proofs.Ytddphjmcoolinaa
/-- the root, so many bits to go -/
def gr (T k : Nat) : Nat → Nat → Nat
  | 0, X => X
  | b + 1, X => gr T k b (if (X + 2 ^ b) ^ k ≤ T then X + 2 ^ b else X)
theorem gr_spec {T k : Nat} : ∀ (b X : Nat), X ^ k ≤ T → T < (X + 2 ^ b) ^ k → gr T k b X ^ k ≤ T ∧ T < (gr T k b X + 1) ^ k := by
  intro b
  induction b with
  | zero => intro X h1 h2; exact ⟨h1, h2⟩
  | succ b ih =>
    intro X h1 h2
    unfold gr
    split
    · rename_i h
      refine ih _ h ?_
      rw [Nat.add_assoc, ← Nat.mul_two, ← Nat.pow_succ]; exact h2
    · rename_i h
      exact ih X h1 (by omega)
theorem root_one {T k R S : Nat} (h1 : R ^ k ≤ T) (h2 : T < (R + 1) ^ k) (h3 : S ^ k ≤ T) (h4 : T < (S + 1) ^ k) : R = S := by
  rcases Nat.lt_trichotomy R S with h | h | h
  · have := Nat.pow_le_pow_left (show R + 1 ≤ S from h) k; omega
  · exact h
  · have := Nat.pow_le_pow_left (show S + 1 ≤ R from h) k; omega
/-- one digit, so many places up -/
def updig (p up : Nat) : List Nat := List.replicate up 0 ++ [p]
theorem updig_getD (p up j : Nat) : (updig p up).getD j 0 = if j = up then p else 0 := by
  unfold updig
  rcases Nat.lt_trichotomy j up with h | h | h
  · rw [getD_append_left (by simpa using h), rep_getD, if_neg (by omega)]
  · subst h; simp [List.getD_eq_getElem?_getD]
  · rw [getD_ge (by simp; omega), if_neg (by omega)]
theorem updig_nv (b p up : Nat) : nv b (updig p up) = b ^ up * p := by
  unfold updig
  rw [nv_append, nv_replicate]
  simp [nv]
theorem updig_lt {b p up : Nat} (hp : p < b) : LB b (updig p up) := by
  unfold updig
  exact LB.app (LB.rep (by omega) _) (LB.cons hp LB.nil)
theorem P_within {xs : List Nat} {p up : Nat} (hx : LB 18446744073709551616 xs) (hp : p < 18446744073709551616) (hl : xs.length ≤ 1000) (hu : up < xs.length) :
    F_sha512_within xs p (up : Int) = some (decide (nv 18446744073709551616 xs ≤ nv 18446744073709551616 (updig p up))) := by
  unfold F_sha512_within
  rw [gd_pos (by omega), gd_pos (by omega)]
  have key := run_inv (f := F_sha512_within_l1 (up : Int) p xs) (fun i : Int => -1 ≤ i ∧ i < xs.length ∧ ∀ j : Nat, i < j → xs.getD j 0 = (updig p up).getD j 0)
    (fun i => (i + 1).toNat) (fun r => sel (fun _ => some true) r = some (decide (nv 18446744073709551616 xs ≤ nv 18446744073709551616 (updig p up)))) ?_ (((xs.length : Nat) : Int) - 1) ⟨by omega, by omega, fun j hj => by
      rw [getD_ge (by omega), updig_getD, if_neg (by omega)]⟩
  · obtain ⟨r, hr, h⟩ := key
    rw [hr, bnd_mk]; exact h
  · rintro i ⟨h1, h2, h3⟩
    unfold F_sha512_within_l1
    by_cases q : 0 ≤ i
    · rw [if_pos q]
      obtain ⟨k, rfl⟩ := Int.eq_ofNat_of_zero_le q
      have hd := updig_getD p up k
      have hif : (if ((k : Nat) : Int) = (up : Int) then some p else some 0) = some ((updig p up).getD k 0) := by
        rw [hd]; split <;> split <;> first | rfl | omega
      rw [hif, bnd_mk, gd_pos (by omega)]
      by_cases e : xs.getD k 0 = (updig p up).getD k 0
      · left
        rw [if_pos (by rw [Int.toNat_natCast, e]), gd_pos (by omega), gd_pos (by omega)]
        refine ⟨_, rfl, ⟨by omega, by omega, fun j hj => ?_⟩, by omega⟩
        by_cases ej : j = k
        · subst ej; exact e
        · exact h3 j (by omega)
      · right
        rw [if_neg (by rw [Int.toNat_natCast]; omega)]
        refine ⟨_, rfl, ?_⟩
        rw [sel_inr, Int.toNat_natCast]
        congr 1
        rcases Nat.lt_or_gt_of_ne e with h | h
        · have := nv_cmp hx (updig_lt hp) (i := k) (fun j hj => h3 j (by omega)) h
          rw [decide_eq_true (by omega), decide_eq_true (by omega)]
        · have := nv_cmp (updig_lt hp) hx (i := k) (fun j hj => (h3 j (by omega)).symm) h
          rw [decide_eq_false (by omega), decide_eq_false (by omega)]
    · right
      rw [if_neg q]
      refine ⟨_, rfl, ?_⟩
      rw [sel_inl]
      have := nv_ext (b := 18446744073709551616) (xs := xs) (ys := updig p up) (fun j => h3 j (by omega))
      rw [decide_eq_true (by omega)]
end Go.Proofs.Ytddphjmcoolinaa
