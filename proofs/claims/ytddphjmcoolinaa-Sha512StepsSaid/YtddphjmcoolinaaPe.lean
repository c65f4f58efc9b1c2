/- The reference's root, as a number. -/
import Derived.Test.YtddphjmcoolinaaPd
set_option linter.unusedVariables false
set_option linter.unusedSimpArgs false
set_option maxRecDepth 10000
namespace Go.Proofs.Ytddphjmcoolinaa
theorem P_Greater {xs ys : List Nat} (hX : LB 65536 xs) (hY : LB 65536 ys) (hl : xs.length + ys.length ≤ 1000) :
    F_casemateref13_Greater (cI xs) (cI ys) = some (decide (nv 65536 ys < nv 65536 xs)) := by
  unfold F_casemateref13_Greater
  rw [cI_length, cI_length]
  have hm1 : Nat.max xs.length ys.length ≤ 1000 := Nat.max_le.2 ⟨by omega, by omega⟩
  rw [gd_pos (by omega), gd_pos (by omega)]
  have key := run_inv (f := F_casemateref13_Greater_l1 (cI xs) (cI ys)) (fun i : Int => -1 ≤ i ∧ i < Nat.max xs.length ys.length ∧ ∀ j : Nat, i < j → xs.getD j 0 = ys.getD j 0)
    (fun i => (i + 1).toNat) (fun r => sel (fun _ => some false) r = some (decide (nv 65536 ys < nv 65536 xs))) ?_ (((Nat.max xs.length ys.length : Nat) : Int) - 1) ⟨by omega, by omega, fun j hj => by
      obtain ⟨h1, h2⟩ := max_ge (n := xs.length) (m := ys.length) (j := j) (by omega)
      rw [getD_ge h1, getD_ge h2]⟩
  · obtain ⟨r, hr, h⟩ := key
    rw [hr, bnd_mk]; exact h
  · rintro i ⟨h1, h2, h3⟩
    unfold F_casemateref13_Greater_l1
    by_cases q : 0 ≤ i
    · rw [if_pos q]
      obtain ⟨k, rfl⟩ := Int.eq_ofNat_of_zero_le q
      have hif : ∀ (zs : List Nat), (if ((k : Nat) : Int) < (((cI zs).length : Nat) : Int) then some ((cI zs).getD ((k : Nat) : Int).toNat 0) else some (0 : Int)) = some ((zs.getD k 0 : Nat) : Int) := by
        intro zs
        rw [cI_length, Int.toNat_natCast, cI_getD]
        split
        · rfl
        · rw [getD_ge (by omega)]; rfl
      rw [hif, bnd_mk, hif, bnd_mk]
      by_cases e : xs.getD k 0 = ys.getD k 0
      · left
        rw [if_pos (by rw [e]), gd_pos (by omega), gd_pos (by omega)]
        refine ⟨_, rfl, ⟨by omega, by omega, fun j hj => ?_⟩, by omega⟩
        by_cases ej : j = k
        · subst ej; exact e
        · exact h3 j (by omega)
      · right
        rw [if_neg (by omega)]
        refine ⟨_, rfl, ?_⟩
        rw [sel_inr]
        congr 1
        rcases Nat.lt_or_gt_of_ne e with h | h
        · have := nv_cmp hX hY (i := k) (fun j hj => h3 j (by omega)) h
          rw [decide_eq_false (by omega), decide_eq_false (by omega)]
        · have := nv_cmp hY hX (i := k) (fun j hj => (h3 j (by omega)).symm) h
          rw [decide_eq_true (by omega), decide_eq_true (by omega)]
    · right
      rw [if_neg q]
      refine ⟨_, rfl, ?_⟩
      rw [sel_inl]
      have := nv_ext (b := 65536) (xs := xs) (ys := ys) (fun j => h3 j (by omega))
      rw [decide_eq_false (by omega)]
/-- five digits -/
def dg5 (V : Nat) : List Nat := [V % 65536, V / 65536 % 65536, V / 4294967296 % 65536, V / 281474976710656 % 65536, V / 18446744073709551616 % 65536]
theorem dg5_lt (V : Nat) : LB 65536 (dg5 V) := LB.cons (Nat.mod_lt _ (by decide)) (LB.cons (Nat.mod_lt _ (by decide)) (LB.cons (Nat.mod_lt _ (by decide)) (LB.cons (Nat.mod_lt _ (by decide)) (LB.cons (Nat.mod_lt _ (by decide)) LB.nil))))
theorem dg5_nv {V : Nat} (h : V < 1208925819614629174706176) : nv 65536 (dg5 V) = V := by
  show V % 65536 + 65536 * (V / 65536 % 65536 + 65536 * (V / 4294967296 % 65536 + 65536 * (V / 281474976710656 % 65536 + 65536 * (V / 18446744073709551616 % 65536 + 65536 * 0)))) = V
  omega
theorem pw_lt {n k : Nat} (h : n < k) : 2 ^ n < 2 ^ k := Nat.pow_lt_pow_right (by decide) h
theorem dg5_set {V n : Nat} (hn : n ≤ 68) (hd : 2 ^ (n + 1) ∣ V) : (dg5 V).set (n / 16) ((dg5 V).getD (n / 16) 0 + 2 ^ (n % 16)) = dg5 (V + 2 ^ n) := by
  obtain ⟨c, rfl⟩ := hd
  have hs : 2 ^ n = 2 ^ (16 * (n / 16)) * 2 ^ (n % 16) := by rw [← Nat.pow_add]; congr 1; omega
  have hs1 : 2 ^ (n + 1) = 2 ^ (16 * (n / 16)) * (2 * 2 ^ (n % 16)) := by rw [Nat.pow_succ, hs, Nat.mul_assoc, Nat.mul_comm (2 ^ (n % 16)) 2]
  have h16 : 65536 = 2 ^ (n % 16) * 2 ^ (16 - n % 16) := by rw [← Nat.pow_add, show n % 16 + (16 - n % 16) = 16 by omega]
  have h15 : 2 ^ (16 - n % 16) = 2 * 2 ^ (15 - n % 16) := by rw [← Nat.pow_succ']; congr 1; omega
  -- with w = 2^(n % 16), d = 2^(15 - n % 16): 65536 = 2 w d; the digit is 2 w e
  generalize hw : 2 ^ (n % 16) = w at *
  generalize hdd : 2 ^ (15 - n % 16) = d at *
  rw [h15] at h16
  have hq : n / 16 = 0 ∨ n / 16 = 1 ∨ n / 16 = 2 ∨ n / 16 = 3 ∨ n / 16 = 4 := by omega
  have key : ∀ (U : Nat), U % (2 * w) = 0 → U % 65536 + w < 65536 := by
    intro U hU
    have h1 : U % 65536 % (2 * w) = 0 := by
      rw [h16, show w * (2 * d) = 2 * w * d by rw [← Nat.mul_assoc, Nat.mul_comm w 2], Nat.mod_mul_right_mod]
      exact hU
    have hwp : 0 < w := by
      rcases Nat.eq_zero_or_pos w with z | z
      · rw [z] at h16; omega
      · exact z
    have h2 : U % 65536 < 65536 := Nat.mod_lt _ (by decide)
    obtain ⟨e, he⟩ := Nat.dvd_of_mod_eq_zero h1
    rw [he] at h2 ⊢
    have h3 : 2 * w * e < 2 * w * d := by
      have : 2 * w * d = 65536 := by rw [h16, ← Nat.mul_assoc, Nat.mul_comm w 2]
      rw [this]; exact h2
    have h4 : e < d := Nat.lt_of_mul_lt_mul_left h3
    have h5 : 2 * w * (e + 1) ≤ 2 * w * d := Nat.mul_le_mul_left _ h4
    have h6 : 2 * w * d = 65536 := by rw [h16, ← Nat.mul_assoc, Nat.mul_comm w 2]
    rw [Nat.mul_add, Nat.mul_one, h6] at h5
    omega
  have hmod : ∀ (U : Nat), (2 * w * U) % (2 * w) = 0 := fun U => Nat.mul_mod_right _ _
  have hU := key (2 * w * c) (hmod c)
  generalize hUe : 2 * w * c = U at *
  have eV : 2 ^ (n + 1) * c = 2 ^ (16 * (n / 16)) * U := by rw [hs1, Nat.mul_assoc, hUe]
  rw [eV, hs]
  rcases hq with h | h | h | h | h <;> rw [h]
  · show [2 ^ 0 * U % 65536 + w, 2 ^ 0 * U / 65536 % 65536, 2 ^ 0 * U / 4294967296 % 65536, 2 ^ 0 * U / 281474976710656 % 65536, 2 ^ 0 * U / 18446744073709551616 % 65536] = _
    unfold dg5
    congr 1
    · omega
    · congr 1
      · omega
      · congr 1
        · omega
        · congr 1
          · omega
          · congr 1; omega
  · show [2 ^ 16 * U % 65536, 2 ^ 16 * U / 65536 % 65536 + w, 2 ^ 16 * U / 4294967296 % 65536, 2 ^ 16 * U / 281474976710656 % 65536, 2 ^ 16 * U / 18446744073709551616 % 65536] = _
    unfold dg5
    congr 1
    · omega
    · congr 1
      · omega
      · congr 1
        · omega
        · congr 1
          · omega
          · congr 1; omega
  · show [2 ^ 32 * U % 65536, 2 ^ 32 * U / 65536 % 65536, 2 ^ 32 * U / 4294967296 % 65536 + w, 2 ^ 32 * U / 281474976710656 % 65536, 2 ^ 32 * U / 18446744073709551616 % 65536] = _
    unfold dg5
    congr 1
    · omega
    · congr 1
      · omega
      · congr 1
        · omega
        · congr 1
          · omega
          · congr 1; omega
  · show [2 ^ 48 * U % 65536, 2 ^ 48 * U / 65536 % 65536, 2 ^ 48 * U / 4294967296 % 65536, 2 ^ 48 * U / 281474976710656 % 65536 + w, 2 ^ 48 * U / 18446744073709551616 % 65536] = _
    unfold dg5
    congr 1
    · omega
    · congr 1
      · omega
      · congr 1
        · omega
        · congr 1
          · omega
          · congr 1; omega
  · show [2 ^ 64 * U % 65536, 2 ^ 64 * U / 65536 % 65536, 2 ^ 64 * U / 4294967296 % 65536, 2 ^ 64 * U / 281474976710656 % 65536, 2 ^ 64 * U / 18446744073709551616 % 65536 + w] = _
    unfold dg5
    congr 1
    · omega
    · congr 1
      · omega
      · congr 1
        · omega
        · congr 1
          · omega
          · congr 1; omega
end Go.Proofs.Ytddphjmcoolinaa
