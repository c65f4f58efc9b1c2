/- Plain laws of sums of products by the order, and of set bits: lemmas. -/
import Derived.Test.YtdabkjflpbbpeaaLd
set_option linter.unusedVariables false
namespace Go.Proofs.Ytdabkjflpbbpeaa
open Go.RowKit
theorem ma1 (L A C R : Nat) : (A * C + R) % L = ((A % L) * (C % L) + R) % L := by rw [Nat.add_mod (A * C), Nat.mul_mod A C, ← Nat.add_mod]
theorem mm1 (L x C : Nat) : (x % L * C) % L = (x * C) % L := by rw [Nat.mul_mod, Nat.mod_mod, ← Nat.mul_mod]
theorem mm2 (L A x : Nat) : (A * (x % L)) % L = (A * x) % L := by rw [Nat.mul_mod, Nat.mod_mod, ← Nat.mul_mod]
theorem ma2 (L A B C : Nat) : ((A * B + 0) % L * C + 0) % L = (A * ((B * C + 0) % L) + 0) % L := by
  simp only [Nat.add_zero]
  rw [mm1, mm2, Nat.mul_assoc]
theorem ma3 (L A B C : Nat) : ((A * 1 + B) % L * C + 0) % L = (A * C + (B * C + 0) % L) % L := by
  simp only [Nat.add_zero, Nat.mul_one]
  rw [mm1, Nat.add_mod (A * C), Nat.mod_mod, ← Nat.add_mod, Nat.add_mul]
theorem clampL_length (xs : List Nat) : (clampL xs).length = xs.length := by simp [clampL]
theorem by_clampL {xs : List Nat} (h : By xs) : By (clampL xs) := by
  unfold clampL
  exact set_lt (set_lt h (Nat.mod_lt _ (by decide)) _) (Nat.mod_lt _ (by decide)) _
theorem clampL_0 {xs : List Nat} (h : xs.length = 32) : (clampL xs).getD 0 0 = (xs.getD 0 0 + 256 - xs.getD 0 0 % 8) % 256 := by
  unfold clampL
  rw [getD_set _ _ _ _ (by simp; omega), if_neg (by decide), getD_set _ _ _ _ (by omega), if_pos rfl]
theorem clampL_31 {xs : List Nat} (h : xs.length = 32) : (clampL xs).getD 31 0 = (xs.getD 31 0 % 64 + 64) % 256 := by
  unfold clampL
  rw [getD_set _ _ _ _ (by simp; omega), if_pos rfl]
theorem clampL_mid {xs : List Nat} (h : xs.length = 32) {j : Nat} (h0 : j ≠ 0) (h1 : j ≠ 31) : (clampL xs).getD j 0 = xs.getD j 0 := by
  unfold clampL
  rw [getD_set _ _ _ _ (by simp; omega), if_neg (by omega), getD_set _ _ _ _ (by omega), if_neg (by omega)]
theorem clampL_twice {xs : List Nat} (h : xs.length = 32) (hb : By xs) : clampL (clampL xs) = clampL xs := by
  have hl := (clampL_length xs).trans h
  refine list_ext (by rw [clampL_length]) (fun j hj => ?_)
  have h0 := getD_lt (by decide) hb 0
  have h31 := getD_lt (by decide) hb 31
  rcases Nat.eq_zero_or_pos j with q | q
  · subst q; rw [clampL_0 hl, clampL_0 h]; omega
  · by_cases q2 : j = 31
    · subst q2; rw [clampL_31 hl, clampL_31 h]; omega
    · rw [clampL_mid hl (by omega) q2]
theorem clampL_8 {xs : List Nat} (h : xs.length = 32) (hb : By xs) : (((clampL xs).getD 0 0 % 8 : Nat) : Int) = 0 := by
  have h0 := getD_lt (by decide) hb 0
  rw [clampL_0 h]; omega
theorem clampL_64 {xs : List Nat} (h : xs.length = 32) : (64 : Int) ≤ (((clampL xs).getD 31 0 : Nat) : Int) := by rw [clampL_31 h]; omega
theorem clampL_128 {xs : List Nat} (h : xs.length = 32) : (((clampL xs).getD 31 0 : Nat) : Int) < 128 := by rw [clampL_31 h]; omega
theorem rep_getD' {n c j : Nat} (h : j < n) : (List.replicate n c).getD j 0 = c := by simp [List.getD_eq_getElem?_getD, h]
theorem all255 {zs : List Nat} (hl : zs.length = 32) (h : ∀ j, j < 32 → zs.getD j 0 = 255) : zs = List.replicate 32 255 := by
  refine list_ext (by rw [hl, List.length_replicate]) (fun j hj => ?_)
  have hj2 : j < 32 := by omega
  rw [h j hj2, rep_getD' hj2]
end Go.Proofs.Ytdabkjflpbbpeaa
