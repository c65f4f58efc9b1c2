/- The plain laws of numbers that layer 15 speaks of: lemmas. -/
import Derived.Test.YtdabkjflpbbpeaaLa
set_option linter.unusedVariables false
namespace Go.Proofs.Ytdabkjflpbbpeaa
open Go.Proofs Go.RowKit
theorem cmpI_le {x y : Nat} : cmpI x y ≤ 0 ↔ x ≤ y := by unfold cmpI; split <;> (try split) <;> omega
theorem cmpI_gt0 {x y : Nat} : 0 < cmpI x y ↔ y < x := by unfold cmpI; split <;> (try split) <;> omega
theorem cmpI_lt0 {x y : Nat} : cmpI x y < 0 ↔ x < y := by unfold cmpI; split <;> (try split) <;> omega
theorem cmpI_ge {x y : Nat} : 0 ≤ cmpI x y ↔ y ≤ x := by unfold cmpI; split <;> (try split) <;> omega
theorem cmpI_eq0 {x y : Nat} : cmpI x y = 0 ↔ x = y := by unfold cmpI; split <;> (try split) <;> omega
theorem cmpI_lo {x y : Nat} : -9223372036854775807 ≤ cmpI x y := by unfold cmpI; split <;> (try split) <;> omega
theorem cmpI_hi {x y : Nat} : cmpI x y ≤ 9223372036854775807 := by unfold cmpI; split <;> (try split) <;> omega
theorem cmpI_swap {x y : Nat} : cmpI y x = -cmpI x y := by unfold cmpI; repeat (first | omega | split)
theorem cmpI_add {x y z : Nat} : cmpI (x + z) (y + z) = cmpI x y := by unfold cmpI; repeat (first | omega | split)
theorem sub_mod_self (X M : Nat) : (X - X % M) % M = 0 := by
  have h := Nat.mod_add_div X M
  rw [show X - X % M = M * (X / M) by omega, Nat.mul_mod_right]
theorem beq_dec {p q : Prop} [Decidable p] [Decidable q] (h : p ↔ q) : (decide p == decide q) = true := by simp [h]
theorem sq_one (x : Nat) : cmpI (x * x) x = 0 ↔ cmpI x 1 ≤ 0 := by
  rw [cmpI_eq0, cmpI_le]
  constructor
  · intro h
    rcases Nat.lt_or_ge 1 x with q | q
    · have := Nat.mul_lt_mul_of_pos_right q (show 0 < x by omega)
      omega
    · exact q
  · intro h
    have : x = 0 ∨ x = 1 := by omega
    rcases this with rfl | rfl <;> rfl
theorem sq_ge (x : Nat) : x ≤ x * x := by
  rcases Nat.eq_zero_or_pos x with rfl | h
  · exact Nat.le_refl _
  · exact Nat.le_mul_of_pos_left x h
theorem sq_sum (x y : Nat) : (x + y) * (x + y) = x * x + y * y + (x * y + x * y) := by
  rw [Nat.add_mul, Nat.mul_add, Nat.mul_add, Nat.mul_comm y x]; omega
theorem dig_ne {x y : Nat} (h : x ≠ y) : dig 256 x ≠ dig 256 y := fun q => h (by have := congrArg (nv 256) q; rwa [nvd, nvd] at this)
theorem dig_shift {x : Nat} (h : x ≠ 0) : dig 256 (x * 256) = [0] ++ dig 256 x := by
  have hN : Nm ([0] ++ dig 256 x) := by
    have hs := dig_spec (b := 256) (by decide) x
    rcases hs.2.1 with q | q
    · exact absurd (hs.2.2.2.1 (List.eq_nil_of_length_eq_zero q)) h
    · have hl : 0 < (dig 256 x).length := Nat.pos_of_ne_zero (fun e => by have := len0' x e; omega)
      refine .inr ?_
      rw [List.length_append, List.length_singleton, show 1 + (dig 256 x).length - 1 = ((dig 256 x).length - 1) + 1 by omega]
      simpa using q
  have hv : nv 256 ([0] ++ dig 256 x) = x * 256 := by
    rw [nv_append, nvd]; simp [nv]; omega
  have hb : ∀ y, y ∈ [0] ++ dig 256 x → y < 256 := fun y hy => by
    rcases List.mem_append.1 hy with q | q
    · simp at q; omega
    · exact by_dig x y q
  have := eq_dig (b := 256) (by decide) hN hb
  rw [hv] at this
  exact this.symm
end Go.Proofs.Ytdabkjflpbbpeaa
