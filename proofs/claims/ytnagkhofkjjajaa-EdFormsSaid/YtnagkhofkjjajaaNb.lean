/- The steps of sums, differences, products and doublings of rows of words: plain lemmas. -/
import Derived.Test.YtnagkhofkjjajaaNa
set_option linter.unusedVariables false
set_option linter.unusedSimpArgs false
namespace Go.Proofs.Ytnagkhofkjjajaa

theorem bp (k : Nat) : 18446744073709551616 ^ k = 256 ^ (8 * k) := by
  rw [Nat.pow_mul]
/-- One byte more of a number in words. -/
theorem read_step {out xs : List Nat} {k : Nat} (hk : k < xs.length) (hb : ∀ x, x ∈ xs → x < 256) (hl : out.length = (xs.length + 7) / 8) (hv : nv 18446744073709551616 out = nv 256 (xs.take k)) :
    out.getD (k / 8) 0 < 18446744073709551616 → (out.set (k / 8) (out.getD (k / 8) 0 ||| xs.getD k 0 * 2 ^ (8 * (k % 8)) % 18446744073709551616)).length = (xs.length + 7) / 8 ∧
    nv 18446744073709551616 (out.set (k / 8) (out.getD (k / 8) 0 ||| xs.getD k 0 * 2 ^ (8 * (k % 8)) % 18446744073709551616)) = nv 256 (xs.take (k + 1)) ∧
    (out.getD (k / 8) 0 ||| xs.getD k 0 * 2 ^ (8 * (k % 8)) % 18446744073709551616) < 18446744073709551616 := by
  intro ho
  have hx : xs.getD k 0 < 256 := getD_lt (by decide) hb k
  have hj : k / 8 < out.length := by omega
  have hs : 2 ^ (8 * (k % 8)) ≤ 2 ^ 56 := Nat.pow_le_pow_right (by decide) (by omega)
  have hsp : 0 < 2 ^ (8 * (k % 8)) := Nat.two_pow_pos _
  have hmod : xs.getD k 0 * 2 ^ (8 * (k % 8)) < 18446744073709551616 := by
    have : xs.getD k 0 * 2 ^ (8 * (k % 8)) ≤ 255 * 2 ^ 56 := Nat.mul_le_mul (by omega) hs
    omega
  rw [Nat.mod_eq_of_lt hmod]
  have hlow : out.getD (k / 8) 0 < 2 ^ (8 * (k % 8)) := by
    have h1 := nv_split 18446744073709551616 out (k / 8) (by omega)
    rw [nv_at] at h1
    have h2 := nv_lt (xs.take k) (fun x hx => hb x (List.mem_of_mem_take hx))
    rw [List.length_take, Nat.min_eq_left (by omega)] at h2
    have e : 256 ^ k = 18446744073709551616 ^ (k / 8) * 2 ^ (8 * (k % 8)) := by
      rw [bp, show (2 : Nat) ^ (8 * (k % 8)) = 256 ^ (k % 8) by rw [Nat.pow_mul], ← Nat.pow_add]
      congr 1
      omega
    rw [e] at h2
    have h3 : 18446744073709551616 ^ (k / 8) * out.getD (k / 8) 0 ≤ nv 18446744073709551616 out := by
      rw [h1, Nat.mul_add]; omega
    rw [hv] at h3
    exact Nat.lt_of_mul_lt_mul_left (Nat.lt_of_le_of_lt h3 h2)
  have hor : out.getD (k / 8) 0 ||| xs.getD k 0 * 2 ^ (8 * (k % 8)) = xs.getD k 0 * 2 ^ (8 * (k % 8)) + out.getD (k / 8) 0 := by
    rw [Nat.or_comm, ← Nat.shiftLeft_eq, ← Nat.shiftLeft_add_eq_or_of_lt hlow]
  refine ⟨by simpa using hl, ?_, ?_⟩
  · rw [hor]
    have h1 := nv_set 18446744073709551616 out (k / 8) (xs.getD k 0 * 2 ^ (8 * (k % 8)) + out.getD (k / 8) 0) hj
    rw [nv_take_succ 256 xs k hk, ← hv]
    have e : 18446744073709551616 ^ (k / 8) * (xs.getD k 0 * 2 ^ (8 * (k % 8))) = 256 ^ k * xs.getD k 0 := by
      rw [bp, show (2 : Nat) ^ (8 * (k % 8)) = 256 ^ (k % 8) by rw [Nat.pow_mul], Nat.mul_comm (xs.getD k 0), ← Nat.mul_assoc, ← Nat.pow_add]
      congr 2
      omega
    rw [Nat.mul_add, e] at h1
    omega
  · exact Nat.or_lt_two_pow (n := 64) ho hmod

/-- One digit of a sum. -/
theorem add_step {b : Nat} {xs ys zs : List Nat} {k c : Nat} (hk : k < zs.length) (hv : nv b (zs.take k) + c * b ^ k = nv b (xs.take k) + nv b (ys.take k)) :
    nv b ((zs.set k ((xs.getD k 0 + ys.getD k 0 + c) % b)).take (k + 1)) + (xs.getD k 0 + ys.getD k 0 + c) / b * b ^ (k + 1) = nv b (xs.take (k + 1)) + nv b (ys.take (k + 1)) := by
  rw [nv_at' b xs k, nv_at' b ys k, nv_at' b _ k, List.take_set_of_le (Nat.le_refl k), getD_set _ _ _ _ hk, if_pos rfl, Nat.pow_succ]
  have h := Nat.mod_add_div (xs.getD k 0 + ys.getD k 0 + c) b
  generalize (xs.getD k 0 + ys.getD k 0 + c) % b = r at *
  generalize (xs.getD k 0 + ys.getD k 0 + c) / b = q at *
  have e : b ^ k * r + q * (b ^ k * b) = b ^ k * (xs.getD k 0 + ys.getD k 0 + c) := by rw [← h, Nat.mul_add]; congr 1; rw [Nat.mul_comm q, Nat.mul_assoc]
  rw [Nat.mul_add, Nat.mul_add] at e
  rw [Nat.mul_comm c] at hv
  omega
/-- One digit of a difference. -/
theorem sub_step {b : Nat} {xs ys zs : List Nat} {k c : Nat} (hc : c ≤ 1) (hx : xs.getD k 0 < b) (hy : ys.getD k 0 < b) (hk : k < zs.length) (hv : nv b (zs.take k) + nv b (ys.take k) = nv b (xs.take k) + c * b ^ k) :
    nv b ((zs.set k ((xs.getD k 0 + b - ys.getD k 0 - c) % b)).take (k + 1)) + nv b (ys.take (k + 1)) = nv b (xs.take (k + 1)) + (if xs.getD k 0 < ys.getD k 0 + c then 1 else 0) * b ^ (k + 1) := by
  rw [nv_at' b xs k, nv_at' b ys k, nv_at' b _ k, List.take_set_of_le (Nat.le_refl k), getD_set _ _ _ _ hk, if_pos rfl, Nat.pow_succ]
  rw [Nat.mul_comm c] at hv
  split
  · rename_i h
    rw [Nat.mod_eq_of_lt (by omega)]
    have e : b ^ k * (xs.getD k 0 + b - ys.getD k 0 - c) + b ^ k * ys.getD k 0 + b ^ k * c = b ^ k * xs.getD k 0 + b ^ k * b := by
      rw [← Nat.mul_add, ← Nat.mul_add, ← Nat.mul_add]; congr 1; omega
    omega
  · rename_i h
    rw [show xs.getD k 0 + b - ys.getD k 0 - c = (xs.getD k 0 - ys.getD k 0 - c) + b by omega, Nat.add_mod_right, Nat.mod_eq_of_lt (by omega)]
    have e : b ^ k * (xs.getD k 0 - ys.getD k 0 - c) + b ^ k * ys.getD k 0 + b ^ k * c = b ^ k * xs.getD k 0 := by
      rw [← Nat.mul_add, ← Nat.mul_add]; congr 1; omega
    omega
end Go.Proofs.Ytnagkhofkjjajaa
