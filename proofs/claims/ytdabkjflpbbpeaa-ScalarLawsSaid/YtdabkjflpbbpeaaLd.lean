/- Numbers as a fixed number of bytes; the order of the base: lemmas. -/
import Derived.Test.YtdabkjflpbbpeaaLb
import Derived.Test.YtdabkjflpbbpeaaLc
set_option linter.unusedVariables false
namespace Go.Proofs.Ytdabkjflpbbpeaa
open Go.RowKit
/-- the lowest bytes of a number -/
def le : Nat → Nat → List Nat
  | 0, _ => []
  | k + 1, n => n % 256 :: le k (n / 256)
theorem le_length (k : Nat) : ∀ n, (le k n).length = k := by
  induction k with
  | zero => intro n; rfl
  | succ k ih => intro n; simp [le, ih]
theorem by_le (k : Nat) : ∀ n, By (le k n) := by
  induction k with
  | zero => intro n x h; cases h
  | succ k ih =>
    intro n x h
    rcases List.mem_cons.1 h with q | q
    · subst q; exact Nat.mod_lt _ (by decide)
    · exact ih _ x q
theorem nv_le (k : Nat) : ∀ n, nv 256 (le k n) = n % 256 ^ k := by
  induction k with
  | zero => intro n; simp [le, Nat.mod_one]
  | succ k ih =>
    intro n
    simp only [le, nv, ih]
    rw [Nat.pow_succ, Nat.mul_comm (256 ^ k), Nat.mod_mul]
theorem nv_le_lt {k n : Nat} (h : n < 256 ^ k) : nv 256 (le k n) = n := by rw [nv_le, Nat.mod_eq_of_lt h]
theorem le_getD (k : Nat) : ∀ n j, j < k → (le k n).getD j 0 = n / 256 ^ j % 256 := by
  induction k with
  | zero => intro n j h; omega
  | succ k ih =>
    intro n j h
    cases j with
    | zero => simp [le]
    | succ j =>
      simp only [le, List.getD_cons_succ]
      rw [ih _ _ (by omega), Nat.div_div_eq_div_mul, Nat.pow_succ, Nat.mul_comm 256]
theorem list_ext {xs ys : List Nat} (hl : xs.length = ys.length) (h : ∀ j, j < xs.length → xs.getD j 0 = ys.getD j 0) : xs = ys := by
  apply List.ext_getElem hl
  intro j h1 h2
  have := h j h1
  simpa [List.getD_eq_getElem?_getD, h1, h2] using this
theorem eq_le {xs : List Nat} {k : Nat} (hl : xs.length = k) (hb : By xs) : xs = le k (nv 256 xs) := by
  refine list_ext (by rw [hl, le_length]) (fun j hj => ?_)
  rw [le_getD _ _ _ (by omega), nv_getD hb (by decide)]
theorem le_congr {k x y : Nat} (h : x = y) : le k x = le k y := congrArg _ h
theorem nv_zeros (n : Nat) : nv 256 (List.replicate n 0) = 0 := nv_replicate 256 n
/-- copied to the front of an array of noughts -/
theorem copy_le {n k : Nat} (h : (dig 256 n).length ≤ k) (hk : k = 32) : ([0, 0, 0, 0, 0, 0, 0, 0, 0, 0, 0, 0, 0, 0, 0, 0, 0, 0, 0, 0, 0, 0, 0, 0, 0, 0, 0, 0, 0, 0, 0, 0] : List Nat).take 0 ++ dig 256 n ++ ([0, 0, 0, 0, 0, 0, 0, 0, 0, 0, 0, 0, 0, 0, 0, 0, 0, 0, 0, 0, 0, 0, 0, 0, 0, 0, 0, 0, 0, 0, 0, 0] : List Nat).drop (0 + (dig 256 n).length) = le 32 n := by
  subst hk
  rw [show ([0, 0, 0, 0, 0, 0, 0, 0, 0, 0, 0, 0, 0, 0, 0, 0, 0, 0, 0, 0, 0, 0, 0, 0, 0, 0, 0, 0, 0, 0, 0, 0] : List Nat) = List.replicate 32 0 from rfl, List.take_zero, List.nil_append, List.drop_replicate, Nat.zero_add]
  have hl : (dig 256 n ++ List.replicate (32 - (dig 256 n).length) 0).length = 32 := by simp; omega
  have hb : By (dig 256 n ++ List.replicate (32 - (dig 256 n).length) 0) := fun x hx => by
    rcases List.mem_append.1 hx with q | q
    · exact by_dig n x q
    · rw [(List.mem_replicate.1 q).2]; decide
  rw [eq_le hl hb, nv_append, nvd, nv_zeros, Nat.mul_zero, Nat.add_zero]
/-- the order of the base -/
def Lq : Nat := 7237005577332262213973186563042994240857116359379907606001950938285454250989
def oL : List Nat := [237, 211, 245, 92, 26, 99, 18, 88, 214, 156, 247, 162, 222, 249, 222, 20, 0, 0, 0, 0, 0, 0, 0, 0, 0, 0, 0, 0, 0, 0, 0, 16]
theorem oL_nv : nv 256 oL = Lq := by decide +kernel
theorem oL_by : By oL := byL rfl
theorem Lq_pos : 0 < Lq := by decide +kernel
theorem Lq_lt : Lq < 256 ^ 32 := by decide +kernel
theorem mod_L (x : Nat) : x % Lq < 256 ^ 32 := Nat.lt_trans (Nat.mod_lt _ Lq_pos) Lq_lt
theorem nvle (x : Nat) : nv 256 (le 32 (x % Lq)) = x % Lq := nv_le_lt (mod_L x)
theorem nvdig_mod (x : Nat) : (dig 256 (x % Lq)).length ≤ 32 := dlen (mod_L x)
/-- the document's text of the order, digit by digit -/
def oT : List Nat := [50, 55, 55, 52, 50, 51, 49, 55, 55, 55, 55, 51, 55, 50, 51, 53, 51, 53, 51, 53, 56, 53, 49, 57, 51, 55, 55, 57, 48, 56, 56, 51, 54, 52, 56, 52, 57, 51]
def decF : Nat → Nat
  | 0 => 0
  | i + 1 => decF i * 10 + (oT.getD i 0 + 256 - 48) % 256
theorem decF_lt {i : Nat} (h : i ≤ 38) : decF i < 256 ^ 16 := by
  have : ∀ j : Fin 39, decF j.1 < 256 ^ 16 := by decide +kernel
  exact this ⟨i, by omega⟩
theorem decF_top : decF 38 + nv 256 (List.replicate 31 0 ++ [16]) = Lq := by decide +kernel
theorem full_end {xs zs : List Nat} {k : Nat} (hb : By xs) (hzl : zs.length = 32) (hk : k ≤ 32) (hz : ∀ j, j < k → zs.getD j 0 = xs.getD j 0) (h0 : ∀ j, k ≤ j → zs.getD j 0 = 0) (hend : xs.length ≤ k ∨ 32 ≤ k) : zs = le 32 (nv 256 xs) := by
  refine list_ext (by rw [hzl, le_length]) (fun j hj => ?_)
  rw [le_getD _ _ _ (by omega), nv_getD hb (by decide)]
  rcases Nat.lt_or_ge j k with q | q
  · exact hz j q
  · rw [h0 j q, getD_ge (by omega)]
theorem full_step {xs zs : List Nat} {k : Nat} (hk : k < zs.length) (hz : ∀ j, j < k → zs.getD j 0 = xs.getD j 0) : ∀ j, j < k + 1 → (zs.set k (xs.getD k 0)).getD j 0 = xs.getD j 0 := fun j hj => by
  rw [getD_set _ _ _ _ hk]
  by_cases e : k = j
  · rw [if_pos e, e]
  · rw [if_neg e]; exact hz j (by omega)
theorem and248 {x : Nat} (h : x < 256) : x &&& 248 = (x + 256 - x % 8) % 256 := by
  have : ∀ y : Fin 256, y.1 &&& 248 = (y.1 + 256 - y.1 % 8) % 256 := by decide +kernel
  exact this ⟨x, h⟩
theorem and63 {x : Nat} (h : x < 256) : (x &&& 63) ||| 64 = (x % 64 + 64) % 256 := by
  have : ∀ y : Fin 256, (y.1 &&& 63) ||| 64 = (y.1 % 64 + 64) % 256 := by decide +kernel
  exact this ⟨x, h⟩
def clampL (xs : List Nat) : List Nat := (xs.set 0 ((xs.getD 0 0 + 256 - xs.getD 0 0 % 8) % 256)).set 31 ((xs.getD 31 0 % 64 + 64) % 256)
end Go.Proofs.Ytdabkjflpbbpeaa
