/- Steps of the document's own reckoning, byte by byte: lemmas. -/
import Derived.Test.YtdabkjflpbbpeaaKr
set_option linter.unusedVariables false
namespace Go.Proofs.Ytdabkjflpbbpeaa
open Go.RowKit
theorem Rd.takeV {w : World} {A : Option Addr} {k : IntKind} {xs : List Nat} (h : Rd w A (vs k xs)) (i : Nat) : Rd w A (vs k (xs.take i)) := by rw [← vs_take]; exact h.take i
theorem own_blk {A : Option Addr} {m b : Nat} {p : Nat → Prop} (h1 : ∀ k, oblk A = some k → p k ∧ k < m) (h2 : m ≤ b) : oblk A = none ∨ oblk A ≠ some b := by
  cases h : oblk A with
  | none => exact .inl rfl
  | some k => exact .inr (fun e => by have := (h1 k h).2; simp at e; omega)
theorem own_blk2 {A : Option Addr} {m b : Nat} {p : Nat → Prop} (h1 : ∀ k, oblk A = some k → m ≤ k ∧ p k) (h2 : b < m) : oblk A = none ∨ oblk A ≠ some b := by
  cases h : oblk A with
  | none => exact .inl rfl
  | some k => exact .inr (fun e => by have := (h1 k h).1; simp at e; omega)
theorem nv_snoc {b : Nat} {zs : List Nat} {v k : Nat} (hl : zs.length = k) : nv b (zs ++ [v]) = nv b zs + b ^ k * v := by rw [nv_append, hl]; simp [nv]
theorem nv_one (v : Nat) : nv 256 [v] = v := by simp [nv]
theorem by_one {x : Nat} (h : x < 256) : By [x] := fun y hy => by simp at hy; omega
theorem ref_add_step {xs ys zs : List Nat} {k c : Nat} (hl : zs.length = k) (hv : nv 256 zs + c * 256 ^ k = nv 256 (xs.take k) + nv 256 (ys.take k)) :
    nv 256 (zs ++ [(xs.getD k 0 + ys.getD k 0 + c) % 256 % 256]) + (xs.getD k 0 + ys.getD k 0 + c) / 256 * 256 ^ (k + 1) = nv 256 (xs.take (k + 1)) + nv 256 (ys.take (k + 1)) := by
  rw [nv_snoc hl, nv_at', nv_at', Nat.mod_mod]
  have h := Nat.mod_add_div (xs.getD k 0 + ys.getD k 0 + c) 256
  generalize (xs.getD k 0 + ys.getD k 0 + c) % 256 = r at *
  generalize (xs.getD k 0 + ys.getD k 0 + c) / 256 = q at *
  have e : 256 ^ k * r + q * 256 ^ (k + 1) = 256 ^ k * xs.getD k 0 + 256 ^ k * ys.getD k 0 + c * 256 ^ k := by
    rw [Nat.pow_succ, ← Nat.mul_assoc, Nat.mul_comm q, Nat.mul_assoc, Nat.mul_comm q, ← Nat.mul_add, h, Nat.mul_add, Nat.mul_add, Nat.mul_comm c]
  omega
theorem ref_sub_step0 {xs ys zs : List Nat} {k c : Nat} (hl : zs.length = k) (hx : xs.getD k 0 < 256) (h : ys.getD k 0 + c ≤ xs.getD k 0) (hv : nv 256 zs + nv 256 (ys.take k) = nv 256 (xs.take k) + c * 256 ^ k) :
    nv 256 (zs ++ [(xs.getD k 0 - ys.getD k 0 - c) % 256]) + nv 256 (ys.take (k + 1)) = nv 256 (xs.take (k + 1)) + 0 * 256 ^ (k + 1) := by
  rw [nv_snoc hl, nv_at', nv_at', Nat.mod_eq_of_lt (a := xs.getD k 0 - ys.getD k 0 - c) (by omega)]
  have e : 256 ^ k * (xs.getD k 0 - ys.getD k 0 - c) + 256 ^ k * ys.getD k 0 + 256 ^ k * c = 256 ^ k * xs.getD k 0 := by rw [← Nat.mul_add, ← Nat.mul_add]; congr 1; omega
  rw [Nat.mul_comm c] at hv
  omega
theorem ref_sub_step1 {xs ys zs : List Nat} {k c : Nat} (hl : zs.length = k) (hc : c ≤ 1) (hy : ys.getD k 0 < 256) (h : xs.getD k 0 < ys.getD k 0 + c) (hv : nv 256 zs + nv 256 (ys.take k) = nv 256 (xs.take k) + c * 256 ^ k) :
    nv 256 (zs ++ [(xs.getD k 0 + 256 - ys.getD k 0 - c) % 256]) + nv 256 (ys.take (k + 1)) = nv 256 (xs.take (k + 1)) + 1 * 256 ^ (k + 1) := by
  rw [nv_snoc hl, nv_at', nv_at', Nat.mod_eq_of_lt (a := xs.getD k 0 + 256 - ys.getD k 0 - c) (by omega)]
  have e : 256 ^ k * (xs.getD k 0 + 256 - ys.getD k 0 - c) + 256 ^ k * ys.getD k 0 + 256 ^ k * c = 256 ^ k * xs.getD k 0 + 256 ^ k * 256 := by rw [← Nat.mul_add, ← Nat.mul_add, ← Nat.mul_add]; congr 1; omega
  rw [Nat.mul_comm c] at hv
  rw [Nat.pow_succ]
  omega
theorem ref_mul_step {xs ys zs : List Nat} {i k c : Nat} (hk : i + k < zs.length)
    (hv : nv 256 zs + c * 256 ^ (i + k) = nv 256 (xs.take i) * nv 256 ys + 256 ^ i * (xs.getD i 0 * nv 256 (ys.take k))) :
    nv 256 (zs.set (i + k) ((zs.getD (i + k) 0 + xs.getD i 0 * ys.getD k 0 + c) % 256 % 256)) + (zs.getD (i + k) 0 + xs.getD i 0 * ys.getD k 0 + c) / 256 * 256 ^ (i + (k + 1)) = nv 256 (xs.take i) * nv 256 ys + 256 ^ i * (xs.getD i 0 * nv 256 (ys.take (k + 1))) := by
  have := mul_step hk hv
  rw [Nat.mod_mod, show zs.getD (i + k) 0 + xs.getD i 0 * ys.getD k 0 + c = xs.getD i 0 * ys.getD k 0 + zs.getD (i + k) 0 + c by omega]
  exact this
theorem ref_mul_lt {x y o c : Nat} (hx : x < 256) (hy : y < 256) (ho : o < 256) (hc : c < 256) : o + x * y + c < 65536 := by
  have : x * y ≤ 255 * 255 := Nat.mul_le_mul (by omega) (by omega)
  omega
theorem ref_mul_row {xs ys zs : List Nat} {i c k : Nat} (hk : ys.length ≤ k) (hc : c = 0) (hv : nv 256 zs + c * 256 ^ (i + k) = nv 256 (xs.take i) * nv 256 ys + 256 ^ i * (xs.getD i 0 * nv 256 (ys.take k))) :
    nv 256 zs = nv 256 (xs.take (i + 1)) * nv 256 ys := by
  subst hc
  rw [nv_at' 256 xs i, Nat.add_mul, Nat.mul_assoc]
  rw [show ys.take k = ys from List.take_of_length_le hk] at hv
  omega
theorem sub_done8 {xs ys zs : List Nat} {k c n : Nat} (hn : xs.length = n) (hl : zs.length = n) (hzb : ∀ x, x ∈ zs → x < 256) (hX : ∀ x, x ∈ xs → x < 256) (hY : ∀ x, x ∈ ys → x < 256) (hle : nv 256 ys ≤ nv 256 xs) (hk : k = n)
    (hv : nv 256 (zs.take k) + nv 256 (ys.take k) = nv 256 (xs.take k) + c * 256 ^ k) : nv 256 zs = nv 256 xs - nv 256 ys := by
  subst hk
  rw [List.take_of_length_le (by omega), show xs.take k = xs from List.take_of_length_le (by omega)] at hv
  have hx := nv_lt xs hX
  rw [hn] at hx
  have hz := nv_lt zs hzb
  rw [hl] at hz
  have hyk : nv 256 (ys.take k) = nv 256 ys := by
    rcases Nat.lt_or_ge ys.length k with q | q
    · rw [List.take_of_length_le (by omega)]
    · have := nv_split 256 ys k q
      rcases Nat.eq_zero_or_pos (nv 256 (ys.drop k)) with z | z
      · rw [z] at this; omega
      · have : 256 ^ k * 1 ≤ 256 ^ k * nv 256 (ys.drop k) := Nat.mul_le_mul_left _ z
        omega
  rw [hyk] at hv
  rcases Nat.eq_zero_or_pos c with q | q
  · subst q; omega
  · have : 1 * 256 ^ k ≤ c * 256 ^ k := Nat.mul_le_mul_right _ q
    omega
theorem ref_mod_init {xs : List Nat} {Y n : Nat} (hb : By xs) (hn : xs.length = n) : 0 = nv 256 xs / 256 ^ n % Y := by
  have := nv_lt xs hb
  rw [hn] at this
  rw [Nat.div_eq_of_lt this, Nat.zero_mod]
theorem ref_mod_in {xs : List Nat} {Y R j : Nat} (hb : By xs) (hR : R < Y) (hv : R = nv 256 xs / 256 ^ (j + 1) % Y) : (xs.getD j 0 + 256 * R) % Y = nv 256 xs / 256 ^ j % Y ∧ xs.getD j 0 + 256 * R < 2 ^ 8 * Y := by
  refine ⟨?_, ?_⟩
  · rw [← nv_getD hb (by decide) j, hv, Nat.pow_succ, ← Nat.div_div_eq_div_mul]
    have h := Nat.mod_add_div (nv 256 xs / 256 ^ j) 256
    generalize nv 256 xs / 256 ^ j = z at *
    conv => rhs; rw [← h]
    rw [Nat.add_mod, Nat.mul_mod, Nat.mod_mod, ← Nat.mul_mod, ← Nat.add_mod]
  · have := getD_lt (by decide) hb j
    omega
theorem ref_mod_step {Q Y f z : Nat} (h : Q % Y = z) (hQ : Q < 2 ^ (f + 1) * Y) : (Y * 2 ^ f ≤ Q → (Q - Y * 2 ^ f) % Y = z ∧ Q - Y * 2 ^ f < 2 ^ f * Y) ∧ (Q < Y * 2 ^ f → Q < 2 ^ f * Y) := by
  rw [Nat.pow_succ, Nat.mul_right_comm, Nat.mul_comm (2 ^ f)] at hQ
  refine ⟨fun g => ⟨?_, ?_⟩, fun g => ?_⟩
  · rw [Nat.sub_mul_mod g, h]
  · rw [Nat.mul_comm (2 ^ f)]; omega
  · rw [Nat.mul_comm (2 ^ f)]; exact g
theorem ref_w {f : Nat} (h : f ≤ 7) : 2 ^ (f + 1) / 2 % 256 = 2 ^ f := by
  rw [Nat.pow_succ, Nat.mul_div_cancel _ (by decide)]
  exact Nat.mod_eq_of_lt (Nat.lt_of_le_of_lt (Nat.pow_le_pow_right (by decide) h) (by decide))
theorem ref_Q {Q Y e n : Nat} (he : e ≤ 8) (hQ : Q < 2 ^ e * Y) (hY : Y < 256 ^ n) : Q < 256 ^ (n + 1) := by
  have h1 : (2 : Nat) ^ e ≤ 2 ^ 8 := Nat.pow_le_pow_right (by decide) he
  have h2 := Nat.mul_le_mul_right Y h1
  rw [Nat.pow_succ]; omega
theorem ref_e0 {e : Nat} (h : ¬ (1 : Int) ≤ ((2 ^ e / 2 : Nat) : Int)) : e = 0 := by
  cases e with
  | zero => rfl
  | succ f =>
    rw [Nat.pow_succ, Nat.mul_div_cancel _ (by decide)] at h
    have : 0 < 2 ^ f := Nat.pow_pos (by decide)
    omega
theorem ref_w2 {f : Nat} : 2 ^ (f + 1) / 2 / 2 = 2 ^ f / 2 := by rw [Nat.pow_succ, Nat.mul_div_cancel _ (by decide)]
end Go.Proofs.Ytdabkjflpbbpeaa
