/- More steps: products, doublings, bytes of words, orders. -/
import Derived.Test.YtnagkhofkjjajaaNb
set_option linter.unusedVariables false
set_option linter.unusedSimpArgs false
namespace Go.Proofs.Ytnagkhofkjjajaa

theorem max_ge {n m j : Nat} (h : Nat.max n m ≤ j) : n ≤ j ∧ m ≤ j := ⟨Nat.le_trans (Nat.le_max_left n m) h, Nat.le_trans (Nat.le_max_right n m) h⟩
/-- -1, 0, 1 as x is below y, y, above y. -/
def cmpI (x y : Nat) : Int := if x < y then -1 else if y < x then 1 else 0
theorem cmpI_lt {x y : Nat} (h : x < y) : cmpI x y = -1 := by simp [cmpI, h]
theorem cmpI_gt {x y : Nat} (h : y < x) : cmpI x y = 1 := by unfold cmpI; rw [if_neg (by omega), if_pos h]
theorem cmpI_eq {x y : Nat} (h : x = y) : cmpI x y = 0 := by unfold cmpI; rw [if_neg (by omega), if_neg (by omega)]
theorem cmpI_pos {x y : Nat} (h : ¬ cmpI x y ≤ 0) : y ≤ x := by
  unfold cmpI at h
  split at h
  · omega
  · omega
theorem cmpI_nonpos {x y : Nat} (h : cmpI x y ≤ 0) : x ≤ y := by
  unfold cmpI at h
  split at h
  · omega
  · split at h <;> omega
theorem rep_getD (n j : Nat) : (List.replicate n 0).getD j 0 = 0 := by
  rw [List.getD_eq_getElem?_getD]
  cases q : (List.replicate n 0)[j]? with
  | none => rfl
  | some v => rw [(List.mem_replicate.1 (List.mem_of_getElem? q)).2]; rfl
theorem mul_none {b : Nat} {xs ys zs : List Nat} {i c k : Nat} (hy : ys.length = 0) (hv : nv b zs + c * b ^ (i + k) = nv b (xs.take i) * nv b ys + b ^ i * (xs.getD i 0 * nv b (ys.take k))) : nv b zs = nv b (xs.take (i + 1)) * nv b ys := by
  have : ys = [] := List.eq_nil_of_length_eq_zero hy
  subst this
  simp at hv ⊢
  omega
theorem cmp_step {xs ys : List Nat} {k : Nat} (hz : ∀ j, k + 1 ≤ j → xs.getD j 0 = ys.getD j 0) (h : xs.getD k 0 = ys.getD k 0) : ∀ j, k ≤ j → xs.getD j 0 = ys.getD j 0 := fun j hj => by
  rcases Nat.eq_or_lt_of_le hj with q | q
  · rw [← q]; exact h
  · exact hz j (by omega)

/-- One byte more of a row of words. -/
theorem byte_step {ws ys : List Nat} {k j : Nat} (hl : ys.length = 8 * k + j) (hj : j < 8)
    (hv : nv 256 ys = nv 18446744073709551616 (ws.take k) + 18446744073709551616 ^ k * (ws.getD k 0 % 256 ^ j)) :
    nv 256 (ys ++ [ws.getD k 0 / 2 ^ (8 * j) % 256]) = nv 18446744073709551616 (ws.take k) + 18446744073709551616 ^ k * (ws.getD k 0 % 256 ^ (j + 1)) := by
  rw [nv_append, hv, hl]
  simp only [nv, Nat.mul_zero, Nat.add_zero]
  rw [show (2 : Nat) ^ (8 * j) = 256 ^ j by rw [Nat.pow_mul], bp, Nat.pow_add]
  have : ws.getD k 0 % 256 ^ (j + 1) = ws.getD k 0 % 256 ^ j + 256 ^ j * (ws.getD k 0 / 256 ^ j % 256) := by
    rw [Nat.pow_succ, Nat.mod_mul]
  rw [this, Nat.mul_add, Nat.mul_assoc]
  omega
theorem byte_word {ws ys : List Nat} {k : Nat} (hb : ∀ x, x ∈ ws → x < 18446744073709551616) (hv : nv 256 ys = nv 18446744073709551616 (ws.take k) + 18446744073709551616 ^ k * (ws.getD k 0 % 256 ^ 8)) :
    nv 256 ys = nv 18446744073709551616 (ws.take (k + 1)) := by
  rw [hv, nv_at', Nat.mod_eq_of_lt]
  exact getD_lt (by decide) hb k

theorem mul_bound {x y o c : Nat} (hx : x < 18446744073709551616) (hy : y < 18446744073709551616) (ho : o < 18446744073709551616) (hc : c < 18446744073709551616) : x * y + o + c < 18446744073709551616 * 18446744073709551616 := by
  have : x * y ≤ 18446744073709551615 * 18446744073709551615 := Nat.mul_le_mul (by omega) (by omega)
  omega
/-- The words of a product of words, what was there and what is carried. -/
theorem mul_words {x y o c : Nat} (hx : x < 18446744073709551616) (hy : y < 18446744073709551616) (ho : o < 18446744073709551616) (hc : c < 18446744073709551616) :
    ((x * y % 18446744073709551616 + o + 0) % 18446744073709551616 + c + 0) % 18446744073709551616 = (x * y + o + c) % 18446744073709551616 ∧
    ((x * y / 18446744073709551616 + (x * y % 18446744073709551616 + o + 0) / 18446744073709551616) % 18446744073709551616 + ((x * y % 18446744073709551616 + o + 0) % 18446744073709551616 + c + 0) / 18446744073709551616) % 18446744073709551616 = (x * y + o + c) / 18446744073709551616 := by
  have := mul_bound hx hy ho hc
  omega
/-- One digit of a product. -/
theorem mul_step {b : Nat} {xs ys zs : List Nat} {i k c : Nat} (hk : i + k < zs.length)
    (hv : nv b zs + c * b ^ (i + k) = nv b (xs.take i) * nv b ys + b ^ i * (xs.getD i 0 * nv b (ys.take k))) :
    nv b (zs.set (i + k) ((xs.getD i 0 * ys.getD k 0 + zs.getD (i + k) 0 + c) % b)) + (xs.getD i 0 * ys.getD k 0 + zs.getD (i + k) 0 + c) / b * b ^ (i + (k + 1)) = nv b (xs.take i) * nv b ys + b ^ i * (xs.getD i 0 * nv b (ys.take (k + 1))) := by
  have h := Nat.mod_add_div (xs.getD i 0 * ys.getD k 0 + zs.getD (i + k) 0 + c) b
  have hs := nv_set b zs (i + k) ((xs.getD i 0 * ys.getD k 0 + zs.getD (i + k) 0 + c) % b) hk
  generalize hr : (xs.getD i 0 * ys.getD k 0 + zs.getD (i + k) 0 + c) % b = r at *
  generalize hq : (xs.getD i 0 * ys.getD k 0 + zs.getD (i + k) 0 + c) / b = q at *
  rw [nv_at' b ys k]
  have e : b ^ (i + k) * r + q * b ^ (i + (k + 1)) = b ^ (i + k) * (xs.getD i 0 * ys.getD k 0) + b ^ (i + k) * zs.getD (i + k) 0 + c * b ^ (i + k) := by
    rw [show i + (k + 1) = (i + k) + 1 by omega, Nat.pow_succ, ← Nat.mul_assoc, Nat.mul_comm q, Nat.mul_assoc, Nat.mul_comm q, ← Nat.mul_add, h, Nat.mul_add, Nat.mul_add, Nat.mul_comm c]
  have e2 : b ^ i * (xs.getD i 0 * (nv b (ys.take k) + b ^ k * ys.getD k 0)) = b ^ i * (xs.getD i 0 * nv b (ys.take k)) + b ^ (i + k) * (xs.getD i 0 * ys.getD k 0) := by
    rw [Nat.mul_add, Nat.mul_add, Nat.pow_add]
    congr 1
    rw [← Nat.mul_assoc, ← Nat.mul_assoc, ← Nat.mul_assoc, Nat.mul_assoc (b ^ i), Nat.mul_comm (xs.getD i 0) (b ^ k), ← Nat.mul_assoc]
  omega
theorem mul_row {b : Nat} {xs ys zs : List Nat} {i c m : Nat} (hm : ys.length = m) (hk : i + m < zs.length) (h0 : zs.getD (i + m) 0 = 0)
    (hv : nv b zs + c * b ^ (i + m) = nv b (xs.take i) * nv b ys + b ^ i * (xs.getD i 0 * nv b (ys.take m))) : nv b (zs.set (i + m) c) = nv b (xs.take (i + 1)) * nv b ys := by
  have hs := nv_set b zs (i + m) c hk
  rw [h0] at hs
  rw [nv_at' b xs i, Nat.add_mul]
  rw [show ys.take m = ys from List.take_of_length_le (by omega)] at hv
  rw [Nat.mul_assoc, ← hv, Nat.mul_comm c]
  simpa using hs

/-- Twice a digit and what is carried. -/
theorem dbl_or {x b : Nat} (hb : b ≤ 1) : x * 2 ^ 1 % 18446744073709551616 ||| b = (2 * x + b) % 18446744073709551616 := by
  have h1 : x * 2 ^ 1 % 18446744073709551616 = (x % 9223372036854775808) <<< 1 := by rw [Nat.shiftLeft_eq]; omega
  rw [h1, ← Nat.shiftLeft_add_eq_or_of_lt (by omega), Nat.shiftLeft_eq]
  omega
theorem dbl_carry {x b : Nat} (hx : x < 18446744073709551616) (hb : b ≤ 1) : x / 2 ^ 63 = (2 * x + b) / 18446744073709551616 := by omega
theorem dbl_step {b : Nat} {xs zs : List Nat} {k c c0 : Nat} (hk : k < zs.length) (hd : zs.getD k 0 = xs.getD k 0) (hv : nv b (zs.take k) + c * b ^ k = 2 * nv b (xs.take k) + c0) :
    nv b ((zs.set k ((2 * xs.getD k 0 + c) % b)).take (k + 1)) + (2 * xs.getD k 0 + c) / b * b ^ (k + 1) = 2 * nv b (xs.take (k + 1)) + c0 := by
  rw [nv_at' b xs k, nv_at' b _ k, List.take_set_of_le (Nat.le_refl k), getD_set _ _ _ _ hk, if_pos rfl, Nat.pow_succ]
  have h := Nat.mod_add_div (2 * xs.getD k 0 + c) b
  generalize (2 * xs.getD k 0 + c) % b = r at *
  generalize (2 * xs.getD k 0 + c) / b = q at *
  have e : b ^ k * r + q * (b ^ k * b) = b ^ k * (2 * xs.getD k 0 + c) := by rw [← h, Nat.mul_add]; congr 1; rw [Nat.mul_comm q, Nat.mul_assoc]
  rw [Nat.mul_add] at e
  rw [Nat.mul_comm c] at hv
  have : b ^ k * (2 * xs.getD k 0) = 2 * (b ^ k * xs.getD k 0) := by rw [← Nat.mul_assoc, Nat.mul_comm (b ^ k) 2, Nat.mul_assoc]
  omega
/-- What is carried out of the highest place is nothing, if the number has room. -/
theorem no_carry {b : Nat} {zs : List Nat} {c n V : Nat} (hl : zs.length = n) (hv : nv b zs + c * b ^ n = V) (hV : V < b ^ n) : c = 0 ∧ nv b zs = V := by
  rcases Nat.eq_zero_or_pos c with q | q
  · subst q; exact ⟨rfl, by simpa using hv⟩
  · have : 1 * b ^ n ≤ c * b ^ n := Nat.mul_le_mul_right _ q
    omega
theorem getD_append_left {xs ys : List Nat} {j : Nat} (h : j < xs.length) : (xs ++ ys).getD j 0 = xs.getD j 0 := by simp [List.getD_eq_getElem?_getD, List.getElem?_append_left h]
theorem pow_two_le {b m : Nat} (hb : 2 ≤ b) (hm : 1 ≤ m) : 2 * b ^ (m - 1) ≤ b ^ m := by
  obtain ⟨q, rfl⟩ : ∃ q, m = q + 1 := ⟨m - 1, by omega⟩
  rw [Nat.add_sub_cancel, Nat.pow_succ, Nat.mul_comm]
  exact Nat.mul_le_mul_left _ hb
theorem add_done {xs ys zs : List Nat} {k c m : Nat} (hl : zs.length = m) (hx : xs.length + 1 ≤ m) (hy : ys.length + 1 ≤ m) (hX : ∀ x, x ∈ xs → x < 18446744073709551616) (hY : ∀ x, x ∈ ys → x < 18446744073709551616) (hk : k = m)
    (hv : nv 18446744073709551616 (zs.take k) + c * 18446744073709551616 ^ k = nv 18446744073709551616 (xs.take k) + nv 18446744073709551616 (ys.take k)) : nv 18446744073709551616 zs = nv 18446744073709551616 xs + nv 18446744073709551616 ys := by
  subst hk
  rw [List.take_of_length_le (by omega), show xs.take k = xs from List.take_of_length_le (by omega), show ys.take k = ys from List.take_of_length_le (by omega)] at hv
  refine (no_carry hl hv ?_).2
  have h1 : nv 18446744073709551616 xs < 18446744073709551616 ^ (k - 1) := Nat.lt_of_lt_of_le (nv_lt xs hX) (Nat.pow_le_pow_right (by decide) (by omega))
  have h2 : nv 18446744073709551616 ys < 18446744073709551616 ^ (k - 1) := Nat.lt_of_lt_of_le (nv_lt ys hY) (Nat.pow_le_pow_right (by decide) (by omega))
  have h3 := pow_two_le (b := 18446744073709551616) (m := k) (by decide) (by omega)
  omega
theorem sub_done {xs ys zs : List Nat} {k c n : Nat} (hn : xs.length = n) (hl : zs.length = n) (hzb : ∀ x, x ∈ zs → x < 18446744073709551616) (hX : ∀ x, x ∈ xs → x < 18446744073709551616) (hY : ∀ x, x ∈ ys → x < 18446744073709551616) (hle : nv 18446744073709551616 ys ≤ nv 18446744073709551616 xs) (hk : k = n)
    (hv : nv 18446744073709551616 (zs.take k) + nv 18446744073709551616 (ys.take k) = nv 18446744073709551616 (xs.take k) + c * 18446744073709551616 ^ k) : nv 18446744073709551616 zs = nv 18446744073709551616 xs - nv 18446744073709551616 ys := by
  subst hk
  rw [List.take_of_length_le (by omega), show xs.take k = xs from List.take_of_length_le (by omega)] at hv
  have hx := nv_lt xs hX
  rw [hn] at hx
  have hz := nv_lt zs hzb
  rw [hl] at hz
  have hyk : nv 18446744073709551616 (ys.take k) = nv 18446744073709551616 ys := by
    rcases Nat.lt_or_ge ys.length k with q | q
    · rw [List.take_of_length_le (by omega)]
    · have := nv_split 18446744073709551616 ys k q
      rcases Nat.eq_zero_or_pos (nv 18446744073709551616 (ys.drop k)) with z | z
      · rw [z] at this; omega
      · have : 18446744073709551616 ^ k * 1 ≤ 18446744073709551616 ^ k * nv 18446744073709551616 (ys.drop k) := Nat.mul_le_mul_left _ z
        omega
  rw [hyk] at hv
  rcases Nat.eq_zero_or_pos c with q | q
  · subst q; omega
  · have : 1 * 18446744073709551616 ^ k ≤ c * 18446744073709551616 ^ k := Nat.mul_le_mul_right _ q
    omega
theorem dbl_init {xs : List Nat} {n : Nat} (hn : xs.length = n) (j : Nat) : ((List.replicate (n + 1) 0).take 0 ++ xs ++ (List.replicate (n + 1) 0).drop (0 + xs.length)).getD j 0 = xs.getD j 0 := by
  rw [List.take_zero, List.nil_append]
  rcases Nat.lt_or_ge j xs.length with h | h
  · exact getD_append_left h
  · rw [getD_ge h, List.getD_eq_getElem?_getD, List.getElem?_append_right h, List.drop_replicate]
    cases q : (List.replicate (n + 1 - (0 + xs.length)) 0)[j - xs.length]? with
    | none => rfl
    | some v =>
      have := List.mem_of_getElem? q
      rw [(List.mem_replicate.1 this).2]; rfl
theorem dbl_init_lt {xs : List Nat} {n : Nat} (hn : xs.length = n) (hx : ∀ x, x ∈ xs → x < 18446744073709551616) : ∀ x, x ∈ ((List.replicate (n + 1) 0).take 0 ++ xs ++ (List.replicate (n + 1) 0).drop (0 + xs.length)) → x < 18446744073709551616 := by
  intro x h
  rw [List.take_zero, List.nil_append] at h
  rcases List.mem_append.1 h with q | q
  · exact hx x q
  · rw [List.drop_replicate] at q
    rw [(List.mem_replicate.1 q).2]; decide
theorem dbl_done {xs zs : List Nat} {k c n b : Nat} (hn : xs.length = n) (hl : zs.length = n + 1) (hX : ∀ x, x ∈ xs → x < 18446744073709551616) (hb : b ≤ 1) (hk : k = n + 1)
    (hv : nv 18446744073709551616 (zs.take k) + c * 18446744073709551616 ^ k = 2 * nv 18446744073709551616 (xs.take k) + b) : nv 18446744073709551616 zs = 2 * nv 18446744073709551616 xs + b := by
  subst hk
  rw [List.take_of_length_le (by omega), show xs.take (n + 1) = xs from List.take_of_length_le (by omega)] at hv
  refine (no_carry hl hv ?_).2
  have h1 := nv_lt xs hX
  rw [hn] at h1
  have h3 := pow_two_le (b := 18446744073709551616) (m := n + 1) (by decide) (by omega)
  rw [Nat.add_sub_cancel] at h3
  omega
/-- How many words the number of so many bytes has. -/
theorem read_len {xs : List Nat} {n M : Nat} (hb : ∀ x, x ∈ xs → x < 256) (hn : xs.length = n) (hl : n ≤ M) : (dig 18446744073709551616 (nv 256 xs)).length ≤ M := by
  refine Nat.le_trans (dig_length (k := n) (by decide) ?_) hl
  refine Nat.lt_of_lt_of_le (nv_lt xs hb) ?_
  rw [hn]
  exact Nat.pow_le_pow_left (by decide) n
theorem read_len2 {xs : List Nat} {n M B : Nat} (hb : ∀ x, x ∈ xs → x < 256) (hn : xs.length = n) (hl : n ≤ M) : (dig 18446744073709551616 (nv 256 xs - B)).length ≤ M := by
  refine Nat.le_trans (dig_length (k := n) (by decide) ?_) hl
  refine Nat.lt_of_le_of_lt (Nat.sub_le _ _) (Nat.lt_of_lt_of_le (nv_lt xs hb) ?_)
  rw [hn]
  exact Nat.pow_le_pow_left (by decide) n
theorem cmpI_nonneg {x y : Nat} (h : 0 ≤ cmpI x y) : y ≤ x := by
  unfold cmpI at h
  split at h
  · omega
  · omega
theorem cmpI_neg {x y : Nat} (h : ¬ 0 ≤ cmpI x y) : x < y := by
  unfold cmpI at h
  split at h
  · assumption
  · split at h <;> omega
def modL (x y : Nat) : List Nat := if y = 0 then [] else dig 256 (x % y)
def modE (y : Nat) : Int := if y = 0 then 20 else 0
theorem nv_getD {b : Nat} {xs : List Nat} (h : ∀ x, x ∈ xs → x < b) (hb : 0 < b) (i : Nat) : nv b xs / b ^ i % b = xs.getD i 0 := by
  have hp : 0 < b ^ i := Nat.pow_pos hb
  rcases Nat.lt_or_ge i xs.length with q | q
  · rw [nv_split b xs i (by omega), nv_at, Nat.add_mul_div_left _ _ hp]
    have h1 := nv_lt (xs.take i) (fun x hx => h x (List.mem_of_mem_take hx))
    rw [List.length_take, Nat.min_eq_left (by omega)] at h1
    rw [Nat.div_eq_of_lt h1, Nat.zero_add, Nat.add_mul_mod_self_left, Nat.mod_eq_of_lt (getD_lt hb h i)]
  · rw [getD_ge q]
    have h1 := nv_lt xs h
    have h2 : b ^ xs.length ≤ b ^ i := Nat.pow_le_pow_right hb q
    rw [Nat.div_eq_of_lt (by omega), Nat.zero_mod]
theorem bit_at (X j : Nat) : (dig 18446744073709551616 X).getD (j / 64) 0 / 2 ^ (j % 64) &&& 1 = X / 2 ^ j % 2 := by
  have h := nv_getD (dig_lt (b := 18446744073709551616) (by decide) X) (by decide) (j / 64)
  rw [nv_dig (by decide)] at h
  rw [← h, Nat.and_one_is_mod]
  have e : (2 : Nat) ^ j = 18446744073709551616 ^ (j / 64) * 2 ^ (j % 64) := by
    rw [show (18446744073709551616 : Nat) = 2 ^ 64 from rfl, ← Nat.pow_mul, ← Nat.pow_add]
    congr 1; omega
  rw [e, ← Nat.div_div_eq_div_mul]
  generalize X / 18446744073709551616 ^ (j / 64) = y
  rw [show (18446744073709551616 : Nat) = 2 ^ (j % 64) * 2 ^ (64 - j % 64) by rw [← Nat.pow_add, show j % 64 + (64 - j % 64) = 64 by omega], Nat.mod_mul_right_div_self]
  obtain ⟨q, hq⟩ : ∃ q, 64 - j % 64 = q + 1 := ⟨63 - j % 64, by omega⟩
  rw [hq, Nat.pow_succ, Nat.mul_comm, Nat.mod_mul_right_mod]
theorem mod_init {X Y : Nat} (hY : 0 < Y) : 0 = X / 2 ^ (64 * (dig 18446744073709551616 X).length) % Y := by
  have h := nv_lt _ (dig_lt (b := 18446744073709551616) (by decide) X)
  rw [nv_dig (by decide), show (18446744073709551616 : Nat) ^ (dig 18446744073709551616 X).length = 2 ^ (64 * (dig 18446744073709551616 X).length) by rw [Nat.pow_mul]] at h
  rw [Nat.div_eq_of_lt h, Nat.zero_mod]
theorem mod_step {X Y R j : Nat} (hR : R < Y) (hv : R = X / 2 ^ (j + 1) % Y) : (2 * R + X / 2 ^ j % 2) % Y = X / 2 ^ j % Y ∧ (Y ≤ 2 * R + X / 2 ^ j % 2 → 2 * R + X / 2 ^ j % 2 - Y < Y) ∧
    (Y ≤ 2 * R + X / 2 ^ j % 2 → 2 * R + X / 2 ^ j % 2 - Y = X / 2 ^ j % Y) ∧ (2 * R + X / 2 ^ j % 2 < Y → 2 * R + X / 2 ^ j % 2 = X / 2 ^ j % Y) := by
  have e : X / 2 ^ (j + 1) = X / 2 ^ j / 2 := by rw [Nat.pow_succ, Nat.div_div_eq_div_mul]
  have key : (2 * R + X / 2 ^ j % 2) % Y = X / 2 ^ j % Y := by
    rw [hv, e]
    have h := Nat.mod_add_div (X / 2 ^ j) 2
    generalize X / 2 ^ j = z at *
    conv => rhs; rw [← h]
    rw [Nat.add_comm (z % 2), Nat.add_mod, Nat.mul_mod, Nat.mod_mod, ← Nat.mul_mod, ← Nat.add_mod]
  have hb : X / 2 ^ j % 2 ≤ 1 := by have := Nat.mod_lt (X / 2 ^ j) (y := 2) (by decide); omega
  clear hv e
  generalize X / 2 ^ j % 2 = b at *
  generalize X / 2 ^ j % Y = w at *
  refine ⟨key, fun h => by omega, fun h => ?_, fun h => ?_⟩
  · rw [← key, Nat.mod_eq_sub_mod h, Nat.mod_eq_of_lt (a := 2 * R + b - Y) (by omega)]
  · rw [← key, Nat.mod_eq_of_lt (a := 2 * R + b) h]
theorem dig_len_lt {ys : List Nat} {n M R : Nat} (hb : ∀ x, x ∈ ys → x < 256) (hn : ys.length = n) (hl : n ≤ M) (hR : R < nv 256 ys) : (dig 18446744073709551616 R).length ≤ M := by
  refine Nat.le_trans (dig_length (k := n) (by decide) ?_) hl
  refine Nat.lt_of_lt_of_le (Nat.lt_trans hR (nv_lt ys hb)) ?_
  rw [hn]
  exact Nat.pow_le_pow_left (by decide) n
theorem dig_len_dbl {ys : List Nat} {n M R b : Nat} (hb : ∀ x, x ∈ ys → x < 256) (hn : ys.length = n) (hl : n ≤ M) (hR : R < nv 256 ys) : (dig 18446744073709551616 (2 * R + b % 2)).length ≤ M + 1 := by
  refine Nat.le_trans (dig_length (k := n + 1) (by decide) ?_) (by omega)
  have h1 := Nat.lt_trans hR (nv_lt ys hb)
  rw [hn] at h1
  have h2 : 256 ^ n ≤ 18446744073709551616 ^ n := Nat.pow_le_pow_left (by decide) n
  have h3 := pow_two_le (b := 18446744073709551616) (m := n + 1) (by decide) (by omega)
  rw [Nat.add_sub_cancel] at h3
  omega
theorem dig_len0 (x : Nat) (h : (dig 18446744073709551616 x).length = 0) : x = 0 := ((dig_spec (b := 18446744073709551616) (by decide) x).2.2.2).1 (List.eq_nil_of_length_eq_zero h)
theorem dig_pos {x : Nat} (h : ¬ ((dig 18446744073709551616 x).length : Int) = 0) : 0 < x := by
  rcases Nat.eq_zero_or_pos x with q | q
  · subst q; exact absurd (by rw [(dig_spec (b := 18446744073709551616) (by decide) 0).2.2.2.2 rfl]; rfl) h
  · exact q
theorem and_mask (x : Nat) : x &&& 4294967295 = x % 4294967296 := Nat.and_two_pow_sub_one_eq_mod x 32
theorem mul64_hi {x y : Nat} (hx : x < 18446744073709551616) (hy : y < 18446744073709551616) : ((((((x / 2 ^ 32) * (y / 2 ^ 32) % 18446744073709551616) + (((((x / 2 ^ 32) * (y &&& 4294967295) % 18446744073709551616) + (((x &&& 4294967295) * (y &&& 4294967295) % 18446744073709551616) / 2 ^ 32)) % 18446744073709551616) / 2 ^ 32)) % 18446744073709551616) + ((((((((x / 2 ^ 32) * (y &&& 4294967295) % 18446744073709551616) + (((x &&& 4294967295) * (y &&& 4294967295) % 18446744073709551616) / 2 ^ 32)) % 18446744073709551616) &&& 4294967295) + ((x &&& 4294967295) * (y / 2 ^ 32) % 18446744073709551616)) % 18446744073709551616) / 2 ^ 32)) % 18446744073709551616) = x * y / 18446744073709551616 := by
  simp only [and_mask, show (2 : Nat) ^ 32 = 4294967296 from rfl]
  have ex := Nat.mod_add_div x 4294967296
  have ey := Nat.mod_add_div y 4294967296
  have hx1 : x / 4294967296 ≤ 4294967295 := by omega
  have hy1 : y / 4294967296 ≤ 4294967295 := by omega
  have hx0 : x % 4294967296 ≤ 4294967295 := by omega
  have hy0 : y % 4294967296 ≤ 4294967295 := by omega
  generalize x / 4294967296 = x1 at *
  generalize x % 4294967296 = x0 at *
  generalize y / 4294967296 = y1 at *
  generalize y % 4294967296 = y0 at *
  subst ex ey
  have e : (x0 + 4294967296 * x1) * (y0 + 4294967296 * y1) = x0 * y0 + 4294967296 * (x1 * y0 + x0 * y1) + 18446744073709551616 * (x1 * y1) := by
    rw [Nat.add_mul, Nat.mul_add, Nat.mul_add, Nat.mul_add]
    rw [show x0 * (4294967296 * y1) = 4294967296 * (x0 * y1) by rw [← Nat.mul_assoc, Nat.mul_comm x0, Nat.mul_assoc], show 4294967296 * x1 * y0 = 4294967296 * (x1 * y0) by rw [Nat.mul_assoc],
      show 4294967296 * x1 * (4294967296 * y1) = 18446744073709551616 * (x1 * y1) by rw [Nat.mul_assoc, ← Nat.mul_assoc x1, Nat.mul_comm x1, Nat.mul_assoc, ← Nat.mul_assoc]]
    omega
  rw [e]
  have b1 : x1 * y1 ≤ 4294967295 * 4294967295 := Nat.mul_le_mul hx1 hy1
  have b2 : x1 * y0 ≤ 4294967295 * 4294967295 := Nat.mul_le_mul hx1 hy0
  have b3 : x0 * y1 ≤ 4294967295 * 4294967295 := Nat.mul_le_mul hx0 hy1
  have b4 : x0 * y0 ≤ 4294967295 * 4294967295 := Nat.mul_le_mul hx0 hy0
  generalize x1 * y1 = a at *
  generalize x1 * y0 = b at *
  generalize x0 * y1 = c at *
  generalize x0 * y0 = d at *
  omega
end Go.Proofs.Ytnagkhofkjjajaa
