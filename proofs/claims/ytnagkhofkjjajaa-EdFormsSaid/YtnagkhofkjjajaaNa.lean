/- Numbers as rows of digits, the lowest first: plain lemmas, no program in sight. -/
set_option linter.unusedVariables false
set_option linter.unusedSimpArgs false
namespace Go.Proofs.Ytnagkhofkjjajaa

/-- The number of a row of digits of base b. -/
def nv (b : Nat) : List Nat → Nat
  | [] => 0
  | x :: xs => x + b * nv b xs

@[simp] theorem nv_nil (b : Nat) : nv b [] = 0 := rfl
theorem nv_append (b : Nat) (xs ys : List Nat) : nv b (xs ++ ys) = nv b xs + b ^ xs.length * nv b ys := by
  induction xs with
  | nil => simp
  | cons x xs ih => simp only [List.cons_append, nv, ih, List.length_cons, Nat.pow_succ]; rw [Nat.mul_add, ← Nat.mul_assoc, Nat.mul_comm b (b ^ xs.length)]; omega
theorem nv_lt {b : Nat} (xs : List Nat) (h : ∀ x, x ∈ xs → x < b) : nv b xs < b ^ xs.length := by
  induction xs with
  | nil => simp
  | cons x xs ih =>
    have h1 := ih (fun y hy => h y (by simp [hy]))
    have h2 := h x (by simp)
    simp only [nv, List.length_cons, Nat.pow_succ]
    have : b * nv b xs + b ≤ b * b ^ xs.length := by
      have : b * (nv b xs + 1) ≤ b * b ^ xs.length := Nat.mul_le_mul_left _ h1
      rwa [Nat.mul_add, Nat.mul_one] at this
    rw [Nat.mul_comm (b ^ xs.length) b]
    omega
theorem nv_split (b : Nat) (xs : List Nat) (i : Nat) (h : i ≤ xs.length) : nv b xs = nv b (xs.take i) + b ^ i * nv b (xs.drop i) := by
  have := nv_append b (xs.take i) (xs.drop i)
  rw [List.take_append_drop, List.length_take, Nat.min_eq_left h] at this
  exact this
theorem drop_cons {xs : List Nat} {i : Nat} (h : i < xs.length) : xs.drop i = xs.getD i 0 :: xs.drop (i + 1) := by
  rw [List.drop_eq_getElem_cons h]
  simp [List.getD_eq_getElem?_getD, h]
theorem nv_at (b : Nat) (xs : List Nat) (i : Nat) : nv b (xs.drop i) = xs.getD i 0 + b * nv b (xs.drop (i + 1)) := by
  rcases Nat.lt_or_ge i xs.length with h | h
  · rw [drop_cons h]; rfl
  · rw [List.drop_eq_nil_of_le h, List.drop_eq_nil_of_le (by omega)]
    simp [List.getD_eq_getElem?_getD, List.getElem?_eq_none h]
theorem nv_take_succ (b : Nat) (xs : List Nat) (i : Nat) (h : i < xs.length) : nv b (xs.take (i + 1)) = nv b (xs.take i) + b ^ i * xs.getD i 0 := by
  rw [List.take_succ_eq_append_getElem h, nv_append, List.length_take, Nat.min_eq_left (by omega)]
  simp [nv, List.getD_eq_getElem?_getD, h]
/-- Above its end a row has noughts. -/
theorem nv_at' (b : Nat) (xs : List Nat) (i : Nat) : nv b (xs.take (i + 1)) = nv b (xs.take i) + b ^ i * xs.getD i 0 := by
  rcases Nat.lt_or_ge i xs.length with h | h
  · exact nv_take_succ b xs i h
  · rw [List.take_of_length_le (by omega), List.take_of_length_le h]
    simp [List.getD_eq_getElem?_getD, List.getElem?_eq_none h]
theorem nv_replicate (b n : Nat) : nv b (List.replicate n 0) = 0 := by
  induction n with
  | zero => rfl
  | succ n ih => simp [List.replicate_succ, nv, ih]
theorem nv_set (b : Nat) (xs : List Nat) (i v : Nat) (h : i < xs.length) : nv b (xs.set i v) + b ^ i * xs.getD i 0 = nv b xs + b ^ i * v := by
  rw [nv_split b (xs.set i v) i (by simp; omega), nv_split b xs i (by omega), List.take_set_of_le (Nat.le_refl i)]
  rw [nv_at b xs i, nv_at b (xs.set i v) i]
  have e1 : (xs.set i v).getD i 0 = v := by simp [List.getD_eq_getElem?_getD, h]
  have e2 : (xs.set i v).drop (i + 1) = xs.drop (i + 1) := List.drop_set_of_lt (by omega)
  rw [e1, e2, Nat.mul_add, Nat.mul_add]
  omega

/-- How long a row is without the noughts at its end. -/
def tlen : List Nat → Nat
  | [] => 0
  | x :: xs => match tlen xs with
    | 0 => if x = 0 then 0 else 1
    | k + 1 => k + 2
def trimL (xs : List Nat) : List Nat := xs.take (tlen xs)
/-- No nought at the end. -/
def Nm (xs : List Nat) : Prop := xs.length = 0 ∨ xs.getD (xs.length - 1) 0 ≠ 0
theorem tlen_le (xs : List Nat) : tlen xs ≤ xs.length := by
  induction xs with
  | nil => simp [tlen]
  | cons x xs ih =>
    simp only [tlen, List.length_cons]
    split
    · split <;> omega
    · omega
theorem tlen_spec : ∀ (xs : List Nat) (k : Nat), k ≤ xs.length → (∀ j, k ≤ j → xs.getD j 0 = 0) → (k = 0 ∨ xs.getD (k - 1) 0 ≠ 0) → tlen xs = k := by
  intro xs
  induction xs with
  | nil => intro k hk _ _; simp at hk; simp [tlen, hk]
  | cons x xs ih =>
    intro k hk h0 h1
    cases k with
    | zero =>
      have : tlen xs = 0 := ih 0 (by omega) (fun j _ => by simpa using h0 (j + 1) (by omega)) (.inl rfl)
      have hx : x = 0 := by simpa using h0 0 (by omega)
      simp [tlen, this, hx]
    | succ k =>
      have hk' : k ≤ xs.length := by simpa using hk
      cases k with
      | zero =>
        have : tlen xs = 0 := ih 0 (by omega) (fun j _ => by simpa using h0 (j + 1) (by omega)) (.inl rfl)
        have hx : x ≠ 0 := by
          rcases h1 with h1 | h1
          · cases h1
          · simpa using h1
        simp [tlen, this, hx]
      | succ k =>
        have : tlen xs = k + 1 := ih (k + 1) hk' (fun j hj => by simpa using h0 (j + 1) (by omega)) (.inr (by
          rcases h1 with h1 | h1
          · cases h1
          · simpa using h1))
        simp [tlen, this]
theorem tlen_above (xs : List Nat) : ∀ j, tlen xs ≤ j → xs.getD j 0 = 0 := by
  induction xs with
  | nil => intro j _; simp
  | cons x xs ih =>
    intro j hj
    simp only [tlen] at hj
    cases j with
    | zero =>
      split at hj
      · split at hj
        · rename_i h; simpa using h
        · omega
      · omega
    | succ j =>
      have : tlen xs ≤ j := by
        split at hj
        · omega
        · omega
      simpa using ih j this
theorem tlen_last (xs : List Nat) : tlen xs = 0 ∨ xs.getD (tlen xs - 1) 0 ≠ 0 := by
  induction xs with
  | nil => exact .inl rfl
  | cons x xs ih =>
    simp only [tlen]
    split
    · split
      · exact .inl rfl
      · rename_i h; exact .inr (by simpa using h)
    · rename_i k hk
      rw [hk] at ih
      rcases ih with ih | ih
      · cases ih
      · exact .inr (by simpa using ih)
theorem nv_zero {b : Nat} {xs : List Nat} (h : ∀ j, xs.getD j 0 = 0) : nv b xs = 0 := by
  induction xs with
  | nil => rfl
  | cons x xs ih =>
    have h0 : x = 0 := by simpa using h 0
    have h1 := ih (fun j => by simpa using h (j + 1))
    simp [nv, h0, h1]
theorem getD_drop (xs : List Nat) (i j : Nat) : (xs.drop i).getD j 0 = xs.getD (i + j) 0 := by simp [List.getD_eq_getElem?_getD]
theorem getD_take {xs : List Nat} {i j : Nat} (h : j < i) : (xs.take i).getD j 0 = xs.getD j 0 := by simp [List.getD_eq_getElem?_getD, List.getElem?_take, h]
theorem nv_trim (b : Nat) (xs : List Nat) : nv b (trimL xs) = nv b xs := by
  rw [nv_split b xs (tlen xs) (tlen_le xs), nv_zero (xs := xs.drop (tlen xs)) (fun j => by rw [getD_drop]; exact tlen_above xs _ (by omega))]
  simp [trimL]
theorem trimL_length (xs : List Nat) : (trimL xs).length = tlen xs := by simp [trimL, Nat.min_eq_left (tlen_le xs)]
theorem trimL_nm (xs : List Nat) : Nm (trimL xs) := by
  unfold Nm
  rw [trimL_length]
  rcases tlen_last xs with h | h
  · exact .inl h
  · rcases Nat.eq_zero_or_pos (tlen xs) with q | q
    · exact .inl q
    · exact .inr (by unfold trimL; rw [getD_take (by omega)]; exact h)
theorem trimL_mem {xs : List Nat} {b : Nat} (h : ∀ x, x ∈ xs → x < b) : ∀ x, x ∈ trimL xs → x < b := fun x hx => h x (List.mem_of_mem_take hx)
theorem nm_tlen {xs : List Nat} (h : Nm xs) : tlen xs = xs.length := by
  refine tlen_spec xs _ (Nat.le_refl _) (fun j hj => by simp [List.getD_eq_getElem?_getD, List.getElem?_eq_none hj]) h
theorem nm_trim {xs : List Nat} (h : Nm xs) : trimL xs = xs := by unfold trimL; rw [nm_tlen h]; simp

/-- The digits of a number. -/
def digF (b : Nat) : Nat → Nat → List Nat
  | 0, _ => []
  | k + 1, n => if n = 0 then [] else n % b :: digF b k (n / b)
def dig (b n : Nat) : List Nat := digF b (n.log2 + 1) n
theorem digF_spec {b : Nat} (hb : 2 ≤ b) : ∀ (k n : Nat), n < 2 ^ k → nv b (digF b k n) = n ∧ Nm (digF b k n) ∧ (∀ x, x ∈ digF b k n → x < b) ∧ (digF b k n = [] ↔ n = 0) := by
  intro k
  induction k with
  | zero =>
    intro n h
    have : n = 0 := (by simpa using h)
    subst this
    exact ⟨rfl, .inl rfl, by simp [digF], by simp [digF]⟩
  | succ k ih =>
    intro n h
    simp only [digF]
    by_cases h0 : n = 0
    · subst h0; exact ⟨rfl, .inl rfl, by simp, by simp⟩
    · rw [if_neg h0]
      have hlt : n / b < 2 ^ k := by
        rw [Nat.div_lt_iff_lt_mul (by omega)]
        have : 2 ^ (k + 1) ≤ 2 ^ k * b := by rw [Nat.pow_succ]; exact Nat.mul_le_mul_left _ hb
        omega
      obtain ⟨e1, e2, e3, e4⟩ := ih (n / b) hlt
      refine ⟨?_, ?_, ?_, by simp [h0]⟩
      · simp only [nv, e1]; exact Nat.mod_add_div n b
      · right
        by_cases hd : digF b k (n / b) = []
        · rw [hd]
          have := e4.1 hd
          have hm := Nat.mod_add_div n b
          rw [this] at hm
          simp at hm ⊢
          omega
        · rcases e2 with q | q
          · exact absurd (List.eq_nil_of_length_eq_zero q) hd
          · have hl : 0 < (digF b k (n / b)).length := List.length_pos_iff.2 hd
            simp only [List.length_cons, Nat.add_sub_cancel]
            obtain ⟨m, hm⟩ : ∃ m, (digF b k (n / b)).length = m + 1 := ⟨_, (Nat.sub_add_cancel hl).symm⟩
            rw [hm] at q ⊢
            simpa using q
      · intro x hx
        rcases List.mem_cons.1 hx with rfl | hx
        · exact Nat.mod_lt _ (by omega)
        · exact e3 x hx
theorem dig_spec {b : Nat} (hb : 2 ≤ b) (n : Nat) : nv b (dig b n) = n ∧ Nm (dig b n) ∧ (∀ x, x ∈ dig b n → x < b) ∧ (dig b n = [] ↔ n = 0) := digF_spec hb _ n Nat.lt_log2_self
theorem nv_dig {b : Nat} (hb : 2 ≤ b) (n : Nat) : nv b (dig b n) = n := (dig_spec hb n).1
theorem dig_nm {b : Nat} (hb : 2 ≤ b) (n : Nat) : Nm (dig b n) := (dig_spec hb n).2.1
theorem dig_lt {b : Nat} (hb : 2 ≤ b) (n : Nat) : ∀ x, x ∈ dig b n → x < b := (dig_spec hb n).2.2.1
theorem nm_cons {x : Nat} {xs : List Nat} (h : Nm (x :: xs)) : Nm xs := by
  unfold Nm at *
  rcases h with h | h
  · cases h
  · cases xs with
    | nil => exact .inl rfl
    | cons y ys => exact .inr (by simpa using h)
theorem nm_pos {b : Nat} (hb : 2 ≤ b) {xs : List Nat} (h : Nm xs) (h0 : nv b xs = 0) : xs = [] := by
  induction xs with
  | nil => rfl
  | cons x xs ih =>
    simp only [nv] at h0
    have hx : x = 0 := by omega
    have hxs : nv b xs = 0 := by
      have : b * nv b xs = 0 := by omega
      rcases Nat.mul_eq_zero.1 this with q | q
      · omega
      · exact q
    have := ih (nm_cons h) hxs
    subst this
    rcases h with h | h
    · cases h
    · simp [hx] at h
theorem nm_inj {b : Nat} (hb : 2 ≤ b) : ∀ {xs ys : List Nat}, Nm xs → Nm ys → (∀ x, x ∈ xs → x < b) → (∀ y, y ∈ ys → y < b) → nv b xs = nv b ys → xs = ys := by
  intro xs
  induction xs with
  | nil => intro ys _ h2 _ _ h; exact (nm_pos hb h2 h.symm).symm
  | cons x xs ih =>
    intro ys h1 h2 h3 h4 h
    cases ys with
    | nil => exact nm_pos hb h1 h
    | cons y ys =>
      simp only [nv] at h
      have hx := h3 x (by simp)
      have hy := h4 y (by simp)
      have e1 : x = y := by
        have := congrArg (· % b) h
        simp only [Nat.add_mul_mod_self_left] at this
        rwa [Nat.mod_eq_of_lt hx, Nat.mod_eq_of_lt hy] at this
      subst e1
      have e2 : nv b xs = nv b ys := Nat.eq_of_mul_eq_mul_left (by omega) (Nat.add_left_cancel h)
      rw [ih (nm_cons h1) (nm_cons h2) (fun z hz => h3 z (by simp [hz])) (fun z hz => h4 z (by simp [hz])) e2]
theorem eq_dig {b : Nat} (hb : 2 ≤ b) {xs : List Nat} (h : Nm xs) (hl : ∀ x, x ∈ xs → x < b) : xs = dig b (nv b xs) :=
  nm_inj hb h (dig_nm hb _) hl (dig_lt hb _) (nv_dig hb _).symm
theorem trimL_dig {b : Nat} (hb : 2 ≤ b) {xs : List Nat} (hl : ∀ x, x ∈ xs → x < b) : trimL xs = dig b (nv b xs) := by
  have := eq_dig hb (trimL_nm xs) (trimL_mem hl)
  rwa [nv_trim] at this
theorem nm_length {b : Nat} (hb : 2 ≤ b) {xs : List Nat} (h : Nm xs) {k : Nat} (hk : nv b xs < b ^ k) : xs.length ≤ k := by
  rcases Nat.lt_or_ge k xs.length with q | q
  · exfalso
    rcases h with h | h
    · omega
    · have hl : xs.length - 1 < xs.length := by omega
      have h2 : b ^ k ≤ b ^ (xs.length - 1) := Nat.pow_le_pow_right (by omega) (by omega)
      rw [nv_split b xs (xs.length - 1) (by omega), nv_at] at hk
      have h3 : 1 ≤ xs.getD (xs.length - 1) 0 := Nat.one_le_iff_ne_zero.2 h
      have h4 : b ^ (xs.length - 1) * 1 ≤ b ^ (xs.length - 1) * (xs.getD (xs.length - 1) 0 + b * nv b (xs.drop (xs.length - 1 + 1))) := Nat.mul_le_mul_left _ (by omega)
      omega
  · exact q
theorem dig_length {b : Nat} (hb : 2 ≤ b) {n k : Nat} (h : n < b ^ k) : (dig b n).length ≤ k := nm_length hb (dig_nm hb n) (by rw [nv_dig hb]; exact h)

/-- The order of two rows by their highest unlike digit. -/
theorem nv_cmp {b : Nat} {xs ys : List Nat} (hx : ∀ x, x ∈ xs → x < b) (hy : ∀ y, y ∈ ys → y < b) {i : Nat} (hi : ∀ j, i < j → xs.getD j 0 = ys.getD j 0) (h : xs.getD i 0 < ys.getD i 0) : nv b xs < nv b ys := by
  have tl : ∀ (zs : List Nat), (∀ z, z ∈ zs → z < b) → nv b (zs.take i) < b ^ i ∨ (zs.take i).length < i := by
    intro zs hz
    have := nv_lt (zs.take i) (fun z hz' => hz z (List.mem_of_mem_take hz'))
    rw [List.length_take] at this
    rcases Nat.lt_or_ge zs.length i with q | q
    · right; simp; omega
    · left; rwa [Nat.min_eq_left q] at this
  have hbpos : 0 < b := by
    rcases Nat.lt_or_ge i ys.length with q | q
    · exact Nat.lt_of_le_of_lt (Nat.zero_le _) (hy _ (List.getElem_mem q))
    · simp [List.getD_eq_getElem?_getD, List.getElem?_eq_none q] at h
  have tl' : ∀ (zs : List Nat), (∀ z, z ∈ zs → z < b) → nv b (zs.take i) < b ^ i := by
    intro zs hz
    have := nv_lt (zs.take i) (fun z hz' => hz z (List.mem_of_mem_take hz'))
    exact Nat.lt_of_lt_of_le this (Nat.pow_le_pow_right hbpos (by simp; omega))
  have sp : ∀ (zs : List Nat), nv b zs = nv b (zs.take i) + b ^ i * nv b (zs.drop i) := by
    intro zs
    rcases Nat.lt_or_ge zs.length i with q | q
    · rw [List.take_of_length_le (by omega), List.drop_eq_nil_of_le (by omega)]; simp
    · exact nv_split b zs i q
  rw [sp xs, sp ys, nv_at b xs i, nv_at b ys i]
  have hd : nv b (xs.drop (i + 1)) = nv b (ys.drop (i + 1)) := by
    have : ∀ (as bs : List Nat), (∀ j, as.getD j 0 = bs.getD j 0) → nv b as = nv b bs := by
      intro as
      induction as with
      | nil => intro bs h; exact (nv_zero (fun j => by simpa using (h j).symm)).symm
      | cons a as ih =>
        intro bs h
        cases bs with
        | nil => exact nv_zero (fun j => by simpa using h j)
        | cons c bs =>
          have h0 : a = c := by simpa using h 0
          have := ih bs (fun j => by simpa using h (j + 1))
          simp [nv, h0, this]
    exact this _ _ (fun j => by rw [getD_drop, getD_drop]; exact hi _ (by omega))
  rw [hd]
  have h1 := tl' xs hx
  have h2 : b ^ i * (xs.getD i 0 + b * nv b (ys.drop (i + 1))) + b ^ i ≤ b ^ i * (ys.getD i 0 + b * nv b (ys.drop (i + 1))) := by
    rw [← Nat.mul_succ]
    exact Nat.mul_le_mul_left _ (by omega)
  omega
theorem nv_ext {b : Nat} {xs ys : List Nat} (h : ∀ j, xs.getD j 0 = ys.getD j 0) : nv b xs = nv b ys := by
  induction xs generalizing ys with
  | nil => exact (nv_zero (fun j => by simpa using (h j).symm)).symm
  | cons a as ih =>
    cases ys with
    | nil => exact nv_zero (fun j => by simpa using h j)
    | cons c bs =>
      have h0 : a = c := by simpa using h 0
      have := ih (ys := bs) (fun j => by simpa using h (j + 1))
      simp [nv, h0, this]
theorem getD_lt {b : Nat} {xs : List Nat} (hb : 0 < b) (h : ∀ x, x ∈ xs → x < b) (j : Nat) : xs.getD j 0 < b := by
  rcases Nat.lt_or_ge j xs.length with q | q
  · simp [List.getD_eq_getElem?_getD, q]; exact h _ (List.getElem_mem q)
  · simpa [List.getD_eq_getElem?_getD, List.getElem?_eq_none q] using hb
theorem set_lt {b : Nat} {xs : List Nat} (h : ∀ x, x ∈ xs → x < b) {v : Nat} (hv : v < b) (i : Nat) : ∀ x, x ∈ xs.set i v → x < b := fun x hx => by
  rcases List.mem_or_eq_of_mem_set hx with q | q
  · exact h x q
  · rw [q]; exact hv
theorem getD_set (xs : List Nat) (i j v : Nat) (h : i < xs.length) : (xs.set i v).getD j 0 = if i = j then v else xs.getD j 0 := by
  simp only [List.getD_eq_getElem?_getD, List.getElem?_set]
  split
  · rename_i e; subst e; simp [h]
  · rfl
theorem trim_step {xs : List Nat} {k : Nat} (hz : ∀ j, k ≤ j → xs.getD j 0 = 0) (h : xs.getD (k - 1) 0 = 0) : ∀ j, k - 1 ≤ j → xs.getD j 0 = 0 := fun j hj => by
  rcases Nat.eq_or_lt_of_le hj with q | q
  · rw [← q]; exact h
  · exact hz j (by omega)
theorem getD_ge {xs : List Nat} {j : Nat} (h : xs.length ≤ j) : xs.getD j 0 = 0 := by simp [List.getD_eq_getElem?_getD, List.getElem?_eq_none h]
end Go.Proofs.Ytnagkhofkjjajaa
