/- 2^255 - 19 is a prime, 2 makes all its residues. Plain, no statement of the claim. -/
import Derived.KernelRfl
/- Numbers: powers of a root make all residues of a prime; primes by certificates. Plain, no statement of the claim. -/
set_option linter.unusedVariables false
namespace Go.Proofs.Ytmlmbolcblafmaa
/-! ### Powers by squaring, for the kernel -/
def pwF (m : Nat) : Nat → Nat → Nat → Nat
  | 0, _, _ => 1 % m
  | k + 1, b, e => if e % 2 = 1 then pwF m k (b * b % m) (e / 2) * b % m else pwF m k (b * b % m) (e / 2)
theorem pwF_eq (m : Nat) : ∀ k b e, e < 2 ^ k → pwF m k b e = b ^ e % m := by
  intro k
  induction k with
  | zero => intro b e h; rw [show e = 0 by simpa using h]; rfl
  | succ k ih =>
    intro b e h
    have h2 : e / 2 < 2 ^ k := by rw [Nat.pow_succ] at h; omega
    unfold pwF
    rw [ih _ _ h2, ← Nat.pow_mod, ← Nat.pow_two, ← Nat.pow_mul]
    split
    · rename_i q
      rw [Nat.mul_mod, Nat.mod_mod, ← Nat.mul_mod, ← Nat.pow_succ]
      congr 2; omega
    · congr 2; omega
/-! ### Primes -/
def IsP (n : Nat) : Prop := 2 ≤ n ∧ ∀ d, d ∣ n → d = 1 ∨ d = n
theorem IsP.two {n : Nat} (h : IsP n) : 2 ≤ n := h.1
theorem IsP.mul {p a b : Nat} (h : IsP p) (hd : p ∣ a * b) : p ∣ a ∨ p ∣ b := by
  rcases h.2 _ (Nat.gcd_dvd_left p a) with q | q
  · exact .inr (Nat.Coprime.dvd_of_dvd_mul_left q hd)
  · exact .inl (q ▸ Nat.gcd_dvd_right p a)
theorem exP : ∀ n, 2 ≤ n → ∃ p, IsP p ∧ p ∣ n := by
  intro n
  induction n using Nat.strongRecOn with
  | ind n ih =>
    intro h
    by_cases q : IsP n
    · exact ⟨n, q, Nat.dvd_refl n⟩
    · have : ∃ d, d ∣ n ∧ d ≠ 1 ∧ d ≠ n := Classical.byContradiction fun hn => q ⟨h, fun d hd => Classical.byContradiction fun hx => hn ⟨d, hd, fun e => hx (.inl e), fun e => hx (.inr e)⟩⟩
      obtain ⟨d, hd, h1, h2⟩ := this
      have hl := Nat.le_of_dvd (by omega) hd
      have h0 : d ≠ 0 := fun e => by rw [e] at hd; have := Nat.eq_zero_of_zero_dvd hd; omega
      obtain ⟨p, hp, hpd⟩ := ih d (by omega) (by omega)
      exact ⟨p, hp, Nat.dvd_trans hpd hd⟩
def prodL : List Nat → Nat
  | [] => 1
  | x :: r => x * prodL r
theorem in_prod {p : Nat} (h : IsP p) : ∀ {l : List Nat}, (∀ q, q ∈ l → IsP q) → p ∣ prodL l → p ∈ l
  | [], _, hd => by have := Nat.le_of_dvd (by decide) hd; have := h.1; simp [prodL] at *; omega
  | x :: r, hl, hd => by
    rcases h.mul hd with q | q
    · rcases (hl x (List.mem_cons_self ..)).2 p q with e | e
      · have := h.1; omega
      · rw [e]; exact List.mem_cons_self ..
    · exact List.mem_cons_of_mem _ (in_prod h (fun q hq => hl q (List.mem_cons_of_mem _ hq)) q)
/-- no divisor from 2 to k + 1 -/
def trB (n : Nat) : Nat → Bool
  | 0 => true
  | k + 1 => trB n k && !(Nat.beq (n % (k + 2)) 0)
theorem trB_ok {n : Nat} : ∀ {k : Nat}, trB n k = true → ∀ d, 2 ≤ d → d ≤ k + 1 → n % d ≠ 0
  | 0, _, d, h1, h2 => by omega
  | k + 1, h, d, h1, h2 => by
    unfold trB at h
    rw [Bool.and_eq_true] at h
    rcases Nat.lt_or_ge d (k + 2) with q | q
    · exact trB_ok h.1 d h1 (by omega)
    · have : d = k + 2 := by omega
      subst this
      intro e
      rw [e] at h
      exact absurd h.2 (by decide)
theorem IsP.small {n : Nat} (k : Nat) (h2 : 2 ≤ n) (hk : n < (k + 2) * (k + 2)) (h : trB n k = true) : IsP n := by
  refine ⟨h2, fun d hd => Classical.byContradiction fun hx => ?_⟩
  obtain ⟨e, rfl⟩ := hd
  have hd0 : d ≠ 0 := fun q => by subst q; omega
  have he0 : e ≠ 0 := fun q => by subst q; omega
  have hd1 : d ≠ 1 := fun q => hx (.inl q)
  have he1 : e ≠ 1 := fun q => hx (.inr (by rw [q, Nat.mul_one]))
  rcases Nat.lt_or_ge d (k + 2) with q | q
  · exact trB_ok h d (by omega) (by omega) (Nat.mul_mod_right d e)
  · rcases Nat.lt_or_ge e (k + 2) with q' | q'
    · exact trB_ok h e (by omega) (by omega) (Nat.mul_mod_left d e)
    · have := Nat.mul_le_mul q q'; omega
/-! ### Powers of one number -/
section
variable {n g : Nat}
theorem cg_mul {a b c d : Nat} (h : a % n = b % n) (k : c % n = d % n) : a * c % n = b * d % n := by rw [Nat.mul_mod, h, k, ← Nat.mul_mod]
theorem cg_pow {a b : Nat} (h : a % n = b % n) (e : Nat) : a ^ e % n = b ^ e % n := by rw [Nat.pow_mod, h, ← Nat.pow_mod]
theorem pw_one {a : Nat} (hn : 1 < n) (h : a % n = 1) (e : Nat) : a ^ e % n = 1 := by
  rw [Nat.pow_mod, h, Nat.one_pow, Nat.mod_eq_of_lt hn]
theorem pw_mod (hn : 1 < n) {a b : Nat} (ha : g ^ a % n = 1) (hb : g ^ b % n = 1) : g ^ (a % b) % n = 1 := by
  have e : a = b * (a / b) + a % b := (Nat.div_add_mod a b).symm
  rw [e, Nat.pow_add, Nat.pow_mul, Nat.mul_mod, pw_one hn hb, Nat.one_mul, Nat.mod_mod] at ha
  exact ha
theorem pw_gcd (hn : 1 < n) : ∀ a b : Nat, g ^ a % n = 1 → g ^ b % n = 1 → g ^ (Nat.gcd a b) % n = 1 := by
  intro a
  induction a using Nat.strongRecOn with
  | ind a ih =>
    intro b ha hb
    by_cases q : a = 0
    · subst q; rw [Nat.gcd_zero_left]; exact hb
    · rw [Nat.gcd_rec]
      exact ih (b % a) (Nat.mod_lt _ (by omega)) a (pw_mod hn hb ha) ha
/-- the order of g is n - 1 -/
def Ord (n g : Nat) : Prop := 1 < n ∧ g ^ (n - 1) % n = 1 ∧ ∀ d, 0 < d → d < n - 1 → g ^ d % n ≠ 1
theorem Ord.of (hn : 1 < n) (fs : List Nat) (hfs : ∀ q, q ∈ fs → IsP q) (hp : prodL fs = n - 1) (h1 : g ^ (n - 1) % n = 1) (hq : ∀ q, q ∈ fs → g ^ ((n - 1) / q) % n ≠ 1) : Ord n g := by
  refine ⟨hn, h1, fun d h0 hd hx => ?_⟩
  have he := pw_gcd hn d (n - 1) hx h1
  obtain ⟨t, ht⟩ := Nat.gcd_dvd_right d (n - 1)
  have hle : Nat.gcd d (n - 1) ≤ d := Nat.gcd_le_left _ h0
  generalize Nat.gcd d (n - 1) = e at he ht hle
  have ht2 : 2 ≤ t := by
    rcases Nat.lt_or_ge t 2 with q | q
    · have : t = 0 ∨ t = 1 := by omega
      rcases this with rfl | rfl <;> omega
    · exact q
  obtain ⟨r, hr, u, hu⟩ := exP t ht2
  have hmem : r ∈ fs := in_prod hr hfs (by rw [hp, ht, hu]; exact ⟨e * u, by rw [Nat.mul_left_comm]⟩)
  have hr0 : 0 < r := by have := hr.1; omega
  have : (n - 1) / r = e * u := by
    rw [ht, hu, Nat.mul_left_comm, Nat.mul_div_cancel_left _ hr0]
  exact hq r hmem (by rw [this, Nat.pow_mul]; exact pw_one hn he u)
theorem Ord.back (h : Ord n g) {i : Nat} (hi : i ≤ n - 1) : g ^ i * g ^ (n - 1 - i) % n = 1 := by
  rw [← Nat.pow_add, show i + (n - 1 - i) = n - 1 by omega]; exact h.2.1
theorem Ord.nz (h : Ord n g) {i : Nat} (hi : i ≤ n - 1) : g ^ i % n ≠ 0 := fun e => by
  have := h.back hi
  rw [Nat.mul_mod, e, Nat.zero_mul, Nat.zero_mod] at this
  cases this
theorem Ord.inj (h : Ord n g) : ∀ {i j : Nat}, i < j → j < n - 1 → g ^ i % n ≠ g ^ j % n := fun {i j} hij hj e => by
  have h1 := h.back (i := i) (by omega)
  have h2 : g ^ j * g ^ (n - 1 - i) % n = 1 := (cg_mul e.symm (rfl : g ^ (n - 1 - i) % n = _)).trans h1
  rw [← Nat.pow_add, show j + (n - 1 - i) = (n - 1) + (j - i) by omega, Nat.pow_add, Nat.mul_mod, h.2.1, Nat.one_mul, Nat.mod_mod] at h2
  exact h.2.2 (j - i) (by omega) (by omega) h2
end
/-- as many pigeons as holes -/
theorem pigeon : ∀ (n : Nat) (f : Nat → Nat), (∀ i, i < n → f i < n) → (∀ i j, i < j → j < n → f i ≠ f j) → ∀ y, y < n → ∃ i, i < n ∧ f i = y := by
  intro n
  induction n with
  | zero => intro f _ _ y hy; omega
  | succ n ih =>
    intro f hf hinj y hy
    let g : Nat → Nat := fun i => if f i = n then f n else f i
    have hg : ∀ i, i < n → g i < n := fun i hi => by
      have h1 := hf i (by omega)
      have h2 := hf n (by omega)
      show (if f i = n then f n else f i) < n
      split
      · rename_i q
        have := hinj i n hi (by omega)
        omega
      · omega
    have hgi : ∀ i j, i < j → j < n → g i ≠ g j := fun i j hij hj => by
      have h1 := hinj i j hij (by omega)
      have h2 := hinj i n (by omega) (by omega)
      have h3 := hinj j n (by omega) (by omega)
      show (if f i = n then f n else f i) ≠ (if f j = n then f n else f j)
      split <;> split <;> omega
    have key := ih g hg hgi
    by_cases hyn : y = n
    · apply Classical.byContradiction
      intro hno
      have hall : ∀ i, i ≤ n → f i ≠ n := fun i hi e => hno ⟨i, by omega, by omega⟩
      obtain ⟨i, hi, e⟩ := key (f n) (by have := hf n (by omega); have := hall n (by omega); omega)
      have e : (if f i = n then f n else f i) = f n := e
      rw [if_neg (hall i (by omega))] at e
      exact hinj i n hi (by omega) e
    · obtain ⟨i, hi, e⟩ := key y (by omega)
      have e : (if f i = n then f n else f i) = y := e
      split at e
      · exact ⟨n, by omega, e⟩
      · exact ⟨i, by omega, e⟩
theorem Ord.all {n g : Nat} (h : Ord n g) {a : Nat} (ha : a % n ≠ 0) : ∃ k, k < n - 1 ∧ a % n = g ^ k % n := by
  have hn := h.1
  have hlt : a % n < n := Nat.mod_lt _ (by omega)
  obtain ⟨i, hi, e⟩ := pigeon (n - 1) (fun i => g ^ i % n - 1)
    (fun i hi => by
      have h1 : g ^ i % n < n := Nat.mod_lt _ (by omega)
      have := h.nz (i := i) (by omega)
      show g ^ i % n - 1 < n - 1
      omega)
    (fun i j hij hj => by
      have h1 := h.nz (i := i) (by omega)
      have h2 := h.nz (i := j) (by omega)
      have h3 := h.inj hij hj
      show g ^ i % n - 1 ≠ g ^ j % n - 1
      omega) (a % n - 1) (by omega)
  have e : g ^ i % n - 1 = a % n - 1 := e
  have h1 := h.nz (i := i) (by omega)
  exact ⟨i, hi, by omega⟩
theorem Ord.prime {n g : Nat} (h : Ord n g) : IsP n := by
  have hn := h.1
  refine ⟨by omega, fun d hd => ?_⟩
  have hl := Nat.le_of_dvd (by omega) hd
  have h0 : d ≠ 0 := fun e => by rw [e] at hd; have := Nat.eq_zero_of_zero_dvd hd; omega
  rcases Nat.eq_or_lt_of_le hl with q | q
  · exact .inr q
  · obtain ⟨k, hk, e⟩ := h.all (a := d) (by rw [Nat.mod_eq_of_lt q]; exact h0)
    have h1 : d * g ^ (n - 1 - k) % n = 1 := (cg_mul e (rfl : g ^ (n - 1 - k) % n = _)).trans (h.back (by omega))
    have h2 : d ∣ d * g ^ (n - 1 - k) % n := (Nat.dvd_mod_iff hd).2 (Nat.dvd_mul_right ..)
    rw [h1] at h2
    exact .inl (Nat.dvd_one.1 h2)
/-- Fermat's little theorem -/
theorem Ord.fermat {n g : Nat} (h : Ord n g) {a : Nat} (ha : a % n ≠ 0) : a ^ (n - 1) % n = 1 := by
  obtain ⟨k, _, e⟩ := h.all ha
  rw [cg_pow e, ← Nat.pow_mul, Nat.mul_comm, Nat.pow_mul]
  exact pw_one h.1 h.2.1 k
/-- a certificate, checked by the kernel -/
def certB (n g K : Nat) (fs : List Nat) : Bool := Nat.ble 2 n && Nat.beq (prodL fs) (n - 1) && Nat.blt n (2 ^ K) && Nat.beq (pwF n K g (n - 1)) 1 && fs.all (fun q => !(Nat.beq (pwF n K g ((n - 1) / q)) 1))
theorem Ord.cert {n g : Nat} (K : Nat) (fs : List Nat) (hfs : ∀ q, q ∈ fs → IsP q) (h : certB n g K fs = true) : Ord n g := by
  unfold certB at h
  simp only [Bool.and_eq_true, List.all_eq_true] at h
  obtain ⟨⟨⟨⟨h1, h2⟩, h3⟩, h4⟩, h5⟩ := h
  have h1 := Nat.le_of_ble_eq_true h1
  have h2 := Nat.eq_of_beq_eq_true h2
  have h3 : n < 2 ^ K := by simpa using h3
  have h4 := Nat.eq_of_beq_eq_true h4
  rw [pwF_eq _ _ _ _ (by omega)] at h4
  refine Ord.of (by omega) fs hfs h2 h4 fun q hq e => ?_
  have h6 := h5 q hq
  rw [pwF_eq _ _ _ _ (Nat.lt_of_le_of_lt (Nat.div_le_self _ _) (by omega)), e] at h6
  exact absurd h6 (by decide)
end Go.Proofs.Ytmlmbolcblafmaa

/- 2^255 - 19 is a prime, 2 makes all its residues. Plain, no statement of the claim. -/
set_option linter.unusedVariables false
namespace Go.Proofs.Ytmlmbolcblafmaa
theorem isP_2 : IsP 2 := .small 0 (by decide) (by decide) (by decide +kernel)
theorem isP_37853 : IsP 37853 := .small 193 (by decide) (by decide) (by decide +kernel)
theorem ord_75707 : Ord 75707 2 := .cert 17 [2, 37853] (List.forall_mem_cons.2 ⟨isP_2, (List.forall_mem_cons.2 ⟨isP_37853, (List.forall_mem_nil _)⟩)⟩) (by decide +kernel)
theorem isP_75707 : IsP 75707 := ord_75707.prime
theorem isP_3 : IsP 3 := .small 0 (by decide) (by decide) (by decide +kernel)
theorem isP_7 : IsP 7 := .small 1 (by decide) (by decide) (by decide +kernel)
theorem isP_131 : IsP 131 := .small 10 (by decide) (by decide) (by decide +kernel)
theorem ord_132049 : Ord 132049 26 := .cert 18 [2, 2, 2, 2, 3, 3, 7, 131] (List.forall_mem_cons.2 ⟨isP_2, (List.forall_mem_cons.2 ⟨isP_2, (List.forall_mem_cons.2 ⟨isP_2, (List.forall_mem_cons.2 ⟨isP_2, (List.forall_mem_cons.2 ⟨isP_3, (List.forall_mem_cons.2 ⟨isP_3, (List.forall_mem_cons.2 ⟨isP_7, (List.forall_mem_cons.2 ⟨isP_131, (List.forall_mem_nil _)⟩)⟩)⟩)⟩)⟩)⟩)⟩)⟩) (by decide +kernel)
theorem isP_132049 : IsP 132049 := ord_132049.prime
theorem isP_5 : IsP 5 := .small 1 (by decide) (by decide) (by decide +kernel)
theorem isP_1723 : IsP 1723 := .small 40 (by decide) (by decide) (by decide +kernel)
theorem ord_430751 : Ord 430751 17 := .cert 19 [2, 5, 5, 5, 1723] (List.forall_mem_cons.2 ⟨isP_2, (List.forall_mem_cons.2 ⟨isP_5, (List.forall_mem_cons.2 ⟨isP_5, (List.forall_mem_cons.2 ⟨isP_5, (List.forall_mem_cons.2 ⟨isP_1723, (List.forall_mem_nil _)⟩)⟩)⟩)⟩)⟩) (by decide +kernel)
theorem isP_430751 : IsP 430751 := ord_430751.prime
theorem isP_97 : IsP 97 := .small 8 (by decide) (by decide) (by decide +kernel)
theorem isP_419 : IsP 419 := .small 19 (by decide) (by decide) (by decide +kernel)
theorem ord_569003 : Ord 569003 2 := .cert 20 [2, 7, 97, 419] (List.forall_mem_cons.2 ⟨isP_2, (List.forall_mem_cons.2 ⟨isP_7, (List.forall_mem_cons.2 ⟨isP_97, (List.forall_mem_cons.2 ⟨isP_419, (List.forall_mem_nil _)⟩)⟩)⟩)⟩) (by decide +kernel)
theorem isP_569003 : IsP 569003 := ord_569003.prime
theorem isP_43 : IsP 43 := .small 5 (by decide) (by decide) (by decide +kernel)
theorem isP_3727 : IsP 3727 := .small 60 (by decide) (by decide) (by decide +kernel)
theorem ord_1923133 : Ord 1923133 2 := .cert 21 [2, 2, 3, 43, 3727] (List.forall_mem_cons.2 ⟨isP_2, (List.forall_mem_cons.2 ⟨isP_2, (List.forall_mem_cons.2 ⟨isP_3, (List.forall_mem_cons.2 ⟨isP_43, (List.forall_mem_cons.2 ⟨isP_3727, (List.forall_mem_nil _)⟩)⟩)⟩)⟩)⟩) (by decide +kernel)
theorem isP_1923133 : IsP 1923133 := ord_1923133.prime
theorem isP_103 : IsP 103 := .small 9 (by decide) (by decide) (by decide +kernel)
theorem isP_991 : IsP 991 := .small 30 (by decide) (by decide) (by decide +kernel)
theorem ord_8574133 : Ord 8574133 2 := .cert 24 [2, 2, 3, 7, 103, 991] (List.forall_mem_cons.2 ⟨isP_2, (List.forall_mem_cons.2 ⟨isP_2, (List.forall_mem_cons.2 ⟨isP_3, (List.forall_mem_cons.2 ⟨isP_7, (List.forall_mem_cons.2 ⟨isP_103, (List.forall_mem_cons.2 ⟨isP_991, (List.forall_mem_nil _)⟩)⟩)⟩)⟩)⟩)⟩) (by decide +kernel)
theorem isP_8574133 : IsP 8574133 := ord_8574133.prime
theorem isP_2437 : IsP 2437 := .small 48 (by decide) (by decide) (by decide +kernel)
theorem ord_2773320623 : Ord 2773320623 5 := .cert 32 [2, 2437, 569003] (List.forall_mem_cons.2 ⟨isP_2, (List.forall_mem_cons.2 ⟨isP_2437, (List.forall_mem_cons.2 ⟨isP_569003, (List.forall_mem_nil _)⟩)⟩)⟩) (by decide +kernel)
theorem isP_2773320623 : IsP 2773320623 := ord_2773320623.prime
theorem isP_13 : IsP 13 := .small 2 (by decide) (by decide) (by decide +kernel)
theorem ord_72106336199 : Ord 72106336199 7 := .cert 37 [2, 13, 2773320623] (List.forall_mem_cons.2 ⟨isP_2, (List.forall_mem_cons.2 ⟨isP_13, (List.forall_mem_cons.2 ⟨isP_2773320623, (List.forall_mem_nil _)⟩)⟩)⟩) (by decide +kernel)
theorem isP_72106336199 : IsP 72106336199 := ord_72106336199.prime
theorem isP_19 : IsP 19 := .small 3 (by decide) (by decide) (by decide +kernel)
theorem isP_47 : IsP 47 := .small 5 (by decide) (by decide) (by decide +kernel)
theorem isP_127 : IsP 127 := .small 10 (by decide) (by decide) (by decide +kernel)
theorem ord_1919519569386763 : Ord 1919519569386763 2 := .cert 51 [2, 3, 7, 19, 47, 47, 127, 8574133] (List.forall_mem_cons.2 ⟨isP_2, (List.forall_mem_cons.2 ⟨isP_3, (List.forall_mem_cons.2 ⟨isP_7, (List.forall_mem_cons.2 ⟨isP_19, (List.forall_mem_cons.2 ⟨isP_47, (List.forall_mem_cons.2 ⟨isP_47, (List.forall_mem_cons.2 ⟨isP_127, (List.forall_mem_cons.2 ⟨isP_8574133, (List.forall_mem_nil _)⟩)⟩)⟩)⟩)⟩)⟩)⟩)⟩) (by decide +kernel)
theorem isP_1919519569386763 : IsP 1919519569386763 := ord_1919519569386763.prime
theorem isP_31 : IsP 31 := .small 4 (by decide) (by decide) (by decide +kernel)
theorem isP_107 : IsP 107 := .small 9 (by decide) (by decide) (by decide +kernel)
theorem isP_223 : IsP 223 := .small 13 (by decide) (by decide) (by decide +kernel)
theorem isP_4153 : IsP 4153 := .small 63 (by decide) (by decide) (by decide +kernel)
theorem ord_31757755568855353 : Ord 31757755568855353 10 := .cert 55 [2, 2, 2, 3, 31, 107, 223, 4153, 430751] (List.forall_mem_cons.2 ⟨isP_2, (List.forall_mem_cons.2 ⟨isP_2, (List.forall_mem_cons.2 ⟨isP_2, (List.forall_mem_cons.2 ⟨isP_3, (List.forall_mem_cons.2 ⟨isP_31, (List.forall_mem_cons.2 ⟨isP_107, (List.forall_mem_cons.2 ⟨isP_223, (List.forall_mem_cons.2 ⟨isP_4153, (List.forall_mem_cons.2 ⟨isP_430751, (List.forall_mem_nil _)⟩)⟩)⟩)⟩)⟩)⟩)⟩)⟩)⟩) (by decide +kernel)
theorem isP_31757755568855353 : IsP 31757755568855353 := ord_31757755568855353.prime
theorem ord_75445702479781427272750846543864801 : Ord 75445702479781427272750846543864801 7 := .cert 116 [2, 2, 2, 2, 2, 3, 3, 5, 5, 75707, 72106336199, 1919519569386763] (List.forall_mem_cons.2 ⟨isP_2, (List.forall_mem_cons.2 ⟨isP_2, (List.forall_mem_cons.2 ⟨isP_2, (List.forall_mem_cons.2 ⟨isP_2, (List.forall_mem_cons.2 ⟨isP_2, (List.forall_mem_cons.2 ⟨isP_3, (List.forall_mem_cons.2 ⟨isP_3, (List.forall_mem_cons.2 ⟨isP_5, (List.forall_mem_cons.2 ⟨isP_5, (List.forall_mem_cons.2 ⟨isP_75707, (List.forall_mem_cons.2 ⟨isP_72106336199, (List.forall_mem_cons.2 ⟨isP_1919519569386763, (List.forall_mem_nil _)⟩)⟩)⟩)⟩)⟩)⟩)⟩)⟩)⟩)⟩)⟩)⟩) (by decide +kernel)
theorem isP_75445702479781427272750846543864801 : IsP 75445702479781427272750846543864801 := ord_75445702479781427272750846543864801.prime
theorem isP_353 : IsP 353 := .small 17 (by decide) (by decide) (by decide +kernel)
theorem isP_57467 : IsP 57467 := .small 238 (by decide) (by decide) (by decide +kernel)
theorem ord_74058212732561358302231226437062788676166966415465897661863160754340907 : Ord 74058212732561358302231226437062788676166966415465897661863160754340907 2 := .cert 236 [2, 3, 353, 57467, 132049, 1923133, 31757755568855353, 75445702479781427272750846543864801] (List.forall_mem_cons.2 ⟨isP_2, (List.forall_mem_cons.2 ⟨isP_3, (List.forall_mem_cons.2 ⟨isP_353, (List.forall_mem_cons.2 ⟨isP_57467, (List.forall_mem_cons.2 ⟨isP_132049, (List.forall_mem_cons.2 ⟨isP_1923133, (List.forall_mem_cons.2 ⟨isP_31757755568855353, (List.forall_mem_cons.2 ⟨isP_75445702479781427272750846543864801, (List.forall_mem_nil _)⟩)⟩)⟩)⟩)⟩)⟩)⟩)⟩) (by decide +kernel)
theorem isP_74058212732561358302231226437062788676166966415465897661863160754340907 : IsP 74058212732561358302231226437062788676166966415465897661863160754340907 := ord_74058212732561358302231226437062788676166966415465897661863160754340907.prime
theorem isP_65147 : IsP 65147 := .small 254 (by decide) (by decide) (by decide +kernel)
theorem ord_57896044618658097711785492504343953926634992332820282019728792003956564819949 : Ord 57896044618658097711785492504343953926634992332820282019728792003956564819949 2 := .cert 255 [2, 2, 3, 65147, 74058212732561358302231226437062788676166966415465897661863160754340907] (List.forall_mem_cons.2 ⟨isP_2, (List.forall_mem_cons.2 ⟨isP_2, (List.forall_mem_cons.2 ⟨isP_3, (List.forall_mem_cons.2 ⟨isP_65147, (List.forall_mem_cons.2 ⟨isP_74058212732561358302231226437062788676166966415465897661863160754340907, (List.forall_mem_nil _)⟩)⟩)⟩)⟩)⟩) (by decide +kernel)
theorem isP_57896044618658097711785492504343953926634992332820282019728792003956564819949 : IsP 57896044618658097711785492504343953926634992332820282019728792003956564819949 := ord_57896044618658097711785492504343953926634992332820282019728792003956564819949.prime
end Go.Proofs.Ytmlmbolcblafmaa
