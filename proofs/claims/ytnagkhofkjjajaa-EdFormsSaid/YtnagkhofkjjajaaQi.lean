/- 2^255 - 19 is a prime, 2 makes all its residues. Plain, no statement of the claim. -/
import Derived.KernelRfl
import Derived.Test.YtnagkhofkjjajaaTa
import Derived.Test.YtnagkhofkjjajaaNc
/- Numbers: powers of a root make all residues of a prime; primes by certificates. Plain, no statement of the claim. -/
set_option linter.unusedVariables false
namespace Go.Proofs.Ytnagkhofkjjajaa
/-! ### Powers by squaring, for the kernel -/
def pwF (m : Nat) : Nat → Nat → Nat → Nat
  | 0, _, _ => 1 % m
  | k + 1, b, e => if e % 2 = 1 then pwF m k (b * b % m) (e / 2) * b % m else pwF m k (b * b % m) (e / 2)
theorem pwF_eq (m : Nat) : ∀ k b e, e < 2 ^ k → pwF m k b e = b ^ e % m := by
  intro k
  induction k with
  | zero => intro b e h; rw [show e = 0 by simpa using h]; rfl
  | succ k ih =>
    intro b e h
    have h2 : e / 2 < 2 ^ k := by rw [Nat.pow_succ] at h; omega
    unfold pwF
    rw [ih _ _ h2, ← Nat.pow_mod, ← Nat.pow_two, ← Nat.pow_mul]
    split
    · rename_i q
      rw [Nat.mul_mod, Nat.mod_mod, ← Nat.mul_mod, ← Nat.pow_succ]
      congr 2; omega
    · congr 2; omega
/-! ### Primes -/
def IsP (n : Nat) : Prop := 2 ≤ n ∧ ∀ d, d ∣ n → d = 1 ∨ d = n
theorem IsP.two {n : Nat} (h : IsP n) : 2 ≤ n := h.1
theorem IsP.mul {p a b : Nat} (h : IsP p) (hd : p ∣ a * b) : p ∣ a ∨ p ∣ b := by
  rcases h.2 _ (Nat.gcd_dvd_left p a) with q | q
  · exact .inr (Nat.Coprime.dvd_of_dvd_mul_left q hd)
  · exact .inl (q ▸ Nat.gcd_dvd_right p a)
theorem exP : ∀ n, 2 ≤ n → ∃ p, IsP p ∧ p ∣ n := by
  intro n
  induction n using Nat.strongRecOn with
  | ind n ih =>
    intro h
    by_cases q : IsP n
    · exact ⟨n, q, Nat.dvd_refl n⟩
    · have : ∃ d, d ∣ n ∧ d ≠ 1 ∧ d ≠ n := Classical.byContradiction fun hn => q ⟨h, fun d hd => Classical.byContradiction fun hx => hn ⟨d, hd, fun e => hx (.inl e), fun e => hx (.inr e)⟩⟩
      obtain ⟨d, hd, h1, h2⟩ := this
      have hl := Nat.le_of_dvd (by omega) hd
      have h0 : d ≠ 0 := fun e => by rw [e] at hd; have := Nat.eq_zero_of_zero_dvd hd; omega
      obtain ⟨p, hp, hpd⟩ := ih d (by omega) (by omega)
      exact ⟨p, hp, Nat.dvd_trans hpd hd⟩
def prodL : List Nat → Nat
  | [] => 1
  | x :: r => x * prodL r
theorem in_prod {p : Nat} (h : IsP p) : ∀ {l : List Nat}, (∀ q, q ∈ l → IsP q) → p ∣ prodL l → p ∈ l
  | [], _, hd => by have := Nat.le_of_dvd (by decide) hd; have := h.1; simp [prodL] at *; omega
  | x :: r, hl, hd => by
    rcases h.mul hd with q | q
    · rcases (hl x (List.mem_cons_self ..)).2 p q with e | e
      · have := h.1; omega
      · rw [e]; exact List.mem_cons_self ..
    · exact List.mem_cons_of_mem _ (in_prod h (fun q hq => hl q (List.mem_cons_of_mem _ hq)) q)
/-- no divisor from 2 to k + 1 -/
def trB (n : Nat) : Nat → Bool
  | 0 => true
  | k + 1 => trB n k && !(Nat.beq (n % (k + 2)) 0)
theorem trB_ok {n : Nat} : ∀ {k : Nat}, trB n k = true → ∀ d, 2 ≤ d → d ≤ k + 1 → n % d ≠ 0
  | 0, _, d, h1, h2 => by omega
  | k + 1, h, d, h1, h2 => by
    unfold trB at h
    rw [Bool.and_eq_true] at h
    rcases Nat.lt_or_ge d (k + 2) with q | q
    · exact trB_ok h.1 d h1 (by omega)
    · have : d = k + 2 := by omega
      subst this
      intro e
      rw [e] at h
      exact absurd h.2 (by decide)
theorem IsP.small {n : Nat} (k : Nat) (h2 : 2 ≤ n) (hk : n < (k + 2) * (k + 2)) (h : trB n k = true) : IsP n := by
  refine ⟨h2, fun d hd => Classical.byContradiction fun hx => ?_⟩
  obtain ⟨e, rfl⟩ := hd
  have hd0 : d ≠ 0 := fun q => by subst q; omega
  have he0 : e ≠ 0 := fun q => by subst q; omega
  have hd1 : d ≠ 1 := fun q => hx (.inl q)
  have he1 : e ≠ 1 := fun q => hx (.inr (by rw [q, Nat.mul_one]))
  rcases Nat.lt_or_ge d (k + 2) with q | q
  · exact trB_ok h d (by omega) (by omega) (Nat.mul_mod_right d e)
  · rcases Nat.lt_or_ge e (k + 2) with q' | q'
    · exact trB_ok h e (by omega) (by omega) (Nat.mul_mod_left d e)
    · have := Nat.mul_le_mul q q'; omega
/-! ### Powers of one number -/
section
variable {n g : Nat}
theorem cg_mul {a b c d : Nat} (h : a % n = b % n) (k : c % n = d % n) : a * c % n = b * d % n := by rw [Nat.mul_mod, h, k, ← Nat.mul_mod]
theorem cg_pow {a b : Nat} (h : a % n = b % n) (e : Nat) : a ^ e % n = b ^ e % n := by rw [Nat.pow_mod, h, ← Nat.pow_mod]
theorem pw_one {a : Nat} (hn : 1 < n) (h : a % n = 1) (e : Nat) : a ^ e % n = 1 := by
  rw [Nat.pow_mod, h, Nat.one_pow, Nat.mod_eq_of_lt hn]
theorem pw_mod (hn : 1 < n) {a b : Nat} (ha : g ^ a % n = 1) (hb : g ^ b % n = 1) : g ^ (a % b) % n = 1 := by
  have e : a = b * (a / b) + a % b := (Nat.div_add_mod a b).symm
  rw [e, Nat.pow_add, Nat.pow_mul, Nat.mul_mod, pw_one hn hb, Nat.one_mul, Nat.mod_mod] at ha
  exact ha
theorem pw_gcd (hn : 1 < n) : ∀ a b : Nat, g ^ a % n = 1 → g ^ b % n = 1 → g ^ (Nat.gcd a b) % n = 1 := by
  intro a
  induction a using Nat.strongRecOn with
  | ind a ih =>
    intro b ha hb
    by_cases q : a = 0
    · subst q; rw [Nat.gcd_zero_left]; exact hb
    · rw [Nat.gcd_rec]
      exact ih (b % a) (Nat.mod_lt _ (by omega)) a (pw_mod hn hb ha) ha
/-- the order of g is n - 1 -/
def Ord (n g : Nat) : Prop := 1 < n ∧ g ^ (n - 1) % n = 1 ∧ ∀ d, 0 < d → d < n - 1 → g ^ d % n ≠ 1
theorem Ord.of (hn : 1 < n) (fs : List Nat) (hfs : ∀ q, q ∈ fs → IsP q) (hp : prodL fs = n - 1) (h1 : g ^ (n - 1) % n = 1) (hq : ∀ q, q ∈ fs → g ^ ((n - 1) / q) % n ≠ 1) : Ord n g := by
  refine ⟨hn, h1, fun d h0 hd hx => ?_⟩
  have he := pw_gcd hn d (n - 1) hx h1
  obtain ⟨t, ht⟩ := Nat.gcd_dvd_right d (n - 1)
  have hle : Nat.gcd d (n - 1) ≤ d := Nat.gcd_le_left _ h0
  generalize Nat.gcd d (n - 1) = e at he ht hle
  have ht2 : 2 ≤ t := by
    rcases Nat.lt_or_ge t 2 with q | q
    · have : t = 0 ∨ t = 1 := by omega
      rcases this with rfl | rfl <;> omega
    · exact q
  obtain ⟨r, hr, u, hu⟩ := exP t ht2
  have hmem : r ∈ fs := in_prod hr hfs (by rw [hp, ht, hu]; exact ⟨e * u, by rw [Nat.mul_left_comm]⟩)
  have hr0 : 0 < r := by have := hr.1; omega
  have : (n - 1) / r = e * u := by
    rw [ht, hu, Nat.mul_left_comm, Nat.mul_div_cancel_left _ hr0]
  exact hq r hmem (by rw [this, Nat.pow_mul]; exact pw_one hn he u)
theorem Ord.back (h : Ord n g) {i : Nat} (hi : i ≤ n - 1) : g ^ i * g ^ (n - 1 - i) % n = 1 := by
  rw [← Nat.pow_add, show i + (n - 1 - i) = n - 1 by omega]; exact h.2.1
theorem Ord.nz (h : Ord n g) {i : Nat} (hi : i ≤ n - 1) : g ^ i % n ≠ 0 := fun e => by
  have := h.back hi
  rw [Nat.mul_mod, e, Nat.zero_mul, Nat.zero_mod] at this
  cases this
theorem Ord.inj (h : Ord n g) : ∀ {i j : Nat}, i < j → j < n - 1 → g ^ i % n ≠ g ^ j % n := fun {i j} hij hj e => by
  have h1 := h.back (i := i) (by omega)
  have h2 : g ^ j * g ^ (n - 1 - i) % n = 1 := (cg_mul e.symm (rfl : g ^ (n - 1 - i) % n = _)).trans h1
  rw [← Nat.pow_add, show j + (n - 1 - i) = (n - 1) + (j - i) by omega, Nat.pow_add, Nat.mul_mod, h.2.1, Nat.one_mul, Nat.mod_mod] at h2
  exact h.2.2 (j - i) (by omega) (by omega) h2
end
/-- as many pigeons as holes -/
theorem pigeon : ∀ (n : Nat) (f : Nat → Nat), (∀ i, i < n → f i < n) → (∀ i j, i < j → j < n → f i ≠ f j) → ∀ y, y < n → ∃ i, i < n ∧ f i = y := by
  intro n
  induction n with
  | zero => intro f _ _ y hy; omega
  | succ n ih =>
    intro f hf hinj y hy
    let g : Nat → Nat := fun i => if f i = n then f n else f i
    have hg : ∀ i, i < n → g i < n := fun i hi => by
      have h1 := hf i (by omega)
      have h2 := hf n (by omega)
      show (if f i = n then f n else f i) < n
      split
      · rename_i q
        have := hinj i n hi (by omega)
        omega
      · omega
    have hgi : ∀ i j, i < j → j < n → g i ≠ g j := fun i j hij hj => by
      have h1 := hinj i j hij (by omega)
      have h2 := hinj i n (by omega) (by omega)
      have h3 := hinj j n (by omega) (by omega)
      show (if f i = n then f n else f i) ≠ (if f j = n then f n else f j)
      split <;> split <;> omega
    have key := ih g hg hgi
    by_cases hyn : y = n
    · apply Classical.byContradiction
      intro hno
      have hall : ∀ i, i ≤ n → f i ≠ n := fun i hi e => hno ⟨i, by omega, by omega⟩
      obtain ⟨i, hi, e⟩ := key (f n) (by have := hf n (by omega); have := hall n (by omega); omega)
      have e : (if f i = n then f n else f i) = f n := e
      rw [if_neg (hall i (by omega))] at e
      exact hinj i n hi (by omega) e
    · obtain ⟨i, hi, e⟩ := key y (by omega)
      have e : (if f i = n then f n else f i) = y := e
      split at e
      · exact ⟨n, by omega, e⟩
      · exact ⟨i, by omega, e⟩
theorem Ord.all {n g : Nat} (h : Ord n g) {a : Nat} (ha : a % n ≠ 0) : ∃ k, k < n - 1 ∧ a % n = g ^ k % n := by
  have hn := h.1
  have hlt : a % n < n := Nat.mod_lt _ (by omega)
  obtain ⟨i, hi, e⟩ := pigeon (n - 1) (fun i => g ^ i % n - 1)
    (fun i hi => by
      have h1 : g ^ i % n < n := Nat.mod_lt _ (by omega)
      have := h.nz (i := i) (by omega)
      show g ^ i % n - 1 < n - 1
      omega)
    (fun i j hij hj => by
      have h1 := h.nz (i := i) (by omega)
      have h2 := h.nz (i := j) (by omega)
      have h3 := h.inj hij hj
      show g ^ i % n - 1 ≠ g ^ j % n - 1
      omega) (a % n - 1) (by omega)
  have e : g ^ i % n - 1 = a % n - 1 := e
  have h1 := h.nz (i := i) (by omega)
  exact ⟨i, hi, by omega⟩
theorem Ord.prime {n g : Nat} (h : Ord n g) : IsP n := by
  have hn := h.1
  refine ⟨by omega, fun d hd => ?_⟩
  have hl := Nat.le_of_dvd (by omega) hd
  have h0 : d ≠ 0 := fun e => by rw [e] at hd; have := Nat.eq_zero_of_zero_dvd hd; omega
  rcases Nat.eq_or_lt_of_le hl with q | q
  · exact .inr q
  · obtain ⟨k, hk, e⟩ := h.all (a := d) (by rw [Nat.mod_eq_of_lt q]; exact h0)
    have h1 : d * g ^ (n - 1 - k) % n = 1 := (cg_mul e (rfl : g ^ (n - 1 - k) % n = _)).trans (h.back (by omega))
    have h2 : d ∣ d * g ^ (n - 1 - k) % n := (Nat.dvd_mod_iff hd).2 (Nat.dvd_mul_right ..)
    rw [h1] at h2
    exact .inl (Nat.dvd_one.1 h2)
/-- Fermat's little theorem -/
theorem Ord.fermat {n g : Nat} (h : Ord n g) {a : Nat} (ha : a % n ≠ 0) : a ^ (n - 1) % n = 1 := by
  obtain ⟨k, _, e⟩ := h.all ha
  rw [cg_pow e, ← Nat.pow_mul, Nat.mul_comm, Nat.pow_mul]
  exact pw_one h.1 h.2.1 k
/-- a certificate, checked by the kernel -/
def certB (n g K : Nat) (fs : List Nat) : Bool := Nat.ble 2 n && Nat.beq (prodL fs) (n - 1) && Nat.blt n (2 ^ K) && Nat.beq (pwF n K g (n - 1)) 1 && fs.all (fun q => !(Nat.beq (pwF n K g ((n - 1) / q)) 1))
theorem Ord.cert {n g : Nat} (K : Nat) (fs : List Nat) (hfs : ∀ q, q ∈ fs → IsP q) (h : certB n g K fs = true) : Ord n g := by
  unfold certB at h
  simp only [Bool.and_eq_true, List.all_eq_true] at h
  obtain ⟨⟨⟨⟨h1, h2⟩, h3⟩, h4⟩, h5⟩ := h
  have h1 := Nat.le_of_ble_eq_true h1
  have h2 := Nat.eq_of_beq_eq_true h2
  have h3 : n < 2 ^ K := by simpa using h3
  have h4 := Nat.eq_of_beq_eq_true h4
  rw [pwF_eq _ _ _ _ (by omega)] at h4
  refine Ord.of (by omega) fs hfs h2 h4 fun q hq e => ?_
  have h6 := h5 q hq
  rw [pwF_eq _ _ _ _ (Nat.lt_of_le_of_lt (Nat.div_le_self _ _) (by omega)), e] at h6
  exact absurd h6 (by decide)
end Go.Proofs.Ytnagkhofkjjajaa

/- 2^255 - 19 is a prime, 2 makes all its residues. Plain, no statement of the claim. -/
set_option linter.unusedVariables false
namespace Go.Proofs.Ytnagkhofkjjajaa
theorem isP_2 : IsP 2 := .small 0 (by decide) (by decide) (by decide +kernel)
theorem isP_37853 : IsP 37853 := .small 193 (by decide) (by decide) (by decide +kernel)
theorem ord_75707 : Ord 75707 2 := .cert 17 [2, 37853] (List.forall_mem_cons.2 ⟨isP_2, (List.forall_mem_cons.2 ⟨isP_37853, (List.forall_mem_nil _)⟩)⟩) (by decide +kernel)
theorem isP_75707 : IsP 75707 := ord_75707.prime
theorem isP_3 : IsP 3 := .small 0 (by decide) (by decide) (by decide +kernel)
theorem isP_7 : IsP 7 := .small 1 (by decide) (by decide) (by decide +kernel)
theorem isP_131 : IsP 131 := .small 10 (by decide) (by decide) (by decide +kernel)
theorem ord_132049 : Ord 132049 26 := .cert 18 [2, 2, 2, 2, 3, 3, 7, 131] (List.forall_mem_cons.2 ⟨isP_2, (List.forall_mem_cons.2 ⟨isP_2, (List.forall_mem_cons.2 ⟨isP_2, (List.forall_mem_cons.2 ⟨isP_2, (List.forall_mem_cons.2 ⟨isP_3, (List.forall_mem_cons.2 ⟨isP_3, (List.forall_mem_cons.2 ⟨isP_7, (List.forall_mem_cons.2 ⟨isP_131, (List.forall_mem_nil _)⟩)⟩)⟩)⟩)⟩)⟩)⟩)⟩) (by decide +kernel)
theorem isP_132049 : IsP 132049 := ord_132049.prime
theorem isP_5 : IsP 5 := .small 1 (by decide) (by decide) (by decide +kernel)
theorem isP_1723 : IsP 1723 := .small 40 (by decide) (by decide) (by decide +kernel)
theorem ord_430751 : Ord 430751 17 := .cert 19 [2, 5, 5, 5, 1723] (List.forall_mem_cons.2 ⟨isP_2, (List.forall_mem_cons.2 ⟨isP_5, (List.forall_mem_cons.2 ⟨isP_5, (List.forall_mem_cons.2 ⟨isP_5, (List.forall_mem_cons.2 ⟨isP_1723, (List.forall_mem_nil _)⟩)⟩)⟩)⟩)⟩) (by decide +kernel)
theorem isP_430751 : IsP 430751 := ord_430751.prime
theorem isP_97 : IsP 97 := .small 8 (by decide) (by decide) (by decide +kernel)
theorem isP_419 : IsP 419 := .small 19 (by decide) (by decide) (by decide +kernel)
theorem ord_569003 : Ord 569003 2 := .cert 20 [2, 7, 97, 419] (List.forall_mem_cons.2 ⟨isP_2, (List.forall_mem_cons.2 ⟨isP_7, (List.forall_mem_cons.2 ⟨isP_97, (List.forall_mem_cons.2 ⟨isP_419, (List.forall_mem_nil _)⟩)⟩)⟩)⟩) (by decide +kernel)
theorem isP_569003 : IsP 569003 := ord_569003.prime
theorem isP_43 : IsP 43 := .small 5 (by decide) (by decide) (by decide +kernel)
theorem isP_3727 : IsP 3727 := .small 60 (by decide) (by decide) (by decide +kernel)
theorem ord_1923133 : Ord 1923133 2 := .cert 21 [2, 2, 3, 43, 3727] (List.forall_mem_cons.2 ⟨isP_2, (List.forall_mem_cons.2 ⟨isP_2, (List.forall_mem_cons.2 ⟨isP_3, (List.forall_mem_cons.2 ⟨isP_43, (List.forall_mem_cons.2 ⟨isP_3727, (List.forall_mem_nil _)⟩)⟩)⟩)⟩)⟩) (by decide +kernel)
theorem isP_1923133 : IsP 1923133 := ord_1923133.prime
theorem isP_103 : IsP 103 := .small 9 (by decide) (by decide) (by decide +kernel)
theorem isP_991 : IsP 991 := .small 30 (by decide) (by decide) (by decide +kernel)
theorem ord_8574133 : Ord 8574133 2 := .cert 24 [2, 2, 3, 7, 103, 991] (List.forall_mem_cons.2 ⟨isP_2, (List.forall_mem_cons.2 ⟨isP_2, (List.forall_mem_cons.2 ⟨isP_3, (List.forall_mem_cons.2 ⟨isP_7, (List.forall_mem_cons.2 ⟨isP_103, (List.forall_mem_cons.2 ⟨isP_991, (List.forall_mem_nil _)⟩)⟩)⟩)⟩)⟩)⟩) (by decide +kernel)
theorem isP_8574133 : IsP 8574133 := ord_8574133.prime
theorem isP_2437 : IsP 2437 := .small 48 (by decide) (by decide) (by decide +kernel)
theorem ord_2773320623 : Ord 2773320623 5 := .cert 32 [2, 2437, 569003] (List.forall_mem_cons.2 ⟨isP_2, (List.forall_mem_cons.2 ⟨isP_2437, (List.forall_mem_cons.2 ⟨isP_569003, (List.forall_mem_nil _)⟩)⟩)⟩) (by decide +kernel)
theorem isP_2773320623 : IsP 2773320623 := ord_2773320623.prime
theorem isP_13 : IsP 13 := .small 2 (by decide) (by decide) (by decide +kernel)
theorem ord_72106336199 : Ord 72106336199 7 := .cert 37 [2, 13, 2773320623] (List.forall_mem_cons.2 ⟨isP_2, (List.forall_mem_cons.2 ⟨isP_13, (List.forall_mem_cons.2 ⟨isP_2773320623, (List.forall_mem_nil _)⟩)⟩)⟩) (by decide +kernel)
theorem isP_72106336199 : IsP 72106336199 := ord_72106336199.prime
theorem isP_19 : IsP 19 := .small 3 (by decide) (by decide) (by decide +kernel)
theorem isP_47 : IsP 47 := .small 5 (by decide) (by decide) (by decide +kernel)
theorem isP_127 : IsP 127 := .small 10 (by decide) (by decide) (by decide +kernel)
theorem ord_1919519569386763 : Ord 1919519569386763 2 := .cert 51 [2, 3, 7, 19, 47, 47, 127, 8574133] (List.forall_mem_cons.2 ⟨isP_2, (List.forall_mem_cons.2 ⟨isP_3, (List.forall_mem_cons.2 ⟨isP_7, (List.forall_mem_cons.2 ⟨isP_19, (List.forall_mem_cons.2 ⟨isP_47, (List.forall_mem_cons.2 ⟨isP_47, (List.forall_mem_cons.2 ⟨isP_127, (List.forall_mem_cons.2 ⟨isP_8574133, (List.forall_mem_nil _)⟩)⟩)⟩)⟩)⟩)⟩)⟩)⟩) (by decide +kernel)
theorem isP_1919519569386763 : IsP 1919519569386763 := ord_1919519569386763.prime
theorem isP_31 : IsP 31 := .small 4 (by decide) (by decide) (by decide +kernel)
theorem isP_107 : IsP 107 := .small 9 (by decide) (by decide) (by decide +kernel)
theorem isP_223 : IsP 223 := .small 13 (by decide) (by decide) (by decide +kernel)
theorem isP_4153 : IsP 4153 := .small 63 (by decide) (by decide) (by decide +kernel)
theorem ord_31757755568855353 : Ord 31757755568855353 10 := .cert 55 [2, 2, 2, 3, 31, 107, 223, 4153, 430751] (List.forall_mem_cons.2 ⟨isP_2, (List.forall_mem_cons.2 ⟨isP_2, (List.forall_mem_cons.2 ⟨isP_2, (List.forall_mem_cons.2 ⟨isP_3, (List.forall_mem_cons.2 ⟨isP_31, (List.forall_mem_cons.2 ⟨isP_107, (List.forall_mem_cons.2 ⟨isP_223, (List.forall_mem_cons.2 ⟨isP_4153, (List.forall_mem_cons.2 ⟨isP_430751, (List.forall_mem_nil _)⟩)⟩)⟩)⟩)⟩)⟩)⟩)⟩)⟩) (by decide +kernel)
theorem isP_31757755568855353 : IsP 31757755568855353 := ord_31757755568855353.prime
theorem ord_75445702479781427272750846543864801 : Ord 75445702479781427272750846543864801 7 := .cert 116 [2, 2, 2, 2, 2, 3, 3, 5, 5, 75707, 72106336199, 1919519569386763] (List.forall_mem_cons.2 ⟨isP_2, (List.forall_mem_cons.2 ⟨isP_2, (List.forall_mem_cons.2 ⟨isP_2, (List.forall_mem_cons.2 ⟨isP_2, (List.forall_mem_cons.2 ⟨isP_2, (List.forall_mem_cons.2 ⟨isP_3, (List.forall_mem_cons.2 ⟨isP_3, (List.forall_mem_cons.2 ⟨isP_5, (List.forall_mem_cons.2 ⟨isP_5, (List.forall_mem_cons.2 ⟨isP_75707, (List.forall_mem_cons.2 ⟨isP_72106336199, (List.forall_mem_cons.2 ⟨isP_1919519569386763, (List.forall_mem_nil _)⟩)⟩)⟩)⟩)⟩)⟩)⟩)⟩)⟩)⟩)⟩)⟩) (by decide +kernel)
theorem isP_75445702479781427272750846543864801 : IsP 75445702479781427272750846543864801 := ord_75445702479781427272750846543864801.prime
theorem isP_353 : IsP 353 := .small 17 (by decide) (by decide) (by decide +kernel)
theorem isP_57467 : IsP 57467 := .small 238 (by decide) (by decide) (by decide +kernel)
theorem ord_74058212732561358302231226437062788676166966415465897661863160754340907 : Ord 74058212732561358302231226437062788676166966415465897661863160754340907 2 := .cert 236 [2, 3, 353, 57467, 132049, 1923133, 31757755568855353, 75445702479781427272750846543864801] (List.forall_mem_cons.2 ⟨isP_2, (List.forall_mem_cons.2 ⟨isP_3, (List.forall_mem_cons.2 ⟨isP_353, (List.forall_mem_cons.2 ⟨isP_57467, (List.forall_mem_cons.2 ⟨isP_132049, (List.forall_mem_cons.2 ⟨isP_1923133, (List.forall_mem_cons.2 ⟨isP_31757755568855353, (List.forall_mem_cons.2 ⟨isP_75445702479781427272750846543864801, (List.forall_mem_nil _)⟩)⟩)⟩)⟩)⟩)⟩)⟩)⟩) (by decide +kernel)
theorem isP_74058212732561358302231226437062788676166966415465897661863160754340907 : IsP 74058212732561358302231226437062788676166966415465897661863160754340907 := ord_74058212732561358302231226437062788676166966415465897661863160754340907.prime
theorem isP_65147 : IsP 65147 := .small 254 (by decide) (by decide) (by decide +kernel)
theorem ord_57896044618658097711785492504343953926634992332820282019728792003956564819949 : Ord 57896044618658097711785492504343953926634992332820282019728792003956564819949 2 := .cert 255 [2, 2, 3, 65147, 74058212732561358302231226437062788676166966415465897661863160754340907] (List.forall_mem_cons.2 ⟨isP_2, (List.forall_mem_cons.2 ⟨isP_2, (List.forall_mem_cons.2 ⟨isP_3, (List.forall_mem_cons.2 ⟨isP_65147, (List.forall_mem_cons.2 ⟨isP_74058212732561358302231226437062788676166966415465897661863160754340907, (List.forall_mem_nil _)⟩)⟩)⟩)⟩)⟩) (by decide +kernel)
theorem isP_57896044618658097711785492504343953926634992332820282019728792003956564819949 : IsP 57896044618658097711785492504343953926634992332820282019728792003956564819949 := ord_57896044618658097711785492504343953926634992332820282019728792003956564819949.prime
end Go.Proofs.Ytnagkhofkjjajaa

set_option linter.unusedVariables false
set_option linter.unusedSimpArgs false
set_option maxRecDepth 10000
namespace Go.Proofs.Ytnagkhofkjjajaa
/-! ### Digits of a given number -/
def leb (b : Nat) : Nat → Nat → List Nat
  | 0, _ => []
  | k + 1, n => n % b :: leb b k (n / b)
theorem leb_len (b : Nat) : ∀ k n, (leb b k n).length = k
  | 0, _ => rfl
  | k + 1, n => congrArg (· + 1) (leb_len b k (n / b))
theorem leb_lt {b : Nat} (hb : 0 < b) : ∀ k n, LB b (leb b k n)
  | 0, _ => LB.nil
  | k + 1, n => LB.cons (Nat.mod_lt _ hb) (leb_lt hb k (n / b))
theorem nv_leb {b : Nat} (hb : 0 < b) : ∀ k n, nv b (leb b k n) = n % b ^ k
  | 0, n => by rw [Nat.pow_zero, Nat.mod_one]; rfl
  | k + 1, n => by
    show n % b + b * nv b (leb b k (n / b)) = _
    rw [nv_leb hb k, Nat.pow_succ, Nat.mul_comm (b ^ k) b, Nat.mod_mul]
theorem leb_nv {b : Nat} (hb : 0 < b) : ∀ {k : Nat} {l : List Nat}, l.length = k → LB b l → leb b k (nv b l) = l
  | 0, l, h, _ => (List.eq_nil_of_length_eq_zero h).symm
  | k + 1, [], h, _ => by cases h
  | k + 1, x :: r, h, hl => by
    have hx : x < b := hl x (List.mem_cons_self ..)
    show (x + b * nv b r) % b :: leb b k ((x + b * nv b r) / b) = _
    rw [Nat.add_mul_mod_self_left, Nat.mod_eq_of_lt hx, Nat.add_mul_div_left _ _ hb, Nat.div_eq_of_lt hx, Nat.zero_add,
      leb_nv hb (Nat.succ.inj h) (fun y hy => hl y (List.mem_cons_of_mem _ hy))]
theorem leb_of {b k n : Nat} {l : List Nat} (hb : 0 < b) (hl : l.length = k) (h : LB b l) (hn : nv b l = n) : l = leb b k n := by rw [← hn, leb_nv hb hl h]
theorem leb_inj {b k x y : Nat} (hb : 0 < b) (hx : x < b ^ k) (hy : y < b ^ k) (h : leb b k x = leb b k y) : x = y := by
  have := congrArg (nv b) h
  rwa [nv_leb hb, nv_leb hb, Nat.mod_eq_of_lt hx, Nat.mod_eq_of_lt hy] at this
theorem leb_eq {b k x y : Nat} (hb : 0 < b) (hx : x < b ^ k) (hy : y < b ^ k) : leb b k x = leb b k y ↔ x = y := ⟨leb_inj hb hx hy, fun h => h ▸ rfl⟩
theorem leb_zero (b : Nat) : ∀ k, leb b k 0 = List.replicate k 0
  | 0 => rfl
  | k + 1 => by
    show 0 % b :: leb b k (0 / b) = _
    rw [Nat.zero_mod, Nat.zero_div, leb_zero b k]; rfl
theorem leb_get {b : Nat} : ∀ k n i, i < k → (leb b k n).getD i 0 = n / b ^ i % b
  | 0, _, i, h => absurd h (Nat.not_lt_zero _)
  | k + 1, n, 0, _ => by show n % b = _; rw [Nat.pow_zero, Nat.div_one]
  | k + 1, n, i + 1, h => by
    show (leb b k (n / b)).getD i 0 = _
    rw [leb_get k _ i (Nat.lt_of_succ_lt_succ h), Nat.div_div_eq_div_mul, Nat.pow_succ, Nat.mul_comm b]
theorem toNat_pred {k : Nat} : (((k + 1 : Nat) : Int) - 1) = (k : Int) := by omega
theorem add_step' {a b r z c c' n A B : Nat} (h : z + c * n = A + B) (hr : r + 256 * c' = a + b + c) : z + n * r + c' * (n * 256) = (A + n * a) + (B + n * b) := by
  have e : n * r + c' * (n * 256) = n * (r + 256 * c') := by rw [Nat.mul_add, Nat.mul_left_comm, Nat.mul_comm 256 c']
  rw [Nat.add_assoc, e, hr, Nat.mul_add, Nat.mul_add, Nat.mul_comm n c]
  omega
theorem sub_step' {a b r z c c' n A B : Nat} (h : z + B = A + c * n) (hr : r + b + c = a + 256 * c') : z + n * r + (B + n * b) = (A + n * a) + c' * (n * 256) := by
  have e := congrArg (n * ·) hr
  simp only [Nat.mul_add] at e
  rw [show c' * (n * 256) = n * (256 * c') by rw [Nat.mul_left_comm, Nat.mul_comm 256, Nat.mul_left_comm]]
  rw [Nat.mul_comm c n] at h
  omega
/-- how far a row of products has come -/
def MI (b : Nat) (xs ys z : List Nat) (i c k : Nat) : Prop := nv b z + c * b ^ (i + k) = nv b (xs.take i) * nv b ys + b ^ i * (xs.getD i 0 * nv b (ys.take k))
def MO (b : Nat) (xs ys z : List Nat) (i : Nat) : Prop := nv b z = nv b (xs.take i) * nv b ys
theorem MI.start {b : Nat} {xs ys z : List Nat} {i : Nat} (h : MO b xs ys z i) : MI b xs ys z i 0 0 := by
  unfold MI
  rw [Nat.zero_mul, List.take_zero]
  show _ = _ + _ * (_ * 0)
  rw [Nat.mul_zero, Nat.mul_zero]
  exact h
theorem MI.step {b : Nat} {xs ys z : List Nat} {i k c v d : Nat} (hk : i + k < z.length) (h : MI b xs ys z i c k) (hv : v = (xs.getD i 0 * ys.getD k 0 + z.getD (i + k) 0 + c) % b) (hd : d = (xs.getD i 0 * ys.getD k 0 + z.getD (i + k) 0 + c) / b) :
    MI b xs ys (z.set (i + k) v) i d (k + 1) := by subst hv hd; exact mul_step hk h
theorem MI.stop {b : Nat} {xs ys z : List Nat} {i c m : Nat} (hm : ys.length = m) (hk : i + m < z.length) (h0 : z.getD (i + m) 0 = 0) (h : MI b xs ys z i c m) : MO b xs ys (z.set (i + m) c) (i + 1) := mul_row hm hk h0 h
theorem MI.stop0 {b : Nat} {xs ys z : List Nat} {i m : Nat} (hm : ys.length ≤ m) (h : MI b xs ys z i 0 m) : MO b xs ys z (i + 1) := by
  unfold MI at h
  unfold MO
  rw [Nat.zero_mul, Nat.add_zero, List.take_of_length_le hm] at h
  rw [h, nv_at', Nat.add_mul, Nat.mul_assoc]
theorem MO.start {b : Nat} {xs ys : List Nat} (n : Nat) : MO b xs ys (List.replicate n 0) 0 := by
  unfold MO
  rw [nv_replicate, List.take_zero]
  show 0 = 0 * _
  rw [Nat.zero_mul]
theorem MO.stop {b : Nat} {xs ys z : List Nat} {i : Nat} (hi : i = xs.length) (h : MO b xs ys z i) : nv b z = nv b xs * nv b ys := by
  subst hi
  unfold MO at h
  rwa [List.take_length] at h
theorem set_get {xs : List Nat} {i j v : Nat} (h : i ≠ j) : (xs.set i v).getD j 0 = xs.getD j 0 := by
  rcases Nat.lt_or_ge i xs.length with q | q
  · rw [getD_set _ _ _ _ q, if_neg h]
  · rw [List.set_eq_of_length_le q]
end Go.Proofs.Ytnagkhofkjjajaa

set_option linter.unusedVariables false
set_option linter.unusedSimpArgs false
set_option maxRecDepth 10000
namespace Go.Proofs.Ytnagkhofkjjajaa
theorem byte_mul {x y o c : Nat} (hx : x < 256) (hy : y < 256) (ho : o < 256) (hc : c < 256) : x * y + o + c < 65536 := by
  have : x * y ≤ 255 * 255 := Nat.mul_le_mul (by omega) (by omega)
  omega
/-! ### Layer 16 -/
/-- 2^255 - 19 -/
def pp : Nat := 57896044618658097711785492504343953926634992332820282019728792003956564819949
theorem pp_eq : pp = 2 ^ 255 - 19 := by unfold pp; decide +kernel
theorem pp_pos : 0 < pp := by decide
theorem pp_lt : pp < 256 ^ 32 := by decide +kernel
theorem pp_lt' : pp < 18446744073709551616 ^ 4 := by decide +kernel
theorem pp_ord : Ord pp 2 := ord_57896044618658097711785492504343953926634992332820282019728792003956564819949
theorem pp_prime : IsP pp := pp_ord.prime
abbrev b32 (n : Nat) : List Nat := leb 256 32 n
theorem b32_len (n : Nat) : (b32 n).length = 32 := leb_len ..
theorem b32_by (n : Nat) : LB 256 (b32 n) := leb_lt (b := 256) (by decide) 32 n
theorem nv_b32 {n : Nat} (h : n < 256 ^ 32) : nv 256 (b32 n) = n := by rw [nv_leb (by decide), Nat.mod_eq_of_lt h]
theorem nv_b32p (n : Nat) : nv 256 (b32 (n % pp)) = n % pp := nv_b32 (Nat.lt_trans (Nat.mod_lt _ pp_pos) pp_lt)
/-- a row laid into a row of zeros -/
theorem lay_step {l : List Nat} {i m : Nat} (hi : i < l.length) (hm : i < m) : (l.take i ++ List.replicate (m - i) 0).set i (l.getD i 0) = l.take (i + 1) ++ List.replicate (m - (i + 1)) 0 := by
  have h1 : (l.take i).length = i := by rw [List.length_take]; omega
  rw [List.set_append_right _ _ (by omega), h1, Nat.sub_self]
  obtain ⟨d, hd⟩ : ∃ d, m - i = d + 1 := ⟨m - i - 1, by omega⟩
  rw [hd, show m - (i + 1) = d by omega, List.replicate_succ, List.set_cons_zero, List.take_add_one, List.append_assoc]
  congr 1
  rw [List.getElem?_eq_getElem hi, List.getD_eq_getElem?_getD, List.getElem?_eq_getElem hi]
  rfl
theorem mod_fold {low high : Nat} : (low + 19 * high) % pp = (low + 2 ^ 255 * high) % pp := by
  have e : low + 2 ^ 255 * high = low + 19 * high + pp * high := by
    have : (2 : Nat) ^ 255 = 19 + pp := by rw [pp_eq]
    rw [this, Nat.add_mul]; omega
  rw [e, Nat.add_mul_mod_self_left]
theorem dig_by (n : Nat) : LB 256 (dig 256 n) := dig_lt (b := 256) (by decide) n
theorem nv_dig' (n : Nat) : nv 256 (dig 256 n) = n := nv_dig (by decide) n
theorem dig_len {n k : Nat} (h : n < 256 ^ k) : (dig 256 n).length ≤ k := dig_length (by decide) h
theorem nv_bound {l : List Nat} {k : Nat} (hb : LB 256 l) (h : l.length ≤ k) : nv 256 l < 256 ^ k := Nat.lt_of_lt_of_le (nv_lt l hb) (Nat.pow_le_pow_right (by decide) h)
/-- the top bit of 32 bytes -/
theorem top_bit {low : List Nat} (hb : LB 256 low) (hl : low.length = 32) : nv 256 (low.set 31 (low.getD 31 0 % 128)) + 2 ^ 255 * (low.getD 31 0 / 128) = nv 256 low := by
  have h1 := nv_set 256 low 31 (low.getD 31 0 % 128) (by omega)
  have h2 := Nat.mod_add_div (low.getD 31 0) 128
  generalize low.getD 31 0 = t at *
  generalize nv 256 (low.set 31 (t % 128)) = A at *
  have h3 : (256 : Nat) ^ 31 * t = 256 ^ 31 * (t % 128) + 2 ^ 255 * (t / 128) := by
    conv => lhs; rw [← h2]
    rw [Nat.mul_add]
    congr 1
    rw [← Nat.mul_assoc]
  omega
theorem dig_len_p (n : Nat) : (dig 256 (n % pp)).length ≤ 32 := dig_len (Nat.lt_trans (Nat.mod_lt _ pp_pos) pp_lt)
end Go.Proofs.Ytnagkhofkjjajaa

set_option linter.unusedVariables false
set_option linter.unusedSimpArgs false
set_option maxRecDepth 10000
namespace Go.Proofs.Ytnagkhofkjjajaa
/-- numbers as integers -/
def zl (xs : List Nat) : List Int := xs.map (fun n : Nat => (n : Int))
theorem zl_get (xs : List Nat) (i : Nat) : (zl xs).getD i 0 = ((xs.getD i 0 : Nat) : Int) := by
  unfold zl
  rw [List.getD_eq_getElem?_getD, List.getD_eq_getElem?_getD, List.getElem?_map]
  cases xs[i]? <;> rfl
theorem zl_set (xs : List Nat) (i v : Nat) : (zl xs).set i (v : Int) = zl (xs.set i v) := by unfold zl; rw [List.map_set]
theorem zl_rep (n : Nat) : List.replicate n (0 : Int) = zl (List.replicate n 0) := by unfold zl; rw [List.map_replicate]; rfl
theorem zl_set0 (xs : List Nat) (i : Nat) : (zl xs).set i ((0 : Nat) : Int) = zl (xs.set i 0) := zl_set xs i 0
/-- two bytes a digit -/
def dg (l : List Nat) (i : Nat) : Nat := l.getD (2 * i) 0 + 256 * l.getD (2 * i + 1) 0
def dgs (l : List Nat) (k : Nat) : List Nat := (List.range k).map (dg l)
theorem dg_lt {l : List Nat} (h : LB 256 l) (i : Nat) : dg l i < 65536 := by
  have h1 := h.get (by decide) (2 * i)
  have h2 := h.get (by decide) (2 * i + 1)
  unfold dg; omega
theorem dgs_lt {l : List Nat} (h : LB 256 l) (k : Nat) : LB 65536 (dgs l k) := fun x hx => by
  obtain ⟨i, _, rfl⟩ := List.mem_map.1 hx
  exact dg_lt h i
theorem dgs_len (l : List Nat) (k : Nat) : (dgs l k).length = k := by unfold dgs; simp
theorem dgs_nv (l : List Nat) : ∀ k, nv 65536 (dgs l k) = nv 256 (l.take (2 * k))
  | 0 => rfl
  | k + 1 => by
    have e : dgs l (k + 1) = dgs l k ++ [dg l k] := by unfold dgs; rw [List.range_succ, List.map_append]; rfl
    rw [e, nv_append, dgs_len, dgs_nv l k, show 2 * (k + 1) = (2 * k + 1) + 1 by omega, nv_at', nv_at']
    show _ + 65536 ^ k * (dg l k + 65536 * 0) = _
    rw [Nat.mul_zero, Nat.add_zero, show (65536 : Nat) ^ k = 256 ^ (2 * k) by rw [Nat.pow_mul], Nat.pow_succ]
    unfold dg
    rw [Nat.mul_add, Nat.mul_assoc, Nat.add_assoc]
theorem fillg_step {α : Type} (f : Nat → α) (z : α) {i m : Nat} (hm : i < m) : ((List.range i).map f ++ List.replicate (m - i) z).set i (f i) = (List.range (i + 1)).map f ++ List.replicate (m - (i + 1)) z := by
  have h1 : ((List.range i).map f).length = i := by simp
  rw [List.set_append_right _ _ (by omega), h1, Nat.sub_self]
  obtain ⟨d, hd⟩ : ∃ d, m - i = d + 1 := ⟨m - i - 1, by omega⟩
  rw [hd, show m - (i + 1) = d by omega, List.replicate_succ, List.set_cons_zero, List.range_succ, List.map_append, List.append_assoc]
  rfl
/-! ### all products -/
theorem sum_step {b : Nat} {xs ys z : List Nat} {i k : Nat} (hk : i + k < z.length) (h : nv b z = nv b (xs.take i) * nv b ys + b ^ i * (xs.getD i 0 * nv b (ys.take k))) :
    nv b (z.set (i + k) (z.getD (i + k) 0 + xs.getD i 0 * ys.getD k 0)) = nv b (xs.take i) * nv b ys + b ^ i * (xs.getD i 0 * nv b (ys.take (k + 1))) := by
  have hs := nv_set b z (i + k) (z.getD (i + k) 0 + xs.getD i 0 * ys.getD k 0) hk
  rw [nv_at' b ys k, Nat.mul_add, Nat.mul_add]
  rw [Nat.mul_add, Nat.pow_add] at hs
  have e : b ^ i * (xs.getD i 0 * (b ^ k * ys.getD k 0)) = b ^ i * b ^ k * (xs.getD i 0 * ys.getD k 0) := by
    rw [Nat.mul_assoc, Nat.mul_left_comm (xs.getD i 0)]
  rw [e]
  omega
theorem LB.mono {m k : Nat} {xs : List Nat} (h : LB m xs) (hk : m ≤ k) : LB k xs := fun x hx => Nat.lt_of_lt_of_le (h x hx) hk
/-! ### what stands at 2^256 and above comes in 38 times -/
def lw (w : List Nat) (i : Nat) : Nat := w.getD i 0 + 38 * w.getD (16 + i) 0
theorem lw_nv {b : Nat} : ∀ (xs ys : List Nat), xs.length = ys.length → nv b (List.zipWith (fun x y => x + 38 * y) xs ys) = nv b xs + 38 * nv b ys
  | [], [], _ => rfl
  | x :: xs, y :: ys, h => by
    show (x + 38 * y) + b * nv b (List.zipWith _ xs ys) = (x + b * nv b xs) + 38 * (y + b * nv b ys)
    rw [lw_nv xs ys (Nat.succ.inj h), Nat.mul_add, Nat.mul_add, Nat.mul_left_comm b 38]
    omega
theorem lw_zip {w : List Nat} (hw : w.length = 32) : (List.range 16).map (lw w) = List.zipWith (fun x y => x + 38 * y) (w.take 16) (w.drop 16) := by
  apply List.ext_getElem
  · simp [hw]
  · intro i h1 h2
    have hi : i < 16 := by simpa using h1
    rw [List.getElem_map, List.getElem_range, List.getElem_zipWith]
    unfold lw
    rw [List.getElem_take, List.getElem_drop, List.getD_eq_getElem?_getD, List.getD_eq_getElem?_getD, List.getElem?_eq_getElem (by omega), List.getElem?_eq_getElem (by omega)]
    rfl
theorem mod_38 {a b : Nat} : (a + 38 * b) % pp = (a + 65536 ^ 16 * b) % pp := by
  have e : (65536 : Nat) ^ 16 = 38 + pp * 2 := by rw [pp_eq]
  rw [e, Nat.add_mul, Nat.mul_assoc, ← Nat.add_assoc, Nat.add_mul_mod_self_left]
theorem low_nv {w : List Nat} (hw : w.length = 32) : nv 65536 ((List.range 16).map (lw w) ++ [0]) % pp = nv 65536 w % pp := by
  rw [nv_append, lw_zip hw, lw_nv _ _ (by rw [List.length_take, List.length_drop]; omega)]
  show (_ + _ * (0 + 65536 * 0)) % pp = _
  rw [Nat.mul_zero, Nat.add_zero, mod_38, ← nv_split 65536 w 16 (by omega)]
theorem low_lt {w : List Nat} (hb : LB 1099511627777 w) : LB 42880953483304 ((List.range 16).map (lw w) ++ [0]) := by
  refine LB.app (fun x hx => ?_) (LB.cons (by decide) LB.nil)
  obtain ⟨i, _, rfl⟩ := List.mem_map.1 hx
  have h1 := hb.get (by decide) i
  have h2 := hb.get (by decide) (16 + i)
  unfold lw; omega
/-! ### carries -/
theorem carry_nv {z : List Nat} {i : Nat} (hi : i + 1 < z.length) :
    nv 65536 ((z.set (i + 1) (z.getD (i + 1) 0 + z.getD i 0 / 65536)).set i ((z.set (i + 1) (z.getD (i + 1) 0 + z.getD i 0 / 65536)).getD i 0 % 65536)) = nv 65536 z := by
  have h1 := nv_set 65536 z (i + 1) (z.getD (i + 1) 0 + z.getD i 0 / 65536) hi
  have h2 := nv_set 65536 (z.set (i + 1) (z.getD (i + 1) 0 + z.getD i 0 / 65536)) i ((z.set (i + 1) (z.getD (i + 1) 0 + z.getD i 0 / 65536)).getD i 0 % 65536) (by rw [List.length_set]; omega)
  rw [set_get (by omega)] at h2 ⊢
  have h3 := Nat.mod_add_div (z.getD i 0) 65536
  have e : 65536 ^ i * z.getD i 0 = 65536 ^ i * (z.getD i 0 % 65536) + 65536 ^ (i + 1) * (z.getD i 0 / 65536) := by
    conv => lhs; rw [← h3]
    rw [Nat.mul_add, Nat.pow_succ, Nat.mul_assoc]
  rw [Nat.mul_add] at h1
  omega
theorem nv_near {z : List Nat} {e : Nat} (hz : z.length = 17) (h16 : z.getD 16 0 = 0) (h : ∀ j, 1 ≤ j → j < 16 → z.getD j 0 < 65536) (h0 : z.getD 0 0 < 65536 + e) : nv 65536 z < 65536 ^ 16 + e := by
  have h1 := nv_set 65536 z 0 65535 (by omega)
  have h2 := nv_split 65536 (z.set 0 65535) 16 (by rw [List.length_set]; omega)
  rw [nv_at, set_get (by omega), h16, List.drop_of_length_le (by rw [List.length_set]; omega)] at h2
  have h3 : LB 65536 ((z.set 0 65535).take 16) := fun x hx => by
    obtain ⟨j, hj, rfl⟩ := List.mem_iff_getElem.1 hx
    have hj' : j < 16 := by rw [List.length_take] at hj; omega
    rw [List.getElem_take]
    have e1 : (z.set 0 65535)[j]'(by rw [List.length_set]; omega) = (z.set 0 65535).getD j 0 := by
      rw [List.getD_eq_getElem?_getD, List.getElem?_eq_getElem (by rw [List.length_set]; omega)]; rfl
    rw [e1]
    by_cases q : j = 0
    · subst q; rw [getD_set _ _ _ _ (by omega), if_pos rfl]; decide
    · rw [set_get (by omega)]; exact h j (by omega) hj'
  have h4 := nv_lt _ h3
  rw [List.length_take, List.length_set, hz] at h4
  have h5 : nv 65536 (z.set 0 65535) < 65536 ^ 16 := by
    rw [h2]
    exact h4
  rw [Nat.pow_zero, Nat.one_mul, Nat.one_mul] at h1
  omega
theorem LB.near {z : List Nat} {M : Nat} (hM : 65536 ≤ M) (hz : z.length = 17) (h16 : z.getD 16 0 = 0) (h : ∀ j, 1 ≤ j → j < 16 → z.getD j 0 < 65536) (h0 : z.getD 0 0 < M) : LB M z := fun x hx => by
  obtain ⟨j, hj, rfl⟩ := List.mem_iff_getElem.1 hx
  have e1 : z[j] = z.getD j 0 := by rw [List.getD_eq_getElem?_getD, List.getElem?_eq_getElem hj]; rfl
  rw [e1]
  by_cases q : j = 0
  · subst q; exact h0
  · by_cases q2 : j = 16
    · subst q2; rw [h16]; omega
    · have := h j (by omega) (by omega); omega
end Go.Proofs.Ytnagkhofkjjajaa

set_option linter.unusedVariables false
set_option linter.unusedSimpArgs false
set_option maxRecDepth 10000
namespace Go.Proofs.Ytnagkhofkjjajaa
abbrev w4 (n : Nat) : List Nat := leb 18446744073709551616 4 n
theorem w4_len (n : Nat) : (w4 n).length = 4 := leb_len ..
theorem w4_lt (n : Nat) : LB 18446744073709551616 (w4 n) := leb_lt (b := 18446744073709551616) (by decide) 4 n
theorem q4 : 18446744073709551616 ^ 4 = 115792089237316195423570985008687907853269984665640564039457584007913129639936 := by decide +kernel
theorem nv_w4 {n : Nat} (h : n < 115792089237316195423570985008687907853269984665640564039457584007913129639936) : nv 18446744073709551616 (w4 n) = n := by rw [nv_leb (by decide), Nat.mod_eq_of_lt (by rw [q4]; exact h)]
theorem w4_of {l : List Nat} {n : Nat} (hl : l.length = 4) (h : LB 18446744073709551616 l) (hn : nv 18446744073709551616 l = n) : l = w4 n := leb_of (by decide) hl h hn
theorem pp_q4 : pp < 115792089237316195423570985008687907853269984665640564039457584007913129639936 := by decide +kernel
theorem A64 {x y c : Nat} (hc : c ≤ 1) : F_add64 x y c = some ((x + y + c) % 18446744073709551616, (x + y + c) / 18446744073709551616) := gd_pos hc
theorem S64 {x y c : Nat} (hc : c ≤ 1) : F_sub64 x y c = some ((x + 18446744073709551616 - y - c) % 18446744073709551616, if x < y + c then 1 else 0) := gd_pos hc
theorem take_set_self {xs : List Nat} {i v : Nat} (h : i < xs.length) (b : Nat) : nv b ((xs.set i v).take (i + 1)) = nv b (xs.take i) + b ^ i * v := by
  rw [nv_at', getD_set _ _ _ _ h, if_pos rfl, List.take_set_of_le (Nat.le_refl _)]
theorem P_prime : F_field_prime = some (w4 pp) := by
  unfold F_field_prime
  exact congrArg some (by decide +kernel)
theorem P_less_run {xs ys : List Nat} (hx : LB 18446744073709551616 xs) (hy : LB 18446744073709551616 ys) : ∃ b z, run (F_field_el_less_l1 xs ys) (0, 0, List.replicate 4 0) = some (b, z) ∧ z.length = 4 ∧ LB 18446744073709551616 z ∧ b ≤ 1 ∧ nv 18446744073709551616 z + nv 18446744073709551616 (ys.take 4) = nv 18446744073709551616 (xs.take 4) + b * 18446744073709551616 ^ 4 := by
  have key := run_inv (f := F_field_el_less_l1 xs ys) (fun s : Nat × Nat × List Nat => s.2.1 ≤ 4 ∧ s.2.2.length = 4 ∧ LB 18446744073709551616 s.2.2 ∧ s.1 ≤ 1 ∧ nv 18446744073709551616 (s.2.2.take s.2.1) + nv 18446744073709551616 (ys.take s.2.1) = nv 18446744073709551616 (xs.take s.2.1) + s.1 * 18446744073709551616 ^ s.2.1)
    (fun s => 4 - s.2.1) (fun r => r.2.length = 4 ∧ LB 18446744073709551616 r.2 ∧ r.1 ≤ 1 ∧ nv 18446744073709551616 r.2 + nv 18446744073709551616 (ys.take 4) = nv 18446744073709551616 (xs.take 4) + r.1 * 18446744073709551616 ^ 4) ?_ (0, 0, List.replicate 4 0) ⟨Nat.zero_le _, rfl, LB.rep (by decide) _, Nat.zero_le _, rfl⟩
  · obtain ⟨⟨b, z⟩, hr, h⟩ := key
    exact ⟨b, z, hr, h⟩
  · rintro ⟨b, i, z⟩ ⟨h1, h2, h3, h4, h5⟩
    dsimp only at h1 h2 h3 h4 h5
    unfold F_field_el_less_l1
    dsimp only
    by_cases q : i < 4
    · left
      have a1 := hx.get (by decide) i
      have a2 := hy.get (by decide) i
      rw [if_pos q, gd_pos q, gd_pos q, S64 h4, bnd_mk]
      dsimp only
      rw [gd_pos q, gd_pos (by omega)]
      refine ⟨_, rfl, ⟨by dsimp only; omega, by simpa using h2, h3.set (Nat.mod_lt _ (by decide)) _, by dsimp only; split <;> decide, ?_⟩, by dsimp only; omega⟩
      dsimp only
      rw [take_set_self (by omega), nv_at' _ ys, nv_at' _ xs]
      generalize hv : (xs.getD i 0 + 18446744073709551616 - ys.getD i 0 - b) % 18446744073709551616 = v
      generalize hc : (if xs.getD i 0 < ys.getD i 0 + b then 1 else 0) = c
      have e : v + ys.getD i 0 + b = xs.getD i 0 + 18446744073709551616 * c := by
        rw [← hc, ← hv]
        split <;> omega
      have e2 := congrArg (18446744073709551616 ^ i * ·) e
      simp only [Nat.mul_add] at e2
      rw [show c * 18446744073709551616 ^ (i + 1) = 18446744073709551616 ^ i * (18446744073709551616 * c) by rw [Nat.pow_succ, Nat.mul_comm c, Nat.mul_assoc]]
      rw [Nat.mul_comm b] at h5
      generalize 18446744073709551616 ^ i * v = t1 at *
      generalize 18446744073709551616 ^ i * (18446744073709551616 * c) = t2 at *
      generalize 18446744073709551616 ^ i * ys.getD i 0 = t3 at *
      generalize 18446744073709551616 ^ i * xs.getD i 0 = t4 at *
      generalize 18446744073709551616 ^ i * b = t5 at *
      omega
    · right
      have : i = 4 := by omega
      subst this
      rw [if_neg q]
      refine ⟨_, rfl, h2, h3, h4, ?_⟩
      dsimp only
      rwa [List.take_of_length_le (l := z) (by omega)] at h5
theorem P_less {x y : Nat} (hx : x < 115792089237316195423570985008687907853269984665640564039457584007913129639936) (hy : y < 115792089237316195423570985008687907853269984665640564039457584007913129639936) : F_field_el_less (w4 x) (w4 y) = some (w4 (if y ≤ x then x - y else x + 115792089237316195423570985008687907853269984665640564039457584007913129639936 - y), decide (y ≤ x)) := by
  unfold F_field_el_less
  obtain ⟨b, z, h1, h2, h3, h4, h5⟩ := P_less_run (w4_lt x) (w4_lt y)
  rw [List.take_of_length_le (by rw [w4_len]; decide), List.take_of_length_le (by rw [w4_len]; decide), nv_w4 hx, nv_w4 hy, q4] at h5
  have h6 := nv_lt z h3
  rw [h2, q4] at h6
  rw [h1, bnd_mk]
  dsimp only
  have hb : b = 0 ∨ b = 1 := by omega
  rcases hb with rfl | rfl
  · rw [if_pos (by omega), ← w4_of h2 h3 (by omega), decide_eq_true (by omega : y ≤ x)]; rfl
  · rw [if_neg (by omega), ← w4_of h2 h3 (by omega), decide_eq_false (by omega : ¬ y ≤ x)]; rfl
theorem P_freeze {x : Nat} (hx : x < 115792089237316195423570985008687907853269984665640564039457584007913129639936) : F_field_el_freeze (w4 x) = some (w4 (x % pp)) := by
  unfold F_field_el_freeze
  have hpq := pp_q4
  have hp0 := pp_pos
  have key := run_inv (f := F_field_el_freeze_l1) (fun l => ∃ k, k < 115792089237316195423570985008687907853269984665640564039457584007913129639936 ∧ k % pp = x % pp ∧ l = w4 k) (fun l => nv 18446744073709551616 l) (fun r => r = w4 (x % pp)) ?_ (w4 x) ⟨x, hx, rfl, rfl⟩
  · obtain ⟨r, hr, rfl⟩ := key
    exact hr
  · rintro l ⟨k, h1, h2, rfl⟩
    unfold F_field_el_freeze_l1
    rw [P_prime, bnd_mk, P_less h1 pp_q4, bnd_mk]
    dsimp only
    by_cases q : pp ≤ k
    · left
      rw [decide_eq_true q, if_pos rfl, if_pos q]
      refine ⟨_, rfl, ⟨k - pp, by omega, by rw [← h2, ← Nat.mod_eq_sub_mod q], rfl⟩, ?_⟩
      rw [nv_w4 h1, nv_w4 (by omega)]; omega
    · right
      rw [decide_eq_false q, if_neg (by decide)]
      exact ⟨_, rfl, by rw [← h2, Nat.mod_eq_of_lt (by omega)]⟩
theorem list4 {l : List Nat} (h : l.length = 4) : ∃ a b c d, l = [a, b, c, d] := by
  match l, h with
  | [a, b, c, d], _ => exact ⟨a, b, c, d, rfl⟩
theorem P_Mul64 {x y : Nat} (hx : x < 18446744073709551616) (hy : y < 18446744073709551616) : F_bits_Mul64 x y = some (x * y / 18446744073709551616, x * y % 18446744073709551616) := by
  unfold F_bits_Mul64
  exact congrArg (fun z => some (z, x * y % 18446744073709551616)) (mul64_hi hx hy)
theorem P_fold_run {x t : Nat} (hx : x < 115792089237316195423570985008687907853269984665640564039457584007913129639936) (ht : t < 18446744073709551616) : ∃ k, k < 115792089237316195423570985008687907853269984665640564039457584007913129639936 ∧ k % pp = (x + 115792089237316195423570985008687907853269984665640564039457584007913129639936 * t) % pp ∧ run F_field_fold_l1 (t, w4 x) = some (w4 k) := by
  have key := run_inv (f := F_field_fold_l1) (fun s : Nat × List Nat => ∃ k, k < 115792089237316195423570985008687907853269984665640564039457584007913129639936 ∧ s.1 < 18446744073709551616 ∧ s.2 = w4 k ∧ (k + 115792089237316195423570985008687907853269984665640564039457584007913129639936 * s.1) % pp = (x + 115792089237316195423570985008687907853269984665640564039457584007913129639936 * t) % pp) (fun s => nv 18446744073709551616 s.2 + 115792089237316195423570985008687907853269984665640564039457584007913129639936 * s.1) (fun r => ∃ k, k < 115792089237316195423570985008687907853269984665640564039457584007913129639936 ∧ k % pp = (x + 115792089237316195423570985008687907853269984665640564039457584007913129639936 * t) % pp ∧ r = w4 k) ?_ (t, w4 x) ⟨x, hx, ht, rfl, rfl⟩
  · obtain ⟨r, hr, k, h1, h2, rfl⟩ := key
    exact ⟨k, h1, h2, hr⟩
  · rintro ⟨n, l⟩ ⟨k, h1, h2, h3, h4⟩
    dsimp only at h2 h3 h4
    have hv : nv 18446744073709551616 l = k := by rw [h3, nv_w4 h1]
    have hlb : LB 18446744073709551616 l := by rw [h3]; exact w4_lt k
    obtain ⟨a, b, c, d, hl⟩ := list4 (l := l) (by rw [h3, w4_len])
    clear h3
    subst hl
    have ha := hlb.get (by decide) 0
    have hb := hlb.get (by decide) 1
    have hc := hlb.get (by decide) 2
    have hd := hlb.get (by decide) 3
    simp only [List.getD_cons_zero, List.getD_cons_succ] at ha hb hc hd
    simp only [nv] at hv
    unfold F_field_fold_l1
    dsimp only
    by_cases q : 0 < n
    · left
      have g0 : ∀ a b c d : Nat, ([a, b, c, d] : List Nat).getD 0 0 = a := fun _ _ _ _ => rfl
      have g1 : ∀ a b c d : Nat, ([a, b, c, d] : List Nat).getD 1 0 = b := fun _ _ _ _ => rfl
      have g2 : ∀ a b c d : Nat, ([a, b, c, d] : List Nat).getD 2 0 = c := fun _ _ _ _ => rfl
      have g3 : ∀ a b c d : Nat, ([a, b, c, d] : List Nat).getD 3 0 = d := fun _ _ _ _ => rfl
      have k0 : ∀ a b c d e : Nat, ([a, b, c, d] : List Nat).set 0 e = [e, b, c, d] := fun _ _ _ _ _ => rfl
      have k1 : ∀ a b c d e : Nat, ([a, b, c, d] : List Nat).set 1 e = [a, e, c, d] := fun _ _ _ _ _ => rfl
      have k2 : ∀ a b c d e : Nat, ([a, b, c, d] : List Nat).set 2 e = [a, b, e, d] := fun _ _ _ _ _ => rfl
      have k3 : ∀ a b c d e : Nat, ([a, b, c, d] : List Nat).set 3 e = [a, b, c, e] := fun _ _ _ _ _ => rfl
      rw [if_pos q, P_Mul64 h2 (by decide), bnd_mk]
      dsimp only
      rw [g0, A64 (by decide), bnd_mk]
      dsimp only
      rw [k0, g1, A64 (by omega), bnd_mk]
      dsimp only
      rw [k1, g2, A64 (by omega), bnd_mk]
      dsimp only
      rw [k2, g3, A64 (by omega), bnd_mk]
      dsimp only
      rw [k3]
      generalize e0 : (a + n * 38 % 18446744073709551616 + 0) % 18446744073709551616 = s0
      generalize f0 : (a + n * 38 % 18446744073709551616 + 0) / 18446744073709551616 = c0
      generalize e1 : (b + n * 38 / 18446744073709551616 + c0) % 18446744073709551616 = s1
      generalize f1 : (b + n * 38 / 18446744073709551616 + c0) / 18446744073709551616 = c1
      generalize e2 : (c + 0 + c1) % 18446744073709551616 = s2
      generalize f2 : (c + 0 + c1) / 18446744073709551616 = c2
      generalize e3 : (d + 0 + c2) % 18446744073709551616 = s3
      generalize f3 : (d + 0 + c2) / 18446744073709551616 = c3
      have hnew : nv 18446744073709551616 [s0, s1, s2, s3] + 115792089237316195423570985008687907853269984665640564039457584007913129639936 * c3 = k + 38 * n := by simp only [nv]; omega
      have hlb' : LB 18446744073709551616 [s0, s1, s2, s3] := LB.cons (by omega) (LB.cons (by omega) (LB.cons (by omega) (LB.cons (by omega) LB.nil)))
      have hlt := nv_lt _ hlb'
      rw [show ([s0, s1, s2, s3] : List Nat).length = 4 from rfl, q4] at hlt
      refine ⟨_, rfl, ⟨nv 18446744073709551616 [s0, s1, s2, s3], hlt, by dsimp only; omega, w4_of rfl hlb' rfl, ?_⟩, ?_⟩
      · dsimp only
        rw [hnew, ← h4, ← show 65536 ^ 16 = 115792089237316195423570985008687907853269984665640564039457584007913129639936 by decide +kernel, mod_38]
      · dsimp only
        simp only [nv] at hnew ⊢
        omega
    · right
      have : n = 0 := by omega
      subst this
      rw [if_neg q]
      refine ⟨_, rfl, k, h1, by rw [← h4, Nat.mul_zero, Nat.add_zero], w4_of rfl hlb (by simp only [nv]; exact hv)⟩
theorem P_fold {x t : Nat} (hx : x < 115792089237316195423570985008687907853269984665640564039457584007913129639936) (ht : t < 18446744073709551616) : F_field_fold (w4 x) t = some (w4 ((x + 115792089237316195423570985008687907853269984665640564039457584007913129639936 * t) % pp)) := by
  unfold F_field_fold
  obtain ⟨k, h1, h2, h3⟩ := P_fold_run hx ht
  rw [h3, bnd_mk, P_freeze h1, bnd_mk, h2]
theorem P_add_run {xs ys : List Nat} (hx : LB 18446744073709551616 xs) (hy : LB 18446744073709551616 ys) (hxl : xs.length = 4) : ∃ c z, run (F_field_add_l1 ys) (0, 0, xs) = some (c, z) ∧ z.length = 4 ∧ LB 18446744073709551616 z ∧ c ≤ 1 ∧ nv 18446744073709551616 z + c * 18446744073709551616 ^ 4 = nv 18446744073709551616 xs + nv 18446744073709551616 (ys.take 4) := by
  have key := run_inv (f := F_field_add_l1 ys) (fun s : Nat × Nat × List Nat => s.2.1 ≤ 4 ∧ s.2.2.length = 4 ∧ LB 18446744073709551616 s.2.2 ∧ s.1 ≤ 1 ∧ nv 18446744073709551616 s.2.2 + s.1 * 18446744073709551616 ^ s.2.1 = nv 18446744073709551616 xs + nv 18446744073709551616 (ys.take s.2.1))
    (fun s => 4 - s.2.1) (fun r => r.2.length = 4 ∧ LB 18446744073709551616 r.2 ∧ r.1 ≤ 1 ∧ nv 18446744073709551616 r.2 + r.1 * 18446744073709551616 ^ 4 = nv 18446744073709551616 xs + nv 18446744073709551616 (ys.take 4)) ?_ (0, 0, xs) ⟨Nat.zero_le _, hxl, hx, Nat.zero_le _, by dsimp only; rw [List.take_zero]; simp [nv]⟩
  · obtain ⟨⟨b, z⟩, hr, h⟩ := key
    exact ⟨b, z, hr, h⟩
  · rintro ⟨b, i, z⟩ ⟨h1, h2, h3, h4, h5⟩
    dsimp only at h1 h2 h3 h4 h5
    unfold F_field_add_l1
    dsimp only
    by_cases q : i < 4
    · left
      have a1 := h3.get (by decide) i
      have a2 := hy.get (by decide) i
      rw [if_pos q, gd_pos q, gd_pos q, A64 h4, bnd_mk]
      dsimp only
      rw [gd_pos q, gd_pos (by omega)]
      have hs := nv_set 18446744073709551616 z i ((z.getD i 0 + ys.getD i 0 + b) % 18446744073709551616) (by omega)
      refine ⟨_, rfl, ⟨by dsimp only; omega, by simpa using h2, h3.set (Nat.mod_lt _ (by decide)) _, by dsimp only; omega, ?_⟩, by dsimp only; omega⟩
      dsimp only
      rw [nv_at' _ ys]
      generalize hv : (z.getD i 0 + ys.getD i 0 + b) % 18446744073709551616 = v at *
      generalize hc : (z.getD i 0 + ys.getD i 0 + b) / 18446744073709551616 = c
      have e : v + 18446744073709551616 * c = z.getD i 0 + ys.getD i 0 + b := by omega
      have e2 := congrArg (18446744073709551616 ^ i * ·) e
      simp only [Nat.mul_add] at e2
      rw [show c * 18446744073709551616 ^ (i + 1) = 18446744073709551616 ^ i * (18446744073709551616 * c) by rw [Nat.pow_succ, Nat.mul_comm c, Nat.mul_assoc]]
      rw [Nat.mul_comm b] at h5
      generalize 18446744073709551616 ^ i * v = t1 at *
      generalize 18446744073709551616 ^ i * (18446744073709551616 * c) = t2 at *
      generalize 18446744073709551616 ^ i * ys.getD i 0 = t3 at *
      generalize 18446744073709551616 ^ i * z.getD i 0 = t4 at *
      generalize 18446744073709551616 ^ i * b = t5 at *
      omega
    · right
      have : i = 4 := by omega
      subst this
      rw [if_neg q]
      exact ⟨_, rfl, h2, h3, h4, h5⟩
theorem P_add {x y : Nat} (hx : x < 115792089237316195423570985008687907853269984665640564039457584007913129639936) (hy : y < 115792089237316195423570985008687907853269984665640564039457584007913129639936) : F_field_add (w4 x) (w4 y) = some (w4 ((x + y) % pp)) := by
  unfold F_field_add
  obtain ⟨c, z, h1, h2, h3, h4, h5⟩ := P_add_run (w4_lt x) (w4_lt y) (w4_len x)
  rw [List.take_of_length_le (by rw [w4_len]; decide), nv_w4 hx, nv_w4 hy, q4] at h5
  have h6 := nv_lt z h3
  rw [h2, q4] at h6
  rw [h1, bnd_mk]
  dsimp only
  rw [w4_of h2 h3 rfl, P_fold h6 (by omega), bnd_mk, ← h5, Nat.mul_comm c]
theorem P_neg {x : Nat} (hx : x ≤ pp) : F_field_neg (w4 x) = some (w4 ((pp - x) % pp)) := by
  unfold F_field_neg
  have hpq := pp_q4
  rw [P_prime, bnd_mk, P_less pp_q4 (by omega), bnd_mk]
  dsimp only
  rw [if_pos hx, P_freeze (by omega), bnd_mk]
theorem P_mul_in {xs ys zs : List Nat} {i : Nat} (hX : LB 18446744073709551616 xs) (hY : LB 18446744073709551616 ys) (hyl : ys.length = 4) (hi : i < 4) (hz : zs.length = 8) (hZ : LB 18446744073709551616 zs) (h0 : ∀ j, i + 4 ≤ j → zs.getD j 0 = 0) (hv : MO 18446744073709551616 xs ys zs i) :
    ∃ c z, run (F_field_mul_l2 xs ys i) (0, 0, zs) = some (c, z) ∧ z.length = 8 ∧ LB 18446744073709551616 z ∧ c < 18446744073709551616 ∧ (∀ j, i + 4 ≤ j → z.getD j 0 = 0) ∧ MI 18446744073709551616 xs ys z i c 4 := by
  have key := run_inv (f := F_field_mul_l2 xs ys i) (fun s : Nat × Nat × List Nat => s.2.1 ≤ 4 ∧ s.2.2.length = 8 ∧ LB 18446744073709551616 s.2.2 ∧ s.1 < 18446744073709551616 ∧ (∀ j, i + 4 ≤ j → s.2.2.getD j 0 = 0) ∧ MI 18446744073709551616 xs ys s.2.2 i s.1 s.2.1)
    (fun s => 4 - s.2.1) (fun r => r.2.length = 8 ∧ LB 18446744073709551616 r.2 ∧ r.1 < 18446744073709551616 ∧ (∀ j, i + 4 ≤ j → r.2.getD j 0 = 0) ∧ MI 18446744073709551616 xs ys r.2 i r.1 4) ?_ (0, 0, zs) ⟨Nat.zero_le _, hz, hZ, Nat.zero_lt_succ _, h0, MI.start hv⟩
  · obtain ⟨⟨b, z⟩, hr, h⟩ := key
    exact ⟨b, z, hr, h⟩
  · rintro ⟨c, k, z⟩ ⟨h1, h2, h3, h4, h5, h6⟩
    dsimp only at h1 h2 h3 h4 h5 h6
    unfold F_field_mul_l2
    dsimp only
    by_cases q : k < 4
    · left
      have hx := hX.get (by decide) i
      have hy := hY.get (by decide) k
      have ho := h3.get (by decide) (i + k)
      obtain ⟨e1, e2⟩ := mul_words hx hy ho h4
      rw [if_pos q, gd_pos q, P_Mul64 hx hy, bnd_mk]
      dsimp only
      rw [gd_pos (by clear e1 e2; omega), gd_pos (by clear e1 e2; omega), A64 (by decide), bnd_mk]
      dsimp only
      rw [A64 (by decide), bnd_mk]
      dsimp only
      rw [gd_pos (by clear e1 e2; omega), gd_pos (by clear e1 e2; omega), gd_pos (by clear e1 e2; omega)]
      refine ⟨_, rfl, ⟨by clear e1 e2; dsimp only; omega, by simpa using h2, h3.set (Nat.mod_lt _ (by decide)) _, Nat.mod_lt _ (by decide), fun j hj => ?_, ?_⟩, by clear e1 e2; dsimp only; omega⟩
      · dsimp only
        rw [set_get (by clear e1 e2; omega)]; exact h5 j hj
      · exact MI.step (by clear e1 e2; omega) h6 e1 e2
    · right
      have : k = 4 := by omega
      subst this
      rw [if_neg q]
      exact ⟨_, rfl, h2, h3, h4, h5, h6⟩
theorem P_mul_wide {xs ys : List Nat} (hX : LB 18446744073709551616 xs) (hY : LB 18446744073709551616 ys) (hxl : xs.length = 4) (hyl : ys.length = 4) :
    ∃ z, run (F_field_mul_l1 xs ys) (0, List.replicate 8 0) = some z ∧ z.length = 8 ∧ LB 18446744073709551616 z ∧ nv 18446744073709551616 z = nv 18446744073709551616 xs * nv 18446744073709551616 ys := by
  have key := run_inv (f := F_field_mul_l1 xs ys) (fun s : Nat × List Nat => s.1 ≤ 4 ∧ s.2.length = 8 ∧ LB 18446744073709551616 s.2 ∧ (∀ j, s.1 + 4 ≤ j → s.2.getD j 0 = 0) ∧ MO 18446744073709551616 xs ys s.2 s.1)
    (fun s => 4 - s.1) (fun r => r.length = 8 ∧ LB 18446744073709551616 r ∧ nv 18446744073709551616 r = nv 18446744073709551616 xs * nv 18446744073709551616 ys) ?_ (0, List.replicate 8 0) ⟨Nat.zero_le _, rfl, LB.rep (by decide) _, fun j _ => rep_getD _ _, MO.start _⟩
  · exact key
  · rintro ⟨i, z⟩ ⟨h1, h2, h3, h4, h5⟩
    dsimp only at h1 h2 h3 h4 h5
    unfold F_field_mul_l1
    dsimp only
    by_cases q : i < 4
    · left
      obtain ⟨c, w, g1, g2, g3, g4, g5, g6⟩ := P_mul_in hX hY hyl q h2 h3 h4 h5
      rw [if_pos q, gd_pos q, g1, bnd_mk]
      dsimp only
      rw [gd_pos (by omega), gd_pos (by omega), bnd_mk, gd_pos (by omega)]
      refine ⟨_, rfl, ⟨by dsimp only; omega, by simpa using g2, g3.set g4 _, fun j hj => ?_, MI.stop hyl (by omega) (g5 _ (by omega)) g6⟩, by dsimp only; omega⟩
      dsimp only at hj ⊢
      rw [set_get (by omega)]; exact g5 j (by omega)
    · right
      rw [if_neg q]
      exact ⟨_, rfl, h2, h3, MO.stop (by omega) h5⟩
theorem mul38 {w z c : Nat} (hw : w < 18446744073709551616) (hz : z < 18446744073709551616) (hc : c ≤ 40) :
    (z + (w * 38 % 18446744073709551616 + c + 0) % 18446744073709551616 + 0) % 18446744073709551616 + 18446744073709551616 * (((w * 38 / 18446744073709551616 + (w * 38 % 18446744073709551616 + c + 0) / 18446744073709551616) % 18446744073709551616 + (z + (w * 38 % 18446744073709551616 + c + 0) % 18446744073709551616 + 0) / 18446744073709551616) % 18446744073709551616) = z + 38 * w + c ∧
    ((w * 38 / 18446744073709551616 + (w * 38 % 18446744073709551616 + c + 0) / 18446744073709551616) % 18446744073709551616 + (z + (w * 38 % 18446744073709551616 + c + 0) % 18446744073709551616 + 0) / 18446744073709551616) % 18446744073709551616 ≤ 40 := by
  have h1 : w * 38 / 18446744073709551616 ≤ 37 := by omega
  have h2 := Nat.mod_add_div (w * 38) 18446744073709551616
  have h2' : w * 38 % 18446744073709551616 < 18446744073709551616 := Nat.mod_lt _ (by decide)
  generalize w * 38 / 18446744073709551616 = hi at *
  generalize w * 38 % 18446744073709551616 = lo at *
  have h3 := Nat.mod_add_div (lo + c + 0) 18446744073709551616
  have h4 : (lo + c + 0) / 18446744073709551616 ≤ 1 := by omega
  have h4' : (lo + c + 0) % 18446744073709551616 < 18446744073709551616 := Nat.mod_lt _ (by decide)
  generalize (lo + c + 0) / 18446744073709551616 = k1 at *
  generalize (lo + c + 0) % 18446744073709551616 = s at *
  have h5 := Nat.mod_add_div (z + s + 0) 18446744073709551616
  have h6 : (z + s + 0) / 18446744073709551616 ≤ 1 := by omega
  generalize (z + s + 0) / 18446744073709551616 = k2 at *
  generalize (z + s + 0) % 18446744073709551616 = v at *
  rw [show (hi + k1) % 18446744073709551616 = hi + k1 by omega, show (hi + k1 + k2) % 18446744073709551616 = hi + k1 + k2 by omega]
  omega
theorem P_mul_low {w : List Nat} (hw : w.length = 8) (hb : LB 18446744073709551616 w) : ∃ c z, run (F_field_mul_l3 w) (0, 0, w.take 4) = some (c, z) ∧ z.length = 4 ∧ LB 18446744073709551616 z ∧ c < 18446744073709551616 ∧ nv 18446744073709551616 z + c * 18446744073709551616 ^ 4 = nv 18446744073709551616 (w.take 4) + 38 * nv 18446744073709551616 (w.drop 4) := by
  have key := run_inv (f := F_field_mul_l3 w) (fun s : Nat × Nat × List Nat => s.2.1 ≤ 4 ∧ s.2.2.length = 4 ∧ LB 18446744073709551616 s.2.2 ∧ s.1 ≤ 40 ∧ nv 18446744073709551616 s.2.2 + s.1 * 18446744073709551616 ^ s.2.1 = nv 18446744073709551616 (w.take 4) + 38 * nv 18446744073709551616 ((w.drop 4).take s.2.1))
    (fun s => 4 - s.2.1) (fun r => r.2.length = 4 ∧ LB 18446744073709551616 r.2 ∧ r.1 < 18446744073709551616 ∧ nv 18446744073709551616 r.2 + r.1 * 18446744073709551616 ^ 4 = nv 18446744073709551616 (w.take 4) + 38 * nv 18446744073709551616 (w.drop 4)) ?_ (0, 0, w.take 4) ⟨Nat.zero_le _, by rw [List.length_take]; omega, LB.take hb _, Nat.zero_le _, by dsimp only; rw [List.take_zero]; simp [nv]⟩
  · obtain ⟨⟨b, z⟩, hr, h⟩ := key
    exact ⟨b, z, hr, h⟩
  · rintro ⟨c, i, z⟩ ⟨h1, h2, h3, h4, h5⟩
    dsimp only at h1 h2 h3 h4 h5
    unfold F_field_mul_l3
    dsimp only
    by_cases q : i < 4
    · left
      have a1 := h3.get (by decide) i
      have a2 := hb.get (by decide) (4 + i)
      rw [if_pos q, gd_pos (by omega), gd_pos (by omega), P_Mul64 a2 (by decide), bnd_mk]
      dsimp only
      rw [A64 (by decide), bnd_mk]
      dsimp only
      rw [gd_pos q, A64 (by decide), bnd_mk]
      dsimp only
      rw [gd_pos q, gd_pos (by omega)]
      have hs := nv_set 18446744073709551616 z i ((z.getD i 0 + (w.getD (4 + i) 0 * 38 % 18446744073709551616 + c + 0) % 18446744073709551616 + 0) % 18446744073709551616) (by omega)
      obtain ⟨e, e0⟩ := mul38 a2 a1 h4
      refine ⟨_, rfl, ⟨by clear e e0; dsimp only; omega, by simpa using h2, h3.set (Nat.mod_lt _ (by decide)) _, e0, ?_⟩, by clear e e0; dsimp only; omega⟩
      dsimp only
      rw [nv_at' _ (w.drop 4), getD_drop]
      generalize hv : (z.getD i 0 + (w.getD (4 + i) 0 * 38 % 18446744073709551616 + c + 0) % 18446744073709551616 + 0) % 18446744073709551616 = v at *
      generalize hc : ((w.getD (4 + i) 0 * 38 / 18446744073709551616 + (w.getD (4 + i) 0 * 38 % 18446744073709551616 + c + 0) / 18446744073709551616) % 18446744073709551616 + (z.getD i 0 + (w.getD (4 + i) 0 * 38 % 18446744073709551616 + c + 0) % 18446744073709551616 + 0) / 18446744073709551616) % 18446744073709551616 = c' at *
      have e2 := congrArg (18446744073709551616 ^ i * ·) e
      simp only [Nat.mul_add] at e2
      rw [show c' * 18446744073709551616 ^ (i + 1) = 18446744073709551616 ^ i * (18446744073709551616 * c') by rw [Nat.pow_succ, Nat.mul_comm c', Nat.mul_assoc]]
      rw [Nat.mul_comm c] at h5
      rw [Nat.mul_left_comm _ 38] at e2
      rw [Nat.mul_add 38]
      generalize 18446744073709551616 ^ i * v = t1 at *
      generalize 18446744073709551616 ^ i * (18446744073709551616 * c') = t2 at *
      generalize 18446744073709551616 ^ i * w.getD (4 + i) 0 = t3 at *
      generalize 18446744073709551616 ^ i * z.getD i 0 = t4 at *
      generalize 18446744073709551616 ^ i * c = t5 at *
      omega
    · right
      have : i = 4 := by omega
      subst this
      rw [if_neg q]
      refine ⟨_, rfl, h2, h3, by dsimp only; omega, ?_⟩
      dsimp only
      rwa [List.take_of_length_le (l := w.drop 4) (by rw [List.length_drop]; omega)] at h5
theorem P_mul {x y : Nat} (hx : x < 115792089237316195423570985008687907853269984665640564039457584007913129639936) (hy : y < 115792089237316195423570985008687907853269984665640564039457584007913129639936) : F_field_mul (w4 x) (w4 y) = some (w4 (x * y % pp)) := by
  unfold F_field_mul
  obtain ⟨w, h1, h2, h3, h4⟩ := P_mul_wide (w4_lt x) (w4_lt y) (w4_len x) (w4_len y)
  obtain ⟨c, z, g1, g2, g3, g4, g5⟩ := P_mul_low h2 h3
  rw [h1, bnd_mk, g1, bnd_mk]
  dsimp only
  have h6 := nv_lt z g3
  rw [g2, q4] at h6
  rw [w4_of g2 g3 rfl, P_fold h6 g4, bnd_mk]
  have hsp := nv_split 18446744073709551616 w 4 (by omega)
  rw [h4, nv_w4 hx, nv_w4 hy] at hsp
  rw [hsp, Nat.mul_comm 115792089237316195423570985008687907853269984665640564039457584007913129639936, ← q4, g5, ← show 65536 ^ 16 = 18446744073709551616 ^ 4 by decide +kernel, mod_38]
end Go.Proofs.Ytnagkhofkjjajaa

set_option linter.unusedVariables false
set_option linter.unusedSimpArgs false
set_option maxRecDepth 10000
namespace Go.Proofs.Ytnagkhofkjjajaa
/-! ### bytes to words -/
/-- the upper k bytes of a word -/
def rd (l : List Nat) (i k : Nat) : Nat := nv 256 ((l.drop (8 * i + (8 - k))).take k)
theorem rd_lt {l : List Nat} (h : LB 256 l) (i k : Nat) : rd l i k < 256 ^ k := by
  unfold rd
  exact nv_bound ((h.drop _).take _) (by rw [List.length_take]; omega)
theorem rd_step {l : List Nat} {i k : Nat} (hl : l.length = 32) (hi : i < 4) (hk : k < 8) : rd l i (k + 1) = l.getD (8 * i + (7 - k)) 0 + 256 * rd l i k := by
  unfold rd
  rw [show 8 - (k + 1) = 7 - k by omega, drop_cons (i := 8 * i + (7 - k)) (by omega), show 8 * i + (7 - k) + 1 = 8 * i + (8 - k) by omega]
  rfl
theorem shl_or {x b : Nat} (hx : x < 72057594037927936) (hb : b < 256) : x * 2 ^ 8 % 18446744073709551616 ||| b = b + 256 * x := by
  rw [Nat.mod_eq_of_lt (by omega), ← Nat.shiftLeft_eq, ← Nat.shiftLeft_add_eq_or_of_lt (show b < 2 ^ 8 from hb), Nat.shiftLeft_eq]
  omega
theorem P_read {n : Nat} (hn : n < 115792089237316195423570985008687907853269984665640564039457584007913129639936) : F_field_read (b32 n) = some (w4 n) := by
  unfold F_field_read
  have hb := b32_by n
  have hl := b32_len n
  have hnv : nv 256 (b32 n) = n := nv_b32 (by rw [show (256 : Nat) ^ 32 = 115792089237316195423570985008687907853269984665640564039457584007913129639936 by decide +kernel]; exact hn)
  generalize b32 n = l at *
  have h := run_for (f := F_field_read_l1 l) (x := (List.range 4).map (fun i => rd l i 8)) (fun i => (i, (List.range i).map (fun i => rd l i 8) ++ List.replicate (4 - i) 0)) 4 (fun i hi => ?_) ?_
  · have e : ((0 : Nat), (List.range 0).map (fun i => rd l i 8) ++ List.replicate (4 - 0) 0) = (0, List.replicate 4 0) := rfl
    rw [e] at h
    rw [h, bnd_mk]
    congr 1
    refine w4_of (by simp) ?_ ?_
    · intro x hx
      obtain ⟨i, _, rfl⟩ := List.mem_map.1 hx
      exact rd_lt hb i 8
    · have key : ∀ k, k ≤ 4 → nv 18446744073709551616 ((List.range k).map (fun i => rd l i 8)) = nv 256 (l.take (8 * k)) := by
        intro k
        induction k with
        | zero => intro _; rfl
        | succ k ih =>
          intro hk
          rw [List.range_succ, List.map_append, nv_append, ih (by omega)]
          have h2 := nv_split 256 (l.take (8 * (k + 1))) (8 * k) (by rw [List.length_take]; omega)
          rw [List.take_take, Nat.min_eq_left (by omega), List.drop_take] at h2
          rw [h2, show 8 * (k + 1) - 8 * k = 8 by omega]
          simp only [List.length_map, List.length_range, List.map_cons, List.map_nil, nv]
          rw [Nat.mul_zero, Nat.add_zero, bp]
          rfl
      rw [key 4 (by decide), List.take_of_length_le (by omega), hnv]
  · unfold F_field_read_l1
    dsimp only
    have hZ0 : ((List.range i).map (fun i => rd l i 8) ++ List.replicate (4 - i) 0).getD i 0 = 0 := by
      have h1 : ((List.range i).map (fun i => rd l i 8)).length = i := by simp
      rw [List.getD_eq_getElem?_getD, List.getElem?_append_right (by omega), h1, Nat.sub_self, ← List.getD_eq_getElem?_getD, rep_getD]
    have hZl : ((List.range i).map (fun i => rd l i 8) ++ List.replicate (4 - i) 0).length = 4 := by simp; omega
    have hfill := fillg_step (fun i => rd l i 8) 0 (i := i) (m := 4) hi
    generalize (List.range i).map (fun i => rd l i 8) ++ List.replicate (4 - i) 0 = Z at *
    have h2 := run_for (f := F_field_read_l2 l i) (x := Z.set i (rd l i 8)) (fun k => ((7 : Int) - (k : Int), Z.set i (rd l i k))) 8 (fun k hk => ?_) ?_
    · have e : (((7 : Int) - ((0 : Nat) : Int)), Z.set i (rd l i 0)) = (((7 : Nat) : Int), Z) := by
        have : Z.set i (rd l i 0) = Z := by
          have e0 : rd l i 0 = Z.getD i 0 := by rw [hZ0]; rfl
          rw [e0, List.getD_eq_getElem?_getD, List.getElem?_eq_getElem (by omega)]
          exact List.set_getElem_self _
        rw [this]; rfl
      rw [e] at h2
      rw [if_pos hi, h2, bnd_mk, gd_pos (by omega), hfill]
    · unfold F_field_read_l2
      dsimp only
      have e1 : Int.toNat ((((8 * i : Nat)) : Int) + ((7 : Int) - (k : Int))) = 8 * i + (7 - k) := by omega
      have hg : (Z.set i (rd l i k)).getD i 0 = rd l i k := by rw [getD_set _ _ _ _ (by omega), if_pos rfl]
      have hlt : rd l i k < 72057594037927936 := Nat.lt_of_lt_of_le (rd_lt hb i k) (Nat.pow_le_pow_right (n := 256) (by decide) (show k ≤ 7 by omega))
      rw [if_pos (by omega), gd_pos hi, gd_pos (by omega), gd_pos (by omega), gd_pos (by omega), gd_pos (by omega), gd_pos (by omega), gd_pos hi, gd_pos (by omega), gd_pos (by omega), e1, hg, shl_or hlt (hb.get (by decide) _), ← rd_step hl hi hk, List.set_set]
      rw [show (7 : Int) - (k : Int) - ((1 : Nat) : Int) = (7 : Int) - ((k + 1 : Nat) : Int) by omega]
    · unfold F_field_read_l2
      dsimp only
      rw [if_neg (by omega)]
  · unfold F_field_read_l1
    dsimp only
    rw [if_neg (by decide)]
    rfl
/-! ### words to bytes -/
theorem byte_of {n i r : Nat} (hr : r < 8) : n / 18446744073709551616 ^ i % 18446744073709551616 / 2 ^ (8 * r) % 256 = n / 256 ^ (8 * i + r) % 256 := by
  rw [bp, Nat.pow_add, ← Nat.div_div_eq_div_mul]
  generalize n / 256 ^ (8 * i) = a
  have e : 18446744073709551616 = 256 ^ r * 256 ^ (8 - r) := by rw [← Nat.pow_add, show r + (8 - r) = 8 by omega]
  rw [show (2 : Nat) ^ (8 * r) = 256 ^ r by rw [Nat.pow_mul], e, Nat.mod_mul_right_div_self]
  obtain ⟨d, hd⟩ : ∃ d, 8 - r = d + 1 := ⟨7 - r, by omega⟩
  rw [hd, Nat.pow_succ]
  exact Nat.mod_mul_left_mod _ _ _
theorem P_bytes {n : Nat} (hn : n < 115792089237316195423570985008687907853269984665640564039457584007913129639936) : F_field_el_bytes (w4 n) = some (b32 n) := by
  unfold F_field_el_bytes
  have hfin : (List.range 32).map (fun j => n / 256 ^ j % 256) = b32 n := by
    apply List.ext_getElem
    · rw [b32_len]; simp
    · intro j h1 h2
      rw [List.getElem_map, List.getElem_range]
      have h3 := leb_get (b := 256) 32 n j (by rw [b32_len] at h2; exact h2)
      rw [List.getD_eq_getElem?_getD, List.getElem?_eq_getElem h2] at h3
      exact h3.symm
  have h := run_for (f := F_field_el_bytes_l1 (w4 n)) (x := (List.range 32).map (fun j => n / 256 ^ j % 256)) (fun i => (i, (List.range (8 * i)).map (fun j => n / 256 ^ j % 256) ++ List.replicate (32 - 8 * i) 0)) 4 (fun i hi => ?_) ?_
  · have e : ((0 : Nat), (List.range (8 * 0)).map (fun j => n / 256 ^ j % 256) ++ List.replicate (32 - 8 * 0) 0) = (0, List.replicate 32 0) := rfl
    rw [e] at h
    rw [h, bnd_mk, hfin]
  · unfold F_field_el_bytes_l1
    dsimp only
    have h2 := run_for (f := F_field_el_bytes_l2 (w4 n) i) (x := (List.range (8 * (i + 1))).map (fun j => n / 256 ^ j % 256) ++ List.replicate (32 - 8 * (i + 1)) 0) (fun k => (k, (List.range (8 * i + k)).map (fun j => n / 256 ^ j % 256) ++ List.replicate (32 - (8 * i + k)) 0)) 8 (fun k hk => ?_) ?_
    · rw [Nat.add_zero] at h2
      rw [if_pos hi, gd_pos hi, h2, bnd_mk, gd_pos (by omega)]
    · unfold F_field_el_bytes_l2
      dsimp only
      rw [if_pos hk, gd_pos (by omega), gd_pos (by omega), gd_pos (by omega), gd_pos (by omega), gd_pos (by omega), leb_get 4 n i hi, byte_of hk]
      rw [fillg_step (fun j => n / 256 ^ j % 256) 0 (i := 8 * i + k) (m := 32) (by omega)]
      rfl
    · unfold F_field_el_bytes_l2
      dsimp only
      rw [if_neg (by decide)]
      rfl
  · unfold F_field_el_bytes_l1
    dsimp only
    rw [if_neg (by decide)]
    rfl
theorem P_FIs {n : Nat} (hn : n < 115792089237316195423570985008687907853269984665640564039457584007913129639936) : F_field_Is (b32 n) = some (decide (n < pp)) := by
  unfold F_field_Is
  rw [P_read hn, bnd_mk, P_prime, bnd_mk, P_less hn pp_q4, bnd_mk]
  dsimp only
  by_cases q : pp ≤ n
  · rw [decide_eq_true q, decide_eq_false (by omega : ¬ n < pp)]; rfl
  · rw [decide_eq_false q, decide_eq_true (by omega : n < pp)]; rfl
theorem w4_0 : List.replicate 4 0 = w4 0 := rfl
theorem P_two {a b : Nat} (ha : a < 115792089237316195423570985008687907853269984665640564039457584007913129639936) (hb : b < 115792089237316195423570985008687907853269984665640564039457584007913129639936) : F_field_two (b32 a) (b32 b) = some (if a < pp ∧ b < pp then (w4 a, w4 b, 0) else (w4 0, w4 0, 1)) := by
  unfold F_field_two
  rw [P_FIs ha, bnd_mk]
  by_cases q : a < pp
  · rw [decide_eq_true q, if_pos rfl, P_FIs hb, bnd_mk, bnd_mk]
    by_cases q2 : b < pp
    · rw [decide_eq_true q2, if_neg (by decide), P_read ha, bnd_mk, P_read hb, bnd_mk, if_pos ⟨q, q2⟩]; rfl
    · rw [decide_eq_false q2, if_pos (by decide), if_neg (fun h => q2 h.2)]; rfl
  · rw [decide_eq_false q, if_neg (by decide), bnd_mk, if_pos rfl, if_neg (fun h => q h.1)]; rfl
theorem md_lt (n : Nat) : n % pp < 115792089237316195423570985008687907853269984665640564039457584007913129639936 := Nat.lt_trans (Nat.mod_lt _ pp_pos) pp_q4
theorem P_FAdd {a b : Nat} (ha : a < 115792089237316195423570985008687907853269984665640564039457584007913129639936) (hb : b < 115792089237316195423570985008687907853269984665640564039457584007913129639936) : F_field_Add (b32 a) (b32 b) = some (if a < pp ∧ b < pp then (b32 ((a + b) % pp), 0) else (b32 0, 1)) := by
  unfold F_field_Add
  rw [P_two ha hb, bnd_mk]
  by_cases q : a < pp ∧ b < pp
  · rw [if_pos q, if_pos q]; dsimp only; rw [P_add ha hb, bnd_mk, P_bytes (md_lt _), bnd_mk]
  · rw [if_neg q, if_neg q]; dsimp only; rw [P_add (by decide) (by decide), bnd_mk, P_bytes (md_lt _), bnd_mk, show (0 + 0) % pp = 0 by decide]
theorem P_FSub {a b : Nat} (ha : a < 115792089237316195423570985008687907853269984665640564039457584007913129639936) (hb : b < 115792089237316195423570985008687907853269984665640564039457584007913129639936) : F_field_Sub (b32 a) (b32 b) = some (if a < pp ∧ b < pp then (b32 ((a + (pp - b)) % pp), 0) else (b32 0, 1)) := by
  unfold F_field_Sub
  rw [P_two ha hb, bnd_mk]
  by_cases q : a < pp ∧ b < pp
  · rw [if_pos q, if_pos q]; dsimp only; rw [P_neg (by omega), bnd_mk, P_add ha (md_lt _), bnd_mk, P_bytes (md_lt _), bnd_mk, Nat.add_mod_mod]
  · rw [if_neg q, if_neg q]; dsimp only; rw [P_neg (Nat.zero_le _), bnd_mk, P_add (by decide) (md_lt _), bnd_mk, P_bytes (md_lt _), bnd_mk]
    rw [Nat.sub_zero, Nat.mod_self]
    rfl
theorem P_FMul {a b : Nat} (ha : a < 115792089237316195423570985008687907853269984665640564039457584007913129639936) (hb : b < 115792089237316195423570985008687907853269984665640564039457584007913129639936) : F_field_Mul (b32 a) (b32 b) = some (if a < pp ∧ b < pp then (b32 (a * b % pp), 0) else (b32 0, 1)) := by
  unfold F_field_Mul
  rw [P_two ha hb, bnd_mk]
  by_cases q : a < pp ∧ b < pp
  · rw [if_pos q, if_pos q]; dsimp only; rw [P_mul ha hb, bnd_mk, P_bytes (md_lt _), bnd_mk]
  · rw [if_neg q, if_neg q]; dsimp only; rw [P_mul (by decide) (by decide), bnd_mk, P_bytes (md_lt _), bnd_mk, show (0 * 0) % pp = 0 by decide]
/-! ### powers -/
def E1 : Nat := 2 ^ 252 - 2
def E2 : Nat := 2 ^ 253 - 5
def EI : Nat := pp - 2
/-- the exponent that some bits tell, the highest first -/
def eR (bit : Nat → Bool) : Nat → Nat
  | 0 => 0
  | k + 1 => 2 * eR bit k + (bit k).toNat
theorem pw2 (a e : Nat) : (a ^ e % pp) * (a ^ e % pp) % pp = a ^ (2 * e) % pp := by rw [← Nat.mul_mod, ← Nat.pow_add]; congr 2; omega
theorem pw21 (a e : Nat) : (a ^ e % pp) * a % pp = a ^ (e + 1) % pp := by rw [Nat.mod_mul_mod, Nat.pow_succ]
theorem w4_1 : ((List.replicate 4 0).set 0 1) = w4 1 := by decide
theorem w4_2 : ((List.replicate 4 0).set 0 2) = w4 2 := by decide
theorem one_pow (x : Nat) : (1 : Nat) = x ^ 0 % pp := by rw [Nat.pow_zero, Nat.mod_eq_of_lt (by decide +kernel)]
theorem pwm_lt {k x e : Nat} (he : e < 2 ^ k) : pwF pp k x e < 115792089237316195423570985008687907853269984665640564039457584007913129639936 := by rw [pwF_eq _ _ _ _ he]; exact md_lt _
theorem e1_lt (x : Nat) : pwF pp 252 x E1 < 115792089237316195423570985008687907853269984665640564039457584007913129639936 := pwm_lt (by decide +kernel)
theorem e2_lt (x : Nat) : pwF pp 253 x E2 < 115792089237316195423570985008687907853269984665640564039457584007913129639936 := pwm_lt (by decide +kernel)
theorem ei_lt (x : Nat) : pwF pp 255 x EI < 115792089237316195423570985008687907853269984665640564039457584007913129639936 := pwm_lt (by decide +kernel)
theorem e1_p (x : Nat) : pwF pp 252 x E1 < pp := by rw [pwF_eq _ _ _ _ (by decide +kernel)]; exact Nat.mod_lt _ pp_pos
theorem P_root1 {x : Nat} (hx : x < 115792089237316195423570985008687907853269984665640564039457584007913129639936) : run (F_field_Root_l1 (w4 x)) (((251 : Nat) : Int), ((List.replicate 4 0).set 0 1)) = some (w4 (pwF pp 252 x E1)) := by
  have h := run_for (f := F_field_Root_l1 (w4 x)) (x := w4 (x ^ eR (fun k => decide (k < 251)) 252 % pp)) (fun k => ((251 : Int) - (k : Int), w4 (x ^ eR (fun k => decide (k < 251)) k % pp))) 252 (fun k hk => ?_) ?_
  · have e : (((251 : Int) - ((0 : Nat) : Int)), w4 (x ^ eR (fun k => decide (k < 251)) 0 % pp)) = (((251 : Nat) : Int), ((List.replicate 4 0).set 0 1)) := by
      rw [w4_1, show eR (fun k => decide (k < 251)) 0 = 0 from rfl, ← one_pow]; rfl
    rw [e] at h
    rw [h, show eR (fun k => decide (k < 251)) 252 = E1 by decide +kernel, ← pwF_eq pp 252 x E1 (by decide +kernel)]
  · unfold F_field_Root_l1
    dsimp only
    rw [if_pos (by omega), P_mul (md_lt _) (md_lt _), bnd_mk, pw2]
    have hr : eR (fun k => decide (k < 251)) (k + 1) = 2 * eR (fun k => decide (k < 251)) k + (decide (k < 251)).toNat := rfl
    by_cases q : k < 251
    · rw [if_pos (by omega), P_mul (md_lt _) hx, bnd_mk, pw21, gd_pos (by omega), gd_pos (by omega), hr, decide_eq_true q]
      congr 3
      omega
    · rw [if_neg (by omega), gd_pos (by omega), gd_pos (by omega), hr, decide_eq_false q]
      congr 3
      omega
  · unfold F_field_Root_l1
    dsimp only
    rw [if_neg (by omega)]
theorem P_root2 : run F_field_Root_l2 (((252 : Nat) : Int), ((List.replicate 4 0).set 0 1)) = some (w4 (pwF pp 253 2 E2)) := by
  have h := run_for (f := F_field_Root_l2) (x := w4 (2 ^ eR (fun k => !decide (k = 250)) 253 % pp)) (fun k => ((252 : Int) - (k : Int), w4 (2 ^ eR (fun k => !decide (k = 250)) k % pp))) 253 (fun k hk => ?_) ?_
  · have e : (((252 : Int) - ((0 : Nat) : Int)), w4 (2 ^ eR (fun k => !decide (k = 250)) 0 % pp)) = (((252 : Nat) : Int), ((List.replicate 4 0).set 0 1)) := by
      rw [w4_1, show eR (fun k => !decide (k = 250)) 0 = 0 from rfl, ← one_pow]; rfl
    rw [e] at h
    rw [h, show eR (fun k => !decide (k = 250)) 253 = E2 by decide +kernel, ← pwF_eq pp 253 2 E2 (by decide +kernel)]
  · unfold F_field_Root_l2
    dsimp only
    rw [if_pos (by omega), P_mul (md_lt _) (md_lt _), bnd_mk, pw2]
    have hr : eR (fun k => !decide (k = 250)) (k + 1) = 2 * eR (fun k => !decide (k = 250)) k + (!decide (k = 250)).toNat := rfl
    by_cases q : k = 250
    · rw [if_pos (by omega), gd_pos (by omega), gd_pos (by omega), hr, decide_eq_true q]
      congr 3
      omega
    · rw [if_neg (by omega), w4_2, P_mul (md_lt _) (by decide), bnd_mk, pw21, gd_pos (by omega), gd_pos (by omega), hr, decide_eq_false q]
      congr 3
      omega
  · unfold F_field_Root_l2
    dsimp only
    rw [if_neg (by omega)]
/-- the bits of p - 2 -/
def invB (z : Nat) : Bool := decide (((w4 (pp - 2)).getD (z / 64) 0 / 2 ^ (z % 64)) &&& 1 = 1)
theorem P_inv1 {x : Nat} (hx : x < 115792089237316195423570985008687907853269984665640564039457584007913129639936) : run (F_field_Inv_l1 (w4 (pp - 2)) (w4 x)) (((254 : Nat) : Int), ((List.replicate 4 0).set 0 1)) = some (w4 (pwF pp 255 x EI)) := by
  have h := run_for (f := F_field_Inv_l1 (w4 (pp - 2)) (w4 x)) (x := w4 (x ^ eR (fun k => invB (254 - k)) 255 % pp)) (fun k => ((254 : Int) - (k : Int), w4 (x ^ eR (fun k => invB (254 - k)) k % pp))) 255 (fun k hk => ?_) ?_
  · have e : (((254 : Int) - ((0 : Nat) : Int)), w4 (x ^ eR (fun k => invB (254 - k)) 0 % pp)) = (((254 : Nat) : Int), ((List.replicate 4 0).set 0 1)) := by
      rw [w4_1, show eR (fun k => invB (254 - k)) 0 = 0 from rfl, ← one_pow]; rfl
    rw [e] at h
    rw [h, show eR (fun k => invB (254 - k)) 255 = EI by decide +kernel, ← pwF_eq pp 255 x EI (by decide +kernel)]
  · unfold F_field_Inv_l1
    dsimp only
    have e1 : Int.toNat (((254 : Int) - (k : Int)) / ((64 : Nat) : Int)) = (254 - k) / 64 := by omega
    have e2 : Int.toNat (((254 : Int) - (k : Int)) % ((64 : Nat) : Int)) = (254 - k) % 64 := by omega
    rw [if_pos (by omega), P_mul (md_lt _) (md_lt _), bnd_mk, pw2, gd_pos (by omega), gd_pos (by omega), gd_pos (by omega), gd_pos (by omega), gd_pos (by omega), gd_pos (by omega), gd_pos (by omega), e1, e2]
    have hr : eR (fun k => invB (254 - k)) (k + 1) = 2 * eR (fun k => invB (254 - k)) k + (invB (254 - k)).toNat := rfl
    by_cases q : ((w4 (pp - 2)).getD ((254 - k) / 64) 0 / 2 ^ ((254 - k) % 64)) &&& 1 = 1
    · rw [if_pos q, P_mul (md_lt _) hx, bnd_mk, pw21, gd_pos (by omega), gd_pos (by omega), hr, show invB (254 - k) = true from decide_eq_true q]
      congr 3
      omega
    · rw [if_neg q, gd_pos (by omega), gd_pos (by omega), hr, show invB (254 - k) = false from decide_eq_false q]
      congr 3
      omega
  · unfold F_field_Inv_l1
    dsimp only
    rw [if_neg (by omega)]
theorem b32_0 : List.replicate 32 0 = b32 0 := by decide
theorem q32 : (256 : Nat) ^ 32 = 115792089237316195423570985008687907853269984665640564039457584007913129639936 := by decide +kernel
theorem b32_eq {a b : Nat} (ha : a < 115792089237316195423570985008687907853269984665640564039457584007913129639936) (hb : b < 115792089237316195423570985008687907853269984665640564039457584007913129639936) : b32 a = b32 b ↔ a = b := leb_eq (by decide) (by rw [q32]; exact ha) (by rw [q32]; exact hb)
theorem w4_eq {a b : Nat} (ha : a < 115792089237316195423570985008687907853269984665640564039457584007913129639936) (hb : b < 115792089237316195423570985008687907853269984665640564039457584007913129639936) : w4 a = w4 b ↔ a = b := leb_eq (by decide) (by rw [q4]; exact ha) (by rw [q4]; exact hb)
theorem P_FInv {a : Nat} (ha : a < 115792089237316195423570985008687907853269984665640564039457584007913129639936) : F_field_Inv (b32 a) = some (if a < pp then if a = 0 then (b32 0, 20) else (b32 (pwF pp 255 a EI), 0) else (b32 0, 1)) := by
  unfold F_field_Inv
  rw [P_FIs ha, bnd_mk]
  by_cases q : a < pp
  · rw [decide_eq_true q, if_pos rfl, if_pos q, b32_0]
    by_cases q2 : a = 0
    · subst q2; rw [if_pos rfl, if_pos rfl]; rfl
    · rw [if_neg (fun h => q2 ((b32_eq ha (by decide)).1 h)), if_neg q2, P_prime, bnd_mk, w4_2, P_less pp_q4 (by decide), bnd_mk]
      dsimp only
      rw [if_pos (by decide), P_read ha, bnd_mk, P_inv1 ha, bnd_mk, P_bytes (ei_lt _), bnd_mk]; rfl
  · rw [decide_eq_false q, if_neg (by decide), if_neg q, b32_0]; rfl
/-- the root that layer 16 finds -/
def rootN (n : Nat) : Nat × Bool :=
  let r0 := pwF pp 252 n E1
  let r1 := if r0 * r0 % pp = n then r0 else r0 * (pwF pp 253 2 E2) % pp
  if r1 * r1 % pp = n then (if r1 % 2 = 1 then (pp - r1) % pp else r1, true) else (0, false)
theorem P_FRoot {a : Nat} (ha : a < 115792089237316195423570985008687907853269984665640564039457584007913129639936) : F_field_Root (b32 a) = some (if a < pp then (b32 (rootN a).1, (rootN a).2, 0) else (b32 0, false, 1)) := by
  unfold F_field_Root
  rw [P_FIs ha, bnd_mk]
  by_cases q : a < pp
  · rw [decide_eq_true q, if_pos rfl, if_pos q, P_read ha, bnd_mk, P_root1 ha, bnd_mk, P_mul (e1_lt _) (e1_lt _), bnd_mk]
    have e : (if w4 (pwF pp 252 a E1 * (pwF pp 252 a E1) % pp) = w4 a then (some (w4 (pwF pp 252 a E1))) else (bnd (run (F_field_Root_l2) (((252 : Nat) : Int), ((List.replicate 4 0).set 0 1)) : Option (List Nat)) (fun (l11 : List Nat) => bnd (F_field_mul (w4 (pwF pp 252 a E1)) l11) (fun (l16 : List Nat) => some l16))))
        = some (w4 (if pwF pp 252 a E1 * (pwF pp 252 a E1) % pp = a then pwF pp 252 a E1 else pwF pp 252 a E1 * (pwF pp 253 2 E2) % pp)) := by
      by_cases q2 : pwF pp 252 a E1 * (pwF pp 252 a E1) % pp = a
      · rw [if_pos (congrArg w4 q2), if_pos q2]
      · rw [if_neg (fun h => q2 ((w4_eq (md_lt _) ha).1 h)), if_neg q2, P_root2, bnd_mk, P_mul (e1_lt _) (e2_lt _), bnd_mk]
    rw [e, bnd_mk]
    unfold rootN
    dsimp only
    generalize hr : (if pwF pp 252 a E1 * (pwF pp 252 a E1) % pp = a then pwF pp 252 a E1 else pwF pp 252 a E1 * (pwF pp 253 2 E2) % pp) = r
    have hlt : r < pp := by
      rw [← hr]
      split
      · exact e1_p _
      · exact Nat.mod_lt _ pp_pos
    have hq : r < 115792089237316195423570985008687907853269984665640564039457584007913129639936 := Nat.lt_trans hlt pp_q4
    rw [P_mul hq hq, bnd_mk]
    by_cases q3 : r * r % pp = a
    · rw [if_pos (congrArg w4 q3), if_pos q3, leb_get 4 r 0 (by decide), Nat.pow_zero, Nat.div_one, Nat.and_one_is_mod, show r % 18446744073709551616 % 2 = r % 2 by omega]
      by_cases q4 : r % 2 = 1
      · rw [if_pos q4, if_pos q4, P_neg (by omega), bnd_mk, bnd_mk, P_bytes (md_lt _), bnd_mk]; rfl
      · rw [if_neg q4, if_neg q4, bnd_mk, P_bytes hq, bnd_mk]; rfl
    · rw [if_neg (fun h => q3 ((w4_eq (md_lt _) ha).1 h)), if_neg q3, b32_0]; rfl
  · rw [decide_eq_false q, if_neg (by decide), if_neg q, b32_0]; rfl
end Go.Proofs.Ytnagkhofkjjajaa

set_option linter.unusedVariables false
set_option linter.unusedSimpArgs false
set_option maxRecDepth 10000
namespace Go.Proofs.Ytnagkhofkjjajaa
theorem pp_odd : pp % 2 = 1 := by decide +kernel
theorem pp_two : 2 < pp := by decide +kernel
/-- half of p - 1 -/
def EH : Nat := 2 * E2
theorem eh : pp - 1 = EH * 2 := by decide +kernel
theorem e12 : 2 * E1 = E2 + 1 := by decide +kernel
theorem half : 2 ^ EH % pp = pp - 1 := by
  rw [← pwF_eq pp 255 2 EH (by decide +kernel)]; decide +kernel
theorem m1_sq : (pp - 1) * (pp - 1) % pp = 1 := by decide +kernel
theorem one_p : 1 % pp = 1 := by decide +kernel
theorem m1_pow (j : Nat) : (pp - 1) ^ j % pp = if j % 2 = 0 then 1 else pp - 1 := by
  induction j with
  | zero => rw [Nat.pow_zero, if_pos rfl, one_p]
  | succ j ih =>
    rw [Nat.pow_succ, ← Nat.mod_mul_mod, ih]
    by_cases q : j % 2 = 0
    · rw [if_pos q, if_neg (by omega), Nat.one_mul, Nat.mod_eq_of_lt (by have := pp_pos; omega)]
    · rw [if_neg q, if_pos (by omega), m1_sq]
theorem two_half (k : Nat) : 2 ^ (k * EH) % pp = if k % 2 = 0 then 1 else pp - 1 := by
  rw [Nat.mul_comm, Nat.pow_mul, Nat.pow_mod, half, m1_pow]
theorem md_self {x : Nat} (h : x < pp) : x % pp = x := Nat.mod_eq_of_lt h
theorem ex_two {x : Nat} (hx : x < pp) (h0 : x ≠ 0) : ∃ k, x = 2 ^ k % pp := by
  obtain ⟨k, _, e⟩ := pp_ord.all (a := x) (by rw [md_self hx]; exact h0)
  rw [md_self hx] at e
  exact ⟨k, e⟩
theorem fermat {x : Nat} (hx : x < pp) (h0 : x ≠ 0) : x ^ (pp - 1) % pp = 1 := pp_ord.fermat (by rw [md_self hx]; exact h0)
theorem mul_zero_p {a b : Nat} (ha : a < pp) (hb : b < pp) : a * b % pp = 0 ↔ (a = 0 ∨ b = 0) := by
  constructor
  · intro h
    rcases pp_prime.mul (Nat.dvd_of_mod_eq_zero h) with q | q
    · left
      apply Classical.byContradiction
      intro h0
      have := Nat.le_of_dvd (by omega) q
      omega
    · right
      apply Classical.byContradiction
      intro h0
      have := Nat.le_of_dvd (by omega) q
      omega
  · rintro (rfl | rfl)
    · rw [Nat.zero_mul, Nat.zero_mod]
    · rw [Nat.mul_zero, Nat.zero_mod]
theorem sq_neg {r : Nat} (h : r ≤ pp) : (pp - r) * (pp - r) % pp = r * r % pp := by
  obtain ⟨d, hd⟩ : ∃ d, pp = r + d := ⟨pp - r, by omega⟩
  have e : pp - r = d := by omega
  rw [e]
  have h1 : d * d + pp * r = r * r + pp * d := by rw [hd, Nat.add_mul, Nat.add_mul, Nat.mul_comm d r]; omega
  rw [← Nat.add_mul_mod_self_left (d * d) pp r, h1, Nat.add_mul_mod_self_left]
theorem sq_eq' {r a : Nat} (hr : r < pp) (ha : a < pp) (hle : a ≤ r) (h : r * r % pp = a * a % pp) : r = a ∨ r + a = pp := by
  obtain ⟨d, hd⟩ : ∃ d, r = a + d := ⟨r - a, by omega⟩
  have e : r * r = a * a + d * (r + a) := by
    subst hd
    simp only [Nat.add_mul, Nat.mul_add, Nat.mul_comm a d]; omega
  have hm : d * (r + a) % pp = 0 := by
    rw [e] at h
    have := Nat.sub_mod_eq_zero_of_mod_eq h
    rwa [Nat.add_sub_cancel_left] at this
  rcases pp_prime.mul (Nat.dvd_of_mod_eq_zero hm) with q | q
  · left
    rcases Nat.eq_zero_or_pos d with z | z
    · omega
    · have := Nat.le_of_dvd z q; omega
  · rcases Nat.eq_zero_or_pos (r + a) with z | z
    · left; omega
    · right
      obtain ⟨t, ht⟩ := q
      have : t = 1 := by
        rcases Nat.lt_or_ge t 2 with w | w
        · have : t = 0 ∨ t = 1 := by omega
          rcases this with rfl | rfl
          · rw [Nat.mul_zero] at ht; omega
          · rfl
        · have := Nat.mul_le_mul_left pp w; omega
      subst this
      omega
theorem sq_eq {r a : Nat} (hr : r < pp) (ha : a < pp) (h : r * r % pp = a * a % pp) : r = a ∨ r + a = pp := by
  rcases Nat.le_total a r with q | q
  · exact sq_eq' hr ha q h
  · rcases sq_eq' ha hr q h.symm with e | e
    · exact .inl e.symm
    · exact .inr (by omega)
/-- what is told of a root -/
theorem root_ok {x : Nat} (hx : x < pp) (h : (rootN x).2 = true) : (rootN x).1 < pp ∧ (rootN x).1 % 2 = 0 ∧ (rootN x).1 * (rootN x).1 % pp = x := by
  unfold rootN at h ⊢
  dsimp only at h ⊢
  have hlt : (if pwF pp 252 x E1 * pwF pp 252 x E1 % pp = x then pwF pp 252 x E1 else pwF pp 252 x E1 * pwF pp 253 2 E2 % pp) < pp := by
    split
    · exact e1_p _
    · exact Nat.mod_lt _ pp_pos
  generalize (if pwF pp 252 x E1 * pwF pp 252 x E1 % pp = x then pwF pp 252 x E1 else pwF pp 252 x E1 * pwF pp 253 2 E2 % pp) = r at *
  by_cases q : r * r % pp = x
  · rw [if_pos q]
    dsimp only
    by_cases q2 : r % 2 = 1
    · rw [if_pos q2]
      have h1 := pp_odd
      rw [Nat.mod_eq_of_lt (show pp - r < pp by omega)]
      exact ⟨by omega, by omega, by rw [sq_neg (by omega), q]⟩
    · rw [if_neg q2]
      exact ⟨hlt, by omega, q⟩
  · rw [if_neg q] at h
    cases h
theorem root_no {x : Nat} (h : (rootN x).2 = false) : (rootN x).1 = 0 := by
  unfold rootN at h ⊢
  dsimp only at h ⊢
  generalize (if pwF pp 252 x E1 * pwF pp 252 x E1 % pp = x then pwF pp 252 x E1 else pwF pp 252 x E1 * pwF pp 253 2 E2 % pp) = r at *
  by_cases q : r * r % pp = x
  · rw [if_pos q] at h; cases h
  · rw [if_neg q]
/-- a square's exponent is even -/
theorem sq_even {r k : Nat} (h : r * r % pp = 2 ^ k % pp) : k % 2 = 0 := by
  have hr0 : r % pp ≠ 0 := fun e => by
    rw [Nat.mul_mod, e] at h
    have h3 : (2 ^ k % pp) ≠ 0 := fun e2 => by
      have hd : pp ∣ 2 ^ k := Nat.dvd_of_mod_eq_zero e2
      have : ∀ k, ¬ pp ∣ 2 ^ k := by
        intro k
        induction k with
        | zero => intro hd; have := Nat.le_of_dvd (by decide) hd; have := pp_two; omega
        | succ k ih =>
          intro hd
          rw [Nat.pow_succ] at hd
          rcases pp_prime.mul hd with q | q
          · exact ih q
          · have := Nat.le_of_dvd (by decide) q; have := pp_two; omega
      exact this k hd
    rw [← h] at h3
    exact h3 rfl
  have h1 : (r * r) ^ EH % pp = 1 := by
    rw [← Nat.pow_two, ← Nat.pow_mul, Nat.mul_comm, ← eh]
    exact pp_ord.fermat hr0
  have h2 : (r * r) ^ EH % pp = (if k % 2 = 0 then 1 else pp - 1) := by
    rw [Nat.pow_mod, h, ← Nat.pow_mod, ← Nat.pow_mul, two_half]
  rw [h1] at h2
  apply Classical.byContradiction
  intro q
  rw [if_neg q] at h2
  have := pp_two
  omega
theorem r0_sq (x : Nat) : pwF pp 252 x E1 * pwF pp 252 x E1 % pp = x ^ E2 * x % pp := by
  rw [pwF_eq _ _ _ _ (by decide +kernel), pw2, e12, Nat.pow_succ]
theorem i_sq : pwF pp 253 2 E2 * pwF pp 253 2 E2 % pp = pp - 1 := by decide +kernel
theorem root_pow {x k : Nat} (hx : x = 2 ^ k % pp) : (rootN x).2 = decide (k % 2 = 0) := by
  have hlt : x < pp := by rw [hx]; exact Nat.mod_lt _ pp_pos
  by_cases q : k % 2 = 0
  · rw [decide_eq_true q]
    obtain ⟨j, rfl⟩ : ∃ j, k = 2 * j := ⟨k / 2, by omega⟩
    have hE : x ^ E2 % pp = if j % 2 = 0 then 1 else pp - 1 := by
      rw [hx, ← Nat.pow_mod, ← Nat.pow_mul, show 2 * j * E2 = j * EH by unfold EH; rw [Nat.mul_assoc, Nat.mul_left_comm], two_half]
    have h1 : pwF pp 252 x E1 * pwF pp 252 x E1 % pp = (if j % 2 = 0 then 1 else pp - 1) * x % pp := by
      rw [r0_sq, ← Nat.mod_mul_mod, hE]
    unfold rootN
    dsimp only
    by_cases q2 : pwF pp 252 x E1 * pwF pp 252 x E1 % pp = x
    · rw [if_pos q2, if_pos q2]
    · rw [if_neg q2]
      have hj : ¬ j % 2 = 0 := fun e => q2 (by rw [h1, if_pos e, Nat.one_mul, md_self hlt])
      rw [if_neg hj] at h1
      have h2 : pwF pp 252 x E1 * pwF pp 253 2 E2 % pp * (pwF pp 252 x E1 * pwF pp 253 2 E2 % pp) % pp = x := by
        rw [← Nat.mul_mod, Nat.mul_mul_mul_comm, Nat.mul_mod, h1, i_sq, Nat.mod_mul_mod, Nat.mul_right_comm, ← Nat.mod_mul_mod, m1_sq, Nat.one_mul, md_self hlt]
      rw [if_pos h2]
  · rw [decide_eq_false q]
    cases hb : (rootN x).2 with
    | false => rfl
    | true =>
      have := (root_ok hlt hb).2.2
      rw [hx] at this
      rw [← hx] at this
      exact absurd (sq_even (by rw [this, hx])) q
theorem zpow : pwF pp 252 0 E1 = 0 := by decide +kernel
theorem root_zero : rootN 0 = (0, true) := by decide +kernel
theorem root_sq {a : Nat} (ha : a < pp) : (rootN (a * a % pp)).2 = true := by
  by_cases q : a = 0
  · subst q; rw [Nat.zero_mul, Nat.zero_mod, root_zero]
  · obtain ⟨k, hk⟩ := ex_two ha q
    rw [root_pow (k := 2 * k) (by rw [hk, pw2])]
    exact decide_eq_true (by omega)
theorem root_twice {a : Nat} (ha : a < pp) (h0 : a ≠ 0) : (rootN a).2 ≠ (rootN ((a + a) % pp)).2 := by
  obtain ⟨k, hk⟩ := ex_two ha h0
  rw [root_pow hk, root_pow (k := k + 1) (by rw [← Nat.mul_two, hk, Nat.mod_mul_mod, Nat.pow_succ])]
  by_cases q : k % 2 = 0
  · rw [decide_eq_true q, decide_eq_false (by omega)]; decide
  · rw [decide_eq_false q, decide_eq_true (by omega)]; decide
/-! ### inverses -/
def invN (a : Nat) : Nat := pwF pp 255 a EI
theorem inv_eq (a : Nat) : invN a = a ^ EI % pp := pwF_eq _ _ _ _ (by decide +kernel)
theorem inv_lt (a : Nat) : invN a < pp := by rw [inv_eq]; exact Nat.mod_lt _ pp_pos
theorem inv_mul {a : Nat} (ha : a < pp) (h0 : a ≠ 0) : a * invN a % pp = 1 := by
  rw [inv_eq, Nat.mul_mod_mod, Nat.mul_comm, ← Nat.pow_succ, show EI.succ = pp - 1 by decide +kernel]
  exact fermat ha h0
theorem inv_prod (a b : Nat) : invN a * invN b % pp = invN (a * b % pp) := by
  rw [inv_eq, inv_eq, inv_eq, ← Nat.mul_mod, ← Nat.mul_pow, ← Nat.pow_mod]
end Go.Proofs.Ytnagkhofkjjajaa

set_option linter.unusedVariables false
set_option linter.unusedSimpArgs false
set_option maxRecDepth 10000
namespace Go.Proofs.Ytnagkhofkjjajaa
theorem z0 : (0 : Int) = ((0 : Nat) : Int) := rfl
theorem z1 : (1 : Int) = ((1 : Nat) : Int) := rfl
theorem z20 : (20 : Int) = ((20 : Nat) : Int) := rfl
theorem nt : ¬ ((!true) = true) := by decide
theorem ff : ¬ (false = true) := by decide
theorem ex_b32 {l : List Nat} (hb : LB 256 l) (hl : l.length = 32) : ∃ a, a < 115792089237316195423570985008687907853269984665640564039457584007913129639936 ∧ l = b32 a := by
  have h := nv_lt l hb
  rw [hl, q32] at h
  exact ⟨nv 256 l, h, leb_of (by decide) hl hb rfl⟩
theorem nvb {a : Nat} (h : a < 115792089237316195423570985008687907853269984665640564039457584007913129639936) : nv 256 (b32 a) = a := nv_b32 (by rw [q32]; exact h)
theorem p_q {a : Nat} (h : a < pp) : a < 115792089237316195423570985008687907853269984665640564039457584007913129639936 := Nat.lt_trans h pp_q4
theorem get0 (a : Nat) : (b32 a).getD 0 0 % 2 = a % 2 := by
  rw [leb_get 32 a 0 (by decide), Nat.pow_zero, Nat.div_one]; omega
theorem mp (n : Nat) : n % pp < pp := Nat.mod_lt _ pp_pos
end Go.Proofs.Ytnagkhofkjjajaa
