/- Primes; the constants of layer 14. -/
import Derived.Test.YtddphjmcoolinaaPf
set_option linter.unusedVariables false
set_option linter.unusedSimpArgs false
set_option maxRecDepth 10000
namespace Go.Proofs.Ytddphjmcoolinaa
/-- is it divided by none of them? -/
def nodiv (x : Nat) (l : List Nat) : Bool := l.all fun q => !(Nat.beq (x % q) 0)
/-- the primes below a number -/
def pl : Nat → List Nat
  | 0 => []
  | x + 1 => bif Nat.ble 2 x && nodiv x (pl x) then pl x ++ [x] else pl x
theorem pl_succ (x : Nat) : pl (x + 1) = if 2 ≤ x ∧ nodiv x (pl x) = true then pl x ++ [x] else pl x := by
  show (bif Nat.ble 2 x && nodiv x (pl x) then pl x ++ [x] else pl x) = _
  cases h : nodiv x (pl x) with
  | false => simp
  | true =>
    by_cases q : 2 ≤ x
    · rw [if_pos ⟨q, rfl⟩, show Nat.ble 2 x = true from by simpa using q]; rfl
    · rw [if_neg (by simp [q]), show Nat.ble 2 x = false from by cases e : Nat.ble 2 x with
        | false => rfl
        | true => exact absurd (by simpa using e) q]; rfl
theorem nodiv_iff {x : Nat} {l : List Nat} : nodiv x l = true ↔ ∀ q, q ∈ l → x % q ≠ 0 := by
  unfold nodiv
  rw [List.all_eq_true]
  constructor
  · intro h q hq e
    have := h q hq
    rw [e] at this
    cases this
  · intro h q hq
    cases e : Nat.beq (x % q) 0 with
    | false => rfl
    | true => exact absurd (Nat.eq_of_beq_eq_true e) (h q hq)
theorem pl_mem : ∀ (x q : Nat), q ∈ pl x → 2 ≤ q ∧ q < x := by
  intro x
  induction x with
  | zero => intro q h; cases h
  | succ x ih =>
    intro q h
    rw [pl_succ] at h
    split at h
    · rename_i c
      rcases List.mem_append.1 h with z | z
      · have := ih q z; omega
      · simp at z; omega
    · have := ih q h; omega
theorem pl_pre : ∀ (d x : Nat), pl x <+: pl (x + d) := by
  intro d
  induction d with
  | zero => intro x; exact List.prefix_refl _
  | succ d ih =>
    intro x
    refine List.IsPrefix.trans (ih x) ?_
    rw [← Nat.add_assoc, pl_succ]
    split
    · exact List.prefix_append _ _
    · exact List.prefix_refl _
theorem pl_sorted : ∀ (x : Nat), (pl x).Pairwise (· < ·) := by
  intro x
  induction x with
  | zero => exact List.Pairwise.nil
  | succ x ih =>
    rw [pl_succ]
    split
    · refine List.pairwise_append.2 ⟨ih, List.pairwise_singleton _ _, fun a ha b hb => ?_⟩
      simp at hb
      subst hb
      exact (pl_mem _ _ ha).2
    · exact ih
theorem pl_div : ∀ (x m : Nat), 2 ≤ m → m < x → ∃ q, q ∈ pl x ∧ q ∣ m := by
  intro x
  induction x with
  | zero => intro m _ h; omega
  | succ x ih =>
    intro m h2 hm
    have hsub : ∀ q, q ∈ pl x → q ∈ pl (x + 1) := fun q hq => (pl_pre 1 x).subset hq
    rcases Nat.lt_or_ge m x with h | h
    · obtain ⟨q, hq, hd⟩ := ih m h2 h
      exact ⟨q, hsub q hq, hd⟩
    · have : m = x := by omega
      subst this
      by_cases c : nodiv m (pl m) = true
      · refine ⟨m, ?_, Nat.dvd_refl _⟩
        rw [pl_succ, if_pos ⟨h2, c⟩]
        simp
      · have : ¬ ∀ q, q ∈ pl m → m % q ≠ 0 := fun hh => c (nodiv_iff.2 hh)
        have : ∃ q, q ∈ pl m ∧ m % q = 0 := Classical.byContradiction fun hn => this fun q hq e => hn ⟨q, hq, e⟩
        obtain ⟨q, hq, e⟩ := this
        exact ⟨q, hsub q hq, Nat.dvd_of_mod_eq_zero e⟩
theorem getD_mem {l : List Nat} {i : Nat} (h : i < l.length) : l.getD i 0 ∈ l := by
  rw [List.getD_eq_getElem?_getD, List.getElem?_eq_getElem h]
  exact List.getElem_mem h
theorem P_prime (x : Nat) (hx : 2 ≤ x) (hb : x ≤ 100000) : F_sha256_prime (x : Int) (cI (pl x)) = some (nodiv x (pl x)) := by
  unfold F_sha256_prime
  have hlen : (pl x).length ≤ 1000000 := by
    have : ∀ y, (pl y).length ≤ y := by
      intro y
      induction y with
      | zero => exact Nat.le_refl _
      | succ y ih => rw [pl_succ]; split; (rw [List.length_append]; exact Nat.succ_le_succ ih); exact Nat.le_succ_of_le ih
    have := this x; omega
  have key := run_inv (f := F_sha256_prime_l1 (cI (pl x)) (x : Int)) (fun i : Nat => i ≤ (pl x).length ∧ ∀ j, j < i → x % (pl x).getD j 0 ≠ 0)
    (fun i => (pl x).length - i) (fun r => sel (fun _ => some true) r = some (nodiv x (pl x))) ?_ 0 ⟨Nat.zero_le _, fun j h => absurd h (Nat.not_lt_zero _)⟩
  · obtain ⟨r, hr, h⟩ := key
    rw [hr, bnd_mk]; exact h
  · rintro i ⟨hi, hj⟩
    unfold F_sha256_prime_l1
    rw [cI_length, cI_getD]
    by_cases q : i < (pl x).length
    · have hm := getD_mem q
      obtain ⟨p2, px⟩ := pl_mem _ _ hm
      generalize hp : (pl x).getD i 0 = p at *
      have hpp : p * p ≤ 100000 * 100000 := Nat.mul_le_mul (by omega) (by omega)
      have e1 : ((p : Nat) : Int) * ((p : Nat) : Int) = ((p * p : Nat) : Int) := (Int.natCast_mul p p).symm
      rw [if_pos (by omega), e1, gd_pos (by omega), gd_pos (by omega)]
      by_cases q2 : x < p * p
      · right
        rw [if_pos (by omega)]
        refine ⟨_, rfl, ?_⟩
        rw [sel_inl]
        congr 1
        symm
        rw [nodiv_iff]
        intro q0 hq0 e0
        obtain ⟨b2, bx⟩ := pl_mem _ _ hq0
        obtain ⟨j0, hj0, ej0⟩ := List.getElem_of_mem hq0
        have hge : ∀ j, i ≤ j → j < (pl x).length → p ≤ (pl x).getD j 0 := by
          intro j h1 h2
          rcases Nat.lt_or_ge i j with h | h
          · have := (List.pairwise_iff_getElem.1 (pl_sorted x)) i j q h2 h
            have e3 : (pl x)[i] = p := by rw [← hp, List.getD_eq_getElem?_getD, List.getElem?_eq_getElem q]; rfl
            have e4 : (pl x).getD j 0 = (pl x)[j] := by rw [List.getD_eq_getElem?_getD, List.getElem?_eq_getElem h2]; rfl
            omega
          · have : j = i := by omega
            subst this; omega
        have hg0 : (pl x).getD j0 0 = q0 := by rw [List.getD_eq_getElem?_getD, List.getElem?_eq_getElem hj0]; simpa using ej0
        have hj0i : i ≤ j0 := Nat.le_of_not_lt fun h => hj j0 h (by rw [hg0]; exact e0)
        have hp0 : p ≤ q0 := by have := hge j0 hj0i hj0; omega
        obtain ⟨m, hm2⟩ := Nat.dvd_of_mod_eq_zero e0
        have hmlt : m < q0 := Nat.lt_of_not_le fun h => by
          have : q0 * q0 ≤ q0 * m := Nat.mul_le_mul_left _ h
          have : p * p ≤ q0 * q0 := Nat.mul_le_mul hp0 hp0
          omega
        have hm1 : 2 ≤ m := by
          rcases Nat.lt_or_ge m 2 with h | h
          · have : m = 0 ∨ m = 1 := by omega
            rcases this with z | z <;> rw [z] at hm2 <;> omega
          · exact h
        obtain ⟨q1, hq1, hd1⟩ := pl_div x m hm1 (by omega)
        have hle1 := Nat.le_of_dvd (by omega) hd1
        obtain ⟨j1, hj1, ej1⟩ := List.getElem_of_mem hq1
        have hg1 : (pl x).getD j1 0 = q1 := by rw [List.getD_eq_getElem?_getD, List.getElem?_eq_getElem hj1]; simpa using ej1
        have hdx : x % q1 = 0 := Nat.mod_eq_zero_of_dvd (by rw [hm2]; exact Nat.dvd_trans hd1 ⟨q0, Nat.mul_comm _ _⟩)
        have hj1i : i ≤ j1 := Nat.le_of_not_lt fun h => hj j1 h (by rw [hg1]; exact hdx)
        have hp1 : p ≤ q1 := by have := hge j1 hj1i hj1; omega
        have : p * p ≤ q0 * m := Nat.mul_le_mul hp0 (by omega)
        omega
      · rw [if_neg (by omega), gd_pos (by omega), gd_pos (by omega)]
        have e2 : ((x : Nat) : Int) % ((p : Nat) : Int) = ((x % p : Nat) : Int) := (Int.natCast_emod x p).symm
        rw [e2]
        by_cases q3 : x % p = 0
        · right
          rw [if_pos (by omega)]
          refine ⟨_, rfl, ?_⟩
          rw [sel_inr]
          congr 1
          cases e : nodiv x (pl x) with
          | false => rfl
          | true => exact absurd q3 (nodiv_iff.1 e p hm)
        · left
          rw [if_neg (by omega), gd_pos (by omega)]
          refine ⟨_, rfl, ⟨q, fun j h => ?_⟩, by omega⟩
          rcases Nat.lt_or_ge j i with z | z
          · exact hj j z
          · have : j = i := by omega
            subst this; rw [hp]; exact q3
    · right
      rw [if_neg (by omega)]
      refine ⟨_, rfl, ?_⟩
      rw [sel_inl]
      congr 1
      symm
      rw [nodiv_iff]
      intro q0 hq0
      obtain ⟨j0, hj0, ej0⟩ := List.getElem_of_mem hq0
      have hg0 : (pl x).getD j0 0 = q0 := by rw [List.getD_eq_getElem?_getD, List.getElem?_eq_getElem hj0]; simpa using ej0
      have := hj j0 (by omega)
      rwa [hg0] at this
end Go.Proofs.Ytddphjmcoolinaa
