/- Primes by layer 13's program and reference. Lemmas, no statement of the claim. -/
import Derived.Test.YtnagkhofkjjajaaTa
import Derived.Test.YtnagkhofkjjajaaNc
import Derived.Test.YtnagkhofkjjajaaEd
set_option linter.unusedVariables false
set_option linter.unusedSimpArgs false
set_option maxRecDepth 10000
namespace Go.Proofs.Ytnagkhofkjjajaa.H
/-- naturals as ints -/
def cI (xs : List Nat) : List Int := xs.map fun n : Nat => (n : Int)
theorem cI_length (xs : List Nat) : (cI xs).length = xs.length := by simp [cI]
theorem cI_getD (xs : List Nat) (j : Nat) : (cI xs).getD j 0 = ((xs.getD j 0 : Nat) : Int) := by
  simp only [cI, List.getD_eq_getElem?_getD, List.getElem?_map]
  cases xs[j]? <;> rfl
theorem cI_set (xs : List Nat) (i v : Nat) : (cI xs).set i ((v : Nat) : Int) = cI (xs.set i v) := by simp [cI, List.map_set]
theorem cI_append (xs ys : List Nat) : cI (xs ++ ys) = cI xs ++ cI ys := by simp [cI]
theorem cI_rep (n v : Nat) : List.replicate n ((v : Nat) : Int) = cI (List.replicate n v) := by simp [cI]
theorem cI_repz (n : Nat) : List.replicate n ((0 : Nat) : Int) = cI (List.replicate n 0) := by simp [cI]
theorem cI_snoc (xs : List Nat) (v : Nat) : cI xs ++ [((v : Nat) : Int)] = cI (xs ++ [v]) := by simp [cI]
/-- is it divided by none of them? -/
def nodiv (x : Nat) (l : List Nat) : Bool := l.all fun q => !(Nat.beq (x % q) 0)
/-- the primes below a number -/
def pl : Nat → List Nat
  | 0 => []
  | x + 1 => bif Nat.ble 2 x && nodiv x (pl x) then pl x ++ [x] else pl x
theorem pl_succ (x : Nat) : pl (x + 1) = if 2 ≤ x ∧ nodiv x (pl x) = true then pl x ++ [x] else pl x := by
  show (bif Nat.ble 2 x && nodiv x (pl x) then pl x ++ [x] else pl x) = _
  cases h : nodiv x (pl x) with
  | false => simp
  | true =>
    by_cases q : 2 ≤ x
    · rw [if_pos ⟨q, rfl⟩, show Nat.ble 2 x = true from by simpa using q]; rfl
    · rw [if_neg (by simp [q]), show Nat.ble 2 x = false from by cases e : Nat.ble 2 x with
        | false => rfl
        | true => exact absurd (by simpa using e) q]; rfl
theorem nodiv_iff {x : Nat} {l : List Nat} : nodiv x l = true ↔ ∀ q, q ∈ l → x % q ≠ 0 := by
  unfold nodiv
  rw [List.all_eq_true]
  constructor
  · intro h q hq e
    have := h q hq
    rw [e] at this
    cases this
  · intro h q hq
    cases e : Nat.beq (x % q) 0 with
    | false => rfl
    | true => exact absurd (Nat.eq_of_beq_eq_true e) (h q hq)
theorem pl_mem : ∀ (x q : Nat), q ∈ pl x → 2 ≤ q ∧ q < x := by
  intro x
  induction x with
  | zero => intro q h; cases h
  | succ x ih =>
    intro q h
    rw [pl_succ] at h
    split at h
    · rename_i c
      rcases List.mem_append.1 h with z | z
      · have := ih q z; omega
      · simp at z; omega
    · have := ih q h; omega
theorem pl_pre : ∀ (d x : Nat), pl x <+: pl (x + d) := by
  intro d
  induction d with
  | zero => intro x; exact List.prefix_refl _
  | succ d ih =>
    intro x
    refine List.IsPrefix.trans (ih x) ?_
    rw [← Nat.add_assoc, pl_succ]
    split
    · exact List.prefix_append _ _
    · exact List.prefix_refl _
theorem pl_sorted : ∀ (x : Nat), (pl x).Pairwise (· < ·) := by
  intro x
  induction x with
  | zero => exact List.Pairwise.nil
  | succ x ih =>
    rw [pl_succ]
    split
    · refine List.pairwise_append.2 ⟨ih, List.pairwise_singleton _ _, fun a ha b hb => ?_⟩
      simp at hb
      subst hb
      exact (pl_mem _ _ ha).2
    · exact ih
theorem pl_div : ∀ (x m : Nat), 2 ≤ m → m < x → ∃ q, q ∈ pl x ∧ q ∣ m := by
  intro x
  induction x with
  | zero => intro m _ h; omega
  | succ x ih =>
    intro m h2 hm
    have hsub : ∀ q, q ∈ pl x → q ∈ pl (x + 1) := fun q hq => (pl_pre 1 x).subset hq
    rcases Nat.lt_or_ge m x with h | h
    · obtain ⟨q, hq, hd⟩ := ih m h2 h
      exact ⟨q, hsub q hq, hd⟩
    · have : m = x := by omega
      subst this
      by_cases c : nodiv m (pl m) = true
      · refine ⟨m, ?_, Nat.dvd_refl _⟩
        rw [pl_succ, if_pos ⟨h2, c⟩]
        simp
      · have : ¬ ∀ q, q ∈ pl m → m % q ≠ 0 := fun hh => c (nodiv_iff.2 hh)
        have : ∃ q, q ∈ pl m ∧ m % q = 0 := Classical.byContradiction fun hn => this fun q hq e => hn ⟨q, hq, e⟩
        obtain ⟨q, hq, e⟩ := this
        exact ⟨q, hsub q hq, Nat.dvd_of_mod_eq_zero e⟩
theorem getD_mem {l : List Nat} {i : Nat} (h : i < l.length) : l.getD i 0 ∈ l := by
  rw [List.getD_eq_getElem?_getD, List.getElem?_eq_getElem h]
  exact List.getElem_mem h
theorem P_prime (x : Nat) (hx : 2 ≤ x) (hb : x ≤ 100000) : F_sha256_prime (x : Int) (cI (pl x)) = some (nodiv x (pl x)) := by
  unfold F_sha256_prime
  have hlen : (pl x).length ≤ 1000000 := by
    have : ∀ y, (pl y).length ≤ y := by
      intro y
      induction y with
      | zero => exact Nat.le_refl _
      | succ y ih => rw [pl_succ]; split; (rw [List.length_append]; exact Nat.succ_le_succ ih); exact Nat.le_succ_of_le ih
    have := this x; omega
  have key := run_inv (f := F_sha256_prime_l1 (x : Int) (cI (pl x))) (fun i : Nat => i ≤ (pl x).length ∧ ∀ j, j < i → x % (pl x).getD j 0 ≠ 0)
    (fun i => (pl x).length - i) (fun r => sel (fun _ => some true) r = some (nodiv x (pl x))) ?_ 0 ⟨Nat.zero_le _, fun j h => absurd h (Nat.not_lt_zero _)⟩
  · obtain ⟨r, hr, h⟩ := key
    rw [hr, bnd_mk]; exact h
  · rintro i ⟨hi, hj⟩
    unfold F_sha256_prime_l1
    rw [cI_length, show (cI (pl x)).getD i (0 : Int) = ((((pl x).getD i 0 : Nat) : Int)) from cI_getD _ _]
    by_cases q : i < (pl x).length
    · have hm := getD_mem q
      obtain ⟨p2, px⟩ := pl_mem _ _ hm
      generalize hp : (pl x).getD i 0 = p at *
      have hpp : p * p ≤ 100000 * 100000 := Nat.mul_le_mul (by omega) (by omega)
      have e1 : ((p : Nat) : Int) * ((p : Nat) : Int) = ((p * p : Nat) : Int) := (Int.natCast_mul p p).symm
      rw [if_pos (by omega), gd_pos (by omega), e1, gd_pos (by omega), gd_pos (by omega)]
      by_cases q2 : x < p * p
      · right
        rw [if_pos (by omega)]
        refine ⟨_, rfl, ?_⟩
        rw [sel_inl]
        congr 1
        symm
        rw [nodiv_iff]
        intro q0 hq0 e0
        obtain ⟨b2, bx⟩ := pl_mem _ _ hq0
        obtain ⟨j0, hj0, ej0⟩ := List.getElem_of_mem hq0
        have hge : ∀ j, i ≤ j → j < (pl x).length → p ≤ (pl x).getD j 0 := by
          intro j h1 h2
          rcases Nat.lt_or_ge i j with h | h
          · have := (List.pairwise_iff_getElem.1 (pl_sorted x)) i j q h2 h
            have e3 : (pl x)[i] = p := by rw [← hp, List.getD_eq_getElem?_getD, List.getElem?_eq_getElem q]; rfl
            have e4 : (pl x).getD j 0 = (pl x)[j] := by rw [List.getD_eq_getElem?_getD, List.getElem?_eq_getElem h2]; rfl
            omega
          · have : j = i := by omega
            subst this; omega
        have hg0 : (pl x).getD j0 0 = q0 := by rw [List.getD_eq_getElem?_getD, List.getElem?_eq_getElem hj0]; simpa using ej0
        have hj0i : i ≤ j0 := Nat.le_of_not_lt fun h => hj j0 h (by rw [hg0]; exact e0)
        have hp0 : p ≤ q0 := by have := hge j0 hj0i hj0; omega
        obtain ⟨m, hm2⟩ := Nat.dvd_of_mod_eq_zero e0
        have hmlt : m < q0 := Nat.lt_of_not_le fun h => by
          have : q0 * q0 ≤ q0 * m := Nat.mul_le_mul_left _ h
          have : p * p ≤ q0 * q0 := Nat.mul_le_mul hp0 hp0
          omega
        have hm1 : 2 ≤ m := by
          rcases Nat.lt_or_ge m 2 with h | h
          · have : m = 0 ∨ m = 1 := by omega
            rcases this with z | z <;> rw [z] at hm2 <;> omega
          · exact h
        obtain ⟨q1, hq1, hd1⟩ := pl_div x m hm1 (by omega)
        have hle1 := Nat.le_of_dvd (by omega) hd1
        obtain ⟨j1, hj1, ej1⟩ := List.getElem_of_mem hq1
        have hg1 : (pl x).getD j1 0 = q1 := by rw [List.getD_eq_getElem?_getD, List.getElem?_eq_getElem hj1]; simpa using ej1
        have hdx : x % q1 = 0 := Nat.mod_eq_zero_of_dvd (by rw [hm2]; exact Nat.dvd_trans hd1 ⟨q0, Nat.mul_comm _ _⟩)
        have hj1i : i ≤ j1 := Nat.le_of_not_lt fun h => hj j1 h (by rw [hg1]; exact hdx)
        have hp1 : p ≤ q1 := by have := hge j1 hj1i hj1; omega
        have : p * p ≤ q0 * m := Nat.mul_le_mul hp0 (by omega)
        omega
      · rw [if_neg (by omega), gd_pos (by omega), gd_pos (by omega)]
        have e2 : ((x : Nat) : Int) % ((p : Nat) : Int) = ((x % p : Nat) : Int) := (Int.natCast_emod x p).symm
        rw [e2]
        by_cases q3 : x % p = 0
        · right
          rw [if_pos (by omega)]
          refine ⟨_, rfl, ?_⟩
          rw [sel_inr]
          congr 1
          cases e : nodiv x (pl x) with
          | false => rfl
          | true => exact absurd q3 (nodiv_iff.1 e p hm)
        · left
          rw [if_neg (by omega), gd_pos (by omega)]
          refine ⟨_, rfl, ⟨q, fun j h => ?_⟩, by omega⟩
          rcases Nat.lt_or_ge j i with z | z
          · exact hj j z
          · have : j = i := by omega
            subst this; rw [hp]; exact q3
    · right
      rw [if_neg (by omega)]
      refine ⟨_, rfl, ?_⟩
      rw [sel_inl]
      congr 1
      symm
      rw [nodiv_iff]
      intro q0 hq0
      obtain ⟨j0, hj0, ej0⟩ := List.getElem_of_mem hq0
      have hg0 : (pl x).getD j0 0 = q0 := by rw [List.getD_eq_getElem?_getD, List.getElem?_eq_getElem hj0]; simpa using ej0
      have := hj j0 (by omega)
      rwa [hg0] at this
theorem pl_len (x : Nat) : (pl (x + 1)).length ≤ (pl x).length + 1 := by
  rw [pl_succ]; split
  · rw [List.length_append]; exact Nat.le_refl _
  · exact Nat.le_succ _
theorem pl_mono {x y : Nat} (h : x ≤ y) : pl x <+: pl y := by
  have := pl_pre (y - x) x
  rwa [show x + (y - x) = y by omega] at this
theorem pl542 : (pl 542).length = 100 := by decide +kernel
def prs (n : Nat) : List Nat := (pl 542).take n
theorem prs_len {n : Nat} (h : n ≤ 100) : (prs n).length = n := by
  unfold prs
  rw [List.length_take, pl542]; omega
theorem pl_eq {x n : Nat} (hx : x ≤ 542) (hl : (pl x).length = n) : pl x = prs n := by
  unfold prs
  rw [← hl]
  exact List.prefix_iff_eq_take.1 (pl_mono hx)
theorem pl_below {x n : Nat} (hn : n ≤ 100) (h : (pl x).length < n) : x < 542 := Nat.lt_of_not_le fun hc => by
  have := (pl_mono hc).length_le
  rw [pl542] at this
  omega
theorem P_Primes {n : Nat} (hn : n ≤ 100) : F_sha256_Primes (n : Int) = some (cI (prs n), ((0 : Nat) : Int)) := by
  unfold F_sha256_Primes
  rw [if_neg (by omega), if_neg (by omega)]
  have key := run_inv (f := F_sha256_Primes_l1 (n : Int)) (fun s : List Int × Nat => s.1 = cI (pl s.2) ∧ 2 ≤ s.2 ∧ (pl s.2).length ≤ n ∧ s.2 ≤ 542) (fun s => 542 - s.2) (fun r => r = cI (prs n)) ?_ ([], 2) ⟨rfl, Nat.le_refl _, Nat.zero_le _, by decide⟩
  · obtain ⟨r, hr, rfl⟩ := key
    rw [hr, bnd_mk]
  · rintro ⟨z, x⟩ ⟨e, h2, hl, hx⟩
    dsimp only at e h2 hl hx
    subst e
    unfold F_sha256_Primes_l1
    dsimp only
    rw [cI_length]
    by_cases q : (pl x).length < n
    · left
      have hx2 := pl_below hn q
      have hlen := pl_len x
      rw [if_pos (by omega), P_prime x h2 (by omega), bnd_mk]
      by_cases c : nodiv x (pl x) = true
      · rw [if_pos c, gd_pos (by omega), gd_pos (by omega), cI_snoc]
        have e : pl (x + 1) = pl x ++ [x] := by rw [pl_succ, if_pos ⟨h2, c⟩]
        exact ⟨_, rfl, ⟨by dsimp only; rw [e], by dsimp only; omega, by dsimp only; omega, by dsimp only; omega⟩, by dsimp only; omega⟩
      · rw [if_neg c, gd_pos (by omega)]
        have e : pl (x + 1) = pl x := by rw [pl_succ, if_neg (fun h => c h.2)]
        exact ⟨_, rfl, ⟨by dsimp only; rw [e], by dsimp only; omega, by dsimp only; omega, by dsimp only; omega⟩, by dsimp only; omega⟩
    · right
      rw [if_neg (by omega)]
      exact ⟨_, rfl, by rw [pl_eq (n := n) hx (by omega)]⟩
/-- a row filled from the first place on -/
theorem fill_stepW {l : List Nat} {n i : Nat} (f : Nat → Nat) (hl : l.length = n) (hi : i < n) :
    ((l.take i).map f ++ List.replicate (n - i) 0).set i (f (l.getD i 0)) = (l.take (i + 1)).map f ++ List.replicate (n - (i + 1)) 0 := by
  have h1 : ((l.take i).map f).length = i := by simp; omega
  rw [List.set_append_right _ _ (by rw [h1]; exact Nat.le_refl _), h1, Nat.sub_self, show n - i = (n - (i + 1)) + 1 by omega, List.replicate_succ, List.set_cons_zero]
  have : l.take (i + 1) = l.take i ++ [l.getD i 0] := by
    rw [List.getD_eq_getElem?_getD, List.getElem?_eq_getElem (by omega)]
    exact (List.take_append_getElem (by omega)).symm
  rw [this, List.map_append, List.append_assoc]
  rfl
theorem prs_lt {n q : Nat} (h : q ∈ prs n) : 2 ≤ q ∧ q < 542 := pl_mem 542 q (List.mem_of_mem_take h)
end Go.Proofs.Ytnagkhofkjjajaa.H

set_option linter.unusedVariables false
set_option linter.unusedSimpArgs false
set_option maxRecDepth 10000
namespace Go.Proofs.Ytnagkhofkjjajaa.H
open Go.Proofs.Ytnagkhofkjjajaa
theorem or_add {a n : Nat} (h : 2 ^ (n + 1) ∣ a) : a ||| 2 ^ n = a + 2 ^ n := by
  obtain ⟨q, rfl⟩ := h
  exact (Nat.two_pow_add_eq_or_of_lt (Nat.pow_lt_pow_right (by decide) (Nat.lt_succ_self n)) q).symm
/-- the root, so many bits to go -/
def gr (T k : Nat) : Nat → Nat → Nat
  | 0, X => X
  | b + 1, X => gr T k b (if (X + 2 ^ b) ^ k ≤ T then X + 2 ^ b else X)
theorem gr_spec {T k : Nat} : ∀ (b X : Nat), X ^ k ≤ T → T < (X + 2 ^ b) ^ k → gr T k b X ^ k ≤ T ∧ T < (gr T k b X + 1) ^ k := by
  intro b
  induction b with
  | zero => intro X h1 h2; exact ⟨h1, h2⟩
  | succ b ih =>
    intro X h1 h2
    unfold gr
    split
    · rename_i h
      refine ih _ h ?_
      rw [Nat.add_assoc, ← Nat.mul_two, ← Nat.pow_succ]; exact h2
    · rename_i h
      exact ih X h1 (by omega)
theorem root_one {T k R S : Nat} (h1 : R ^ k ≤ T) (h2 : T < (R + 1) ^ k) (h3 : S ^ k ≤ T) (h4 : T < (S + 1) ^ k) : R = S := by
  rcases Nat.lt_trichotomy R S with h | h | h
  · have := Nat.pow_le_pow_left (show R + 1 ≤ S from h) k; omega
  · exact h
  · have := Nat.pow_le_pow_left (show S + 1 ≤ R from h) k; omega
/-- one digit, so many places up -/
def updig (p up : Nat) : List Nat := List.replicate up 0 ++ [p]
theorem updig_getD (p up j : Nat) : (updig p up).getD j 0 = if j = up then p else 0 := by
  unfold updig
  rcases Nat.lt_trichotomy j up with h | h | h
  · rw [getD_append_left (by simpa using h), rep_getD, if_neg (by omega)]
  · subst h; simp [List.getD_eq_getElem?_getD]
  · rw [getD_ge (by simp; omega), if_neg (by omega)]
theorem updig_nv (b p up : Nat) : nv b (updig p up) = b ^ up * p := by
  unfold updig
  rw [nv_append, nv_replicate]
  simp [nv]
theorem updig_lt {b p up : Nat} (hp : p < b) : LB b (updig p up) := by
  unfold updig
  exact LB.app (LB.rep (by omega) _) (LB.cons hp LB.nil)
theorem P_within {xs : List Nat} {p up : Nat} (hx : LB 18446744073709551616 xs) (hp : p < 18446744073709551616) (hl : xs.length ≤ 1000) (hu : up < xs.length) :
    F_sha512_within xs p (up : Int) = some (decide (nv 18446744073709551616 xs ≤ nv 18446744073709551616 (updig p up))) := by
  unfold F_sha512_within
  have key := run_inv (f := F_sha512_within_l1 xs p (up : Int)) (fun i : Int => -1 ≤ i ∧ i < xs.length ∧ ∀ j : Nat, i < j → xs.getD j 0 = (updig p up).getD j 0)
    (fun i => (i + 1).toNat) (fun r => sel (fun _ => some true) r = some (decide (nv 18446744073709551616 xs ≤ nv 18446744073709551616 (updig p up)))) ?_ (((xs.length : Nat) : Int) - ((1 : Nat) : Int)) ⟨by omega, by omega, fun j hj => by
      rw [getD_ge (by omega), updig_getD, if_neg (by omega)]⟩
  · obtain ⟨r, hr, h⟩ := key
    rw [hr, bnd_mk]; exact h
  · rintro i ⟨h1, h2, h3⟩
    unfold F_sha512_within_l1
    by_cases q : 0 ≤ i
    · obtain ⟨k, rfl⟩ : ∃ k : Nat, i = (k : Int) := ⟨i.toNat, by omega⟩
      rw [if_pos (by omega)]
      have hd := updig_getD p up k
      have hif : (if ((k : Nat) : Int) = (up : Int) then some p else some 0) = some ((updig p up).getD k 0) := by
        rw [hd]; split <;> split <;> first | rfl | omega
      rw [hif, bnd_mk, gd_pos (by omega), gd_pos (by omega), Int.toNat_natCast]
      by_cases e : xs.getD k 0 = (updig p up).getD k 0
      · left
        rw [if_pos e, gd_pos (by omega), gd_pos (by omega)]
        refine ⟨_, rfl, ⟨by omega, by omega, fun j hj => ?_⟩, by omega⟩
        by_cases ej : j = k
        · subst ej; exact e
        · exact h3 j (by omega)
      · right
        rw [if_neg e, gd_pos (by omega), gd_pos (by omega)]
        refine ⟨_, rfl, ?_⟩
        rw [sel_inr]
        congr 1
        rcases Nat.lt_or_gt_of_ne e with h | h
        · have := nv_cmp hx (updig_lt hp) (i := k) (fun j hj => h3 j (by omega)) h
          rw [decide_eq_true (by omega), decide_eq_true (by omega)]
        · have := nv_cmp (updig_lt hp) hx (i := k) (fun j hj => (h3 j (by omega)).symm) h
          rw [decide_eq_false (by omega), decide_eq_false (by omega)]
    · right
      rw [if_neg (by omega)]
      refine ⟨_, rfl, ?_⟩
      rw [sel_inl]
      have := nv_ext (b := 18446744073709551616) (xs := xs) (ys := updig p up) (fun j => h3 j (by omega))
      rw [decide_eq_true (by omega)]
def two (V : Nat) : List Nat := [V % 18446744073709551616, V / 18446744073709551616]
theorem B_pow : (18446744073709551616 : Nat) = 2 ^ 64 := rfl
theorem setbit {V n : Nat} (hn : n ≤ 70) (hd : 2 ^ (n + 1) ∣ V) : (two V).set (n / 64) ((two V).getD (n / 64) 0 ||| (1 * 2 ^ (n % 64) % 18446744073709551616)) = two (V + 2 ^ n) := by
  have hB := B_pow
  by_cases q : n < 64
  · have e1 : n / 64 = 0 := by omega
    have e2 : n % 64 = n := by omega
    rw [e1, e2]
    have hlt : 2 ^ n < 18446744073709551616 := by rw [hB]; exact Nat.pow_lt_pow_right (by decide) q
    have hB2 : 18446744073709551616 = 2 ^ (n + 1) * 2 ^ (63 - n) := by rw [hB, ← Nat.pow_add]; congr 1; omega
    have hda : 2 ^ (n + 1) ∣ V % 18446744073709551616 := (Nat.dvd_mod_iff ⟨_, hB2⟩).2 hd
    show [(V % 18446744073709551616 ||| _), V / 18446744073709551616] = _
    rw [Nat.one_mul, Nat.mod_eq_of_lt hlt, or_add hda]
    have hle : V % 18446744073709551616 + 2 ^ (n + 1) ≤ 18446744073709551616 := by
      obtain ⟨c, hc⟩ := hda
      have h1 : V % 18446744073709551616 < 18446744073709551616 := Nat.mod_lt _ (Nat.zero_lt_succ _)
      rw [hc]
      have h2 : 2 ^ (n + 1) * c < 2 ^ (n + 1) * 2 ^ (63 - n) := by rw [← hc, ← hB2]; exact h1
      have h3 : c < 2 ^ (63 - n) := Nat.lt_of_mul_lt_mul_left h2
      have h4 : 2 ^ (n + 1) * (c + 1) ≤ 2 ^ (n + 1) * 2 ^ (63 - n) := Nat.mul_le_mul_left _ h3
      rw [← hB2, Nat.mul_add, Nat.mul_one] at h4
      exact h4
    have hp : 2 ^ (n + 1) = 2 * 2 ^ n := by rw [Nat.pow_succ, Nat.mul_comm]
    have h5 : 0 < 2 ^ n := Nat.two_pow_pos n
    unfold two
    have : (V + 2 ^ n) % 18446744073709551616 = V % 18446744073709551616 + 2 ^ n ∧ (V + 2 ^ n) / 18446744073709551616 = V / 18446744073709551616 := by
      rw [hp] at hle
      generalize 2 ^ n = x at *
      omega
    rw [this.1, this.2]
  · have e1 : n / 64 = 1 := by omega
    have e2 : n % 64 = n - 64 := by omega
    rw [e1, e2]
    obtain ⟨c, rfl⟩ := hd
    have h1 : 2 ^ (n + 1) = 18446744073709551616 * 2 ^ (n - 64 + 1) := by rw [hB, ← Nat.pow_add]; congr 1; omega
    have h2 : 2 ^ n = 18446744073709551616 * 2 ^ (n - 64) := by rw [hB, ← Nat.pow_add]; congr 1; omega
    have h3 : 2 ^ (n - 64) < 18446744073709551616 := by rw [hB]; exact Nat.pow_lt_pow_right (by decide) (by omega)
    rw [h1, h2, Nat.mul_assoc]
    unfold two
    rw [← Nat.mul_add, Nat.mul_mod_right, Nat.mul_mod_right, Nat.mul_div_cancel_left _ (Nat.zero_lt_succ _), Nat.mul_div_cancel_left _ (Nat.zero_lt_succ _)]
    show [0, (2 ^ (n - 64 + 1) * c ||| _)] = _
    rw [Nat.one_mul, Nat.mod_eq_of_lt h3, or_add ⟨c, rfl⟩]
theorem two_pos (V : Nat) : 0 < (two V).length := Nat.zero_lt_succ 1
theorem two_fst (V : Nat) : (two V).getD 0 0 = V % 18446744073709551616 := rfl
theorem gr_zero (T k V : Nat) : gr T k 0 V = V := rfl
theorem gr_succ (T k n V : Nat) : gr T k (n + 1) V = gr T k n (if (V + 2 ^ n) ^ k ≤ T then V + 2 ^ n else V) := rfl
theorem two_nv (V : Nat) : nv 18446744073709551616 (two V) = V := by
  show V % 18446744073709551616 + 18446744073709551616 * (V / 18446744073709551616 + 18446744073709551616 * 0) = V
  omega
theorem two_lt {V : Nat} (h : V < 18446744073709551616 * 18446744073709551616) : LB 18446744073709551616 (two V) :=
  LB.cons (Nat.mod_lt _ (Nat.zero_lt_succ _)) (LB.cons (Nat.div_lt_of_lt_mul h) LB.nil)
theorem P_times_in {xs ys zs : List Nat} {i M : Nat} (hX : LB 18446744073709551616 xs) (hY : LB 18446744073709551616 ys) (hM : M = xs.length + ys.length) (hM2 : M ≤ 10000000) (hi : i < xs.length) (hz : zs.length = M) (hZ : LB 18446744073709551616 zs) (h0 : ∀ j, i + ys.length ≤ j → zs.getD j 0 = 0) (hv : MO 18446744073709551616 xs ys zs i) :
    ∃ c z, run (F_sha512_times_l2 xs ys i) (0, 0, zs) = some (c, z) ∧ z.length = M ∧ LB 18446744073709551616 z ∧ c < 18446744073709551616 ∧ (∀ j, i + ys.length ≤ j → z.getD j 0 = 0) ∧ MI 18446744073709551616 xs ys z i c ys.length := by
  have key := run_inv (f := F_sha512_times_l2 xs ys i) (fun s : Nat × Nat × List Nat => s.2.1 ≤ ys.length ∧ s.2.2.length = M ∧ LB 18446744073709551616 s.2.2 ∧ s.1 < 18446744073709551616 ∧ (∀ j, i + ys.length ≤ j → s.2.2.getD j 0 = 0) ∧ MI 18446744073709551616 xs ys s.2.2 i s.1 s.2.1)
    (fun s => ys.length - s.2.1) (fun r => r.2.length = M ∧ LB 18446744073709551616 r.2 ∧ r.1 < 18446744073709551616 ∧ (∀ j, i + ys.length ≤ j → r.2.getD j 0 = 0) ∧ MI 18446744073709551616 xs ys r.2 i r.1 ys.length) ?_ (0, 0, zs) ⟨Nat.zero_le _, hz, hZ, Nat.zero_lt_succ _, h0, MI.start hv⟩
  · obtain ⟨⟨b, z⟩, hr, h⟩ := key
    exact ⟨b, z, hr, h⟩
  · rintro ⟨c, k, z⟩ ⟨h1, h2, h3, h4, h5, h6⟩
    dsimp only at h1 h2 h3 h4 h5 h6
    unfold F_sha512_times_l2
    dsimp only
    by_cases q : k < ys.length
    · left
      have hx := hX.get (by decide) i
      have hy := hY.get (by decide) k
      have ho := h3.get (by decide) (i + k)
      obtain ⟨e1, e2⟩ := mul_words hx hy ho h4
      rw [if_pos q, gd_pos q, Go.Proofs.Ytnagkhofkjjajaa.P_Mul64 hx hy, bnd_mk]
      dsimp only
      rw [gd_pos (by clear e1 e2; omega), gd_pos (by clear e1 e2; omega), A64 (by decide), bnd_mk]
      dsimp only
      rw [A64 (by decide), bnd_mk]
      dsimp only
      rw [gd_pos (by clear e1 e2; omega), gd_pos (by clear e1 e2; omega), gd_pos (by clear e1 e2; omega)]
      refine ⟨_, rfl, ⟨by clear e1 e2; dsimp only; omega, by simpa using h2, h3.set (Nat.mod_lt _ (by decide)) _, Nat.mod_lt _ (by decide), fun j hj => ?_, ?_⟩, by clear e1 e2; dsimp only; omega⟩
      · dsimp only
        rw [set_get (by clear e1 e2; omega)]; exact h5 j hj
      · exact MI.step (by clear e1 e2; omega) h6 e1 e2
    · right
      have : k = ys.length := by omega
      subst this
      rw [if_neg q]
      exact ⟨_, rfl, h2, h3, h4, h5, h6⟩
theorem P_times {X Y : List Nat} (hX : LB 18446744073709551616 X) (hY : LB 18446744073709551616 Y) (hl : X.length + Y.length ≤ 100) : ∃ z, F_sha512_times X Y = some z ∧ z.length = X.length + Y.length ∧ LB 18446744073709551616 z ∧ nv 18446744073709551616 z = nv 18446744073709551616 X * nv 18446744073709551616 Y := by
  unfold F_sha512_times
  rw [gd_pos (by omega), gd_pos (by omega)]
  have key := run_inv (f := F_sha512_times_l1 X Y) (fun s : Nat × List Nat => s.1 ≤ X.length ∧ s.2.length = X.length + Y.length ∧ LB 18446744073709551616 s.2 ∧ (∀ j, s.1 + Y.length ≤ j → s.2.getD j 0 = 0) ∧ MO 18446744073709551616 X Y s.2 s.1)
    (fun s => X.length - s.1) (fun r => r.length = X.length + Y.length ∧ LB 18446744073709551616 r ∧ nv 18446744073709551616 r = nv 18446744073709551616 X * nv 18446744073709551616 Y) ?_ (0, List.replicate (X.length + Y.length) 0) ⟨Nat.zero_le _, by simp, LB.rep (by decide) _, fun j _ => rep_getD _ _, MO.start _⟩
  · obtain ⟨r, hr, h1, h2, h3⟩ := key
    rw [hr, bnd_mk]
    exact ⟨r, rfl, h1, h2, h3⟩
  · rintro ⟨i, z⟩ ⟨h1, h2, h3, h4, h5⟩
    dsimp only at h1 h2 h3 h4 h5
    unfold F_sha512_times_l1
    dsimp only
    by_cases q : i < X.length
    · left
      obtain ⟨c, w, g1, g2, g3, g4, g5, g6⟩ := P_times_in hX hY rfl (by omega) q h2 h3 h4 h5
      rw [if_pos q, gd_pos q, g1, bnd_mk]
      dsimp only
      rw [gd_pos (by omega), gd_pos (by omega), bnd_mk, gd_pos (by omega)]
      refine ⟨_, rfl, ⟨by dsimp only; omega, by simpa using g2, g3.set g4 _, fun j hj => ?_, MI.stop rfl (by omega) (g5 _ (by omega)) g6⟩, by dsimp only; omega⟩
      dsimp only at hj ⊢
      rw [set_get (by omega)]; exact g5 j (by omega)
    · right
      rw [if_neg q]
      exact ⟨_, rfl, h2, h3, MO.stop (by omega) h5⟩
theorem P_pow3 {V : Nat} (hV : V < 18446744073709551616 * 18446744073709551616) : ∃ r, bnd (F_sha512_times (two V) (two V)) (fun (l11 : List Nat) => bnd (F_sha512_times l11 (two V)) (fun (l12 : List Nat) => some l12)) = some r ∧ LB 18446744073709551616 r ∧ r.length = 6 ∧ nv 18446744073709551616 r = V ^ 3 := by
  obtain ⟨y, hy, hyl, hyb, hyv⟩ := P_times (two_lt hV) (two_lt hV) (show 2 + 2 ≤ 100 by decide)
  have hyl : y.length = 4 := hyl
  obtain ⟨z, hz, hzl, hzb, hzv⟩ := P_times hyb (two_lt hV) (show y.length + 2 ≤ 100 by omega)
  have hzl : z.length = y.length + 2 := hzl
  refine ⟨z, by rw [hy, bnd_mk, hz, bnd_mk], hzb, by omega, ?_⟩
  rw [hzv, hyv, two_nv, Nat.pow_succ, Nat.pow_two]
theorem P_root3 {p : Nat} {m : List Int} {a : Nat} (hm : m.getD a (0 : Int) = (p : Int)) (hp : p < 18446744073709551616) : run (F_sha512_Rounds_l2 m a) (List.replicate 2 0, ((70 : Nat) : Int)) = some (two (gr (18446744073709551616 ^ 3 * p) 3 71 0)) := by
  have e71 : ((((70 : Nat) : Int)) + 1).toNat = 71 := rfl
  have key := run_inv (f := F_sha512_Rounds_l2 m a) (fun s : List Nat × Int => -1 ≤ s.2 ∧ s.2 ≤ 70 ∧ ∃ V, s.1 = two V ∧ 2 ^ ((s.2 + 1).toNat) ∣ V ∧ V + 2 ^ ((s.2 + 1).toNat) ≤ 2 ^ 71 ∧ gr (18446744073709551616 ^ 3 * p) 3 ((s.2 + 1).toNat) V = gr (18446744073709551616 ^ 3 * p) 3 71 0)
    (fun s => (s.2 + 1).toNat) (fun r => r = two (gr (18446744073709551616 ^ 3 * p) 3 71 0)) ?_ (List.replicate 2 0, ((70 : Nat) : Int)) ⟨by decide, by decide, 0, rfl, ⟨0, rfl⟩, by decide, congrArg (fun b => gr (18446744073709551616 ^ 3 * p) 3 b 0) e71⟩
  · obtain ⟨r, hr, rfl⟩ := key
    exact hr
  · rintro ⟨z, bit⟩ ⟨h1, h2, V, rfl, hd, hle, hg⟩
    dsimp only at h1 h2 hd hle hg
    unfold F_sha512_Rounds_l2
    dsimp only
    by_cases q : 0 ≤ bit
    · left
      obtain ⟨n, rfl⟩ : ∃ n : Nat, bit = (n : Int) := ⟨bit.toNat, by omega⟩
      have en : (((n : Nat) : Int) + 1).toNat = n + 1 := by omega
      rw [en] at hd hle hg
      have hn : n ≤ 70 := by omega
      have e1 : (((n : Nat) : Int) / ((64 : Nat) : Int)).toNat = n / 64 := by omega
      have e2 : (((n : Nat) : Int) % ((64 : Nat) : Int)).toNat = n % 64 := by omega
      have hX : [(two V).getD 0 0, (two V).getD 1 0].set ((((n : Nat) : Int) / ((64 : Nat) : Int)).toNat) ([(two V).getD 0 0, (two V).getD 1 0].getD ((((n : Nat) : Int) / ((64 : Nat) : Int)).toNat) 0 ||| (1 * 2 ^ ((((n : Nat) : Int) % ((64 : Nat) : Int)).toNat) % 18446744073709551616)) = two (V + 2 ^ n) := by
        rw [e1, e2]; exact setbit hn hd
      have hsucc : 2 ^ (n + 1) = 2 * 2 ^ n := by rw [Nat.pow_succ, Nat.mul_comm]
      have hpos : 0 < 2 ^ n := Nat.two_pow_pos n
      have hV : V + 2 ^ n < 18446744073709551616 * 18446744073709551616 := by
        have : (2 : Nat) ^ 71 = 2361183241434822606848 := rfl
        omega
      obtain ⟨ys, hr, hb, hl, hv⟩ := P_pow3 hV
      have hw := P_within hb hp (by omega) (up := 3) (by omega)
      have epm : (((p : Nat) : Int) % ((18446744073709551616 : Nat) : Int)).toNat = p := by omega
      rw [if_pos (by omega), gd_pos (by show 0 < 2; decide), gd_pos (by show 1 < 2; decide)]
      iterate 9 rw [gd_pos (by omega)]
      rw [hX, hr, bnd_mk, hm, epm, hw, bnd_mk, hv, updig_nv]
      have hgr := gr_succ (18446744073709551616 ^ 3 * p) 3 n V
      rw [hgr] at hg
      have eb : (((n : Nat) : Int) - ((1 : Nat) : Int) + 1).toNat = n := by omega
      by_cases c : (V + 2 ^ n) ^ 3 ≤ 18446744073709551616 ^ 3 * p
      · rw [if_pos c] at hg
        rw [if_pos (decide_eq_true c), bnd_mk, gd_pos (by omega), gd_pos (by omega)]
        refine ⟨_, rfl, ⟨by dsimp only; omega, by dsimp only; omega, V + 2 ^ n, rfl, ?_, ?_, ?_⟩, by dsimp only; omega⟩
        · dsimp only; rw [eb]; exact Nat.dvd_add (Nat.dvd_trans ⟨2, by rw [Nat.pow_succ]⟩ hd) (Nat.dvd_refl _)
        · dsimp only; rw [eb]; omega
        · dsimp only; rw [eb]; exact hg
      · rw [if_neg c] at hg
        rw [if_neg (by rw [decide_eq_false c]; decide), bnd_mk, gd_pos (by omega), gd_pos (by omega)]
        refine ⟨_, rfl, ⟨by dsimp only; omega, by dsimp only; omega, V, rfl, ?_, ?_, ?_⟩, by dsimp only; omega⟩
        · dsimp only; rw [eb]; exact Nat.dvd_trans ⟨2, by rw [Nat.pow_succ]⟩ hd
        · dsimp only; rw [eb]; omega
        · dsimp only; rw [eb]; exact hg
    · right
      have : bit = -1 := by omega
      subst this
      rw [if_neg (by decide)]
      have e0 : ((-1 : Int) + 1).toNat = 0 := rfl
      rw [e0] at hg
      refine ⟨_, rfl, ?_⟩
      rw [← hg]; exact congrArg two (gr_zero _ _ _).symm
theorem P_pow2 {V : Nat} (hV : V < 18446744073709551616 * 18446744073709551616) : ∃ r, bnd (F_sha512_times (two V) (two V)) (fun (l11 : List Nat) => some l11) = some r ∧ LB 18446744073709551616 r ∧ r.length = 4 ∧ nv 18446744073709551616 r = V ^ 2 := by
  obtain ⟨y, hy, hyl, hyb, hyv⟩ := P_times (two_lt hV) (two_lt hV) (show 2 + 2 ≤ 100 by decide)
  have hyl : y.length = 4 := hyl
  refine ⟨y, by rw [hy, bnd_mk], hyb, hyl, ?_⟩
  rw [hyv, two_nv, Nat.pow_two]
theorem P_root2 {p : Nat} {m : List Int} {a : Nat} (hm : m.getD a (0 : Int) = (p : Int)) (hp : p < 18446744073709551616) : run (F_sha512_Start_l2 m a) (List.replicate 2 0, ((70 : Nat) : Int)) = some (two (gr (18446744073709551616 ^ 2 * p) 2 71 0)) := by
  have e71 : ((((70 : Nat) : Int)) + 1).toNat = 71 := rfl
  have key := run_inv (f := F_sha512_Start_l2 m a) (fun s : List Nat × Int => -1 ≤ s.2 ∧ s.2 ≤ 70 ∧ ∃ V, s.1 = two V ∧ 2 ^ ((s.2 + 1).toNat) ∣ V ∧ V + 2 ^ ((s.2 + 1).toNat) ≤ 2 ^ 71 ∧ gr (18446744073709551616 ^ 2 * p) 2 ((s.2 + 1).toNat) V = gr (18446744073709551616 ^ 2 * p) 2 71 0)
    (fun s => (s.2 + 1).toNat) (fun r => r = two (gr (18446744073709551616 ^ 2 * p) 2 71 0)) ?_ (List.replicate 2 0, ((70 : Nat) : Int)) ⟨by decide, by decide, 0, rfl, ⟨0, rfl⟩, by decide, congrArg (fun b => gr (18446744073709551616 ^ 2 * p) 2 b 0) e71⟩
  · obtain ⟨r, hr, rfl⟩ := key
    exact hr
  · rintro ⟨z, bit⟩ ⟨h1, h2, V, rfl, hd, hle, hg⟩
    dsimp only at h1 h2 hd hle hg
    unfold F_sha512_Start_l2
    dsimp only
    by_cases q : 0 ≤ bit
    · left
      obtain ⟨n, rfl⟩ : ∃ n : Nat, bit = (n : Int) := ⟨bit.toNat, by omega⟩
      have en : (((n : Nat) : Int) + 1).toNat = n + 1 := by omega
      rw [en] at hd hle hg
      have hn : n ≤ 70 := by omega
      have e1 : (((n : Nat) : Int) / ((64 : Nat) : Int)).toNat = n / 64 := by omega
      have e2 : (((n : Nat) : Int) % ((64 : Nat) : Int)).toNat = n % 64 := by omega
      have hX : [(two V).getD 0 0, (two V).getD 1 0].set ((((n : Nat) : Int) / ((64 : Nat) : Int)).toNat) ([(two V).getD 0 0, (two V).getD 1 0].getD ((((n : Nat) : Int) / ((64 : Nat) : Int)).toNat) 0 ||| (1 * 2 ^ ((((n : Nat) : Int) % ((64 : Nat) : Int)).toNat) % 18446744073709551616)) = two (V + 2 ^ n) := by
        rw [e1, e2]; exact setbit hn hd
      have hsucc : 2 ^ (n + 1) = 2 * 2 ^ n := by rw [Nat.pow_succ, Nat.mul_comm]
      have hpos : 0 < 2 ^ n := Nat.two_pow_pos n
      have hV : V + 2 ^ n < 18446744073709551616 * 18446744073709551616 := by
        have : (2 : Nat) ^ 71 = 2361183241434822606848 := rfl
        omega
      obtain ⟨ys, hr, hb, hl, hv⟩ := P_pow2 hV
      have hw := P_within hb hp (by omega) (up := 2) (by omega)
      have epm : (((p : Nat) : Int) % ((18446744073709551616 : Nat) : Int)).toNat = p := by omega
      rw [if_pos (by omega), gd_pos (by show 0 < 2; decide), gd_pos (by show 1 < 2; decide)]
      iterate 9 rw [gd_pos (by omega)]
      rw [hX, hr, bnd_mk, hm, epm, hw, bnd_mk, hv, updig_nv]
      have hgr := gr_succ (18446744073709551616 ^ 2 * p) 2 n V
      rw [hgr] at hg
      have eb : (((n : Nat) : Int) - ((1 : Nat) : Int) + 1).toNat = n := by omega
      by_cases c : (V + 2 ^ n) ^ 2 ≤ 18446744073709551616 ^ 2 * p
      · rw [if_pos c] at hg
        rw [if_pos (decide_eq_true c), bnd_mk, gd_pos (by omega), gd_pos (by omega)]
        refine ⟨_, rfl, ⟨by dsimp only; omega, by dsimp only; omega, V + 2 ^ n, rfl, ?_, ?_, ?_⟩, by dsimp only; omega⟩
        · dsimp only; rw [eb]; exact Nat.dvd_add (Nat.dvd_trans ⟨2, by rw [Nat.pow_succ]⟩ hd) (Nat.dvd_refl _)
        · dsimp only; rw [eb]; omega
        · dsimp only; rw [eb]; exact hg
      · rw [if_neg c] at hg
        rw [if_neg (by rw [decide_eq_false c]; decide), bnd_mk, gd_pos (by omega), gd_pos (by omega)]
        refine ⟨_, rfl, ⟨by dsimp only; omega, by dsimp only; omega, V, rfl, ?_, ?_, ?_⟩, by dsimp only; omega⟩
        · dsimp only; rw [eb]; exact Nat.dvd_trans ⟨2, by rw [Nat.pow_succ]⟩ hd
        · dsimp only; rw [eb]; omega
        · dsimp only; rw [eb]; exact hg
    · right
      have : bit = -1 := by omega
      subst this
      rw [if_neg (by decide)]
      have e0 : ((-1 : Int) + 1).toNat = 0 := rfl
      rw [e0] at hg
      refine ⟨_, rfl, ?_⟩
      rw [← hg]; exact congrArg two (gr_zero _ _ _).symm
def rootH (p k : Nat) : Nat := gr (18446744073709551616 ^ k * p) k 71 0 % 18446744073709551616
theorem two_root (p k : Nat) : (two (gr (18446744073709551616 ^ k * p) k 71 0)).getD 0 0 = rootH p k := by
  unfold rootH
  exact two_fst _
def K80 : List Nat := (prs 80).map fun p => rootH p 3
theorem P_K80 : F_sha512_Rounds = some K80 := by
  unfold F_sha512_Rounds
  have hl := prs_len (n := 80) (by decide)
  rw [P_Primes (by decide), bnd_mk]
  dsimp only
  have := run_for (f := F_sha512_Rounds_l1 (cI (prs 80))) (x := ((prs 80).take 80).map (fun p => rootH p 3) ++ List.replicate (80 - 80) 0) (fun i => (i, ((prs 80).take i).map (fun p => rootH p 3) ++ List.replicate (80 - i) 0)) 80 (fun i hi => ?_) ?_
  · have e : (0, ((prs 80).take 0).map (fun p => rootH p 3) ++ List.replicate (80 - 0) 0) = (0, List.replicate 80 0) := rfl
    rw [e] at this
    rw [this, bnd_mk, List.take_of_length_le (by omega), Nat.sub_self]
    exact congrArg some (List.append_nil _)
  · unfold F_sha512_Rounds_l1
    dsimp only
    have hm := prs_lt (getD_mem (l := prs 80) (i := i) (by omega))
    rw [cI_length, if_pos (by omega), gd_pos (by omega), P_root3 (show (cI (prs 80)).getD i (0 : Int) = (((prs 80).getD i 0 : Nat) : Int) from cI_getD _ _) (by omega), bnd_mk, gd_pos (two_pos _), gd_pos (by omega), gd_pos (by omega)]
    rw [two_root, fill_stepW (fun p => rootH p 3) hl hi]
  · unfold F_sha512_Rounds_l1
    dsimp only
    rw [cI_length, if_neg (by omega)]
def S8 : List Nat := (prs 8).map fun p => rootH p 2
theorem P_S8 : F_sha512_Start = some S8 := by
  unfold F_sha512_Start
  have hl := prs_len (n := 8) (by decide)
  rw [P_Primes (by decide), bnd_mk]
  dsimp only
  have := run_for (f := F_sha512_Start_l1 (cI (prs 8))) (x := ((prs 8).take 8).map (fun p => rootH p 2) ++ List.replicate (8 - 8) 0) (fun i => (i, ((prs 8).take i).map (fun p => rootH p 2) ++ List.replicate (8 - i) 0)) 8 (fun i hi => ?_) ?_
  · have e : (0, ((prs 8).take 0).map (fun p => rootH p 2) ++ List.replicate (8 - 0) 0) = (0, List.replicate 8 0) := rfl
    rw [e] at this
    rw [this, bnd_mk, List.take_of_length_le (by omega), Nat.sub_self]
    exact congrArg some (List.append_nil _)
  · unfold F_sha512_Start_l1
    dsimp only
    have hm := prs_lt (getD_mem (l := prs 8) (i := i) (by omega))
    rw [cI_length, if_pos (by omega), gd_pos (by omega), P_root2 (show (cI (prs 8)).getD i (0 : Int) = (((prs 8).getD i 0 : Nat) : Int) from cI_getD _ _) (by omega), bnd_mk, gd_pos (two_pos _), gd_pos (by omega), gd_pos (by omega)]
    rw [two_root, fill_stepW (fun p => rootH p 2) hl hi]
  · unfold F_sha512_Start_l1
    dsimp only
    rw [cI_length, if_neg (by omega)]
end Go.Proofs.Ytnagkhofkjjajaa.H
