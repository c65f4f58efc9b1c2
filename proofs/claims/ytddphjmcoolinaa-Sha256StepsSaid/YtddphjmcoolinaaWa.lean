/- Primes by layer 13's program and reference. Lemmas, no statement of the claim. -/
import Derived.Test.YtddphjmcoolinaaTa
import Derived.Test.YtddphjmcoolinaaNc
set_option linter.unusedVariables false
set_option linter.unusedSimpArgs false
set_option maxRecDepth 10000
namespace Go.Proofs.Ytddphjmcoolinaa
/-- naturals as ints -/
def cI (xs : List Nat) : List Int := xs.map fun n : Nat => (n : Int)
theorem cI_length (xs : List Nat) : (cI xs).length = xs.length := by simp [cI]
theorem cI_getD (xs : List Nat) (j : Nat) : (cI xs).getD j 0 = ((xs.getD j 0 : Nat) : Int) := by
  simp only [cI, List.getD_eq_getElem?_getD, List.getElem?_map]
  cases xs[j]? <;> rfl
theorem cI_set (xs : List Nat) (i v : Nat) : (cI xs).set i ((v : Nat) : Int) = cI (xs.set i v) := by simp [cI, List.map_set]
theorem cI_append (xs ys : List Nat) : cI (xs ++ ys) = cI xs ++ cI ys := by simp [cI]
theorem cI_rep (n v : Nat) : List.replicate n ((v : Nat) : Int) = cI (List.replicate n v) := by simp [cI]
theorem cI_repz (n : Nat) : List.replicate n ((0 : Nat) : Int) = cI (List.replicate n 0) := by simp [cI]
theorem cI_snoc (xs : List Nat) (v : Nat) : cI xs ++ [((v : Nat) : Int)] = cI (xs ++ [v]) := by simp [cI]
/-- is it divided by none of them? -/
def nodiv (x : Nat) (l : List Nat) : Bool := l.all fun q => !(Nat.beq (x % q) 0)
/-- the primes below a number -/
def pl : Nat → List Nat
  | 0 => []
  | x + 1 => bif Nat.ble 2 x && nodiv x (pl x) then pl x ++ [x] else pl x
theorem pl_succ (x : Nat) : pl (x + 1) = if 2 ≤ x ∧ nodiv x (pl x) = true then pl x ++ [x] else pl x := by
  show (bif Nat.ble 2 x && nodiv x (pl x) then pl x ++ [x] else pl x) = _
  cases h : nodiv x (pl x) with
  | false => simp
  | true =>
    by_cases q : 2 ≤ x
    · rw [if_pos ⟨q, rfl⟩, show Nat.ble 2 x = true from by simpa using q]; rfl
    · rw [if_neg (by simp [q]), show Nat.ble 2 x = false from by cases e : Nat.ble 2 x with
        | false => rfl
        | true => exact absurd (by simpa using e) q]; rfl
theorem nodiv_iff {x : Nat} {l : List Nat} : nodiv x l = true ↔ ∀ q, q ∈ l → x % q ≠ 0 := by
  unfold nodiv
  rw [List.all_eq_true]
  constructor
  · intro h q hq e
    have := h q hq
    rw [e] at this
    cases this
  · intro h q hq
    cases e : Nat.beq (x % q) 0 with
    | false => rfl
    | true => exact absurd (Nat.eq_of_beq_eq_true e) (h q hq)
theorem pl_mem : ∀ (x q : Nat), q ∈ pl x → 2 ≤ q ∧ q < x := by
  intro x
  induction x with
  | zero => intro q h; cases h
  | succ x ih =>
    intro q h
    rw [pl_succ] at h
    split at h
    · rename_i c
      rcases List.mem_append.1 h with z | z
      · have := ih q z; omega
      · simp at z; omega
    · have := ih q h; omega
theorem pl_pre : ∀ (d x : Nat), pl x <+: pl (x + d) := by
  intro d
  induction d with
  | zero => intro x; exact List.prefix_refl _
  | succ d ih =>
    intro x
    refine List.IsPrefix.trans (ih x) ?_
    rw [← Nat.add_assoc, pl_succ]
    split
    · exact List.prefix_append _ _
    · exact List.prefix_refl _
theorem pl_sorted : ∀ (x : Nat), (pl x).Pairwise (· < ·) := by
  intro x
  induction x with
  | zero => exact List.Pairwise.nil
  | succ x ih =>
    rw [pl_succ]
    split
    · refine List.pairwise_append.2 ⟨ih, List.pairwise_singleton _ _, fun a ha b hb => ?_⟩
      simp at hb
      subst hb
      exact (pl_mem _ _ ha).2
    · exact ih
theorem pl_div : ∀ (x m : Nat), 2 ≤ m → m < x → ∃ q, q ∈ pl x ∧ q ∣ m := by
  intro x
  induction x with
  | zero => intro m _ h; omega
  | succ x ih =>
    intro m h2 hm
    have hsub : ∀ q, q ∈ pl x → q ∈ pl (x + 1) := fun q hq => (pl_pre 1 x).subset hq
    rcases Nat.lt_or_ge m x with h | h
    · obtain ⟨q, hq, hd⟩ := ih m h2 h
      exact ⟨q, hsub q hq, hd⟩
    · have : m = x := by omega
      subst this
      by_cases c : nodiv m (pl m) = true
      · refine ⟨m, ?_, Nat.dvd_refl _⟩
        rw [pl_succ, if_pos ⟨h2, c⟩]
        simp
      · have : ¬ ∀ q, q ∈ pl m → m % q ≠ 0 := fun hh => c (nodiv_iff.2 hh)
        have : ∃ q, q ∈ pl m ∧ m % q = 0 := Classical.byContradiction fun hn => this fun q hq e => hn ⟨q, hq, e⟩
        obtain ⟨q, hq, e⟩ := this
        exact ⟨q, hsub q hq, Nat.dvd_of_mod_eq_zero e⟩
theorem getD_mem {l : List Nat} {i : Nat} (h : i < l.length) : l.getD i 0 ∈ l := by
  rw [List.getD_eq_getElem?_getD, List.getElem?_eq_getElem h]
  exact List.getElem_mem h
theorem P_prime (x : Nat) (hx : 2 ≤ x) (hb : x ≤ 100000) : F_sha256_prime (x : Int) (cI (pl x)) = some (nodiv x (pl x)) := by
  unfold F_sha256_prime
  have hlen : (pl x).length ≤ 1000000 := by
    have : ∀ y, (pl y).length ≤ y := by
      intro y
      induction y with
      | zero => exact Nat.le_refl _
      | succ y ih => rw [pl_succ]; split; (rw [List.length_append]; exact Nat.succ_le_succ ih); exact Nat.le_succ_of_le ih
    have := this x; omega
  have key := run_inv (f := F_sha256_prime_l1 (x : Int) (cI (pl x))) (fun i : Nat => i ≤ (pl x).length ∧ ∀ j, j < i → x % (pl x).getD j 0 ≠ 0)
    (fun i => (pl x).length - i) (fun r => sel (fun _ => some true) r = some (nodiv x (pl x))) ?_ 0 ⟨Nat.zero_le _, fun j h => absurd h (Nat.not_lt_zero _)⟩
  · obtain ⟨r, hr, h⟩ := key
    rw [hr, bnd_mk]; exact h
  · rintro i ⟨hi, hj⟩
    unfold F_sha256_prime_l1
    rw [cI_length, show (cI (pl x)).getD i (0 : Int) = ((((pl x).getD i 0 : Nat) : Int)) from cI_getD _ _]
    by_cases q : i < (pl x).length
    · have hm := getD_mem q
      obtain ⟨p2, px⟩ := pl_mem _ _ hm
      generalize hp : (pl x).getD i 0 = p at *
      have hpp : p * p ≤ 100000 * 100000 := Nat.mul_le_mul (by omega) (by omega)
      have e1 : ((p : Nat) : Int) * ((p : Nat) : Int) = ((p * p : Nat) : Int) := (Int.natCast_mul p p).symm
      rw [if_pos (by omega), gd_pos (by omega), e1, gd_pos (by omega), gd_pos (by omega)]
      by_cases q2 : x < p * p
      · right
        rw [if_pos (by omega)]
        refine ⟨_, rfl, ?_⟩
        rw [sel_inl]
        congr 1
        symm
        rw [nodiv_iff]
        intro q0 hq0 e0
        obtain ⟨b2, bx⟩ := pl_mem _ _ hq0
        obtain ⟨j0, hj0, ej0⟩ := List.getElem_of_mem hq0
        have hge : ∀ j, i ≤ j → j < (pl x).length → p ≤ (pl x).getD j 0 := by
          intro j h1 h2
          rcases Nat.lt_or_ge i j with h | h
          · have := (List.pairwise_iff_getElem.1 (pl_sorted x)) i j q h2 h
            have e3 : (pl x)[i] = p := by rw [← hp, List.getD_eq_getElem?_getD, List.getElem?_eq_getElem q]; rfl
            have e4 : (pl x).getD j 0 = (pl x)[j] := by rw [List.getD_eq_getElem?_getD, List.getElem?_eq_getElem h2]; rfl
            omega
          · have : j = i := by omega
            subst this; omega
        have hg0 : (pl x).getD j0 0 = q0 := by rw [List.getD_eq_getElem?_getD, List.getElem?_eq_getElem hj0]; simpa using ej0
        have hj0i : i ≤ j0 := Nat.le_of_not_lt fun h => hj j0 h (by rw [hg0]; exact e0)
        have hp0 : p ≤ q0 := by have := hge j0 hj0i hj0; omega
        obtain ⟨m, hm2⟩ := Nat.dvd_of_mod_eq_zero e0
        have hmlt : m < q0 := Nat.lt_of_not_le fun h => by
          have : q0 * q0 ≤ q0 * m := Nat.mul_le_mul_left _ h
          have : p * p ≤ q0 * q0 := Nat.mul_le_mul hp0 hp0
          omega
        have hm1 : 2 ≤ m := by
          rcases Nat.lt_or_ge m 2 with h | h
          · have : m = 0 ∨ m = 1 := by omega
            rcases this with z | z <;> rw [z] at hm2 <;> omega
          · exact h
        obtain ⟨q1, hq1, hd1⟩ := pl_div x m hm1 (by omega)
        have hle1 := Nat.le_of_dvd (by omega) hd1
        obtain ⟨j1, hj1, ej1⟩ := List.getElem_of_mem hq1
        have hg1 : (pl x).getD j1 0 = q1 := by rw [List.getD_eq_getElem?_getD, List.getElem?_eq_getElem hj1]; simpa using ej1
        have hdx : x % q1 = 0 := Nat.mod_eq_zero_of_dvd (by rw [hm2]; exact Nat.dvd_trans hd1 ⟨q0, Nat.mul_comm _ _⟩)
        have hj1i : i ≤ j1 := Nat.le_of_not_lt fun h => hj j1 h (by rw [hg1]; exact hdx)
        have hp1 : p ≤ q1 := by have := hge j1 hj1i hj1; omega
        have : p * p ≤ q0 * m := Nat.mul_le_mul hp0 (by omega)
        omega
      · rw [if_neg (by omega), gd_pos (by omega), gd_pos (by omega)]
        have e2 : ((x : Nat) : Int) % ((p : Nat) : Int) = ((x % p : Nat) : Int) := (Int.natCast_emod x p).symm
        rw [e2]
        by_cases q3 : x % p = 0
        · right
          rw [if_pos (by omega)]
          refine ⟨_, rfl, ?_⟩
          rw [sel_inr]
          congr 1
          cases e : nodiv x (pl x) with
          | false => rfl
          | true => exact absurd q3 (nodiv_iff.1 e p hm)
        · left
          rw [if_neg (by omega), gd_pos (by omega)]
          refine ⟨_, rfl, ⟨q, fun j h => ?_⟩, by omega⟩
          rcases Nat.lt_or_ge j i with z | z
          · exact hj j z
          · have : j = i := by omega
            subst this; rw [hp]; exact q3
    · right
      rw [if_neg (by omega)]
      refine ⟨_, rfl, ?_⟩
      rw [sel_inl]
      congr 1
      symm
      rw [nodiv_iff]
      intro q0 hq0
      obtain ⟨j0, hj0, ej0⟩ := List.getElem_of_mem hq0
      have hg0 : (pl x).getD j0 0 = q0 := by rw [List.getD_eq_getElem?_getD, List.getElem?_eq_getElem hj0]; simpa using ej0
      have := hj j0 (by omega)
      rwa [hg0] at this
theorem pl_len (x : Nat) : (pl (x + 1)).length ≤ (pl x).length + 1 := by
  rw [pl_succ]; split
  · rw [List.length_append]; exact Nat.le_refl _
  · exact Nat.le_succ _
theorem pl_mono {x y : Nat} (h : x ≤ y) : pl x <+: pl y := by
  have := pl_pre (y - x) x
  rwa [show x + (y - x) = y by omega] at this
theorem pl542 : (pl 542).length = 100 := by decide +kernel
def prs (n : Nat) : List Nat := (pl 542).take n
theorem prs_len {n : Nat} (h : n ≤ 100) : (prs n).length = n := by
  unfold prs
  rw [List.length_take, pl542]; omega
theorem pl_eq {x n : Nat} (hx : x ≤ 542) (hl : (pl x).length = n) : pl x = prs n := by
  unfold prs
  rw [← hl]
  exact List.prefix_iff_eq_take.1 (pl_mono hx)
theorem pl_below {x n : Nat} (hn : n ≤ 100) (h : (pl x).length < n) : x < 542 := Nat.lt_of_not_le fun hc => by
  have := (pl_mono hc).length_le
  rw [pl542] at this
  omega
theorem P_Primes {n : Nat} (hn : n ≤ 100) : F_sha256_Primes (n : Int) = some (cI (prs n), ((0 : Nat) : Int)) := by
  unfold F_sha256_Primes
  rw [if_neg (by omega), if_neg (by omega)]
  have key := run_inv (f := F_sha256_Primes_l1 (n : Int)) (fun s : List Int × Nat => s.1 = cI (pl s.2) ∧ 2 ≤ s.2 ∧ (pl s.2).length ≤ n ∧ s.2 ≤ 542) (fun s => 542 - s.2) (fun r => r = cI (prs n)) ?_ ([], 2) ⟨rfl, Nat.le_refl _, Nat.zero_le _, by decide⟩
  · obtain ⟨r, hr, rfl⟩ := key
    rw [hr, bnd_mk]
  · rintro ⟨z, x⟩ ⟨e, h2, hl, hx⟩
    dsimp only at e h2 hl hx
    subst e
    unfold F_sha256_Primes_l1
    dsimp only
    rw [cI_length]
    by_cases q : (pl x).length < n
    · left
      have hx2 := pl_below hn q
      have hlen := pl_len x
      rw [if_pos (by omega), P_prime x h2 (by omega), bnd_mk]
      by_cases c : nodiv x (pl x) = true
      · rw [if_pos c, gd_pos (by omega), gd_pos (by omega), cI_snoc]
        have e : pl (x + 1) = pl x ++ [x] := by rw [pl_succ, if_pos ⟨h2, c⟩]
        exact ⟨_, rfl, ⟨by dsimp only; rw [e], by dsimp only; omega, by dsimp only; omega, by dsimp only; omega⟩, by dsimp only; omega⟩
      · rw [if_neg c, gd_pos (by omega)]
        have e : pl (x + 1) = pl x := by rw [pl_succ, if_neg (fun h => c h.2)]
        exact ⟨_, rfl, ⟨by dsimp only; rw [e], by dsimp only; omega, by dsimp only; omega, by dsimp only; omega⟩, by dsimp only; omega⟩
    · right
      rw [if_neg (by omega)]
      exact ⟨_, rfl, by rw [pl_eq (n := n) hx (by omega)]⟩
theorem P_flag (x : Nat) (l : List Nat) (hl : l.length ≤ 1000) (hp : ∀ q, q ∈ l → 2 ≤ q) : run (F_casemateref13_Primes_l2 (cI l) x) (true, 0) = some (nodiv x l) := by
  have := run_for (f := F_casemateref13_Primes_l2 (cI l) x) (x := nodiv x (l.take l.length)) (fun i => (nodiv x (l.take i), i)) l.length (fun i hi => ?_) ?_
  · rw [List.take_length] at this; exact this
  · unfold F_casemateref13_Primes_l2
    dsimp only
    rw [cI_length, if_pos (by omega), show (cI l).getD i (0 : Int) = ((l.getD i 0 : Nat) : Int) from cI_getD _ _]
    have hm := hp _ (getD_mem hi)
    have e : nodiv x (l.take (i + 1)) = (nodiv x (l.take i) && !(Nat.beq (x % l.getD i 0) 0)) := by
      have : l.take (i + 1) = l.take i ++ [l.getD i 0] := by
        rw [List.getD_eq_getElem?_getD, List.getElem?_eq_getElem hi]
        exact (List.take_append_getElem hi).symm
      rw [this]
      unfold nodiv
      rw [List.all_append]
      simp
    have e2 : ((x : Nat) : Int) % ((l.getD i 0 : Nat) : Int) = ((x % l.getD i 0 : Nat) : Int) := (Int.natCast_emod _ _).symm
    have e3 : (!(decide (((x % l.getD i 0 : Nat) : Int) = ((0 : Nat) : Int)))) = !(Nat.beq (x % l.getD i 0) 0) := by
      congr 1
      cases h : Nat.beq (x % l.getD i 0) 0 with
      | true => exact decide_eq_true (by have := Nat.eq_of_beq_eq_true h; omega)
      | false => exact decide_eq_false (fun q => by
          have : x % l.getD i 0 = 0 := by omega
          rw [this] at h; cases h)
    rw [e2]
    cases c : nodiv x (l.take i) with
    | true => rw [if_pos rfl, gd_pos hi, gd_pos (by omega), gd_pos (by omega), gd_pos (by omega), e3, e, c, Bool.true_and]
    | false => rw [if_neg (by decide), gd_pos (by omega), e, c, Bool.false_and]
  · unfold F_casemateref13_Primes_l2
    dsimp only
    rw [cI_length, if_neg (by omega)]
theorem P_refPrimes {n : Nat} (hn : n ≤ 100) : F_casemateref13_Primes (n : Int) = some (cI (prs n)) := by
  unfold F_casemateref13_Primes
  have key := run_inv (f := F_casemateref13_Primes_l1 (n : Int)) (fun s : List Int × Nat => s.1 = cI (pl s.2) ∧ 2 ≤ s.2 ∧ (pl s.2).length ≤ n ∧ s.2 ≤ 542) (fun s => 542 - s.2) (fun r => r = cI (prs n)) ?_ ([], 2) ⟨rfl, Nat.le_refl _, Nat.zero_le _, by decide⟩
  · obtain ⟨r, hr, rfl⟩ := key
    rw [hr, bnd_mk]
  · rintro ⟨z, x⟩ ⟨e, h2, hl, hx⟩
    dsimp only at e h2 hl hx
    subst e
    unfold F_casemateref13_Primes_l1
    dsimp only
    rw [cI_length]
    by_cases q : (pl x).length < n
    · left
      have hx2 := pl_below hn q
      have hlen := pl_len x
      rw [if_pos (by omega), P_flag x (pl x) (by omega) (fun q hq => (pl_mem _ _ hq).1), bnd_mk]
      by_cases c : nodiv x (pl x) = true
      · rw [if_pos c, gd_pos (by omega), bnd_mk, gd_pos (by omega), cI_snoc]
        have e : pl (x + 1) = pl x ++ [x] := by rw [pl_succ, if_pos ⟨h2, c⟩]
        exact ⟨_, rfl, ⟨by dsimp only; rw [e], by dsimp only; omega, by dsimp only; omega, by dsimp only; omega⟩, by dsimp only; omega⟩
      · rw [if_neg c, bnd_mk, gd_pos (by omega)]
        have e : pl (x + 1) = pl x := by rw [pl_succ, if_neg (fun h => c h.2)]
        exact ⟨_, rfl, ⟨by dsimp only; rw [e], by dsimp only; omega, by dsimp only; omega, by dsimp only; omega⟩, by dsimp only; omega⟩
    · right
      rw [if_neg (by omega)]
      exact ⟨_, rfl, by rw [pl_eq (n := n) hx (by omega)]⟩
/-- a row filled from the first place on -/
theorem fill_stepW {l : List Nat} {n i : Nat} (f : Nat → Nat) (hl : l.length = n) (hi : i < n) :
    ((l.take i).map f ++ List.replicate (n - i) 0).set i (f (l.getD i 0)) = (l.take (i + 1)).map f ++ List.replicate (n - (i + 1)) 0 := by
  have h1 : ((l.take i).map f).length = i := by simp; omega
  rw [List.set_append_right _ _ (by rw [h1]; exact Nat.le_refl _), h1, Nat.sub_self, show n - i = (n - (i + 1)) + 1 by omega, List.replicate_succ, List.set_cons_zero]
  have : l.take (i + 1) = l.take i ++ [l.getD i 0] := by
    rw [List.getD_eq_getElem?_getD, List.getElem?_eq_getElem (by omega)]
    exact (List.take_append_getElem (by omega)).symm
  rw [this, List.map_append, List.append_assoc]
  rfl
theorem prs_lt {n q : Nat} (h : q ∈ prs n) : 2 ≤ q ∧ q < 542 := pl_mem 542 q (List.mem_of_mem_take h)
end Go.Proofs.Ytddphjmcoolinaa
