/- The constants of layer 14. -/
import Derived.Test.YtddphjmcoolinaaPg
set_option linter.unusedVariables false
set_option linter.unusedSimpArgs false
set_option maxRecDepth 10000
namespace Go.Proofs.Ytddphjmcoolinaa
theorem pl_len (x : Nat) : (pl (x + 1)).length ≤ (pl x).length + 1 := by
  rw [pl_succ]; split
  · rw [List.length_append]; exact Nat.le_refl _
  · exact Nat.le_succ _
theorem pl_mono {x y : Nat} (h : x ≤ y) : pl x <+: pl y := by
  have := pl_pre (y - x) x
  rwa [show x + (y - x) = y by omega] at this
theorem pl542 : (pl 542).length = 100 := by decide +kernel
def prs (n : Nat) : List Nat := (pl 542).take n
theorem prs_len {n : Nat} (h : n ≤ 100) : (prs n).length = n := by
  unfold prs
  rw [List.length_take, pl542]; omega
theorem pl_eq {x n : Nat} (hx : x ≤ 542) (hl : (pl x).length = n) : pl x = prs n := by
  unfold prs
  rw [← hl]
  exact List.prefix_iff_eq_take.1 (pl_mono hx)
theorem pl_below {x n : Nat} (hn : n ≤ 100) (h : (pl x).length < n) : x < 542 := Nat.lt_of_not_le fun hc => by
  have := (pl_mono hc).length_le
  rw [pl542] at this
  omega
theorem P_Primes {n : Nat} (hn : n ≤ 100) : F_sha256_Primes (n : Int) = some (cI (prs n), 0) := by
  unfold F_sha256_Primes
  rw [if_neg (by omega), if_neg (by omega)]
  have key := run_inv (f := F_sha256_Primes_l1 (n : Int)) (fun s : List Int × Nat => s.1 = cI (pl s.2) ∧ 2 ≤ s.2 ∧ (pl s.2).length ≤ n ∧ s.2 ≤ 542) (fun s => 542 - s.2) (fun r => r = cI (prs n)) ?_ ([], 2) ⟨rfl, Nat.le_refl _, Nat.zero_le _, by decide⟩
  · obtain ⟨r, hr, rfl⟩ := key
    rw [hr, bnd_mk]
  · rintro ⟨z, x⟩ ⟨e, h2, hl, hx⟩
    dsimp only at e h2 hl hx
    subst e
    unfold F_sha256_Primes_l1
    dsimp only
    rw [cI_length]
    by_cases q : (pl x).length < n
    · left
      have hx2 := pl_below hn q
      have hlen := pl_len x
      rw [if_pos (by omega), P_prime x h2 (by omega), bnd_mk]
      by_cases c : nodiv x (pl x) = true
      · rw [if_pos c, gd_pos (by omega), bnd_mk, gd_pos (by omega), cI_snoc]
        have e : pl (x + 1) = pl x ++ [x] := by rw [pl_succ, if_pos ⟨h2, c⟩]
        exact ⟨_, rfl, ⟨by dsimp only; rw [e], by dsimp only; omega, by dsimp only; omega, by dsimp only; omega⟩, by dsimp only; omega⟩
      · rw [if_neg c, bnd_mk, gd_pos (by omega)]
        have e : pl (x + 1) = pl x := by rw [pl_succ, if_neg (fun h => c h.2)]
        exact ⟨_, rfl, ⟨by dsimp only; rw [e], by dsimp only; omega, by dsimp only; omega, by dsimp only; omega⟩, by dsimp only; omega⟩
    · right
      rw [if_neg (by omega)]
      exact ⟨_, rfl, by rw [pl_eq (n := n) hx (by omega)]⟩
theorem P_flag (x : Nat) (l : List Nat) (hl : l.length ≤ 1000) (hp : ∀ q, q ∈ l → 2 ≤ q) : run (F_casemateref13_Primes_l2 (cI l) x) (true, 0) = some (nodiv x l, l.length) := by
  have hst : ∀ i, i ≤ l.length → nodiv x (l.take i) = nodiv x (l.take i) := fun _ _ => rfl
  have := run_for (f := F_casemateref13_Primes_l2 (cI l) x) (x := (nodiv x (l.take l.length), l.length)) (fun i => (nodiv x (l.take i), i)) l.length (fun i hi => ?_) ?_
  · rw [List.take_length] at this; exact this
  · unfold F_casemateref13_Primes_l2
    dsimp only
    rw [cI_length, if_pos (by omega), cI_getD]
    have hm := hp _ (getD_mem hi)
    have e : nodiv x (l.take (i + 1)) = (nodiv x (l.take i) && !(Nat.beq (x % l.getD i 0) 0)) := by
      have : l.take (i + 1) = l.take i ++ [l.getD i 0] := by
        rw [List.getD_eq_getElem?_getD, List.getElem?_eq_getElem hi]
        exact (List.take_append_getElem hi).symm
      rw [this]
      unfold nodiv
      rw [List.all_append]
      simp
    have e2 : ((x : Nat) : Int) % ((l.getD i 0 : Nat) : Int) = ((x % l.getD i 0 : Nat) : Int) := (Int.natCast_emod _ _).symm
    have e3 : (!(decide (((x % l.getD i 0 : Nat) : Int) = 0))) = !(Nat.beq (x % l.getD i 0) 0) := by
      congr 1
      cases h : Nat.beq (x % l.getD i 0) 0 with
      | true => exact decide_eq_true (by have := Nat.eq_of_beq_eq_true h; omega)
      | false => exact decide_eq_false (fun q => by
          have : x % l.getD i 0 = 0 := by omega
          rw [this] at h; cases h)
    rw [e2]
    cases c : nodiv x (l.take i) with
    | true => rw [if_pos rfl, gd_pos (by omega), bnd_mk, gd_pos (by omega), e3, e, c, Bool.true_and]
    | false => rw [if_neg (by decide), bnd_mk, gd_pos (by omega), e, c, Bool.false_and]
  · unfold F_casemateref13_Primes_l2
    dsimp only
    rw [cI_length, if_neg (by omega)]
theorem P_refPrimes {n : Nat} (hn : n ≤ 100) : F_casemateref13_Primes (n : Int) = some (cI (prs n)) := by
  unfold F_casemateref13_Primes
  have key := run_inv (f := F_casemateref13_Primes_l1 (n : Int)) (fun s : List Int × Nat => s.1 = cI (pl s.2) ∧ 2 ≤ s.2 ∧ (pl s.2).length ≤ n ∧ s.2 ≤ 542) (fun s => 542 - s.2) (fun r => r = cI (prs n)) ?_ ([], 2) ⟨rfl, Nat.le_refl _, Nat.zero_le _, by decide⟩
  · obtain ⟨r, hr, rfl⟩ := key
    rw [hr, bnd_mk]
  · rintro ⟨z, x⟩ ⟨e, h2, hl, hx⟩
    dsimp only at e h2 hl hx
    subst e
    unfold F_casemateref13_Primes_l1
    dsimp only
    rw [cI_length]
    by_cases q : (pl x).length < n
    · left
      have hx2 := pl_below hn q
      have hlen := pl_len x
      rw [if_pos (by omega), P_flag x (pl x) (by omega) (fun q hq => (pl_mem _ _ hq).1), bnd_mk]
      dsimp only
      by_cases c : nodiv x (pl x) = true
      · rw [if_pos c, gd_pos (by omega), bnd_mk]
        dsimp only
        rw [gd_pos (by omega), cI_snoc]
        have e : pl (x + 1) = pl x ++ [x] := by rw [pl_succ, if_pos ⟨h2, c⟩]
        exact ⟨_, rfl, ⟨by dsimp only; rw [e], by dsimp only; omega, by dsimp only; omega, by dsimp only; omega⟩, by dsimp only; omega⟩
      · rw [if_neg c, bnd_mk]
        dsimp only
        rw [gd_pos (by omega)]
        have e : pl (x + 1) = pl x := by rw [pl_succ, if_neg (fun h => c h.2)]
        exact ⟨_, rfl, ⟨by dsimp only; rw [e], by dsimp only; omega, by dsimp only; omega, by dsimp only; omega⟩, by dsimp only; omega⟩
    · right
      rw [if_neg (by omega)]
      exact ⟨_, rfl, by rw [pl_eq (n := n) hx (by omega)]⟩
/-- a row filled from the first place on -/
theorem fill_step {l : List Nat} {n i : Nat} (f : Nat → Nat) (hl : l.length = n) (hi : i < n) :
    ((l.take i).map f ++ List.replicate (n - i) 0).set i (f (l.getD i 0)) = (l.take (i + 1)).map f ++ List.replicate (n - (i + 1)) 0 := by
  have h1 : ((l.take i).map f).length = i := by simp; omega
  rw [List.set_append_right _ _ (by rw [h1]; exact Nat.le_refl _), h1, Nat.sub_self, show n - i = (n - (i + 1)) + 1 by omega, List.replicate_succ, List.set_cons_zero]
  have : l.take (i + 1) = l.take i ++ [l.getD i 0] := by
    rw [List.getD_eq_getElem?_getD, List.getElem?_eq_getElem (by omega)]
    exact (List.take_append_getElem (by omega)).symm
  rw [this, List.map_append, List.append_assoc]
  rfl
theorem prs_lt {n q : Nat} (h : q ∈ prs n) : 2 ≤ q ∧ q < 542 := pl_mem 542 q (List.mem_of_mem_take h)
def K80 : List Nat := (prs 80).map fun p => rootN p 3
def S8 : List Nat := (prs 8).map fun p => rootN p 2
theorem P_Rounds : F_sha512_Rounds = some K80 := by
  unfold F_sha512_Rounds
  have hl := prs_len (n := 80) (by decide)
  rw [show (80 : Int) = ((80 : Nat) : Int) from rfl, P_Primes (by decide), bnd_mk]
  dsimp only
  have := run_for (f := F_sha512_Rounds_l1 (cI (prs 80))) (x := ((prs 80).take 80).map (fun p => rootN p 3) ++ List.replicate (80 - 80) 0) (fun i => (((prs 80).take i).map (fun p => rootN p 3) ++ List.replicate (80 - i) 0, i)) 80 (fun i hi => ?_) ?_
  · have e : (((prs 80).take 0).map (fun p => rootN p 3) ++ List.replicate (80 - 0) 0, 0) = (List.replicate 80 0, 0) := rfl
    rw [e] at this
    rw [this, bnd_mk, List.take_of_length_le (by omega), Nat.sub_self]
    exact congrArg some (List.append_nil _)
  · unfold F_sha512_Rounds_l1
    dsimp only
    have hm := prs_lt (getD_mem (l := prs 80) (i := i) (by omega))
    rw [cI_length, if_pos (by omega), cI_getD, show (3 : Int) = ((3 : Nat) : Int) from rfl, P_root (by decide) (by decide) (by omega), bnd_mk, gd_pos (by omega), gd_pos (by omega), fill_step (fun p => rootN p 3) hl hi]
  · unfold F_sha512_Rounds_l1
    dsimp only
    rw [cI_length, if_neg (by omega)]
theorem P_Start : F_sha512_Start = some S8 := by
  unfold F_sha512_Start
  have hl := prs_len (n := 8) (by decide)
  rw [show (8 : Int) = ((8 : Nat) : Int) from rfl, P_Primes (by decide), bnd_mk]
  dsimp only
  have := run_for (f := F_sha512_Start_l1 (cI (prs 8))) (x := ((prs 8).take 8).map (fun p => rootN p 2) ++ List.replicate (8 - 8) 0) (fun i => (((prs 8).take i).map (fun p => rootN p 2) ++ List.replicate (8 - i) 0, i)) 8 (fun i hi => ?_) ?_
  · have e : (((prs 8).take 0).map (fun p => rootN p 2) ++ List.replicate (8 - 0) 0, 0) = (List.replicate 8 0, 0) := rfl
    rw [e] at this
    rw [this, bnd_mk, List.take_of_length_le (by omega), Nat.sub_self]
    exact congrArg some (List.append_nil _)
  · unfold F_sha512_Start_l1
    dsimp only
    have hm := prs_lt (getD_mem (l := prs 8) (i := i) (by omega))
    rw [cI_length, if_pos (by omega), cI_getD, show (2 : Int) = ((2 : Nat) : Int) from rfl, P_root (by decide) (by decide) (by omega), bnd_mk, gd_pos (by omega), gd_pos (by omega), fill_step (fun p => rootN p 2) hl hi]
  · unfold F_sha512_Start_l1
    dsimp only
    rw [cI_length, if_neg (by omega)]
theorem P_refRounds : F_casemateref14_Rounds = some K80 := by
  unfold F_casemateref14_Rounds
  have hl := prs_len (n := 80) (by decide)
  rw [show (80 : Int) = ((80 : Nat) : Int) from rfl, P_refPrimes (by decide), bnd_mk]
  have := run_for (f := F_casemateref14_Rounds_l1 (cI (prs 80))) (x := ((prs 80).take 80).map (fun p => rootN p 3) ++ List.replicate (80 - 80) 0) (fun i => (((prs 80).take i).map (fun p => rootN p 3) ++ List.replicate (80 - i) 0, i)) 80 (fun i hi => ?_) ?_
  · have e : (((prs 80).take 0).map (fun p => rootN p 3) ++ List.replicate (80 - 0) 0, 0) = (List.replicate 80 0, 0) := rfl
    rw [e] at this
    rw [this, bnd_mk, List.take_of_length_le (by omega), Nat.sub_self]
    exact congrArg some (List.append_nil _)
  · unfold F_casemateref14_Rounds_l1
    dsimp only
    have hm := prs_lt (getD_mem (l := prs 80) (i := i) (by omega))
    rw [cI_length, if_pos (by omega), gd_pos (by omega), cI_getD, show (3 : Int) = ((3 : Nat) : Int) from rfl, P_refroot (by decide) (by decide) (by show _ < 32768; omega) (by omega), bnd_mk, gd_pos (by omega), fill_step (fun p => rootN p 3) hl hi]
  · unfold F_casemateref14_Rounds_l1
    dsimp only
    rw [if_neg (by omega)]
theorem P_refStart : F_casemateref14_Start = some S8 := by
  unfold F_casemateref14_Start
  have hl := prs_len (n := 8) (by decide)
  rw [show (8 : Int) = ((8 : Nat) : Int) from rfl, P_refPrimes (by decide), bnd_mk]
  have := run_for (f := F_casemateref14_Start_l1 (cI (prs 8))) (x := ((prs 8).take 8).map (fun p => rootN p 2) ++ List.replicate (8 - 8) 0) (fun i => (((prs 8).take i).map (fun p => rootN p 2) ++ List.replicate (8 - i) 0, i)) 8 (fun i hi => ?_) ?_
  · have e : (((prs 8).take 0).map (fun p => rootN p 2) ++ List.replicate (8 - 0) 0, 0) = (List.replicate 8 0, 0) := rfl
    rw [e] at this
    rw [this, bnd_mk, List.take_of_length_le (by omega), Nat.sub_self]
    exact congrArg some (List.append_nil _)
  · unfold F_casemateref14_Start_l1
    dsimp only
    have hm := prs_lt (getD_mem (l := prs 8) (i := i) (by omega))
    rw [cI_length, if_pos (by omega), gd_pos (by omega), cI_getD, show (2 : Int) = ((2 : Nat) : Int) from rfl, P_refroot (by decide) (by decide) (by show _ < 1024; omega) (by omega), bnd_mk, gd_pos (by omega), fill_step (fun p => rootN p 2) hl hi]
  · unfold F_casemateref14_Start_l1
    dsimp only
    rw [if_neg (by omega)]
end Go.Proofs.Ytddphjmcoolinaa
