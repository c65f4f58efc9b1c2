/- Roots of primes by layer 13's reference, digit by digit. Lemmas, no statement of the claim. -/
import Derived.Test.YtddphjmcoolinaaWb
set_option linter.unusedVariables false
set_option linter.unusedSimpArgs false
set_option maxRecDepth 10000
namespace Go.Proofs.Ytddphjmcoolinaa
theorem cI_at (xs : List Nat) (j : Nat) : (cI xs).getD j (0 : Int) = ((xs.getD j 0 : Nat) : Int) := cI_getD xs j
/-- how far a row of products has come -/
def MI (b : Nat) (xs ys z : List Nat) (i c k : Nat) : Prop := nv b z + c * b ^ (i + k) = nv b (xs.take i) * nv b ys + b ^ i * (xs.getD i 0 * nv b (ys.take k))
def MO (b : Nat) (xs ys z : List Nat) (i : Nat) : Prop := nv b z = nv b (xs.take i) * nv b ys
theorem MI.start {b : Nat} {xs ys z : List Nat} {i : Nat} (h : MO b xs ys z i) : MI b xs ys z i 0 0 := by
  unfold MI
  rw [Nat.zero_mul, List.take_zero]
  show _ = _ + _ * (_ * 0)
  rw [Nat.mul_zero, Nat.mul_zero]
  exact h
theorem MI.step {b : Nat} {xs ys z : List Nat} {i k c v d : Nat} (hk : i + k < z.length) (h : MI b xs ys z i c k) (hv : v = (xs.getD i 0 * ys.getD k 0 + z.getD (i + k) 0 + c) % b) (hd : d = (xs.getD i 0 * ys.getD k 0 + z.getD (i + k) 0 + c) / b) :
    MI b xs ys (z.set (i + k) v) i d (k + 1) := by subst hv hd; exact mul_step hk h
theorem MO.start {b : Nat} {xs ys : List Nat} (n : Nat) : MO b xs ys (List.replicate n 0) 0 := by
  unfold MO
  rw [nv_replicate, List.take_zero]
  show 0 = 0 * _
  rw [Nat.zero_mul]
theorem MO.stop {b : Nat} {xs ys z : List Nat} {i : Nat} (hi : i = xs.length) (h : MO b xs ys z i) : nv b z = nv b xs * nv b ys := by
  subst hi
  unfold MO at h
  rwa [List.take_length] at h
theorem MI.all {b : Nat} {xs ys z : List Nat} {i k : Nat} (hi : i < xs.length) (hk : ys.length ≤ k) (h : MI b xs ys z i 0 k) : MO b xs ys z (i + 1) := by
  unfold MI at h
  unfold MO
  rw [Nat.zero_mul, Nat.add_zero, List.take_of_length_le hk] at h
  rw [h, nv_take_succ b xs i hi, Nat.add_mul, Nat.mul_assoc]
theorem P_Times_in {xs ys zs : List Nat} {i : Nat} (hX : LB 65536 xs) (hY : LB 65536 ys) (hl : xs.length + ys.length ≤ 1000) (hi : i < xs.length) (hz : zs.length = xs.length + ys.length + 1) (hZ : LB 65536 zs)
    (h0 : ∀ j, i + ys.length ≤ j → zs.getD j 0 = 0) (hv : MO 65536 xs ys zs i) :
    ∃ r, run (F_casemateref13_Times_l2 (cI xs) (cI ys) i) (((0 : Nat) : Int), 0, cI zs) = some r ∧ ∃ z, r.2.2 = cI z ∧ z.length = zs.length ∧ LB 65536 z ∧ (∀ j, i + 1 + ys.length ≤ j → z.getD j 0 = 0) ∧ MO 65536 xs ys z (i + 1) := by
  refine run_inv (fun s : Int × Nat × List Int => ∃ z c, s.2.2 = cI z ∧ s.1 = ((c : Nat) : Int) ∧ z.length = zs.length ∧ LB 65536 z ∧ c < 65536 ∧ (s.2.1 ≤ ys.length ∨ s.2.1 = ys.length + 1 ∧ c = 0) ∧ (∀ j, i + ys.length ≤ j → i + s.2.1 ≤ j → z.getD j 0 = 0) ∧ MI 65536 xs ys z i c s.2.1)
    (fun s => ys.length + 2 - s.2.1) _ ?_ (((0 : Nat) : Int), 0, cI zs) ⟨zs, 0, rfl, rfl, rfl, hZ, by decide, .inl (Nat.zero_le _), fun j h _ => h0 j h, MI.start hv⟩
  rintro ⟨c', k, z'⟩ ⟨z, c, e1, e2, h1, h2, h3, h4, h5, h6⟩
  dsimp only at e1 e2 h4 h5 h6
  subst e1 e2
  unfold F_casemateref13_Times_l2
  dsimp only
  rw [cI_length, cI_length]
  have hx := hX.get (by decide) i
  have hz1 := h2.get (by decide) (i + k)
  have hstep : ∀ (y : Nat), y = ys.getD k 0 → (k < ys.length ∨ 0 < c) → ∃ t : Int × Nat × List Int,
      (some (Sum.inl ((((xs.getD i 0 * y + z.getD (i + k) 0 + c : Nat) : Int) / ((65536 : Nat) : Int)), k + 1, (cI z).set (i + k) (((xs.getD i 0 * y + z.getD (i + k) 0 + c : Nat) : Int) % ((65536 : Nat) : Int)))) : Option ((Int × Nat × List Int) ⊕ (Int × Bool × List Int))) = some (.inl t) ∧
      (∃ z c, t.2.2 = cI z ∧ t.1 = ((c : Nat) : Int) ∧ z.length = zs.length ∧ LB 65536 z ∧ c < 65536 ∧ (t.2.1 ≤ ys.length ∨ t.2.1 = ys.length + 1 ∧ c = 0) ∧ (∀ j, i + ys.length ≤ j → i + t.2.1 ≤ j → z.getD j 0 = 0) ∧ MI 65536 xs ys z i c t.2.1) ∧ ys.length + 2 - t.2.1 < ys.length + 2 - k := by
    intro y ey hor
    subst ey
    have hy := hY.get (by decide) k
    have hk : k ≤ ys.length := by rcases h4 with h | ⟨_, h⟩ <;> rcases hor with q | q <;> omega
    have hb : xs.getD i 0 * ys.getD k 0 ≤ 65535 * 65535 := Nat.mul_le_mul (by omega) (by omega)
    refine ⟨_, rfl, ⟨z.set (i + k) ((xs.getD i 0 * ys.getD k 0 + z.getD (i + k) 0 + c) % 65536), (xs.getD i 0 * ys.getD k 0 + z.getD (i + k) 0 + c) / 65536, ?_, ?_, by rw [List.length_set]; exact h1, h2.set (Nat.mod_lt _ (by decide)) _, ?_, ?_, ?_, MI.step (by omega) h6 rfl rfl⟩, by dsimp only; omega⟩
    · dsimp only; rw [← cI_set, Int.natCast_emod]
    · dsimp only; rw [Int.natCast_ediv]
    · have := h3
      generalize xs.getD i 0 * ys.getD k 0 = P at *
      omega
    · dsimp only
      by_cases q : k < ys.length
      · exact .inl (by omega)
      · have ek : k = ys.length := by omega
        have e0 : ys.getD k 0 = 0 := getD_ge (by omega)
        have e3 : z.getD (i + k) 0 = 0 := h5 _ (by omega) (Nat.le_refl _)
        refine .inr ⟨by omega, ?_⟩
        rw [e0, e3, Nat.mul_zero]
        omega
    · intro j hj1 hj2
      dsimp only at hj2
      rw [getD_set _ _ _ _ (by omega), if_neg (by omega)]
      exact h5 j hj1 (by omega)
  by_cases q : k < ys.length
  · left
    obtain ⟨t, ht, h⟩ := hstep _ rfl (.inl q)
    have hy := hY.get (by decide) k
    have hb : xs.getD i 0 * ys.getD k 0 ≤ 65535 * 65535 := Nat.mul_le_mul (by omega) (by omega)
    refine ⟨t, ?_, h⟩
    have e : ((z.getD (i + k) 0 : Nat) : Int) + ((c : Nat) : Int) + ((xs.getD i 0 : Nat) : Int) * ((ys.getD k 0 : Nat) : Int) = ((xs.getD i 0 * ys.getD k 0 + z.getD (i + k) 0 + c : Nat) : Int) := by
      rw [← Int.natCast_mul]; omega
    have e5 : ((xs.getD i 0 : Nat) : Int) * ((ys.getD k 0 : Nat) : Int) = ((xs.getD i 0 * ys.getD k 0 : Nat) : Int) := (Int.natCast_mul _ _).symm
    rw [if_pos q, bnd_mk, sel_inl, ← ht, gd_pos (by omega), gd_pos (by omega), cI_at, gd_pos (by omega), gd_pos (by omega), if_pos q, gd_pos hi, gd_pos q, cI_at, cI_at, e, e5]
    generalize xs.getD i 0 * ys.getD k 0 = P at *
    rw [gd_pos (by omega), gd_pos (by omega), gd_pos (by omega), gd_pos (by omega), bnd_mk, gd_pos (by omega), gd_pos (by omega), gd_pos (by omega), gd_pos (by omega), gd_pos (by omega), gd_pos (by omega), gd_pos (by omega)]
  · rw [if_neg q]
    by_cases q2 : 0 < c
    · left
      obtain ⟨t, ht, h⟩ := hstep _ rfl (.inr q2)
      have e0 : ys.getD k 0 = 0 := getD_ge (by omega)
      have hk : k ≤ ys.length := by rcases h4 with h | ⟨_, h⟩ <;> omega
      refine ⟨t, ?_, h⟩
      rw [e0, Nat.mul_zero, Nat.zero_add] at ht
      rw [if_pos (show ((0 : Nat) : Int) < ((c : Nat) : Int) by omega), bnd_mk, sel_inl, ← ht, gd_pos (by omega), gd_pos (by omega), cI_at, gd_pos (by omega), gd_pos (by omega), if_neg q, bnd_mk, ← Int.natCast_add]
      rw [gd_pos (by omega), gd_pos (by omega), gd_pos (by omega), gd_pos (by omega), gd_pos (by omega), gd_pos (by omega), gd_pos (by omega)]
    · right
      have ec : c = 0 := by omega
      subst ec
      rw [if_neg (by omega), bnd_mk, sel_inr]
      exact ⟨_, rfl, z, rfl, h1, h2, fun j hj => h5 j (by omega) (by rcases h4 with h | h <;> omega), MI.all hi (by omega) h6⟩
theorem P_Times {xs ys : List Nat} (hX : LB 65536 xs) (hY : LB 65536 ys) (hl : xs.length + ys.length ≤ 1000) :
    ∃ z, F_casemateref13_Times (cI xs) (cI ys) = some (cI z) ∧ z.length = xs.length + ys.length + 1 ∧ LB 65536 z ∧ nv 65536 z = nv 65536 xs * nv 65536 ys := by
  unfold F_casemateref13_Times
  rw [cI_length, cI_length, gd_pos (by omega), gd_pos (by omega), gd_pos (by omega), cI_repz]
  have key := run_inv (f := F_casemateref13_Times_l1 (cI xs) (cI ys)) (fun s : Nat × List Int => ∃ z, s.2 = cI z ∧ s.1 ≤ xs.length ∧ z.length = xs.length + ys.length + 1 ∧ LB 65536 z ∧ (∀ j, s.1 + ys.length ≤ j → z.getD j 0 = 0) ∧ MO 65536 xs ys z s.1)
    (fun s => xs.length - s.1) (fun r => ∃ z, r = cI z ∧ z.length = xs.length + ys.length + 1 ∧ LB 65536 z ∧ nv 65536 z = nv 65536 xs * nv 65536 ys) ?_ (0, cI (List.replicate (xs.length + ys.length + 1) 0))
    ⟨List.replicate (xs.length + ys.length + 1) 0, rfl, Nat.zero_le _, by simp, LB.rep (by decide) _, fun j _ => rep_getD _ _, MO.start _⟩
  · obtain ⟨r, hr, z, rfl, h⟩ := key
    rw [hr, bnd_mk]; exact ⟨z, rfl, h⟩
  · rintro ⟨i, z'⟩ ⟨z, e, hi, hzl, hzb, hz0, hv⟩
    dsimp only at e hi hz0 hv
    subst e
    unfold F_casemateref13_Times_l1
    dsimp only
    rw [cI_length]
    by_cases q : i < xs.length
    · left
      obtain ⟨⟨c, m, z2'⟩, hr, z2, e, hl2, hb2, h02, hv2⟩ := P_Times_in hX hY hl q hzl hzb hz0 hv
      dsimp only at e
      subst e
      rw [if_pos q, hr, bnd_mk]
      dsimp only
      rw [gd_pos (by omega)]
      exact ⟨_, rfl, ⟨z2, rfl, q, by omega, hb2, fun j hj => h02 j (by dsimp only at hj; omega), hv2⟩, by dsimp only; omega⟩
    · right
      rw [if_neg q]
      exact ⟨_, rfl, z, rfl, hzl, hzb, MO.stop (by omega) hv⟩
theorem P_Greater {xs ys : List Nat} (hX : LB 65536 xs) (hY : LB 65536 ys) (hl : xs.length + ys.length ≤ 1000) :
    F_casemateref13_Greater (cI xs) (cI ys) = some (decide (nv 65536 ys < nv 65536 xs)) := by
  unfold F_casemateref13_Greater
  rw [cI_length, cI_length]
  have hm1 : Nat.max xs.length ys.length ≤ 1000 := Nat.max_le.2 ⟨by omega, by omega⟩
  have key := run_inv (f := F_casemateref13_Greater_l1 (cI xs) (cI ys)) (fun i : Int => -1 ≤ i ∧ i < Nat.max xs.length ys.length ∧ ∀ j : Nat, i < j → xs.getD j 0 = ys.getD j 0)
    (fun i => (i + 1).toNat) (fun r => sel (fun _ => some false) r = some (decide (nv 65536 ys < nv 65536 xs))) ?_ (((Nat.max xs.length ys.length : Nat) : Int) - ((1 : Nat) : Int)) ⟨by omega, by omega, fun j hj => by
      obtain ⟨h1, h2⟩ := max_ge (n := xs.length) (m := ys.length) (j := j) (by omega)
      rw [getD_ge h1, getD_ge h2]⟩
  · obtain ⟨r, hr, h⟩ := key
    have hr : run (F_casemateref13_Greater_l1 (cI xs) (cI ys)) (((max xs.length ys.length : Nat) : Int) - ((1 : Nat) : Int)) = some r := hr
    rw [hr, bnd_mk]; exact h
  · rintro i ⟨h1, h2, h3⟩
    unfold F_casemateref13_Greater_l1
    by_cases q : 0 ≤ i
    · rw [if_pos (show ((0 : Nat) : Int) ≤ i from q)]
      obtain ⟨k, rfl⟩ := Int.eq_ofNat_of_zero_le q
      have hif : ∀ (zs : List Nat), (if ((k : Nat) : Int) < (((cI zs).length : Nat) : Int) then (gd ((0 : Int) ≤ ((k : Nat) : Int)) (gd (((k : Nat) : Int) < (((cI zs).length : Nat) : Int)) (some ((cI zs).getD (Int.toNat ((k : Nat) : Int)) (0 : Int))))) else (some ((0 : Nat) : Int)) : Option Int) = some ((zs.getD k 0 : Nat) : Int) := by
        intro zs
        rw [cI_length, Int.toNat_natCast, cI_at]
        split
        · rename_i q; rw [gd_pos (by omega), gd_pos q]
        · rw [getD_ge (by omega)]
      rw [hif, bnd_mk, hif, bnd_mk]
      by_cases e : xs.getD k 0 = ys.getD k 0
      · left
        rw [if_pos (by rw [e]), gd_pos (by omega), gd_pos (by omega)]
        refine ⟨_, rfl, ⟨by omega, by omega, fun j hj => ?_⟩, by omega⟩
        by_cases ej : j = k
        · subst ej; exact e
        · exact h3 j (by omega)
      · right
        rw [if_neg (by omega)]
        refine ⟨_, rfl, ?_⟩
        rw [sel_inr]
        congr 1
        rcases Nat.lt_or_gt_of_ne e with h | h
        · have := nv_cmp hX hY (i := k) (fun j hj => h3 j (by omega)) h
          rw [decide_eq_false (by omega), decide_eq_false (by omega)]
        · have := nv_cmp hY hX (i := k) (fun j hj => (h3 j (by omega)).symm) h
          rw [decide_eq_true (by omega), decide_eq_true (by omega)]
    · right
      rw [if_neg (show ¬ ((0 : Nat) : Int) ≤ i from q)]
      refine ⟨_, rfl, ?_⟩
      rw [sel_inl]
      have := nv_ext (b := 65536) (xs := xs) (ys := ys) (fun j => h3 j (by omega))
      rw [decide_eq_false (by omega)]
theorem P_digits1 : ∀ k x (acc : List Nat), x < 65536 ^ k → acc.length + k ≤ 1000 → ∃ l, run F_casemateref13_digits_l1 (cI acc, ((x : Nat) : Int)) = some (cI (acc ++ l)) ∧ LB 65536 l ∧ nv 65536 l = x ∧ l.length ≤ k := by
  have stop : ∀ (acc : List Nat), run F_casemateref13_digits_l1 (cI acc, ((0 : Nat) : Int)) = some (cI (acc ++ [])) := by
    intro acc
    refine run_exit ?_
    unfold F_casemateref13_digits_l1
    dsimp only
    rw [if_neg (by omega), List.append_nil]
  intro k
  induction k with
  | zero =>
    intro x acc hx _
    have : x = 0 := by simpa using hx
    subst this
    exact ⟨[], stop acc, LB.nil, rfl, Nat.le_refl _⟩
  | succ k ih =>
    intro x acc hx ha
    by_cases q : 0 < x
    · obtain ⟨l, h1, h2, h3, h4⟩ := ih (x / 65536) (acc ++ [x % 65536]) (by rw [Nat.pow_succ, Nat.mul_comm] at hx; exact Nat.div_lt_of_lt_mul hx) (by rw [List.length_append]; have : [x % 65536].length = 1 := rfl; omega)
      refine ⟨x % 65536 :: l, ?_, LB.cons (Nat.mod_lt _ (by decide)) h2, ?_, by rw [List.length_cons]; omega⟩
      · have e : F_casemateref13_digits_l1 (cI acc, ((x : Nat) : Int)) = some (.inl (cI (acc ++ [x % 65536]), ((x / 65536 : Nat) : Int))) := by
          unfold F_casemateref13_digits_l1
          dsimp only
          rw [if_pos (by omega), gd_pos (by omega), gd_pos (by omega), cI_length, gd_pos (by omega), gd_pos (by omega), gd_pos (by omega), ← Int.natCast_emod, ← Int.natCast_ediv, cI_snoc]
        rw [run_next e h1, List.append_assoc]
        rfl
      · show x % 65536 + 65536 * nv 65536 l = x
        rw [h3]; omega
    · have : x = 0 := by omega
      subst this
      exact ⟨[], stop acc, LB.nil, rfl, Nat.zero_le _⟩
theorem P_digits {x k : Nat} (hx : x < 65536 ^ k) (hk : k ≤ 1000) : ∃ l, F_casemateref13_digits ((x : Nat) : Int) = some (cI l) ∧ LB 65536 l ∧ nv 65536 l = x ∧ l.length ≤ k := by
  obtain ⟨l, h1, h2, h3, h4⟩ := P_digits1 k x [] hx (by simpa using hk)
  refine ⟨l, ?_, h2, h3, h4⟩
  unfold F_casemateref13_digits
  rw [show ([] : List Int) = cI [] from rfl, h1, bnd_mk]
  rfl
def updig (p up : Nat) : List Nat := List.replicate up 0 ++ [p]
theorem updig_nv (b p up : Nat) : nv b (updig p up) = b ^ up * p := by
  unfold updig
  rw [nv_append, nv_replicate]
  simp [nv]
theorem P_above {x k p : Nat} (hx : x < 65536 ^ 3) (hk : k ≤ 3) (hp : p < 65536) : F_casemateref13_above ((x : Nat) : Int) ((k : Nat) : Int) ((p : Nat) : Int) = some (decide (65536 ^ (2 * k) * p < x ^ k)) := by
  obtain ⟨l, h1, h2, h3, h4⟩ := P_digits hx (by decide)
  unfold F_casemateref13_above
  rw [h1, bnd_mk]
  have key := run_inv (f := F_casemateref13_above_l1 ((k : Nat) : Int) (cI l)) (fun s : List Int × Nat => ∃ z, s.1 = cI z ∧ s.2 ≤ k ∧ z.length ≤ 1 + 4 * s.2 ∧ LB 65536 z ∧ nv 65536 z = x ^ s.2) (fun s => k - s.2) (fun r => ∃ z, r = cI z ∧ z.length ≤ 13 ∧ LB 65536 z ∧ nv 65536 z = x ^ k) ?_ ([((1 : Nat) : Int)], 0)
    ⟨[1], rfl, Nat.zero_le _, Nat.le_refl _, LB.cons (by decide) LB.nil, rfl⟩
  · obtain ⟨r, hr, z, rfl, z1, z2, z3⟩ := key
    rw [hr, bnd_mk]
    have hup := run_for (f := F_casemateref13_above_l2 ((k : Nat) : Int)) (x := cI (List.replicate (2 * k) 0)) (fun i => (cI (List.replicate i 0), i)) (2 * k) (fun i hi => ?_) ?_
    · have hup : run (F_casemateref13_above_l2 ((k : Nat) : Int)) ([], 0) = some (cI (List.replicate (2 * k) 0)) := hup
      rw [hup, bnd_mk, cI_length, List.length_replicate, gd_pos (by omega), cI_snoc]
      have hL : LB 65536 (List.replicate (2 * k) 0 ++ [p]) := LB.app (LB.rep (by decide) _) (LB.cons hp LB.nil)
      have e : nv 65536 (List.replicate (2 * k) 0 ++ [p]) = 65536 ^ (2 * k) * p := updig_nv 65536 p (2 * k)
      rw [P_Greater z2 hL (by rw [List.length_append, List.length_replicate]; have : [p].length = 1 := rfl; omega), bnd_mk, e, z3]
    · unfold F_casemateref13_above_l2
      dsimp only
      rw [gd_pos (by omega), gd_pos (by omega), if_pos (by omega), cI_length, List.length_replicate, gd_pos (by omega), gd_pos (by omega), cI_snoc, ← List.replicate_succ']
    · unfold F_casemateref13_above_l2
      dsimp only
      rw [gd_pos (by omega), gd_pos (by omega), if_neg (by omega)]
  · rintro ⟨z', i⟩ ⟨z, e, hi, z1, z2, z3⟩
    dsimp only at e hi z1 z3
    subst e
    unfold F_casemateref13_above_l1
    dsimp only
    by_cases q : i < k
    · left
      obtain ⟨y, y1, y2, y3, y4⟩ := P_Times z2 h2 (by omega)
      rw [if_pos (by omega), y1, bnd_mk, gd_pos (by omega)]
      exact ⟨_, rfl, ⟨y, rfl, by dsimp only; omega, by dsimp only; omega, y3, by rw [y4, z3, h3]; exact (Nat.pow_succ ..).symm⟩, by dsimp only; omega⟩
    · right
      have : i = k := by omega
      subst this
      rw [if_neg (by omega)]
      exact ⟨_, rfl, z, rfl, by omega, z2, z3⟩
theorem P_frac1 {p k : Nat} (hp : p < 65536) (hk : k ≤ 3) : ∀ b X, X + 2 ^ b ≤ 65536 ^ 3 - 1 → run (F_casemateref13_frac_l1 ((p : Nat) : Int) ((k : Nat) : Int)) (X, 2 ^ b / 2) = some (gr (65536 ^ (2 * k) * p) k b X) := by
  intro b
  induction b with
  | zero =>
    intro X _
    refine run_exit ?_
    unfold F_casemateref13_frac_l1
    dsimp only
    rw [if_neg (by decide)]
    rfl
  | succ b ih =>
    intro X hX
    rw [half_pow]
    have hpos : 0 < 2 ^ b := Nat.pow_pos (by decide)
    have h2 : 2 ^ (b + 1) = 2 ^ b * 2 := Nat.pow_succ ..
    have h3 : (65536 : Nat) ^ 3 = 281474976710656 := rfl
    have e : F_casemateref13_frac_l1 ((p : Nat) : Int) ((k : Nat) : Int) (X, 2 ^ b) = some (.inl (if (X + 2 ^ b) ^ k ≤ 65536 ^ (2 * k) * p then X + 2 ^ b else X, 2 ^ b / 2)) := by
      unfold F_casemateref13_frac_l1
      dsimp only
      rw [if_pos (by omega), gd_pos (by omega), P_above (by omega) hk hp, bnd_mk]
      by_cases q : 65536 ^ (2 * k) * p < (X + 2 ^ b) ^ k
      · rw [decide_eq_true q, if_pos rfl, if_neg (by omega)]
      · rw [decide_eq_false q, if_neg (by decide), if_pos (by omega)]
    refine run_next e ?_
    unfold gr
    split
    · exact ih _ (by omega)
    · exact ih _ (by omega)
theorem P_frac {p k : Nat} (hp : p < 65536) (hk : k ≤ 3) : F_casemateref13_frac ((p : Nat) : Int) ((k : Nat) : Int) = some ((rootW p k : Nat) : Int) := by
  unfold F_casemateref13_frac rootW
  have h := P_frac1 hp hk 39 0 (by decide)
  rw [show (2 : Nat) ^ 39 / 2 = 274877906944 from rfl] at h
  rw [h, bnd_mk]
theorem fill_snoc {l : List Nat} {i : Nat} (f : Nat → Nat) (hi : i < l.length) : (l.take i).map f ++ [f (l.getD i 0)] = (l.take (i + 1)).map f := by
  have : l.take (i + 1) = l.take i ++ [l.getD i 0] := by
    rw [List.getD_eq_getElem?_getD, List.getElem?_eq_getElem hi]
    exact (List.take_append_getElem hi).symm
  rw [this, List.map_append]
  rfl
theorem P_refRounds : F_casemateref13_Rounds = some (cI K64) := by
  unfold F_casemateref13_Rounds
  have hl := prs_len (n := 64) (by decide)
  rw [P_refPrimes (by decide), bnd_mk]
  have := run_for (f := F_casemateref13_Rounds_l1 (cI (prs 64))) (x := cI (((prs 64).take 64).map (fun p => rootW p 3))) (fun i => (cI (((prs 64).take i).map (fun p => rootW p 3)), i)) 64 (fun i hi => ?_) ?_
  · have e : run (F_casemateref13_Rounds_l1 (cI (prs 64))) ([], 0) = _ := this
    rw [e, bnd_mk, List.take_of_length_le (by omega)]
    rfl
  · unfold F_casemateref13_Rounds_l1
    dsimp only
    have hm := prs_lt (getD_mem (l := prs 64) (i := i) (by omega))
    rw [cI_length, cI_length, if_pos hi, gd_pos (by omega), cI_at, P_frac (by omega) (by decide), bnd_mk, gd_pos (by rw [List.length_map, List.length_take]; omega), gd_pos (by omega), cI_snoc, fill_snoc (fun p => rootW p 3) (by omega)]
  · unfold F_casemateref13_Rounds_l1
    dsimp only
    rw [if_neg (by omega)]
theorem P_refStart : F_casemateref13_Start = some (cI S8) := by
  unfold F_casemateref13_Start
  have hl := prs_len (n := 8) (by decide)
  rw [P_refPrimes (by decide), bnd_mk]
  have := run_for (f := F_casemateref13_Start_l1 (cI (prs 8))) (x := cI (((prs 8).take 8).map (fun p => rootW p 2))) (fun i => (cI (((prs 8).take i).map (fun p => rootW p 2)), i)) 8 (fun i hi => ?_) ?_
  · have e : run (F_casemateref13_Start_l1 (cI (prs 8))) ([], 0) = _ := this
    rw [e, bnd_mk, List.take_of_length_le (by omega)]
    rfl
  · unfold F_casemateref13_Start_l1
    dsimp only
    have hm := prs_lt (getD_mem (l := prs 8) (i := i) (by omega))
    rw [cI_length, cI_length, if_pos hi, gd_pos (by omega), cI_at, P_frac (by omega) (by decide), bnd_mk, gd_pos (by rw [List.length_map, List.length_take]; omega), gd_pos (by omega), cI_snoc, fill_snoc (fun p => rootW p 2) (by omega)]
  · unfold F_casemateref13_Start_l1
    dsimp only
    rw [if_neg (by omega)]
end Go.Proofs.Ytddphjmcoolinaa
