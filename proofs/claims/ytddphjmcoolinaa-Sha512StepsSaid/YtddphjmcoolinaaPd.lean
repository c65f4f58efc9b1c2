/- What the reference's products and orders of digits tell. -/
import Derived.Test.YtddphjmcoolinaaVe
import Derived.Test.YtddphjmcoolinaaPc
set_option linter.unusedVariables false
set_option linter.unusedSimpArgs false
set_option maxRecDepth 10000
namespace Go.Proofs.Ytddphjmcoolinaa
/-- naturals as ints -/
def cI (xs : List Nat) : List Int := xs.map fun n : Nat => (n : Int)
theorem cI_length (xs : List Nat) : (cI xs).length = xs.length := by simp [cI]
theorem cI_getD (xs : List Nat) (j : Nat) : (cI xs).getD j 0 = ((xs.getD j 0 : Nat) : Int) := by
  simp only [cI, List.getD_eq_getElem?_getD, List.getElem?_map]
  cases xs[j]? <;> rfl
theorem cI_set (xs : List Nat) (i v : Nat) : (cI xs).set i ((v : Nat) : Int) = cI (xs.set i v) := by simp [cI, List.map_set]
theorem cI_append (xs ys : List Nat) : cI (xs ++ ys) = cI xs ++ cI ys := by simp [cI]
theorem cI_rep (n v : Nat) : List.replicate n ((v : Nat) : Int) = cI (List.replicate n v) := by simp [cI]
theorem cI_snoc (xs : List Nat) (v : Nat) : cI xs ++ [((v : Nat) : Int)] = cI (xs ++ [v]) := by simp [cI]
theorem MI.all {b : Nat} {xs ys z : List Nat} {i k : Nat} (hi : i < xs.length) (hk : ys.length ≤ k) (h : MI b xs ys z i 0 k) : MO b xs ys z (i + 1) := by
  unfold MI at h
  unfold MO
  rw [Nat.zero_mul, Nat.add_zero, List.take_of_length_le hk] at h
  rw [h, nv_take_succ b xs i hi, Nat.add_mul, Nat.mul_assoc]
theorem P_Times_in {xs ys zs : List Nat} {i : Nat} (hX : LB 65536 xs) (hY : LB 65536 ys) (hl : xs.length + ys.length ≤ 1000) (hi : i < xs.length) (hz : zs.length = xs.length + ys.length + 1) (hZ : LB 65536 zs)
    (h0 : ∀ j, i + ys.length ≤ j → zs.getD j 0 = 0) (hv : MO 65536 xs ys zs i) :
    ∃ r, run (F_casemateref13_Times_l2 (cI ys) i (cI xs)) (cI zs, 0, 0) = some r ∧ ∃ z, r.1 = cI z ∧ z.length = zs.length ∧ LB 65536 z ∧ (∀ j, i + 1 + ys.length ≤ j → z.getD j 0 = 0) ∧ MO 65536 xs ys z (i + 1) := by
  refine run_inv (fun s : List Int × Int × Nat => ∃ z c, s.1 = cI z ∧ s.2.1 = ((c : Nat) : Int) ∧ z.length = zs.length ∧ LB 65536 z ∧ c < 65536 ∧ (s.2.2 ≤ ys.length ∨ s.2.2 = ys.length + 1 ∧ c = 0) ∧ (∀ j, i + ys.length ≤ j → i + s.2.2 ≤ j → z.getD j 0 = 0) ∧ MI 65536 xs ys z i c s.2.2)
    (fun s => ys.length + 2 - s.2.2) _ ?_ (cI zs, 0, 0) ⟨zs, 0, rfl, rfl, rfl, hZ, by decide, .inl (Nat.zero_le _), fun j h _ => h0 j h, MI.start hv⟩
  rintro ⟨z', c', k⟩ ⟨z, c, e1, e2, h1, h2, h3, h4, h5, h6⟩
  dsimp only at e1 e2 h4 h5 h6
  subst e1 e2
  unfold F_casemateref13_Times_l2
  dsimp only
  rw [cI_length, cI_length]
  have hx := hX.get (by decide) i
  have hz1 := h2.get (by decide) (i + k)
  have hstep : ∀ (y : Nat), y = ys.getD k 0 → (k < ys.length ∨ 0 < c) → ∃ t, gd (((i + k : Nat) : Int) ≤ 9223372036854775807) (gd (((i + k : Nat) : Int) < ((xs.length + ys.length + 1 : Nat) : Int)) (some (Sum.inl ((cI z).set (i + k) (((xs.getD i 0 * y + z.getD (i + k) 0 + c : Nat) : Int) % 65536), ((xs.getD i 0 * y + z.getD (i + k) 0 + c : Nat) : Int) / 65536, k + 1)) : Option ((List Int × Int × Nat) ⊕ (List Int × Int × Nat)))) = some (.inl t) ∧
      (∃ z c, t.1 = cI z ∧ t.2.1 = ((c : Nat) : Int) ∧ z.length = zs.length ∧ LB 65536 z ∧ c < 65536 ∧ (t.2.2 ≤ ys.length ∨ t.2.2 = ys.length + 1 ∧ c = 0) ∧ (∀ j, i + ys.length ≤ j → i + t.2.2 ≤ j → z.getD j 0 = 0) ∧ MI 65536 xs ys z i c t.2.2) ∧ ys.length + 2 - t.2.2 < ys.length + 2 - k := by
    intro y ey hor
    subst ey
    have hy := hY.get (by decide) k
    have hk : k ≤ ys.length := by rcases h4 with h | ⟨_, h⟩ <;> rcases hor with q | q <;> omega
    have hb : xs.getD i 0 * ys.getD k 0 ≤ 65535 * 65535 := Nat.mul_le_mul (by omega) (by omega)
    rw [gd_pos (by omega), gd_pos (by omega)]
    refine ⟨_, rfl, ⟨z.set (i + k) ((xs.getD i 0 * ys.getD k 0 + z.getD (i + k) 0 + c) % 65536), (xs.getD i 0 * ys.getD k 0 + z.getD (i + k) 0 + c) / 65536, ?_, ?_, by rw [List.length_set]; exact h1, h2.set (Nat.mod_lt _ (by decide)) _, ?_, ?_, ?_, MI.step (by omega) h6 rfl rfl⟩, by dsimp only; omega⟩
    · dsimp only; rw [← cI_set, Int.natCast_emod]; rfl
    · dsimp only; rw [Int.natCast_ediv]; rfl
    · have := h3
      generalize xs.getD i 0 * ys.getD k 0 = P at *
      omega
    · dsimp only
      by_cases q : k < ys.length
      · exact .inl (by omega)
      · have ek : k = ys.length := by omega
        have e0 : ys.getD k 0 = 0 := getD_ge (by omega)
        have e3 : z.getD (i + k) 0 = 0 := h5 _ (by omega) (Nat.le_refl _)
        refine .inr ⟨by omega, ?_⟩
        rw [e0, e3, Nat.mul_zero]
        omega
    · intro j hj1 hj2
      dsimp only at hj2
      rw [getD_set _ _ _ _ (by omega), if_neg (by omega)]
      exact h5 j hj1 (by omega)
  by_cases q : k < ys.length
  · left
    obtain ⟨t, ht, h⟩ := hstep _ rfl (.inl q)
    have hy := hY.get (by decide) k
    have hb : xs.getD i 0 * ys.getD k 0 ≤ 65535 * 65535 := Nat.mul_le_mul (by omega) (by omega)
    refine ⟨t, ?_, h⟩
    rw [if_pos (by omega), bnd_mk, sel_inl, ← ht, if_pos (by omega), cI_getD, cI_getD, cI_getD, ← Int.natCast_mul, ← Int.natCast_add, ← Int.natCast_add, Nat.add_comm (z.getD (i + k) 0 + c), ← Nat.add_assoc]
    generalize hP : xs.getD i 0 * ys.getD k 0 = P at *
    rw [gd_pos (c := -9223372036854775808 ≤ _) (by omega), gd_pos (c := ((z.getD (i + k) 0 + c : Nat) : Int) ≤ _) (by omega), gd_pos (c := -9223372036854775808 ≤ _) (by omega), gd_pos (c := ((P : Nat) : Int) ≤ _) (by omega), gd_pos (c := -9223372036854775808 ≤ _) (by omega), gd_pos (c := ((P + z.getD (i + k) 0 + c : Nat) : Int) ≤ _) (by omega), ltb_eq, bnd_mk, gd_pos (c := 0 ≤ _) (by omega), gd_pos (c := ((P + z.getD (i + k) 0 + c : Nat) : Int) ≤ _) (by omega), gd_pos (c := ((k + 1 : Nat) : Int) ≤ _) (by omega)]
  · by_cases q2 : 0 < c
    · left
      obtain ⟨t, ht, h⟩ := hstep _ rfl (.inr q2)
      have e0 : ys.getD k 0 = 0 := getD_ge (by omega)
      refine ⟨t, ?_, h⟩
      rw [e0, Nat.mul_zero, Nat.zero_add] at ht
      rw [if_neg (by omega), if_pos (by omega), bnd_mk, sel_inl, ← ht, if_neg (by omega), cI_getD, ← Int.natCast_add]
      rw [gd_pos (c := -9223372036854775808 ≤ _) (by omega), gd_pos (c := ((z.getD (i + k) 0 + c : Nat) : Int) ≤ _) (by omega), bnd_mk, gd_pos (c := 0 ≤ _) (by omega), gd_pos (c := ((z.getD (i + k) 0 + c : Nat) : Int) ≤ _) (by omega), gd_pos (c := ((k + 1 : Nat) : Int) ≤ _) (by rcases h4 with h | h <;> omega)]
    · right
      have ec : c = 0 := by omega
      subst ec
      rw [if_neg (by omega), if_neg (by omega), bnd_mk, sel_inr]
      exact ⟨_, rfl, z, rfl, h1, h2, fun j hj => h5 j (by omega) (by rcases h4 with h | h <;> omega), MI.all hi (by omega) h6⟩
theorem P_Times {xs ys : List Nat} (hX : LB 65536 xs) (hY : LB 65536 ys) (hl : xs.length + ys.length ≤ 1000) :
    ∃ z, F_casemateref13_Times (cI xs) (cI ys) = some (cI z) ∧ z.length = xs.length + ys.length + 1 ∧ LB 65536 z ∧ nv 65536 z = nv 65536 xs * nv 65536 ys := by
  unfold F_casemateref13_Times
  rw [cI_length, cI_length, gd_pos (by omega), gd_pos (by omega), gd_pos (by omega)]
  have key := run_inv (f := F_casemateref13_Times_l1 (cI xs) (cI ys)) (fun s : List Int × Nat => ∃ z, s.1 = cI z ∧ s.2 ≤ xs.length ∧ z.length = xs.length + ys.length + 1 ∧ LB 65536 z ∧ (∀ j, s.2 + ys.length ≤ j → z.getD j 0 = 0) ∧ MO 65536 xs ys z s.2)
    (fun s => xs.length - s.2) (fun r => ∃ z, r = cI z ∧ z.length = xs.length + ys.length + 1 ∧ LB 65536 z ∧ nv 65536 z = nv 65536 xs * nv 65536 ys) ?_ (List.replicate (xs.length + ys.length + 1) (0 : Int), 0)
    ⟨List.replicate (xs.length + ys.length + 1) 0, cI_rep _ 0, Nat.zero_le _, by simp, LB.rep (by decide) _, fun j _ => rep_getD _ _, MO.start _⟩
  · obtain ⟨r, hr, z, rfl, h⟩ := key
    rw [hr]; exact ⟨z, rfl, h⟩
  · rintro ⟨z', i⟩ ⟨z, e, hi, hzl, hzb, hz0, hv⟩
    dsimp only at e hi hz0 hv
    subst e
    unfold F_casemateref13_Times_l1
    dsimp only
    rw [cI_length]
    by_cases q : i < xs.length
    · left
      rw [if_pos (by omega)]
      obtain ⟨⟨z2', c, m⟩, hr, z2, e, hl2, hb2, h02, hv2⟩ := P_Times_in hX hY hl q hzl hzb hz0 hv
      dsimp only at e
      subst e
      rw [hr, bnd_mk]
      dsimp only
      rw [gd_pos (by omega)]
      exact ⟨_, rfl, ⟨z2, rfl, q, by omega, hb2, fun j hj => h02 j (by dsimp only at hj; omega), hv2⟩, by dsimp only; omega⟩
    · right
      rw [if_neg (by omega)]
      exact ⟨_, rfl, z, rfl, hzl, hzb, MO.stop (by omega) hv⟩
end Go.Proofs.Ytddphjmcoolinaa
