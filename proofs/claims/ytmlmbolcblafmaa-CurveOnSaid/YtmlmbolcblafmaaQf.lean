/- What the plain functions of layer 16 tell: numbers of four words. -/
import Derived.Test.YtmlmbolcblafmaaQe
set_option linter.unusedVariables false
set_option linter.unusedSimpArgs false
set_option maxRecDepth 10000
namespace Go.Proofs.Ytmlmbolcblafmaa
abbrev w4 (n : Nat) : List Nat := leb 18446744073709551616 4 n
theorem w4_len (n : Nat) : (w4 n).length = 4 := leb_len ..
theorem w4_lt (n : Nat) : LB 18446744073709551616 (w4 n) := leb_lt (b := 18446744073709551616) (by decide) 4 n
theorem q4 : 18446744073709551616 ^ 4 = 115792089237316195423570985008687907853269984665640564039457584007913129639936 := by decide +kernel
theorem nv_w4 {n : Nat} (h : n < 115792089237316195423570985008687907853269984665640564039457584007913129639936) : nv 18446744073709551616 (w4 n) = n := by rw [nv_leb (by decide), Nat.mod_eq_of_lt (by rw [q4]; exact h)]
theorem w4_of {l : List Nat} {n : Nat} (hl : l.length = 4) (h : LB 18446744073709551616 l) (hn : nv 18446744073709551616 l = n) : l = w4 n := leb_of (by decide) hl h hn
theorem pp_q4 : pp < 115792089237316195423570985008687907853269984665640564039457584007913129639936 := by decide +kernel
theorem A64 {x y c : Nat} (hc : c ≤ 1) : F_add64 x y c = some ((x + y + c) % 18446744073709551616, (x + y + c) / 18446744073709551616) := gd_pos hc
theorem S64 {x y c : Nat} (hc : c ≤ 1) : F_sub64 x y c = some ((x + 18446744073709551616 - y - c) % 18446744073709551616, if x < y + c then 1 else 0) := gd_pos hc
theorem take_set_self {xs : List Nat} {i v : Nat} (h : i < xs.length) (b : Nat) : nv b ((xs.set i v).take (i + 1)) = nv b (xs.take i) + b ^ i * v := by
  rw [nv_at', getD_set _ _ _ _ h, if_pos rfl, List.take_set_of_le (Nat.le_refl _)]
theorem P_prime : F_field_prime = some (w4 pp) := by
  unfold F_field_prime
  exact congrArg some (by decide +kernel)
theorem P_less_run {xs ys : List Nat} (hx : LB 18446744073709551616 xs) (hy : LB 18446744073709551616 ys) : ∃ b z, run (F_field_el_less_l1 xs ys) (0, 0, List.replicate 4 0) = some (b, z) ∧ z.length = 4 ∧ LB 18446744073709551616 z ∧ b ≤ 1 ∧ nv 18446744073709551616 z + nv 18446744073709551616 (ys.take 4) = nv 18446744073709551616 (xs.take 4) + b * 18446744073709551616 ^ 4 := by
  have key := run_inv (f := F_field_el_less_l1 xs ys) (fun s : Nat × Nat × List Nat => s.2.1 ≤ 4 ∧ s.2.2.length = 4 ∧ LB 18446744073709551616 s.2.2 ∧ s.1 ≤ 1 ∧ nv 18446744073709551616 (s.2.2.take s.2.1) + nv 18446744073709551616 (ys.take s.2.1) = nv 18446744073709551616 (xs.take s.2.1) + s.1 * 18446744073709551616 ^ s.2.1)
    (fun s => 4 - s.2.1) (fun r => r.2.length = 4 ∧ LB 18446744073709551616 r.2 ∧ r.1 ≤ 1 ∧ nv 18446744073709551616 r.2 + nv 18446744073709551616 (ys.take 4) = nv 18446744073709551616 (xs.take 4) + r.1 * 18446744073709551616 ^ 4) ?_ (0, 0, List.replicate 4 0) ⟨Nat.zero_le _, rfl, LB.rep (by decide) _, Nat.zero_le _, rfl⟩
  · obtain ⟨⟨b, z⟩, hr, h⟩ := key
    exact ⟨b, z, hr, h⟩
  · rintro ⟨b, i, z⟩ ⟨h1, h2, h3, h4, h5⟩
    dsimp only at h1 h2 h3 h4 h5
    unfold F_field_el_less_l1
    dsimp only
    by_cases q : i < 4
    · left
      have a1 := hx.get (by decide) i
      have a2 := hy.get (by decide) i
      rw [if_pos q, gd_pos q, gd_pos q, S64 h4, bnd_mk]
      dsimp only
      rw [gd_pos q, gd_pos (by omega)]
      refine ⟨_, rfl, ⟨by dsimp only; omega, by simpa using h2, h3.set (Nat.mod_lt _ (by decide)) _, by dsimp only; split <;> decide, ?_⟩, by dsimp only; omega⟩
      dsimp only
      rw [take_set_self (by omega), nv_at' _ ys, nv_at' _ xs]
      generalize hv : (xs.getD i 0 + 18446744073709551616 - ys.getD i 0 - b) % 18446744073709551616 = v
      generalize hc : (if xs.getD i 0 < ys.getD i 0 + b then 1 else 0) = c
      have e : v + ys.getD i 0 + b = xs.getD i 0 + 18446744073709551616 * c := by
        rw [← hc, ← hv]
        split <;> omega
      have e2 := congrArg (18446744073709551616 ^ i * ·) e
      simp only [Nat.mul_add] at e2
      rw [show c * 18446744073709551616 ^ (i + 1) = 18446744073709551616 ^ i * (18446744073709551616 * c) by rw [Nat.pow_succ, Nat.mul_comm c, Nat.mul_assoc]]
      rw [Nat.mul_comm b] at h5
      generalize 18446744073709551616 ^ i * v = t1 at *
      generalize 18446744073709551616 ^ i * (18446744073709551616 * c) = t2 at *
      generalize 18446744073709551616 ^ i * ys.getD i 0 = t3 at *
      generalize 18446744073709551616 ^ i * xs.getD i 0 = t4 at *
      generalize 18446744073709551616 ^ i * b = t5 at *
      omega
    · right
      have : i = 4 := by omega
      subst this
      rw [if_neg q]
      refine ⟨_, rfl, h2, h3, h4, ?_⟩
      dsimp only
      rwa [List.take_of_length_le (l := z) (by omega)] at h5
theorem P_less {x y : Nat} (hx : x < 115792089237316195423570985008687907853269984665640564039457584007913129639936) (hy : y < 115792089237316195423570985008687907853269984665640564039457584007913129639936) : F_field_el_less (w4 x) (w4 y) = some (w4 (if y ≤ x then x - y else x + 115792089237316195423570985008687907853269984665640564039457584007913129639936 - y), decide (y ≤ x)) := by
  unfold F_field_el_less
  obtain ⟨b, z, h1, h2, h3, h4, h5⟩ := P_less_run (w4_lt x) (w4_lt y)
  rw [List.take_of_length_le (by rw [w4_len]; decide), List.take_of_length_le (by rw [w4_len]; decide), nv_w4 hx, nv_w4 hy, q4] at h5
  have h6 := nv_lt z h3
  rw [h2, q4] at h6
  rw [h1, bnd_mk]
  dsimp only
  have hb : b = 0 ∨ b = 1 := by omega
  rcases hb with rfl | rfl
  · rw [if_pos (by omega), ← w4_of h2 h3 (by omega), decide_eq_true (by omega : y ≤ x)]; rfl
  · rw [if_neg (by omega), ← w4_of h2 h3 (by omega), decide_eq_false (by omega : ¬ y ≤ x)]; rfl
theorem P_freeze {x : Nat} (hx : x < 115792089237316195423570985008687907853269984665640564039457584007913129639936) : F_field_el_freeze (w4 x) = some (w4 (x % pp)) := by
  unfold F_field_el_freeze
  have hpq := pp_q4
  have hp0 := pp_pos
  have key := run_inv (f := F_field_el_freeze_l1) (fun l => ∃ k, k < 115792089237316195423570985008687907853269984665640564039457584007913129639936 ∧ k % pp = x % pp ∧ l = w4 k) (fun l => nv 18446744073709551616 l) (fun r => r = w4 (x % pp)) ?_ (w4 x) ⟨x, hx, rfl, rfl⟩
  · obtain ⟨r, hr, rfl⟩ := key
    exact hr
  · rintro l ⟨k, h1, h2, rfl⟩
    unfold F_field_el_freeze_l1
    rw [P_prime, bnd_mk, P_less h1 pp_q4, bnd_mk]
    dsimp only
    by_cases q : pp ≤ k
    · left
      rw [decide_eq_true q, if_pos rfl, if_pos q]
      refine ⟨_, rfl, ⟨k - pp, by omega, by rw [← h2, ← Nat.mod_eq_sub_mod q], rfl⟩, ?_⟩
      rw [nv_w4 h1, nv_w4 (by omega)]; omega
    · right
      rw [decide_eq_false q, if_neg (by decide)]
      exact ⟨_, rfl, by rw [← h2, Nat.mod_eq_of_lt (by omega)]⟩
theorem list4 {l : List Nat} (h : l.length = 4) : ∃ a b c d, l = [a, b, c, d] := by
  match l, h with
  | [a, b, c, d], _ => exact ⟨a, b, c, d, rfl⟩
theorem P_Mul64 {x y : Nat} (hx : x < 18446744073709551616) (hy : y < 18446744073709551616) : F_bits_Mul64 x y = some (x * y / 18446744073709551616, x * y % 18446744073709551616) := by
  unfold F_bits_Mul64
  exact congrArg (fun z => some (z, x * y % 18446744073709551616)) (mul64_hi hx hy)
theorem P_fold_run {x t : Nat} (hx : x < 115792089237316195423570985008687907853269984665640564039457584007913129639936) (ht : t < 18446744073709551616) : ∃ k, k < 115792089237316195423570985008687907853269984665640564039457584007913129639936 ∧ k % pp = (x + 115792089237316195423570985008687907853269984665640564039457584007913129639936 * t) % pp ∧ run F_field_fold_l1 (t, w4 x) = some (w4 k) := by
  have key := run_inv (f := F_field_fold_l1) (fun s : Nat × List Nat => ∃ k, k < 115792089237316195423570985008687907853269984665640564039457584007913129639936 ∧ s.1 < 18446744073709551616 ∧ s.2 = w4 k ∧ (k + 115792089237316195423570985008687907853269984665640564039457584007913129639936 * s.1) % pp = (x + 115792089237316195423570985008687907853269984665640564039457584007913129639936 * t) % pp) (fun s => nv 18446744073709551616 s.2 + 115792089237316195423570985008687907853269984665640564039457584007913129639936 * s.1) (fun r => ∃ k, k < 115792089237316195423570985008687907853269984665640564039457584007913129639936 ∧ k % pp = (x + 115792089237316195423570985008687907853269984665640564039457584007913129639936 * t) % pp ∧ r = w4 k) ?_ (t, w4 x) ⟨x, hx, ht, rfl, rfl⟩
  · obtain ⟨r, hr, k, h1, h2, rfl⟩ := key
    exact ⟨k, h1, h2, hr⟩
  · rintro ⟨n, l⟩ ⟨k, h1, h2, h3, h4⟩
    dsimp only at h2 h3 h4
    have hv : nv 18446744073709551616 l = k := by rw [h3, nv_w4 h1]
    have hlb : LB 18446744073709551616 l := by rw [h3]; exact w4_lt k
    obtain ⟨a, b, c, d, hl⟩ := list4 (l := l) (by rw [h3, w4_len])
    clear h3
    subst hl
    have ha := hlb.get (by decide) 0
    have hb := hlb.get (by decide) 1
    have hc := hlb.get (by decide) 2
    have hd := hlb.get (by decide) 3
    simp only [List.getD_cons_zero, List.getD_cons_succ] at ha hb hc hd
    simp only [nv] at hv
    unfold F_field_fold_l1
    dsimp only
    by_cases q : 0 < n
    · left
      have g0 : ∀ a b c d : Nat, ([a, b, c, d] : List Nat).getD 0 0 = a := fun _ _ _ _ => rfl
      have g1 : ∀ a b c d : Nat, ([a, b, c, d] : List Nat).getD 1 0 = b := fun _ _ _ _ => rfl
      have g2 : ∀ a b c d : Nat, ([a, b, c, d] : List Nat).getD 2 0 = c := fun _ _ _ _ => rfl
      have g3 : ∀ a b c d : Nat, ([a, b, c, d] : List Nat).getD 3 0 = d := fun _ _ _ _ => rfl
      have k0 : ∀ a b c d e : Nat, ([a, b, c, d] : List Nat).set 0 e = [e, b, c, d] := fun _ _ _ _ _ => rfl
      have k1 : ∀ a b c d e : Nat, ([a, b, c, d] : List Nat).set 1 e = [a, e, c, d] := fun _ _ _ _ _ => rfl
      have k2 : ∀ a b c d e : Nat, ([a, b, c, d] : List Nat).set 2 e = [a, b, e, d] := fun _ _ _ _ _ => rfl
      have k3 : ∀ a b c d e : Nat, ([a, b, c, d] : List Nat).set 3 e = [a, b, c, e] := fun _ _ _ _ _ => rfl
      rw [if_pos q, P_Mul64 h2 (by decide), bnd_mk]
      dsimp only
      rw [g0, A64 (by decide), bnd_mk]
      dsimp only
      rw [k0, g1, A64 (by omega), bnd_mk]
      dsimp only
      rw [k1, g2, A64 (by omega), bnd_mk]
      dsimp only
      rw [k2, g3, A64 (by omega), bnd_mk]
      dsimp only
      rw [k3]
      generalize e0 : (a + n * 38 % 18446744073709551616 + 0) % 18446744073709551616 = s0
      generalize f0 : (a + n * 38 % 18446744073709551616 + 0) / 18446744073709551616 = c0
      generalize e1 : (b + n * 38 / 18446744073709551616 + c0) % 18446744073709551616 = s1
      generalize f1 : (b + n * 38 / 18446744073709551616 + c0) / 18446744073709551616 = c1
      generalize e2 : (c + 0 + c1) % 18446744073709551616 = s2
      generalize f2 : (c + 0 + c1) / 18446744073709551616 = c2
      generalize e3 : (d + 0 + c2) % 18446744073709551616 = s3
      generalize f3 : (d + 0 + c2) / 18446744073709551616 = c3
      have hnew : nv 18446744073709551616 [s0, s1, s2, s3] + 115792089237316195423570985008687907853269984665640564039457584007913129639936 * c3 = k + 38 * n := by simp only [nv]; omega
      have hlb' : LB 18446744073709551616 [s0, s1, s2, s3] := LB.cons (by omega) (LB.cons (by omega) (LB.cons (by omega) (LB.cons (by omega) LB.nil)))
      have hlt := nv_lt _ hlb'
      rw [show ([s0, s1, s2, s3] : List Nat).length = 4 from rfl, q4] at hlt
      refine ⟨_, rfl, ⟨nv 18446744073709551616 [s0, s1, s2, s3], hlt, by dsimp only; omega, w4_of rfl hlb' rfl, ?_⟩, ?_⟩
      · dsimp only
        rw [hnew, ← h4, ← show 65536 ^ 16 = 115792089237316195423570985008687907853269984665640564039457584007913129639936 by decide +kernel, mod_38]
      · dsimp only
        simp only [nv] at hnew ⊢
        omega
    · right
      have : n = 0 := by omega
      subst this
      rw [if_neg q]
      refine ⟨_, rfl, k, h1, by rw [← h4, Nat.mul_zero, Nat.add_zero], w4_of rfl hlb (by simp only [nv]; exact hv)⟩
theorem P_fold {x t : Nat} (hx : x < 115792089237316195423570985008687907853269984665640564039457584007913129639936) (ht : t < 18446744073709551616) : F_field_fold (w4 x) t = some (w4 ((x + 115792089237316195423570985008687907853269984665640564039457584007913129639936 * t) % pp)) := by
  unfold F_field_fold
  obtain ⟨k, h1, h2, h3⟩ := P_fold_run hx ht
  rw [h3, bnd_mk, P_freeze h1, bnd_mk, h2]
theorem P_add_run {xs ys : List Nat} (hx : LB 18446744073709551616 xs) (hy : LB 18446744073709551616 ys) (hxl : xs.length = 4) : ∃ c z, run (F_field_add_l1 ys) (0, 0, xs) = some (c, z) ∧ z.length = 4 ∧ LB 18446744073709551616 z ∧ c ≤ 1 ∧ nv 18446744073709551616 z + c * 18446744073709551616 ^ 4 = nv 18446744073709551616 xs + nv 18446744073709551616 (ys.take 4) := by
  have key := run_inv (f := F_field_add_l1 ys) (fun s : Nat × Nat × List Nat => s.2.1 ≤ 4 ∧ s.2.2.length = 4 ∧ LB 18446744073709551616 s.2.2 ∧ s.1 ≤ 1 ∧ nv 18446744073709551616 s.2.2 + s.1 * 18446744073709551616 ^ s.2.1 = nv 18446744073709551616 xs + nv 18446744073709551616 (ys.take s.2.1))
    (fun s => 4 - s.2.1) (fun r => r.2.length = 4 ∧ LB 18446744073709551616 r.2 ∧ r.1 ≤ 1 ∧ nv 18446744073709551616 r.2 + r.1 * 18446744073709551616 ^ 4 = nv 18446744073709551616 xs + nv 18446744073709551616 (ys.take 4)) ?_ (0, 0, xs) ⟨Nat.zero_le _, hxl, hx, Nat.zero_le _, by dsimp only; rw [List.take_zero]; simp [nv]⟩
  · obtain ⟨⟨b, z⟩, hr, h⟩ := key
    exact ⟨b, z, hr, h⟩
  · rintro ⟨b, i, z⟩ ⟨h1, h2, h3, h4, h5⟩
    dsimp only at h1 h2 h3 h4 h5
    unfold F_field_add_l1
    dsimp only
    by_cases q : i < 4
    · left
      have a1 := h3.get (by decide) i
      have a2 := hy.get (by decide) i
      rw [if_pos q, gd_pos q, gd_pos q, A64 h4, bnd_mk]
      dsimp only
      rw [gd_pos q, gd_pos (by omega)]
      have hs := nv_set 18446744073709551616 z i ((z.getD i 0 + ys.getD i 0 + b) % 18446744073709551616) (by omega)
      refine ⟨_, rfl, ⟨by dsimp only; omega, by simpa using h2, h3.set (Nat.mod_lt _ (by decide)) _, by dsimp only; omega, ?_⟩, by dsimp only; omega⟩
      dsimp only
      rw [nv_at' _ ys]
      generalize hv : (z.getD i 0 + ys.getD i 0 + b) % 18446744073709551616 = v at *
      generalize hc : (z.getD i 0 + ys.getD i 0 + b) / 18446744073709551616 = c
      have e : v + 18446744073709551616 * c = z.getD i 0 + ys.getD i 0 + b := by omega
      have e2 := congrArg (18446744073709551616 ^ i * ·) e
      simp only [Nat.mul_add] at e2
      rw [show c * 18446744073709551616 ^ (i + 1) = 18446744073709551616 ^ i * (18446744073709551616 * c) by rw [Nat.pow_succ, Nat.mul_comm c, Nat.mul_assoc]]
      rw [Nat.mul_comm b] at h5
      generalize 18446744073709551616 ^ i * v = t1 at *
      generalize 18446744073709551616 ^ i * (18446744073709551616 * c) = t2 at *
      generalize 18446744073709551616 ^ i * ys.getD i 0 = t3 at *
      generalize 18446744073709551616 ^ i * z.getD i 0 = t4 at *
      generalize 18446744073709551616 ^ i * b = t5 at *
      omega
    · right
      have : i = 4 := by omega
      subst this
      rw [if_neg q]
      exact ⟨_, rfl, h2, h3, h4, h5⟩
theorem P_add {x y : Nat} (hx : x < 115792089237316195423570985008687907853269984665640564039457584007913129639936) (hy : y < 115792089237316195423570985008687907853269984665640564039457584007913129639936) : F_field_add (w4 x) (w4 y) = some (w4 ((x + y) % pp)) := by
  unfold F_field_add
  obtain ⟨c, z, h1, h2, h3, h4, h5⟩ := P_add_run (w4_lt x) (w4_lt y) (w4_len x)
  rw [List.take_of_length_le (by rw [w4_len]; decide), nv_w4 hx, nv_w4 hy, q4] at h5
  have h6 := nv_lt z h3
  rw [h2, q4] at h6
  rw [h1, bnd_mk]
  dsimp only
  rw [w4_of h2 h3 rfl, P_fold h6 (by omega), bnd_mk, ← h5, Nat.mul_comm c]
theorem P_neg {x : Nat} (hx : x ≤ pp) : F_field_neg (w4 x) = some (w4 ((pp - x) % pp)) := by
  unfold F_field_neg
  have hpq := pp_q4
  rw [P_prime, bnd_mk, P_less pp_q4 (by omega), bnd_mk]
  dsimp only
  rw [if_pos hx, P_freeze (by omega), bnd_mk]
theorem P_mul_in {xs ys zs : List Nat} {i : Nat} (hX : LB 18446744073709551616 xs) (hY : LB 18446744073709551616 ys) (hyl : ys.length = 4) (hi : i < 4) (hz : zs.length = 8) (hZ : LB 18446744073709551616 zs) (h0 : ∀ j, i + 4 ≤ j → zs.getD j 0 = 0) (hv : MO 18446744073709551616 xs ys zs i) :
    ∃ c z, run (F_field_mul_l2 xs ys i) (0, 0, zs) = some (c, z) ∧ z.length = 8 ∧ LB 18446744073709551616 z ∧ c < 18446744073709551616 ∧ (∀ j, i + 4 ≤ j → z.getD j 0 = 0) ∧ MI 18446744073709551616 xs ys z i c 4 := by
  have key := run_inv (f := F_field_mul_l2 xs ys i) (fun s : Nat × Nat × List Nat => s.2.1 ≤ 4 ∧ s.2.2.length = 8 ∧ LB 18446744073709551616 s.2.2 ∧ s.1 < 18446744073709551616 ∧ (∀ j, i + 4 ≤ j → s.2.2.getD j 0 = 0) ∧ MI 18446744073709551616 xs ys s.2.2 i s.1 s.2.1)
    (fun s => 4 - s.2.1) (fun r => r.2.length = 8 ∧ LB 18446744073709551616 r.2 ∧ r.1 < 18446744073709551616 ∧ (∀ j, i + 4 ≤ j → r.2.getD j 0 = 0) ∧ MI 18446744073709551616 xs ys r.2 i r.1 4) ?_ (0, 0, zs) ⟨Nat.zero_le _, hz, hZ, Nat.zero_lt_succ _, h0, MI.start hv⟩
  · obtain ⟨⟨b, z⟩, hr, h⟩ := key
    exact ⟨b, z, hr, h⟩
  · rintro ⟨c, k, z⟩ ⟨h1, h2, h3, h4, h5, h6⟩
    dsimp only at h1 h2 h3 h4 h5 h6
    unfold F_field_mul_l2
    dsimp only
    by_cases q : k < 4
    · left
      have hx := hX.get (by decide) i
      have hy := hY.get (by decide) k
      have ho := h3.get (by decide) (i + k)
      obtain ⟨e1, e2⟩ := mul_words hx hy ho h4
      rw [if_pos q, gd_pos q, P_Mul64 hx hy, bnd_mk]
      dsimp only
      rw [gd_pos (by clear e1 e2; omega), gd_pos (by clear e1 e2; omega), A64 (by decide), bnd_mk]
      dsimp only
      rw [A64 (by decide), bnd_mk]
      dsimp only
      rw [gd_pos (by clear e1 e2; omega), gd_pos (by clear e1 e2; omega), gd_pos (by clear e1 e2; omega)]
      refine ⟨_, rfl, ⟨by clear e1 e2; dsimp only; omega, by simpa using h2, h3.set (Nat.mod_lt _ (by decide)) _, Nat.mod_lt _ (by decide), fun j hj => ?_, ?_⟩, by clear e1 e2; dsimp only; omega⟩
      · dsimp only
        rw [set_get (by clear e1 e2; omega)]; exact h5 j hj
      · exact MI.step (by clear e1 e2; omega) h6 e1 e2
    · right
      have : k = 4 := by omega
      subst this
      rw [if_neg q]
      exact ⟨_, rfl, h2, h3, h4, h5, h6⟩
theorem P_mul_wide {xs ys : List Nat} (hX : LB 18446744073709551616 xs) (hY : LB 18446744073709551616 ys) (hxl : xs.length = 4) (hyl : ys.length = 4) :
    ∃ z, run (F_field_mul_l1 xs ys) (0, List.replicate 8 0) = some z ∧ z.length = 8 ∧ LB 18446744073709551616 z ∧ nv 18446744073709551616 z = nv 18446744073709551616 xs * nv 18446744073709551616 ys := by
  have key := run_inv (f := F_field_mul_l1 xs ys) (fun s : Nat × List Nat => s.1 ≤ 4 ∧ s.2.length = 8 ∧ LB 18446744073709551616 s.2 ∧ (∀ j, s.1 + 4 ≤ j → s.2.getD j 0 = 0) ∧ MO 18446744073709551616 xs ys s.2 s.1)
    (fun s => 4 - s.1) (fun r => r.length = 8 ∧ LB 18446744073709551616 r ∧ nv 18446744073709551616 r = nv 18446744073709551616 xs * nv 18446744073709551616 ys) ?_ (0, List.replicate 8 0) ⟨Nat.zero_le _, rfl, LB.rep (by decide) _, fun j _ => rep_getD _ _, MO.start _⟩
  · exact key
  · rintro ⟨i, z⟩ ⟨h1, h2, h3, h4, h5⟩
    dsimp only at h1 h2 h3 h4 h5
    unfold F_field_mul_l1
    dsimp only
    by_cases q : i < 4
    · left
      obtain ⟨c, w, g1, g2, g3, g4, g5, g6⟩ := P_mul_in hX hY hyl q h2 h3 h4 h5
      rw [if_pos q, gd_pos q, g1, bnd_mk]
      dsimp only
      rw [gd_pos (by omega), gd_pos (by omega), bnd_mk, gd_pos (by omega)]
      refine ⟨_, rfl, ⟨by dsimp only; omega, by simpa using g2, g3.set g4 _, fun j hj => ?_, MI.stop hyl (by omega) (g5 _ (by omega)) g6⟩, by dsimp only; omega⟩
      dsimp only at hj ⊢
      rw [set_get (by omega)]; exact g5 j (by omega)
    · right
      rw [if_neg q]
      exact ⟨_, rfl, h2, h3, MO.stop (by omega) h5⟩
theorem mul38 {w z c : Nat} (hw : w < 18446744073709551616) (hz : z < 18446744073709551616) (hc : c ≤ 40) :
    (z + (w * 38 % 18446744073709551616 + c + 0) % 18446744073709551616 + 0) % 18446744073709551616 + 18446744073709551616 * (((w * 38 / 18446744073709551616 + (w * 38 % 18446744073709551616 + c + 0) / 18446744073709551616) % 18446744073709551616 + (z + (w * 38 % 18446744073709551616 + c + 0) % 18446744073709551616 + 0) / 18446744073709551616) % 18446744073709551616) = z + 38 * w + c ∧
    ((w * 38 / 18446744073709551616 + (w * 38 % 18446744073709551616 + c + 0) / 18446744073709551616) % 18446744073709551616 + (z + (w * 38 % 18446744073709551616 + c + 0) % 18446744073709551616 + 0) / 18446744073709551616) % 18446744073709551616 ≤ 40 := by
  have h1 : w * 38 / 18446744073709551616 ≤ 37 := by omega
  have h2 := Nat.mod_add_div (w * 38) 18446744073709551616
  have h2' : w * 38 % 18446744073709551616 < 18446744073709551616 := Nat.mod_lt _ (by decide)
  generalize w * 38 / 18446744073709551616 = hi at *
  generalize w * 38 % 18446744073709551616 = lo at *
  have h3 := Nat.mod_add_div (lo + c + 0) 18446744073709551616
  have h4 : (lo + c + 0) / 18446744073709551616 ≤ 1 := by omega
  have h4' : (lo + c + 0) % 18446744073709551616 < 18446744073709551616 := Nat.mod_lt _ (by decide)
  generalize (lo + c + 0) / 18446744073709551616 = k1 at *
  generalize (lo + c + 0) % 18446744073709551616 = s at *
  have h5 := Nat.mod_add_div (z + s + 0) 18446744073709551616
  have h6 : (z + s + 0) / 18446744073709551616 ≤ 1 := by omega
  generalize (z + s + 0) / 18446744073709551616 = k2 at *
  generalize (z + s + 0) % 18446744073709551616 = v at *
  rw [show (hi + k1) % 18446744073709551616 = hi + k1 by omega, show (hi + k1 + k2) % 18446744073709551616 = hi + k1 + k2 by omega]
  omega
theorem P_mul_low {w : List Nat} (hw : w.length = 8) (hb : LB 18446744073709551616 w) : ∃ c z, run (F_field_mul_l3 w) (0, 0, w.take 4) = some (c, z) ∧ z.length = 4 ∧ LB 18446744073709551616 z ∧ c < 18446744073709551616 ∧ nv 18446744073709551616 z + c * 18446744073709551616 ^ 4 = nv 18446744073709551616 (w.take 4) + 38 * nv 18446744073709551616 (w.drop 4) := by
  have key := run_inv (f := F_field_mul_l3 w) (fun s : Nat × Nat × List Nat => s.2.1 ≤ 4 ∧ s.2.2.length = 4 ∧ LB 18446744073709551616 s.2.2 ∧ s.1 ≤ 40 ∧ nv 18446744073709551616 s.2.2 + s.1 * 18446744073709551616 ^ s.2.1 = nv 18446744073709551616 (w.take 4) + 38 * nv 18446744073709551616 ((w.drop 4).take s.2.1))
    (fun s => 4 - s.2.1) (fun r => r.2.length = 4 ∧ LB 18446744073709551616 r.2 ∧ r.1 < 18446744073709551616 ∧ nv 18446744073709551616 r.2 + r.1 * 18446744073709551616 ^ 4 = nv 18446744073709551616 (w.take 4) + 38 * nv 18446744073709551616 (w.drop 4)) ?_ (0, 0, w.take 4) ⟨Nat.zero_le _, by rw [List.length_take]; omega, LB.take hb _, Nat.zero_le _, by dsimp only; rw [List.take_zero]; simp [nv]⟩
  · obtain ⟨⟨b, z⟩, hr, h⟩ := key
    exact ⟨b, z, hr, h⟩
  · rintro ⟨c, i, z⟩ ⟨h1, h2, h3, h4, h5⟩
    dsimp only at h1 h2 h3 h4 h5
    unfold F_field_mul_l3
    dsimp only
    by_cases q : i < 4
    · left
      have a1 := h3.get (by decide) i
      have a2 := hb.get (by decide) (4 + i)
      rw [if_pos q, gd_pos (by omega), gd_pos (by omega), P_Mul64 a2 (by decide), bnd_mk]
      dsimp only
      rw [A64 (by decide), bnd_mk]
      dsimp only
      rw [gd_pos q, A64 (by decide), bnd_mk]
      dsimp only
      rw [gd_pos q, gd_pos (by omega)]
      have hs := nv_set 18446744073709551616 z i ((z.getD i 0 + (w.getD (4 + i) 0 * 38 % 18446744073709551616 + c + 0) % 18446744073709551616 + 0) % 18446744073709551616) (by omega)
      obtain ⟨e, e0⟩ := mul38 a2 a1 h4
      refine ⟨_, rfl, ⟨by clear e e0; dsimp only; omega, by simpa using h2, h3.set (Nat.mod_lt _ (by decide)) _, e0, ?_⟩, by clear e e0; dsimp only; omega⟩
      dsimp only
      rw [nv_at' _ (w.drop 4), getD_drop]
      generalize hv : (z.getD i 0 + (w.getD (4 + i) 0 * 38 % 18446744073709551616 + c + 0) % 18446744073709551616 + 0) % 18446744073709551616 = v at *
      generalize hc : ((w.getD (4 + i) 0 * 38 / 18446744073709551616 + (w.getD (4 + i) 0 * 38 % 18446744073709551616 + c + 0) / 18446744073709551616) % 18446744073709551616 + (z.getD i 0 + (w.getD (4 + i) 0 * 38 % 18446744073709551616 + c + 0) % 18446744073709551616 + 0) / 18446744073709551616) % 18446744073709551616 = c' at *
      have e2 := congrArg (18446744073709551616 ^ i * ·) e
      simp only [Nat.mul_add] at e2
      rw [show c' * 18446744073709551616 ^ (i + 1) = 18446744073709551616 ^ i * (18446744073709551616 * c') by rw [Nat.pow_succ, Nat.mul_comm c', Nat.mul_assoc]]
      rw [Nat.mul_comm c] at h5
      rw [Nat.mul_left_comm _ 38] at e2
      rw [Nat.mul_add 38]
      generalize 18446744073709551616 ^ i * v = t1 at *
      generalize 18446744073709551616 ^ i * (18446744073709551616 * c') = t2 at *
      generalize 18446744073709551616 ^ i * w.getD (4 + i) 0 = t3 at *
      generalize 18446744073709551616 ^ i * z.getD i 0 = t4 at *
      generalize 18446744073709551616 ^ i * c = t5 at *
      omega
    · right
      have : i = 4 := by omega
      subst this
      rw [if_neg q]
      refine ⟨_, rfl, h2, h3, by dsimp only; omega, ?_⟩
      dsimp only
      rwa [List.take_of_length_le (l := w.drop 4) (by rw [List.length_drop]; omega)] at h5
theorem P_mul {x y : Nat} (hx : x < 115792089237316195423570985008687907853269984665640564039457584007913129639936) (hy : y < 115792089237316195423570985008687907853269984665640564039457584007913129639936) : F_field_mul (w4 x) (w4 y) = some (w4 (x * y % pp)) := by
  unfold F_field_mul
  obtain ⟨w, h1, h2, h3, h4⟩ := P_mul_wide (w4_lt x) (w4_lt y) (w4_len x) (w4_len y)
  obtain ⟨c, z, g1, g2, g3, g4, g5⟩ := P_mul_low h2 h3
  rw [h1, bnd_mk, g1, bnd_mk]
  dsimp only
  have h6 := nv_lt z g3
  rw [g2, q4] at h6
  rw [w4_of g2 g3 rfl, P_fold h6 g4, bnd_mk]
  have hsp := nv_split 18446744073709551616 w 4 (by omega)
  rw [h4, nv_w4 hx, nv_w4 hy] at hsp
  rw [hsp, Nat.mul_comm 115792089237316195423570985008687907853269984665640564039457584007913129639936, ← q4, g5, ← show 65536 ^ 16 = 18446744073709551616 ^ 4 by decide +kernel, mod_38]
end Go.Proofs.Ytmlmbolcblafmaa
