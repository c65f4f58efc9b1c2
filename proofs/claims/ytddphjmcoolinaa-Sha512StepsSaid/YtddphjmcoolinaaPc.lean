/- The root of layer 14, as a number. -/
import Derived.Test.YtddphjmcoolinaaPb
set_option linter.unusedVariables false
set_option linter.unusedSimpArgs false
set_option maxRecDepth 10000
namespace Go.Proofs.Ytddphjmcoolinaa
theorem or_add {a n : Nat} (h : 2 ^ (n + 1) ∣ a) : a ||| 2 ^ n = a + 2 ^ n := by
  obtain ⟨q, rfl⟩ := h
  exact (Nat.two_pow_add_eq_or_of_lt (Nat.pow_lt_pow_right (by decide) (Nat.lt_succ_self n)) q).symm
def two (V : Nat) : List Nat := [V % 18446744073709551616, V / 18446744073709551616]
theorem B_pow : (18446744073709551616 : Nat) = 2 ^ 64 := rfl
theorem setbit {V n : Nat} (hn : n ≤ 70) (hd : 2 ^ (n + 1) ∣ V) : (two V).set (n / 64) ((two V).getD (n / 64) 0 ||| (1 * 2 ^ (n % 64) % 18446744073709551616)) = two (V + 2 ^ n) := by
  have hB := B_pow
  by_cases q : n < 64
  · have e1 : n / 64 = 0 := by omega
    have e2 : n % 64 = n := by omega
    rw [e1, e2]
    have hlt : 2 ^ n < 18446744073709551616 := by rw [hB]; exact Nat.pow_lt_pow_right (by decide) q
    have hB2 : 18446744073709551616 = 2 ^ (n + 1) * 2 ^ (63 - n) := by rw [hB, ← Nat.pow_add]; congr 1; omega
    have hda : 2 ^ (n + 1) ∣ V % 18446744073709551616 := (Nat.dvd_mod_iff ⟨_, hB2⟩).2 hd
    show [(V % 18446744073709551616 ||| _), V / 18446744073709551616] = _
    rw [Nat.one_mul, Nat.mod_eq_of_lt hlt, or_add hda]
    have hle : V % 18446744073709551616 + 2 ^ (n + 1) ≤ 18446744073709551616 := by
      obtain ⟨c, hc⟩ := hda
      have h1 : V % 18446744073709551616 < 18446744073709551616 := Nat.mod_lt _ (Nat.zero_lt_succ _)
      rw [hc]
      have h2 : 2 ^ (n + 1) * c < 2 ^ (n + 1) * 2 ^ (63 - n) := by rw [← hc, ← hB2]; exact h1
      have h3 : c < 2 ^ (63 - n) := Nat.lt_of_mul_lt_mul_left h2
      have h4 : 2 ^ (n + 1) * (c + 1) ≤ 2 ^ (n + 1) * 2 ^ (63 - n) := Nat.mul_le_mul_left _ h3
      rw [← hB2, Nat.mul_add, Nat.mul_one] at h4
      exact h4
    have hp : 2 ^ (n + 1) = 2 * 2 ^ n := by rw [Nat.pow_succ, Nat.mul_comm]
    have h5 : 0 < 2 ^ n := Nat.two_pow_pos n
    unfold two
    have : (V + 2 ^ n) % 18446744073709551616 = V % 18446744073709551616 + 2 ^ n ∧ (V + 2 ^ n) / 18446744073709551616 = V / 18446744073709551616 := by
      rw [hp] at hle
      generalize 2 ^ n = x at *
      omega
    rw [this.1, this.2]
  · have e1 : n / 64 = 1 := by omega
    have e2 : n % 64 = n - 64 := by omega
    rw [e1, e2]
    obtain ⟨c, rfl⟩ := hd
    have h1 : 2 ^ (n + 1) = 18446744073709551616 * 2 ^ (n - 64 + 1) := by rw [hB, ← Nat.pow_add]; congr 1; omega
    have h2 : 2 ^ n = 18446744073709551616 * 2 ^ (n - 64) := by rw [hB, ← Nat.pow_add]; congr 1; omega
    have h3 : 2 ^ (n - 64) < 18446744073709551616 := by rw [hB]; exact Nat.pow_lt_pow_right (by decide) (by omega)
    rw [h1, h2, Nat.mul_assoc]
    unfold two
    rw [← Nat.mul_add, Nat.mul_mod_right, Nat.mul_mod_right, Nat.mul_div_cancel_left _ (Nat.zero_lt_succ _), Nat.mul_div_cancel_left _ (Nat.zero_lt_succ _)]
    show [0, (2 ^ (n - 64 + 1) * c ||| _)] = _
    rw [Nat.one_mul, Nat.mod_eq_of_lt h3, or_add ⟨c, rfl⟩]
theorem two_fst (V : Nat) : (two V).getD 0 0 = V % 18446744073709551616 := rfl
theorem gr_zero (T k V : Nat) : gr T k 0 V = V := rfl
theorem gr_succ (T k n V : Nat) : gr T k (n + 1) V = gr T k n (if (V + 2 ^ n) ^ k ≤ T then V + 2 ^ n else V) := rfl
theorem two_nv (V : Nat) : nv 18446744073709551616 (two V) = V := by
  show V % 18446744073709551616 + 18446744073709551616 * (V / 18446744073709551616 + 18446744073709551616 * 0) = V
  omega
theorem two_lt {V : Nat} (h : V < 18446744073709551616 * 18446744073709551616) : LB 18446744073709551616 (two V) :=
  LB.cons (Nat.mod_lt _ (Nat.zero_lt_succ _)) (LB.cons (Nat.div_lt_of_lt_mul h) LB.nil)
/-- powers -/
theorem P_pow {V p k : Nat} (bit : Int) (zs : List Nat) (hk : 1 ≤ k) (hk2 : k ≤ 10) (hV : V < 18446744073709551616 * 18446744073709551616)
    (hX : [zs.getD 0 0, zs.getD 1 0].set ((bit / 64).toNat) ([zs.getD 0 0, zs.getD 1 0].getD ((bit / 64).toNat) 0 ||| (1 * 2 ^ ((bit % 64).toNat) % 18446744073709551616)) = two V) :
    ∃ r, run (F_sha512_root_l2 (k : Int) zs bit) (two V, 0) = some r ∧ LB 18446744073709551616 r.1 ∧ r.1.length = 2 * k ∧ nv 18446744073709551616 r.1 = V ^ k := by
  refine run_inv (fun s : List Nat × Nat => s.2 + 1 ≤ k ∧ LB 18446744073709551616 s.1 ∧ s.1.length = 2 * (s.2 + 1) ∧ nv 18446744073709551616 s.1 = V ^ (s.2 + 1)) (fun s => k - s.2) _ ?_ (two V, 0)
    ⟨hk, two_lt hV, rfl, by rw [two_nv]; exact (Nat.pow_one V).symm⟩
  rintro ⟨z, i⟩ ⟨h1, h2, h3, h4⟩
  dsimp only at h1 h2 h3 h4
  unfold F_sha512_root_l2
  dsimp only
  by_cases q : i + 1 < k
  · left
    rw [if_pos (by omega), hX]
    obtain ⟨ys, hy, hyl, hyb, hyv⟩ := P_times h2 (two_lt hV) (by rw [h3]; show 2 * (i + 1) + 2 ≤ 100; omega)
    rw [hy, bnd_mk, gd_pos (by omega)]
    refine ⟨_, rfl, ⟨by dsimp only; omega, hyb, by dsimp only; rw [hyl, h3]; rfl, ?_⟩, by dsimp only; omega⟩
    dsimp only
    rw [hyv, h4, two_nv, ← Nat.pow_succ]
  · right
    rw [if_neg (by omega)]
    have : k = i + 1 := by omega
    subst this
    exact ⟨_, rfl, h2, h3, h4⟩
/-- the root's first 64 bits behind the point -/
def rootN (p k : Nat) : Nat := gr (18446744073709551616 ^ k * p) k 71 0 % 18446744073709551616
theorem P_root {p k : Nat} (hk : 1 ≤ k) (hk2 : k ≤ 10) (hp : p < 18446744073709551616) : F_sha512_root (p : Int) (k : Int) = some (rootN p k) := by
  unfold F_sha512_root
  have e71 : ((70 : Int) + 1).toNat = 71 := rfl
  have key := run_inv (f := F_sha512_root_l1 (k : Int) (p : Int)) (fun s : List Nat × Int => -1 ≤ s.2 ∧ s.2 ≤ 70 ∧ ∃ V, s.1 = two V ∧ 2 ^ ((s.2 + 1).toNat) ∣ V ∧ V + 2 ^ ((s.2 + 1).toNat) ≤ 2 ^ 71 ∧ gr (18446744073709551616 ^ k * p) k ((s.2 + 1).toNat) V = gr (18446744073709551616 ^ k * p) k 71 0)
    (fun s => (s.2 + 1).toNat) (fun r => r = two (gr (18446744073709551616 ^ k * p) k 71 0)) ?_ (List.replicate 2 0, 70) ⟨by decide, by decide, 0, rfl, ⟨0, rfl⟩, by decide, congrArg (fun b => gr (18446744073709551616 ^ k * p) k b 0) e71⟩
  · obtain ⟨r, hr, rfl⟩ := key
    rw [hr, bnd_mk, gd_pos (by show (0 : Int) < ((2 : Nat) : Int); decide)]
    exact congrArg some (two_fst _)
  · rintro ⟨z, bit⟩ ⟨h1, h2, V, rfl, hd, hle, hg⟩
    dsimp only at h1 h2 hd hle hg
    unfold F_sha512_root_l1
    dsimp only
    by_cases q : 0 ≤ bit
    · left
      obtain ⟨n, rfl⟩ := Int.eq_ofNat_of_zero_le q
      have en : (((n : Nat) : Int) + 1).toNat = n + 1 := by omega
      rw [en] at hd hle hg
      have hn : n ≤ 70 := by omega
      have e1 : (((n : Nat) : Int) / 64).toNat = n / 64 := by omega
      have e2 : (((n : Nat) : Int) % 64).toNat = n % 64 := by omega
      have hX : [(two V).getD 0 0, (two V).getD 1 0].set ((((n : Nat) : Int) / 64).toNat) ([(two V).getD 0 0, (two V).getD 1 0].getD ((((n : Nat) : Int) / 64).toNat) 0 ||| (1 * 2 ^ ((((n : Nat) : Int) % 64).toNat) % 18446744073709551616)) = two (V + 2 ^ n) := by
        rw [e1, e2]; exact setbit hn hd
      have hsucc : 2 ^ (n + 1) = 2 * 2 ^ n := by rw [Nat.pow_succ, Nat.mul_comm]
      have hpos : 0 < 2 ^ n := Nat.two_pow_pos n
      have hV : V + 2 ^ n < 18446744073709551616 * 18446744073709551616 := by
        have : (2 : Nat) ^ 71 = 2361183241434822606848 := rfl
        omega
      obtain ⟨⟨ys, m⟩, hr, hb, hl, hv⟩ := P_pow (p := p) (((n : Nat) : Int)) (two V) hk hk2 hV hX
      dsimp only at hb hl hv
      have hw := P_within hb hp (by omega) (up := k) (by omega)
      have epm : (((p : Nat) : Int) % 18446744073709551616).toNat = p := by omega
      rw [if_pos q, gd_pos (by show (0 : Int) < ((2 : Nat) : Int); decide), gd_pos (by show (1 : Int) < ((2 : Nat) : Int); decide), gd_pos (by omega), gd_pos (by omega), gd_pos (by omega), gd_pos (by omega), hX, gd_pos (by omega), gd_pos (by omega), hr, bnd_mk]
      dsimp only
      rw [epm, hw, bnd_mk, hv, updig_nv]
      have hgr := gr_succ (18446744073709551616 ^ k * p) k n V
      rw [hgr] at hg
      have eb : (((n : Nat) : Int) - 1 + 1).toNat = n := by omega
      by_cases c : (V + 2 ^ n) ^ k ≤ 18446744073709551616 ^ k * p
      · rw [if_pos c] at hg
        rw [if_pos (decide_eq_true c), bnd_mk]
        dsimp only
        rw [gd_pos (by omega), gd_pos (by omega)]
        refine ⟨_, rfl, ⟨by dsimp only; omega, by dsimp only; omega, V + 2 ^ n, rfl, ?_, ?_, ?_⟩, by dsimp only; omega⟩
        · dsimp only; rw [eb]; exact Nat.dvd_add (Nat.dvd_trans ⟨2, by rw [Nat.pow_succ]⟩ hd) (Nat.dvd_refl _)
        · dsimp only; rw [eb]; omega
        · dsimp only; rw [eb]; exact hg
      · rw [if_neg c] at hg
        rw [if_neg (by rw [decide_eq_false c]; decide), bnd_mk]
        dsimp only
        rw [gd_pos (by omega), gd_pos (by omega)]
        refine ⟨_, rfl, ⟨by dsimp only; omega, by dsimp only; omega, V, rfl, ?_, ?_, ?_⟩, by dsimp only; omega⟩
        · dsimp only; rw [eb]; exact Nat.dvd_trans ⟨2, by rw [Nat.pow_succ]⟩ hd
        · dsimp only; rw [eb]; omega
        · dsimp only; rw [eb]; exact hg
    · right
      rw [if_neg q]
      have : bit = -1 := by omega
      subst this
      have e0 : ((-1 : Int) + 1).toNat = 0 := rfl
      rw [e0] at hg
      refine ⟨_, rfl, ?_⟩
      rw [← hg]; exact congrArg two (gr_zero _ _ _).symm
end Go.Proofs.Ytddphjmcoolinaa
