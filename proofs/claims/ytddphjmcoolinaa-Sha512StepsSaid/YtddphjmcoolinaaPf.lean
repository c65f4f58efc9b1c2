/- The reference's root, as a number (2). -/
import Derived.Test.YtddphjmcoolinaaPe
set_option linter.unusedVariables false
set_option linter.unusedSimpArgs false
set_option maxRecDepth 10000
namespace Go.Proofs.Ytddphjmcoolinaa
theorem P_w (n : Nat) (hn : n ≤ 68) : run (F_casemateref14_root_l2 ((n : Nat) : Int)) (1, 0) = some (2 ^ (n % 16), n % 16) := by
  have e : (((n : Nat) : Int) % 16) = ((n % 16 : Nat) : Int) := by omega
  have h16 : n % 16 < 16 := Nat.mod_lt _ (by decide)
  refine run_for (f := F_casemateref14_root_l2 ((n : Nat) : Int)) (fun i => (2 ^ i, i)) (n % 16) (fun i hi => ?_) ?_
  · unfold F_casemateref14_root_l2
    dsimp only
    have : 2 ^ i ≤ 2 ^ 15 := Nat.pow_le_pow_right (by decide) (by omega)
    have h15 : (2 : Nat) ^ 15 = 32768 := rfl
    rw [e, if_pos (by omega), gd_pos (by omega), gd_pos (by omega), Nat.pow_succ, Nat.mul_comm 2]
  · unfold F_casemateref14_root_l2
    dsimp only
    rw [e, if_neg (by omega)]
theorem P_refpow {V p k : Nat} (bit : Int) (zs : List Int) (w : Nat) (hk2 : k ≤ 10) (hV : V < 1208925819614629174706176)
    (hX : zs.set ((bit / 16).toNat) (zs.getD ((bit / 16).toNat) 0 + ((w : Nat) : Int)) = cI (dg5 V)) :
    ∃ r, run (F_casemateref14_root_l3 (k : Int) zs bit w) ([1], 0) = some r ∧ ∃ z, r.1 = cI z ∧ LB 65536 z ∧ z.length = 1 + 6 * k ∧ nv 65536 z = V ^ k := by
  refine run_inv (fun s : List Int × Nat => s.2 ≤ k ∧ ∃ z, s.1 = cI z ∧ LB 65536 z ∧ z.length = 1 + 6 * s.2 ∧ nv 65536 z = V ^ s.2) (fun s => k - s.2) _ ?_ ([1], 0)
    ⟨Nat.zero_le _, [1], rfl, LB.cons (by decide) LB.nil, rfl, rfl⟩
  rintro ⟨z', i⟩ ⟨h1, z, e, h2, h3, h4⟩
  dsimp only at h1 e h3 h4
  subst e
  unfold F_casemateref14_root_l3
  dsimp only
  by_cases q : i < k
  · left
    obtain ⟨ys, hy, hyl, hyb, hyv⟩ := P_Times h2 (dg5_lt V) (by rw [h3]; show 1 + 6 * i + 5 ≤ 1000; omega)
    rw [if_pos (by omega), hX, hy, bnd_mk, gd_pos (by omega)]
    refine ⟨_, rfl, ⟨q, ys, rfl, hyb, ?_, ?_⟩, by dsimp only; omega⟩
    · rw [hyl, h3]; show 1 + 6 * i + 5 + 1 = 1 + 6 * (i + 1); omega
    · rw [hyv, h4, dg5_nv hV, ← Nat.pow_succ]
  · right
    rw [if_neg (by omega)]
    have : k = i := by omega
    subst this
    exact ⟨_, rfl, z, rfl, h2, h3, h4⟩
theorem cI_up (t p : Nat) : List.replicate t (0 : Int) ++ [((p : Nat) : Int)] = cI (updig p t) := by
  unfold updig
  rw [cI_append, ← cI_rep]
  rfl
theorem P_l4 {ds : List Nat} (hd : LB 65536 ds) (hl : ds.length = 5) (x i : Nat) (hi : i ≤ 4) : F_casemateref14_root_l4 (cI ds) (x, ((i : Nat) : Int)) = some (.inl ((x * 65536 % 18446744073709551616 + ds.getD i 0) % 18446744073709551616, ((i : Nat) : Int) - 1)) := by
  unfold F_casemateref14_root_l4
  dsimp only
  have h1 := hd.get (by decide) i
  have h2 : ((ds.getD i 0 : Nat) : Int) % 18446744073709551616 = ((ds.getD i 0 : Nat) : Int) := by omega
  rw [if_pos (by omega), gd_pos (by show ((i : Nat) : Int) < ((5 : Nat) : Int); omega), ltb_eq, gd_pos (by omega), gd_pos (by omega), Int.toNat_natCast, cI_getD, h2, Int.toNat_natCast]
theorem P_last (V : Nat) : run (F_casemateref14_root_l4 (cI (dg5 V))) (0, 3) = some (V % 18446744073709551616) := by
  have h := P_l4 (dg5_lt V) rfl
  refine run_next (h 0 3 (by decide)) (run_next (h _ 2 (by decide)) (run_next (h _ 1 (by decide)) (run_next (h _ 0 (by decide)) (run_exit ?_))))
  unfold F_casemateref14_root_l4
  dsimp only
  rw [if_neg (by decide)]
  congr 2
  show ((((0 * 65536 % 18446744073709551616 + V / 281474976710656 % 65536) % 18446744073709551616 * 65536 % 18446744073709551616 + V / 4294967296 % 65536) % 18446744073709551616 * 65536 % 18446744073709551616 + V / 65536 % 65536) % 18446744073709551616 * 65536 % 18446744073709551616 + V % 65536) % 18446744073709551616 = V % 18446744073709551616
  omega
theorem gr_same {p k : Nat} (hk : 1 ≤ k) (hp : p < 32 ^ k) : gr (18446744073709551616 ^ k * p) k 69 0 = gr (18446744073709551616 ^ k * p) k 71 0 := by
  have h0 : 0 ^ k ≤ 18446744073709551616 ^ k * p := by rw [Nat.zero_pow (by omega)]; exact Nat.zero_le _
  have hB : 0 < 18446744073709551616 ^ k := Nat.pow_pos (by decide)
  have e : (0 + 2 ^ 69) ^ k = 18446744073709551616 ^ k * 32 ^ k := by rw [← Nat.mul_pow]
  have h1 : 18446744073709551616 ^ k * p < (0 + 2 ^ 69) ^ k := by rw [e]; exact Nat.mul_lt_mul_of_pos_left hp hB
  have h2 : 18446744073709551616 ^ k * p < (0 + 2 ^ 71) ^ k := Nat.lt_of_lt_of_le h1 (Nat.pow_le_pow_left (by decide) k)
  obtain ⟨a1, a2⟩ := gr_spec 69 0 h0 h1
  obtain ⟨b1, b2⟩ := gr_spec 71 0 h0 h2
  exact root_one a1 a2 b1 b2
theorem set_back {xs : List Nat} {i w : Nat} (hi : i < xs.length) : (cI (xs.set i (xs.getD i 0 + w))).set i ((cI (xs.set i (xs.getD i 0 + w))).getD i 0 - ((w : Nat) : Int)) = cI xs := by
  rw [cI_getD, getD_set _ _ _ _ hi, if_pos rfl, show (((xs.getD i 0 + w : Nat) : Int) - ((w : Nat) : Int)) = ((xs.getD i 0 : Nat) : Int) by omega, cI_set, List.set_set]
  congr 1
  apply List.ext_getElem?
  intro j
  rw [List.getElem?_set]
  split
  · rename_i h; subst h; simp [List.getD_eq_getElem?_getD, hi]
  · rfl
theorem P_refroot {p k : Nat} (hk : 1 ≤ k) (hk2 : k ≤ 10) (hp : p < 32 ^ k) (hp2 : p < 65536) : F_casemateref14_root (p : Int) (k : Int) = some (rootN p k) := by
  unfold F_casemateref14_root rootN
  rw [← gr_same hk hp]
  have e69 : ((68 : Int) + 1).toNat = 69 := rfl
  have key := run_inv (f := F_casemateref14_root_l1 (k : Int) (p : Int)) (fun s : List Int × Int => -1 ≤ s.2 ∧ s.2 ≤ 68 ∧ ∃ V, s.1 = cI (dg5 V) ∧ 2 ^ ((s.2 + 1).toNat) ∣ V ∧ V + 2 ^ ((s.2 + 1).toNat) ≤ 2 ^ 69 ∧ gr (18446744073709551616 ^ k * p) k ((s.2 + 1).toNat) V = gr (18446744073709551616 ^ k * p) k 69 0)
    (fun s => (s.2 + 1).toNat) (fun r => r = cI (dg5 (gr (18446744073709551616 ^ k * p) k 69 0))) ?_ (List.replicate 5 (0 : Int), 68) ⟨by decide, by decide, 0, rfl, ⟨0, rfl⟩, by decide, congrArg (fun b => gr (18446744073709551616 ^ k * p) k b 0) e69⟩
  · obtain ⟨r, hr, rfl⟩ := key
    rw [hr, bnd_mk, P_last, bnd_mk]
  · rintro ⟨z, bit⟩ ⟨h1, h2, V, e, hd, hle, hg⟩
    dsimp only at h1 h2 e hd hle hg
    subst e
    unfold F_casemateref14_root_l1
    dsimp only
    by_cases q : 0 ≤ bit
    · left
      obtain ⟨n, rfl⟩ := Int.eq_ofNat_of_zero_le q
      have en : (((n : Nat) : Int) + 1).toNat = n + 1 := by omega
      rw [en] at hd hle hg
      have hn : n ≤ 68 := by omega
      have e1 : (((n : Nat) : Int) / 16).toNat = n / 16 := by omega
      have hpos : 0 < 2 ^ n := Nat.two_pow_pos n
      have hsucc : 2 ^ (n + 1) = 2 * 2 ^ n := by rw [Nat.pow_succ, Nat.mul_comm]
      have h69 : (2 : Nat) ^ 69 = 590295810358705651712 := rfl
      have hV : V + 2 ^ n < 1208925819614629174706176 := by omega
      have hset := dg5_set hn hd
      have hX : (cI (dg5 V)).set ((((n : Nat) : Int) / 16).toNat) ((cI (dg5 V)).getD ((((n : Nat) : Int) / 16).toNat) 0 + ((2 ^ (n % 16) : Nat) : Int)) = cI (dg5 (V + 2 ^ n)) := by
        rw [e1, cI_getD, ← Int.natCast_add, cI_set, hset]
      have hdig := (dg5_lt V).get (by decide) (n / 16)
      have hwl : 2 ^ (n % 16) ≤ 2 ^ 15 := Nat.pow_le_pow_right (by decide) (by omega)
      have h15 : (2 : Nat) ^ 15 = 32768 := rfl
      have hw0 := Nat.two_pow_pos (n % 16)
      obtain ⟨⟨ys', m⟩, hr, ys, e, hb, hl, hv⟩ := P_refpow (p := p) (((n : Nat) : Int)) (cI (dg5 V)) (2 ^ (n % 16)) hk2 hV hX
      dsimp only at e
      subst e
      have et : (4 * ((k : Nat) : Int)).toNat = 4 * k := by omega
      have hG := P_Greater hb (updig_lt (up := 4 * k) hp2) (by rw [hl]; unfold updig; simp; omega)
      have hT : nv 65536 (updig p (4 * k)) = 18446744073709551616 ^ k * p := by rw [updig_nv, Nat.pow_mul]
      rw [hv, hT] at hG
      have hgd : (cI (dg5 V)).getD ((((n : Nat) : Int) / 16).toNat) 0 + ((2 ^ (n % 16) : Nat) : Int) = (((dg5 V).getD (n / 16) 0 + 2 ^ (n % 16) : Nat) : Int) := by rw [e1, cI_getD, ← Int.natCast_add]
      rw [if_pos q, P_w n hn, bnd_mk]
      dsimp only
      rw [gd_pos (by omega), gd_pos (by omega), gd_pos (by omega), gd_pos (by rw [hgd]; omega), gd_pos (by rw [hgd]; omega), hr, bnd_mk]
      dsimp only
      rw [gd_pos (by omega), gd_pos (by omega), gd_pos (by omega), ltb_eq, et, gd_pos (by omega), gd_pos (by omega), cI_up, hG, bnd_mk, hX]
      have hgr := gr_succ (18446744073709551616 ^ k * p) k n V
      rw [hgr] at hg
      have eb : (((n : Nat) : Int) - 1 + 1).toNat = n := by omega
      by_cases c : (V + 2 ^ n) ^ k ≤ 18446744073709551616 ^ k * p
      · rw [if_pos c] at hg
        rw [if_neg (by rw [decide_eq_false (by omega)]; decide), bnd_mk]
        dsimp only
        rw [gd_pos (by omega), gd_pos (by omega)]
        refine ⟨_, rfl, ⟨by dsimp only; omega, by dsimp only; omega, V + 2 ^ n, rfl, ?_, ?_, ?_⟩, by dsimp only; omega⟩
        · dsimp only; rw [eb]; exact Nat.dvd_add (Nat.dvd_trans ⟨2, by rw [Nat.pow_succ]⟩ hd) (Nat.dvd_refl _)
        · dsimp only; rw [eb]; omega
        · dsimp only; rw [eb]; exact hg
      · rw [if_neg c] at hg
        have hget : (cI (dg5 (V + 2 ^ n))).getD ((((n : Nat) : Int) / 16).toNat) 0 = (((dg5 (V + 2 ^ n)).getD (n / 16) 0 : Nat) : Int) := by rw [e1, cI_getD]
        have hdig2 := (dg5_lt (V + 2 ^ n)).get (by decide) (n / 16)
        rw [if_pos (decide_eq_true (by omega)), gd_pos (by rw [hget]; omega), gd_pos (by rw [hget]; omega), bnd_mk]
        dsimp only
        rw [gd_pos (by omega), gd_pos (by omega)]
        refine ⟨_, rfl, ⟨by dsimp only; omega, by dsimp only; omega, V, ?_, ?_, ?_, ?_⟩, by dsimp only; omega⟩
        · dsimp only
          rw [e1, ← hset]
          exact set_back (by show n / 16 < 5; omega)
        · dsimp only; rw [eb]; exact Nat.dvd_trans ⟨2, by rw [Nat.pow_succ]⟩ hd
        · dsimp only; rw [eb]; omega
        · dsimp only; rw [eb]; exact hg
    · right
      rw [if_neg q]
      have : bit = -1 := by omega
      subst this
      have e0 : ((-1 : Int) + 1).toNat = 0 := rfl
      rw [e0] at hg
      refine ⟨_, rfl, ?_⟩
      rw [← hg]; exact congrArg (fun x => cI (dg5 x)) (gr_zero _ _ _).symm
end Go.Proofs.Ytddphjmcoolinaa
