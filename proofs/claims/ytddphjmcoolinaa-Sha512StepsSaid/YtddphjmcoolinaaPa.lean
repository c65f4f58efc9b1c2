/- What the plain functions of layer 14 tell: products of words. -/
import Derived.Test.YtddphjmcoolinaaVb
import Derived.Test.YtddphjmcoolinaaNc
set_option linter.unusedVariables false
set_option linter.unusedSimpArgs false
set_option maxRecDepth 10000
namespace Go.Proofs.Ytddphjmcoolinaa
theorem P_Mul64 {x y : Nat} (hx : x < 18446744073709551616) (hy : y < 18446744073709551616) : F_bits_Mul64 x y = some (x * y / 18446744073709551616, x * y % 18446744073709551616) := by
  unfold F_bits_Mul64 ltb
  exact congrArg (fun z => some (z, x * y % 18446744073709551616)) (mul64_hi hx hy)
/-- how far a row of products has come -/
def MI (b : Nat) (xs ys z : List Nat) (i c k : Nat) : Prop := nv b z + c * b ^ (i + k) = nv b (xs.take i) * nv b ys + b ^ i * (xs.getD i 0 * nv b (ys.take k))
def MO (b : Nat) (xs ys z : List Nat) (i : Nat) : Prop := nv b z = nv b (xs.take i) * nv b ys
theorem MI.start {b : Nat} {xs ys z : List Nat} {i : Nat} (h : MO b xs ys z i) : MI b xs ys z i 0 0 := by
  unfold MI
  rw [Nat.zero_mul, List.take_zero]
  show _ = _ + _ * (_ * 0)
  rw [Nat.mul_zero, Nat.mul_zero]
  exact h
theorem MI.step {b : Nat} {xs ys z : List Nat} {i k c v d : Nat} (hk : i + k < z.length) (h : MI b xs ys z i c k) (hv : v = (xs.getD i 0 * ys.getD k 0 + z.getD (i + k) 0 + c) % b) (hd : d = (xs.getD i 0 * ys.getD k 0 + z.getD (i + k) 0 + c) / b) :
    MI b xs ys (z.set (i + k) v) i d (k + 1) := by subst hv hd; exact mul_step hk h
theorem MI.stop {b : Nat} {xs ys z : List Nat} {i c m : Nat} (hm : ys.length = m) (hk : i + m < z.length) (h0 : z.getD (i + m) 0 = 0) (h : MI b xs ys z i c m) : MO b xs ys (z.set (i + m) c) (i + 1) := mul_row hm hk h0 h
theorem MO.start {b : Nat} {xs ys : List Nat} (n : Nat) : MO b xs ys (List.replicate n 0) 0 := by
  unfold MO
  rw [nv_replicate, List.take_zero]
  show 0 = 0 * _
  rw [Nat.zero_mul]
theorem MO.stop {b : Nat} {xs ys z : List Nat} {i : Nat} (hi : i = xs.length) (h : MO b xs ys z i) : nv b z = nv b xs * nv b ys := by
  subst hi
  unfold MO at h
  rwa [List.take_length] at h
theorem P_times_in {xs ys zs : List Nat} {i : Nat} (hX : LB 18446744073709551616 xs) (hY : LB 18446744073709551616 ys) (hl : xs.length + ys.length ≤ 100) (hi : i < xs.length) (hz : zs.length = xs.length + ys.length) (hZ : LB 18446744073709551616 zs)
    (h0 : ∀ j, i + ys.length ≤ j → zs.getD j 0 = 0) (hv : MO 18446744073709551616 xs ys zs i) :
    ∃ r, run (F_sha512_times_l2 ys xs i) (zs, 0, 0) = some r ∧ (r.2.2 = ys.length ∧ r.1.length = zs.length ∧ LB 18446744073709551616 r.1 ∧ r.2.1 < 18446744073709551616 ∧ (∀ j, i + ys.length ≤ j → r.1.getD j 0 = 0) ∧
      MI 18446744073709551616 xs ys r.1 i r.2.1 ys.length) := by
  refine run_inv (fun s : List Nat × Nat × Nat => s.2.2 ≤ ys.length ∧ s.1.length = zs.length ∧ LB 18446744073709551616 s.1 ∧ s.2.1 < 18446744073709551616 ∧ (∀ j, i + ys.length ≤ j → s.1.getD j 0 = 0) ∧
      MI 18446744073709551616 xs ys s.1 i s.2.1 s.2.2) (fun s => ys.length - s.2.2) _ ?_ (zs, 0, 0)
      ⟨Nat.zero_le _, rfl, hZ, Nat.zero_lt_succ _, h0, MI.start hv⟩
  rintro ⟨z, c, k⟩ ⟨hk, hzl, hzb, hc, hz0, hv⟩
  dsimp only at hk hzl hzb hc hz0 hv
  unfold F_sha512_times_l2
  dsimp only
  by_cases q : k < ys.length
  · left
    have hx := hX.get (Nat.zero_lt_succ _) i
    have hy := hY.get (Nat.zero_lt_succ _) k
    have ho := hzb.get (Nat.zero_lt_succ _) (i + k)
    obtain ⟨e1, e2⟩ := mul_words hx hy ho hc
    rw [if_pos (by omega), P_Mul64 hx hy]
    simp only [bnd_mk, ltb_eq]
    rw [gd_pos (by clear e1 e2; omega), gd_pos (by clear e1 e2; omega), gd_pos (by clear e1 e2; omega)]
    refine ⟨_, rfl, ⟨by clear e1 e2; dsimp only; omega, by simp only [List.length_set]; exact hzl, hzb.set (Nat.mod_lt _ (Nat.zero_lt_succ _)) _, ?_, fun j hj => ?_, ?_⟩, by clear e1 e2; dsimp only; omega⟩
    · dsimp only
      rw [e2]
      exact Nat.div_lt_of_lt_mul (mul_bound hx hy ho hc)
    · dsimp only
      rw [getD_set _ _ _ _ (by clear e1 e2; omega), if_neg (by clear e1 e2; omega)]; exact hz0 j hj
    · exact MI.step (by clear e1 e2; omega) hv e1 e2
  · right
    have : k = ys.length := by omega
    subst this
    rw [if_neg (by omega)]
    exact ⟨_, rfl, rfl, hzl, hzb, hc, hz0, hv⟩
theorem P_times {xs ys : List Nat} (hX : LB 18446744073709551616 xs) (hY : LB 18446744073709551616 ys) (hl : xs.length + ys.length ≤ 100) :
    ∃ zs, F_sha512_times xs ys = some zs ∧ zs.length = xs.length + ys.length ∧ LB 18446744073709551616 zs ∧ nv 18446744073709551616 zs = nv 18446744073709551616 xs * nv 18446744073709551616 ys := by
  unfold F_sha512_times
  rw [gd_pos (by omega), gd_pos (by omega)]
  have key := run_inv (f := F_sha512_times_l1 xs ys) (fun s : List Nat × Nat => s.2 ≤ xs.length ∧ s.1.length = xs.length + ys.length ∧ LB 18446744073709551616 s.1 ∧ (∀ j, s.2 + ys.length ≤ j → s.1.getD j 0 = 0) ∧ MO 18446744073709551616 xs ys s.1 s.2)
    (fun s => xs.length - s.2) (fun r => r.length = xs.length + ys.length ∧ LB 18446744073709551616 r ∧ nv 18446744073709551616 r = nv 18446744073709551616 xs * nv 18446744073709551616 ys) ?_ (List.replicate (xs.length + ys.length) 0, 0) ⟨Nat.zero_le _, by simp, LB.rep (Nat.zero_lt_succ _) _, fun j _ => rep_getD _ _, MO.start _⟩
  · obtain ⟨r, hr, h⟩ := key
    rw [hr]; exact ⟨_, rfl, h⟩
  · rintro ⟨z, i⟩ ⟨hi, hzl, hzb, hz0, hv⟩
    dsimp only at hi hzl hzb hz0 hv
    unfold F_sha512_times_l1
    dsimp only
    by_cases q : i < xs.length
    · left
      rw [if_pos (by omega)]
      obtain ⟨⟨z2, c, m⟩, hr, hm, hl2, hb2, hc, h02, hv2⟩ := P_times_in hX hY hl q hzl hzb hz0 hv
      dsimp only at hm hl2 hb2 hc h02 hv2
      rw [hr]
      simp only [bnd_mk]
      rw [gd_pos (by omega), gd_pos (by omega)]
      simp only [bnd_mk]
      rw [gd_pos (by omega)]
      refine ⟨_, rfl, ⟨by dsimp only; omega, by simp only [List.length_set]; omega, hb2.set hc _, fun j hj => ?_, ?_⟩, by dsimp only; omega⟩
      · dsimp only
        dsimp only at hj
        rw [getD_set _ _ _ _ (by omega), if_neg (by omega)]; exact h02 j (by omega)
      · exact MI.stop rfl (by omega) (h02 _ (Nat.le_refl _)) hv2
    · right
      rw [if_neg (by omega)]
      exact ⟨_, rfl, hzl, hzb, MO.stop (by omega) hv⟩
end Go.Proofs.Ytddphjmcoolinaa
