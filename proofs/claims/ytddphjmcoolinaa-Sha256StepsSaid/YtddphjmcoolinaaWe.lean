/- A block of layer 13 by the reference. Lemmas, no statement of the claim. -/
import Derived.Test.YtddphjmcoolinaaWd
set_option linter.unusedVariables false
set_option linter.unusedSimpArgs false
set_option maxRecDepth 10000
namespace Go.Proofs.Ytddphjmcoolinaa
theorem bit01 (x i : Nat) : x / 2 ^ i % 2 = (x.testBit i).toNat := by
  rw [Nat.testBit_eq_decide_div_mod_eq]
  rcases Nat.mod_two_eq_zero_or_one (x / 2 ^ i) with h | h <;> rw [h] <;> rfl
theorem xbit (a b i : Nat) : (a ^^^ b) / 2 ^ i % 2 = if a / 2 ^ i % 2 = b / 2 ^ i % 2 then 0 else 1 := by
  rw [bit01, bit01, bit01, Nat.testBit_xor]
  cases a.testBit i <;> cases b.testBit i <;> rfl
theorem abit (a b i : Nat) : (a &&& b) / 2 ^ i % 2 = (a / 2 ^ i % 2) * (b / 2 ^ i % 2) := by
  rw [bit01, bit01, bit01, Nat.testBit_and]
  cases a.testBit i <;> cases b.testBit i <;> rfl
theorem half_next (a i : Nat) : (((a / 2 ^ i : Nat) : Int) / ((2 : Nat) : Int)) = ((a / 2 ^ (i + 1) : Nat) : Int) := by
  rw [← Int.natCast_ediv, Nat.div_div_eq_div_mul, Nat.pow_succ]
theorem P_xor {a b : Nat} (ha : a < 4294967296) (hb : b < 4294967296) : F_casemateref13_xor ((a : Nat) : Int) ((b : Nat) : Int) = some ((a ^^^ b : Nat) : Int) := by
  unfold F_casemateref13_xor
  have h := run_for (f := F_casemateref13_xor_l1) (x := (a ^^^ b) % 2 ^ 32) (fun i => ((a ^^^ b) % 2 ^ i, ((a / 2 ^ i : Nat) : Int), ((b / 2 ^ i : Nat) : Int), 2 ^ i, i)) 32 (fun i hi => ?_) ?_
  · have e : ((a ^^^ b) % 2 ^ 0, ((a / 2 ^ 0 : Nat) : Int), ((b / 2 ^ 0 : Nat) : Int), 2 ^ 0, 0) = (0, ((a : Nat) : Int), ((b : Nat) : Int), 1, 0) := by
      rw [Nat.pow_zero, Nat.mod_one, Nat.div_one, Nat.div_one]
    rw [e] at h
    rw [h, bnd_mk, Nat.mod_eq_of_lt (x32 ha hb)]
  · have hp : 2 ^ i ≤ 2 ^ 31 := Nat.pow_le_pow_right (by decide) (by omega)
    have hm : (a ^^^ b) % 2 ^ i < 2 ^ i := Nat.mod_lt _ (Nat.pow_pos (by decide))
    have hs := Nat.mod_pow_succ (b := 2) (k := i) (x := a ^^^ b)
    have pa : (0 : Int) ≤ ((a / 2 ^ i : Nat) : Int) := Int.natCast_nonneg _
    have pb : (0 : Int) ≤ ((b / 2 ^ i : Nat) : Int) := Int.natCast_nonneg _
    unfold F_casemateref13_xor_l1
    dsimp only
    have c : (if ((a / 2 ^ i : Nat) : Int) % ((2 : Nat) : Int) = ((b / 2 ^ i : Nat) : Int) % ((2 : Nat) : Int) then (some ((a ^^^ b) % 2 ^ i)) else (gd (((a ^^^ b) % 2 ^ i + 2 ^ i) ≤ 9223372036854775807) (some ((a ^^^ b) % 2 ^ i + 2 ^ i))) : Option Nat) = some ((a ^^^ b) % 2 ^ (i + 1)) := by
      rw [hs, xbit]
      by_cases q : a / 2 ^ i % 2 = b / 2 ^ i % 2
      · rw [if_pos (by omega), if_pos q, Nat.mul_zero, Nat.add_zero]
      · rw [if_neg (by omega), if_neg q, Nat.mul_one, gd_pos (by omega)]
    rw [if_pos hi, gd_pos pa, gd_pos (by decide), gd_pos pb, gd_pos (by decide), c, bnd_mk, gd_pos pa, gd_pos (by decide), gd_pos pb, gd_pos (by decide), gd_pos (by omega), gd_pos (by omega), half_next, half_next, show 2 * 2 ^ i = 2 ^ (i + 1) by rw [Nat.pow_succ, Nat.mul_comm]]
  · unfold F_casemateref13_xor_l1
    dsimp only
    rw [if_neg (by decide)]
theorem P_and {a b : Nat} (ha : a < 4294967296) (hb : b < 4294967296) : F_casemateref13_and ((a : Nat) : Int) ((b : Nat) : Int) = some ((a &&& b : Nat) : Int) := by
  unfold F_casemateref13_and
  have h := run_for (f := F_casemateref13_and_l1) (x := (((a &&& b) % 2 ^ 32 : Nat) : Int)) (fun i => ((((a &&& b) % 2 ^ i : Nat) : Int), ((a / 2 ^ i : Nat) : Int), ((b / 2 ^ i : Nat) : Int), 2 ^ i, i)) 32 (fun i hi => ?_) ?_
  · have e : ((((a &&& b) % 2 ^ 0 : Nat) : Int), ((a / 2 ^ 0 : Nat) : Int), ((b / 2 ^ 0 : Nat) : Int), 2 ^ 0, 0) = (((0 : Nat) : Int), ((a : Nat) : Int), ((b : Nat) : Int), 1, 0) := by
      rw [Nat.pow_zero, Nat.mod_one, Nat.div_one, Nat.div_one]
    rw [e] at h
    rw [h, bnd_mk, Nat.mod_eq_of_lt (a32 ha)]
  · have hp : 2 ^ i ≤ 2 ^ 31 := Nat.pow_le_pow_right (by decide) (by omega)
    have hm : (a &&& b) % 2 ^ i < 2 ^ i := Nat.mod_lt _ (Nat.pow_pos (by decide))
    have hs := Nat.mod_pow_succ (b := 2) (k := i) (x := a &&& b)
    have hb1 : (a &&& b) / 2 ^ i % 2 ≤ 1 := by omega
    have hmul : ((a &&& b) / 2 ^ i % 2) * 2 ^ i ≤ 1 * 2 ^ i := Nat.mul_le_mul_right _ hb1
    have pa : (0 : Int) ≤ ((a / 2 ^ i : Nat) : Int) := Int.natCast_nonneg _
    have pb : (0 : Int) ≤ ((b / 2 ^ i : Nat) : Int) := Int.natCast_nonneg _
    unfold F_casemateref13_and_l1
    dsimp only
    have e1 : ((a / 2 ^ i : Nat) : Int) % ((2 : Nat) : Int) * (((b / 2 ^ i : Nat) : Int) % ((2 : Nat) : Int)) = (((a &&& b) / 2 ^ i % 2 : Nat) : Int) := by
      rw [abit, Int.natCast_mul, Int.natCast_emod, Int.natCast_emod]
    have e2 : (((a &&& b) / 2 ^ i % 2 : Nat) : Int) * ((2 ^ i : Nat) : Int) = ((((a &&& b) / 2 ^ i % 2) * 2 ^ i : Nat) : Int) := (Int.natCast_mul _ _).symm
    have e3 : (((a &&& b) % 2 ^ i : Nat) : Int) + ((((a &&& b) / 2 ^ i % 2) * 2 ^ i : Nat) : Int) = (((a &&& b) % 2 ^ (i + 1) : Nat) : Int) := by
      rw [hs, Nat.mul_comm, ← Int.natCast_add]
    have hm2 : (a &&& b) % 2 ^ (i + 1) < 2 ^ (i + 1) := Nat.mod_lt _ (Nat.pow_pos (by decide))
    have hp2 : 2 ^ (i + 1) = 2 ^ i * 2 := Nat.pow_succ ..
    rw [e1, e2, e3, half_next, half_next, show 2 * 2 ^ i = 2 ^ (i + 1) by rw [Nat.pow_succ, Nat.mul_comm], if_pos hi]
    iterate 16 rw [gd_pos (by first | exact pa | exact pb | decide | omega)]
  · unfold F_casemateref13_and_l1
    dsimp only
    rw [if_neg (by decide)]
theorem P_power {n : Nat} (hn : n ≤ 62) : F_casemateref13_power ((n : Nat) : Int) = some ((2 ^ n : Nat) : Int) := by
  unfold F_casemateref13_power
  have h := run_for (f := F_casemateref13_power_l1 ((n : Nat) : Int)) (x := 2 ^ n) (fun i => (2 ^ i, i)) n (fun i hi => ?_) ?_
  · have h : run (F_casemateref13_power_l1 ((n : Nat) : Int)) (1, 0) = some (2 ^ n) := h
    rw [h, bnd_mk]
  · have hp : 2 ^ i ≤ 2 ^ 61 := Nat.pow_le_pow_right (by decide) (by omega)
    unfold F_casemateref13_power_l1
    dsimp only
    rw [if_pos (by omega), gd_pos (by omega), gd_pos (by omega), show 2 * 2 ^ i = 2 ^ (i + 1) by rw [Nat.pow_succ, Nat.mul_comm]]
  · unfold F_casemateref13_power_l1
    dsimp only
    rw [if_neg (by omega)]
theorem P_shr {x n : Nat} (hn : n ≤ 62) : F_casemateref13_shr ((x : Nat) : Int) ((n : Nat) : Int) = some ((x / 2 ^ n : Nat) : Int) := by
  have hp : 0 < 2 ^ n := Nat.pow_pos (by decide)
  unfold F_casemateref13_shr
  rw [P_power hn, bnd_mk, gd_pos (by omega), gd_pos (by omega), ← Int.natCast_ediv]
theorem P_rotr {x m n : Nat} (hx : x < 4294967296) (h : m + n = 32) : F_casemateref13_rotr ((x : Nat) : Int) ((n : Nat) : Int) = some ((ror x n : Nat) : Int) := by
  have hp : 0 < 2 ^ n := Nat.pow_pos (by decide)
  have hr := ror_lt hx h
  have hq : x / 2 ^ n ≤ ror x n := Nat.le_add_right _ _
  have hq2 : x % 2 ^ n * 2 ^ (32 - n) ≤ ror x n := Nat.le_add_left _ _
  have e0 : (((32 : Nat) : Int) - ((n : Nat) : Int)) = ((32 - n : Nat) : Int) := by omega
  have e1 : ((x : Nat) : Int) / ((2 ^ n : Nat) : Int) = ((x / 2 ^ n : Nat) : Int) := (Int.natCast_ediv _ _).symm
  have e2 : ((x : Nat) : Int) % ((2 ^ n : Nat) : Int) * ((2 ^ (32 - n) : Nat) : Int) = ((x % 2 ^ n * 2 ^ (32 - n) : Nat) : Int) := by rw [← Int.natCast_emod, ← Int.natCast_mul]
  have e3 : ((x / 2 ^ n : Nat) : Int) + ((x % 2 ^ n * 2 ^ (32 - n) : Nat) : Int) = ((ror x n : Nat) : Int) := (Int.natCast_add _ _).symm
  unfold F_casemateref13_rotr
  rw [P_power (by omega), bnd_mk, gd_pos (by omega), gd_pos (by omega), bnd_mk, gd_pos (by omega), gd_pos (by omega), gd_pos (by omega), gd_pos (by omega), e0, P_power (by omega), bnd_mk, e1, e2, e3]
  generalize x % 2 ^ n * 2 ^ (32 - n) = A at *
  generalize ror x n = B at *
  rw [gd_pos (by omega), gd_pos (by omega), gd_pos (by omega), gd_pos (by omega)]
theorem P_three {x a b c a' b' c' : Nat} (hx : x < 4294967296) (h1 : a' + a = 32) (h2 : b' + b = 32) (h3 : c' + c = 32) : F_casemateref13_three ((x : Nat) : Int) ((a : Nat) : Int) ((b : Nat) : Int) ((c : Nat) : Int) = some (((ror x a ^^^ ror x b) ^^^ ror x c : Nat) : Int) := by
  have r1 := ror_lt hx h1
  have r2 := ror_lt hx h2
  have r3 := ror_lt hx h3
  unfold F_casemateref13_three
  rw [P_rotr hx h1, bnd_mk, P_rotr hx h2, bnd_mk, P_xor r1 r2, bnd_mk, P_rotr hx h3, bnd_mk, P_xor (x32 r1 r2) r3, bnd_mk]
theorem P_not {x : Nat} (hx : x < 4294967296) : F_casemateref13_not ((x : Nat) : Int) = some ((4294967295 - x : Nat) : Int) := by
  unfold F_casemateref13_not
  rw [gd_pos (by omega), gd_pos (by omega)]
  congr 1
  omega
/-! ### Words -/
theorem P_refword {d : List Nat} (hd : LB 256 d) (hl : d.length = 64) {i : Nat} (hi : i < 16) : run (F_casemateref13_words_l2 d i) (0, 0) = some (w4 d i) := by
  have h0 := hd.get (by decide) (4 * i)
  have h1 := hd.get (by decide) (4 * i + 1)
  have h2 := hd.get (by decide) (4 * i + 2)
  have h3 := hd.get (by decide) (4 * i + 3)
  have st : ∀ n k, k < 4 → n < 16777216 → F_casemateref13_words_l2 d i (n, k) = some (.inl (256 * n + d.getD (4 * i + k) 0, k + 1)) := by
    intro n k hk hn
    have := hd.get (by decide) (4 * i + k)
    unfold F_casemateref13_words_l2
    dsimp only
    rw [if_pos hk, gd_pos (by omega), gd_pos (by omega), gd_pos (by omega), gd_pos (by omega), gd_pos (by omega), gd_pos (by omega)]
  have e4 : w4 d i = 256 * (256 * (256 * (256 * 0 + d.getD (4 * i + 0) 0) + d.getD (4 * i + 1) 0) + d.getD (4 * i + 2) 0) + d.getD (4 * i + 3) 0 := by
    unfold w4
    show _ = 256 * (256 * (256 * (256 * 0 + d.getD (4 * i) 0) + d.getD (4 * i + 1) 0) + d.getD (4 * i + 2) 0) + d.getD (4 * i + 3) 0
    omega
  rw [e4]
  have h0 : d.getD (4 * i + 0) 0 < 256 := h0
  refine run_next (st 0 0 (by decide) (by decide)) (run_next (st _ 1 (by decide) ?_) (run_next (st _ 2 (by decide) ?_) (run_next (st _ 3 (by decide) ?_) (run_exit ?_))))
  · omega
  · omega
  · omega
  · unfold F_casemateref13_words_l2
    dsimp only
    rw [if_neg (by decide)]
theorem P_refwords1 {d : List Nat} (hd : LB 256 d) (hl : d.length = 64) : run (F_casemateref13_words_l1 d) ([], 0) = some (cI (ws d 16)) := by
  refine run_for (f := F_casemateref13_words_l1 d) (fun i => (cI (ws d i), i)) 16 (fun i hi => ?_) ?_
  · unfold F_casemateref13_words_l1
    dsimp only
    rw [if_pos hi, P_refword hd hl hi, bnd_mk, cI_length, ws_length, gd_pos (by omega), bnd_mk, gd_pos (by omega), cI_snoc]
    have e : ws d (i + 1) = ws d i ++ [w4 d i] := by
      show ws d i ++ [wn d (ws d i) i] = _
      unfold wn
      rw [if_pos hi]
    rw [e]
  · unfold F_casemateref13_words_l1
    dsimp only
    rw [if_neg (by decide)]
theorem P_refwords2 {d : List Nat} (hd : LB 256 d) : run (F_casemateref13_words_l3) (cI (ws d 16), 16) = some (cI (ws d 64)) := by
  refine run_from (f := F_casemateref13_words_l3) (fun i => (cI (ws d i), i)) 16 64 (by decide) (fun i h16 hi => ?_) ?_
  · have e15 : Int.toNat (((i : Nat) : Int) - ((15 : Nat) : Int)) = i - 15 := by omega
    have e2 : Int.toNat (((i : Nat) : Int) - ((2 : Nat) : Int)) = i - 2 := by omega
    have e16 : Int.toNat (((i : Nat) : Int) - ((16 : Nat) : Int)) = i - 16 := by omega
    have e7 : Int.toNat (((i : Nat) : Int) - ((7 : Nat) : Int)) = i - 7 := by omega
    have hw := fun j => (ws_lt hd i).get (by decide) j
    unfold F_casemateref13_words_l3
    dsimp only
    rw [if_pos hi, cI_length, ws_length, e15, e2, e16, e7, cI_at, cI_at, cI_at, cI_at]
    have s0 := s0W_lt (hw (i - 15))
    have s1 := s1W_lt (hw (i - 2))
    have h16' := hw (i - 16)
    have h7' := hw (i - 7)
    have r1 := ror_lt (m := 25) (n := 7) (hw (i - 15)) rfl
    have r2 := ror_lt (m := 14) (n := 18) (hw (i - 15)) rfl
    have r3 := ror_lt (m := 15) (n := 17) (hw (i - 2)) rfl
    have r4 := ror_lt (m := 13) (n := 19) (hw (i - 2)) rfl
    rw [gd_pos (by omega), gd_pos (by omega), P_rotr (m := 25) (hw _) rfl, bnd_mk, gd_pos (by omega), gd_pos (by omega), P_rotr (m := 14) (hw _) rfl, bnd_mk, P_xor r1 r2, bnd_mk, gd_pos (by omega), gd_pos (by omega), P_shr (by decide), bnd_mk, P_xor (x32 r1 r2) (d32 (hw _) 3), bnd_mk]
    rw [gd_pos (by omega), gd_pos (by omega), P_rotr (m := 15) (hw _) rfl, bnd_mk, gd_pos (by omega), gd_pos (by omega), P_rotr (m := 13) (hw _) rfl, bnd_mk, P_xor r3 r4, bnd_mk, gd_pos (by omega), gd_pos (by omega), P_shr (by decide), bnd_mk, P_xor (x32 r3 r4) (d32 (hw _) 10), bnd_mk]
    have f0 : (ror ((ws d i).getD (i - 15) 0) 7 ^^^ ror ((ws d i).getD (i - 15) 0) 18) ^^^ ((ws d i).getD (i - 15) 0 / 2 ^ 3) = s0W ((ws d i).getD (i - 15) 0) := rfl
    have f1 : (ror ((ws d i).getD (i - 2) 0) 17 ^^^ ror ((ws d i).getD (i - 2) 0) 19) ^^^ ((ws d i).getD (i - 2) 0 / 2 ^ 10) = s1W ((ws d i).getD (i - 2) 0) := rfl
    rw [f0, f1, ← Int.natCast_add, ← Int.natCast_add, ← Int.natCast_add, ← Int.natCast_emod]
    have fin : ws d (i + 1) = ws d i ++ [((ws d i).getD (i - 16) 0 + s0W ((ws d i).getD (i - 15) 0) + (ws d i).getD (i - 7) 0 + s1W ((ws d i).getD (i - 2) 0)) % 4294967296] := by
      show ws d i ++ [wn d (ws d i) i] = _
      unfold wn
      rw [if_neg (by omega)]
    rw [fin]
    generalize s0W ((ws d i).getD (i - 15) 0) = A at *
    generalize s1W ((ws d i).getD (i - 2) 0) = B at *
    generalize (ws d i).getD (i - 16) 0 = C at *
    generalize (ws d i).getD (i - 7) 0 = D at *
    iterate 14 rw [gd_pos (by omega)]
    rw [cI_snoc]
  · unfold F_casemateref13_words_l3
    dsimp only
    rw [if_neg (by decide)]
theorem P_refwords {d : List Nat} (hd : LB 256 d) (hl : d.length = 64) : F_casemateref13_words d = some (cI (ws d 64)) := by
  unfold F_casemateref13_words
  rw [P_refwords1 hd hl, bnd_mk, P_refwords2 hd, bnd_mk]
/-! ### Rounds -/
theorem chW_lt {a b c : Nat} (ha : a < 4294967296) : chW a b c < 4294967296 := x32 (a32 ha) (a32 (by omega))
theorem maW_lt {a b c : Nat} (ha : a < 4294967296) (hb : b < 4294967296) : maW a b c < 4294967296 := x32 (x32 (a32 ha) (a32 ha)) (a32 hb)
theorem P_refrounds {K l s : List Nat} (hK : LB 4294967296 K) (hKl : K.length = 64) (hl : LB 4294967296 l) (hll : l.length = 64) (hs : LB 4294967296 s) (hsl : s.length = 8) : run (F_casemateref13_Block_l1 (cI K) (cI l)) (cI s, 0) = some (cI (rs K l s 64)) := by
  refine run_for (f := F_casemateref13_Block_l1 (cI K) (cI l)) (fun j => (cI (rs K l s j), j)) 64 (fun j hj => ?_) ?_
  · have hb := fun q => (rs_lt (K := K) (l := l) hs j).get (Nat.zero_lt_succ _) q
    have hk := hK.get (Nat.zero_lt_succ _) j
    have hw := hl.get (Nat.zero_lt_succ _) j
    have r : rs K l s (j + 1) = rnd (rs K l s j) (K.getD j 0) (l.getD j 0) := rfl
    have hlen := rs_len (K := K) (l := l) hsl j
    unfold F_casemateref13_Block_l1
    dsimp only
    rw [if_pos hj, cI_length, hlen, cI_length, cI_length, hKl, hll, r]
    unfold rnd rt1 rt2
    simp only [cI_at]
    have h0 := hb 0
    have h1 := hb 1
    have h2 := hb 2
    have h3 := hb 3
    have h4 := hb 4
    have h5 := hb 5
    have h6 := hb 6
    have h7 := hb 7
    generalize (rs K l s j).getD 0 0 = a0 at *
    generalize (rs K l s j).getD 1 0 = a1 at *
    generalize (rs K l s j).getD 2 0 = a2 at *
    generalize (rs K l s j).getD 3 0 = a3 at *
    generalize (rs K l s j).getD 4 0 = a4 at *
    generalize (rs K l s j).getD 5 0 = a5 at *
    generalize (rs K l s j).getD 6 0 = a6 at *
    generalize (rs K l s j).getD 7 0 = a7 at *
    generalize K.getD j 0 = k at *
    generalize l.getD j 0 = w at *
    rw [gd_pos (by omega), gd_pos (by omega), P_and h4 h5, bnd_mk, gd_pos (by omega), P_not h4, bnd_mk, gd_pos (by omega), P_and (by omega) h6, bnd_mk, P_xor (a32 h4) (a32 (by omega)), bnd_mk]
    rw [gd_pos (by omega), gd_pos (by omega), P_and h0 h1, bnd_mk, gd_pos (by omega), gd_pos (by omega), P_and h0 h2, bnd_mk, P_xor (a32 h0) (a32 h0), bnd_mk, gd_pos (by omega), gd_pos (by omega), P_and h1 h2, bnd_mk, P_xor (x32 (a32 h0) (a32 h0)) (a32 h1), bnd_mk]
    rw [gd_pos (by omega), gd_pos (by omega), P_three (a' := 26) (b' := 21) (c' := 7) h4 rfl rfl rfl, bnd_mk]
    have c1 : (a4 &&& a5) ^^^ ((4294967295 - a4) &&& a6) = chW a4 a5 a6 := rfl
    have c2 : ((a0 &&& a1) ^^^ (a0 &&& a2)) ^^^ (a1 &&& a2) = maW a0 a1 a2 := rfl
    have c3 : (ror a4 6 ^^^ ror a4 11) ^^^ ror a4 25 = e0W a4 := rfl
    have c4 : (ror a0 2 ^^^ ror a0 13) ^^^ ror a0 22 = e1W a0 := rfl
    rw [P_three (a' := 30) (b' := 19) (c' := 10) h0 rfl rfl rfl, c1, c2, c3, c4]
    have g1 := chW_lt (b := a5) (c := a6) h4
    have g2 := maW_lt (c := a2) h0 h1
    have g3 := e0W_lt h4
    have g4 := e1W_lt h0
    generalize chW a4 a5 a6 = C at *
    generalize maW a0 a1 a2 = M at *
    generalize e0W a4 = E at *
    generalize e1W a0 = G at *
    rw [← Int.natCast_add, ← Int.natCast_add, ← Int.natCast_add, ← Int.natCast_add]
    iterate 11 rw [gd_pos (by omega)]
    rw [bnd_mk, ← Int.natCast_add, ← Int.natCast_add, ← Int.natCast_emod, ← Int.natCast_add, ← Int.natCast_emod]
    iterate 18 rw [gd_pos (by omega)]
    rfl
  · unfold F_casemateref13_Block_l1
    dsimp only
    rw [if_neg (by decide)]
theorem P_refsum8 {s R : List Nat} (hs : LB 4294967296 s) (hR : LB 4294967296 R) (hsl : s.length = 8) (hRl : R.length = 8) : run (F_casemateref13_Block_l2 (cI s) (cI R)) ([], 0) = some (cI ((List.range 8).map fun i => (s.getD i 0 + R.getD i 0) % 4294967296)) := by
  refine run_for (f := F_casemateref13_Block_l2 (cI s) (cI R)) (fun m => (cI ((List.range m).map (fun i => (s.getD i 0 + R.getD i 0) % 4294967296)), m)) 8 (fun m hm => ?_) ?_
  · have h1 := hs.get (Nat.zero_lt_succ _) m
    have h2 := hR.get (Nat.zero_lt_succ _) m
    unfold F_casemateref13_Block_l2
    dsimp only
    rw [if_pos hm, cI_length, cI_length, gd_pos (by omega), gd_pos (by omega), cI_at, cI_at, ← Int.natCast_add, ← Int.natCast_emod, cI_length, List.length_map, List.length_range, List.range_succ, List.map_append, cI_append]
    rw [gd_pos (by omega), gd_pos (by omega), gd_pos (by omega), gd_pos (by omega), gd_pos (by omega), gd_pos (by omega)]
    rfl
  · unfold F_casemateref13_Block_l2
    dsimp only
    rw [if_neg (by decide)]
theorem P_refBlock {K s d : List Nat} (hK : LB 4294967296 K) (hKl : K.length = 64) (hs : LB 4294967296 s) (hsl : s.length = 8) (hd : LB 256 d) (hl : d.length = 64) : F_casemateref13_Block (cI K) (cI s) d = some (cI (blockN K s d)) := by
  unfold F_casemateref13_Block
  rw [P_refwords hd hl, bnd_mk, cI_length, gd_pos (by omega), P_refrounds hK hKl (ws_lt hd 64) (ws_length d 64) hs hsl, bnd_mk, P_refsum8 hs (rs_lt hs 64) hsl (rs_len hsl 64), bnd_mk]
  rfl
end Go.Proofs.Ytddphjmcoolinaa
