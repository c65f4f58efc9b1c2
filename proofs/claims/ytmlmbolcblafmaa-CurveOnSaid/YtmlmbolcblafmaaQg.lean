/- What the plain functions of layer 16 tell: bytes and words, inverses, roots. -/
import Derived.Test.YtmlmbolcblafmaaQf
set_option linter.unusedVariables false
set_option linter.unusedSimpArgs false
set_option maxRecDepth 10000
namespace Go.Proofs.Ytmlmbolcblafmaa
/-! ### bytes to words -/
/-- the upper k bytes of a word -/
def rd (l : List Nat) (i k : Nat) : Nat := nv 256 ((l.drop (8 * i + (8 - k))).take k)
theorem rd_lt {l : List Nat} (h : LB 256 l) (i k : Nat) : rd l i k < 256 ^ k := by
  unfold rd
  exact nv_bound ((h.drop _).take _) (by rw [List.length_take]; omega)
theorem rd_step {l : List Nat} {i k : Nat} (hl : l.length = 32) (hi : i < 4) (hk : k < 8) : rd l i (k + 1) = l.getD (8 * i + (7 - k)) 0 + 256 * rd l i k := by
  unfold rd
  rw [show 8 - (k + 1) = 7 - k by omega, drop_cons (i := 8 * i + (7 - k)) (by omega), show 8 * i + (7 - k) + 1 = 8 * i + (8 - k) by omega]
  rfl
theorem shl_or {x b : Nat} (hx : x < 72057594037927936) (hb : b < 256) : x * 2 ^ 8 % 18446744073709551616 ||| b = b + 256 * x := by
  rw [Nat.mod_eq_of_lt (by omega), ← Nat.shiftLeft_eq, ← Nat.shiftLeft_add_eq_or_of_lt (show b < 2 ^ 8 from hb), Nat.shiftLeft_eq]
  omega
theorem P_read {n : Nat} (hn : n < 115792089237316195423570985008687907853269984665640564039457584007913129639936) : F_field_read (b32 n) = some (w4 n) := by
  unfold F_field_read
  have hb := b32_by n
  have hl := b32_len n
  have hnv : nv 256 (b32 n) = n := nv_b32 (by rw [show (256 : Nat) ^ 32 = 115792089237316195423570985008687907853269984665640564039457584007913129639936 by decide +kernel]; exact hn)
  generalize b32 n = l at *
  have h := run_for (f := F_field_read_l1 l) (x := (List.range 4).map (fun i => rd l i 8)) (fun i => (i, (List.range i).map (fun i => rd l i 8) ++ List.replicate (4 - i) 0)) 4 (fun i hi => ?_) ?_
  · have e : ((0 : Nat), (List.range 0).map (fun i => rd l i 8) ++ List.replicate (4 - 0) 0) = (0, List.replicate 4 0) := rfl
    rw [e] at h
    rw [h, bnd_mk]
    congr 1
    refine w4_of (by simp) ?_ ?_
    · intro x hx
      obtain ⟨i, _, rfl⟩ := List.mem_map.1 hx
      exact rd_lt hb i 8
    · have key : ∀ k, k ≤ 4 → nv 18446744073709551616 ((List.range k).map (fun i => rd l i 8)) = nv 256 (l.take (8 * k)) := by
        intro k
        induction k with
        | zero => intro _; rfl
        | succ k ih =>
          intro hk
          rw [List.range_succ, List.map_append, nv_append, ih (by omega)]
          have h2 := nv_split 256 (l.take (8 * (k + 1))) (8 * k) (by rw [List.length_take]; omega)
          rw [List.take_take, Nat.min_eq_left (by omega), List.drop_take] at h2
          rw [h2, show 8 * (k + 1) - 8 * k = 8 by omega]
          simp only [List.length_map, List.length_range, List.map_cons, List.map_nil, nv]
          rw [Nat.mul_zero, Nat.add_zero, bp]
          rfl
      rw [key 4 (by decide), List.take_of_length_le (by omega), hnv]
  · unfold F_field_read_l1
    dsimp only
    have hZ0 : ((List.range i).map (fun i => rd l i 8) ++ List.replicate (4 - i) 0).getD i 0 = 0 := by
      have h1 : ((List.range i).map (fun i => rd l i 8)).length = i := by simp
      rw [List.getD_eq_getElem?_getD, List.getElem?_append_right (by omega), h1, Nat.sub_self, ← List.getD_eq_getElem?_getD, rep_getD]
    have hZl : ((List.range i).map (fun i => rd l i 8) ++ List.replicate (4 - i) 0).length = 4 := by simp; omega
    have hfill := fillg_step (fun i => rd l i 8) 0 (i := i) (m := 4) hi
    generalize (List.range i).map (fun i => rd l i 8) ++ List.replicate (4 - i) 0 = Z at *
    have h2 := run_for (f := F_field_read_l2 l i) (x := Z.set i (rd l i 8)) (fun k => ((7 : Int) - (k : Int), Z.set i (rd l i k))) 8 (fun k hk => ?_) ?_
    · have e : (((7 : Int) - ((0 : Nat) : Int)), Z.set i (rd l i 0)) = (((7 : Nat) : Int), Z) := by
        have : Z.set i (rd l i 0) = Z := by
          have e0 : rd l i 0 = Z.getD i 0 := by rw [hZ0]; rfl
          rw [e0, List.getD_eq_getElem?_getD, List.getElem?_eq_getElem (by omega)]
          exact List.set_getElem_self _
        rw [this]; rfl
      rw [e] at h2
      rw [if_pos hi, h2, bnd_mk, gd_pos (by omega), hfill]
    · unfold F_field_read_l2
      dsimp only
      have e1 : Int.toNat ((((8 * i : Nat)) : Int) + ((7 : Int) - (k : Int))) = 8 * i + (7 - k) := by omega
      have hg : (Z.set i (rd l i k)).getD i 0 = rd l i k := by rw [getD_set _ _ _ _ (by omega), if_pos rfl]
      have hlt : rd l i k < 72057594037927936 := Nat.lt_of_lt_of_le (rd_lt hb i k) (Nat.pow_le_pow_right (n := 256) (by decide) (show k ≤ 7 by omega))
      rw [if_pos (by omega), gd_pos hi, gd_pos (by omega), gd_pos (by omega), gd_pos (by omega), gd_pos (by omega), gd_pos (by omega), gd_pos hi, gd_pos (by omega), gd_pos (by omega), e1, hg, shl_or hlt (hb.get (by decide) _), ← rd_step hl hi hk, List.set_set]
      rw [show (7 : Int) - (k : Int) - ((1 : Nat) : Int) = (7 : Int) - ((k + 1 : Nat) : Int) by omega]
    · unfold F_field_read_l2
      dsimp only
      rw [if_neg (by omega)]
  · unfold F_field_read_l1
    dsimp only
    rw [if_neg (by decide)]
    rfl
/-! ### words to bytes -/
theorem byte_of {n i r : Nat} (hr : r < 8) : n / 18446744073709551616 ^ i % 18446744073709551616 / 2 ^ (8 * r) % 256 = n / 256 ^ (8 * i + r) % 256 := by
  rw [bp, Nat.pow_add, ← Nat.div_div_eq_div_mul]
  generalize n / 256 ^ (8 * i) = a
  have e : 18446744073709551616 = 256 ^ r * 256 ^ (8 - r) := by rw [← Nat.pow_add, show r + (8 - r) = 8 by omega]
  rw [show (2 : Nat) ^ (8 * r) = 256 ^ r by rw [Nat.pow_mul], e, Nat.mod_mul_right_div_self]
  obtain ⟨d, hd⟩ : ∃ d, 8 - r = d + 1 := ⟨7 - r, by omega⟩
  rw [hd, Nat.pow_succ]
  exact Nat.mod_mul_left_mod _ _ _
theorem P_bytes {n : Nat} (hn : n < 115792089237316195423570985008687907853269984665640564039457584007913129639936) : F_field_el_bytes (w4 n) = some (b32 n) := by
  unfold F_field_el_bytes
  have hfin : (List.range 32).map (fun j => n / 256 ^ j % 256) = b32 n := by
    apply List.ext_getElem
    · rw [b32_len]; simp
    · intro j h1 h2
      rw [List.getElem_map, List.getElem_range]
      have h3 := leb_get (b := 256) 32 n j (by rw [b32_len] at h2; exact h2)
      rw [List.getD_eq_getElem?_getD, List.getElem?_eq_getElem h2] at h3
      exact h3.symm
  have h := run_for (f := F_field_el_bytes_l1 (w4 n)) (x := (List.range 32).map (fun j => n / 256 ^ j % 256)) (fun i => (i, (List.range (8 * i)).map (fun j => n / 256 ^ j % 256) ++ List.replicate (32 - 8 * i) 0)) 4 (fun i hi => ?_) ?_
  · have e : ((0 : Nat), (List.range (8 * 0)).map (fun j => n / 256 ^ j % 256) ++ List.replicate (32 - 8 * 0) 0) = (0, List.replicate 32 0) := rfl
    rw [e] at h
    rw [h, bnd_mk, hfin]
  · unfold F_field_el_bytes_l1
    dsimp only
    have h2 := run_for (f := F_field_el_bytes_l2 (w4 n) i) (x := (List.range (8 * (i + 1))).map (fun j => n / 256 ^ j % 256) ++ List.replicate (32 - 8 * (i + 1)) 0) (fun k => (k, (List.range (8 * i + k)).map (fun j => n / 256 ^ j % 256) ++ List.replicate (32 - (8 * i + k)) 0)) 8 (fun k hk => ?_) ?_
    · rw [Nat.add_zero] at h2
      rw [if_pos hi, gd_pos hi, h2, bnd_mk, gd_pos (by omega)]
    · unfold F_field_el_bytes_l2
      dsimp only
      rw [if_pos hk, gd_pos (by omega), gd_pos (by omega), gd_pos (by omega), gd_pos (by omega), gd_pos (by omega), leb_get 4 n i hi, byte_of hk]
      rw [fillg_step (fun j => n / 256 ^ j % 256) 0 (i := 8 * i + k) (m := 32) (by omega)]
      rfl
    · unfold F_field_el_bytes_l2
      dsimp only
      rw [if_neg (by decide)]
      rfl
  · unfold F_field_el_bytes_l1
    dsimp only
    rw [if_neg (by decide)]
    rfl
theorem P_FIs {n : Nat} (hn : n < 115792089237316195423570985008687907853269984665640564039457584007913129639936) : F_field_Is (b32 n) = some (decide (n < pp)) := by
  unfold F_field_Is
  rw [P_read hn, bnd_mk, P_prime, bnd_mk, P_less hn pp_q4, bnd_mk]
  dsimp only
  by_cases q : pp ≤ n
  · rw [decide_eq_true q, decide_eq_false (by omega : ¬ n < pp)]; rfl
  · rw [decide_eq_false q, decide_eq_true (by omega : n < pp)]; rfl
theorem w4_0 : List.replicate 4 0 = w4 0 := rfl
theorem P_two {a b : Nat} (ha : a < 115792089237316195423570985008687907853269984665640564039457584007913129639936) (hb : b < 115792089237316195423570985008687907853269984665640564039457584007913129639936) : F_field_two (b32 a) (b32 b) = some (if a < pp ∧ b < pp then (w4 a, w4 b, 0) else (w4 0, w4 0, 1)) := by
  unfold F_field_two
  rw [P_FIs ha, bnd_mk]
  by_cases q : a < pp
  · rw [decide_eq_true q, if_pos rfl, P_FIs hb, bnd_mk, bnd_mk]
    by_cases q2 : b < pp
    · rw [decide_eq_true q2, if_neg (by decide), P_read ha, bnd_mk, P_read hb, bnd_mk, if_pos ⟨q, q2⟩]; rfl
    · rw [decide_eq_false q2, if_pos (by decide), if_neg (fun h => q2 h.2)]; rfl
  · rw [decide_eq_false q, if_neg (by decide), bnd_mk, if_pos rfl, if_neg (fun h => q h.1)]; rfl
theorem md_lt (n : Nat) : n % pp < 115792089237316195423570985008687907853269984665640564039457584007913129639936 := Nat.lt_trans (Nat.mod_lt _ pp_pos) pp_q4
theorem P_FAdd {a b : Nat} (ha : a < 115792089237316195423570985008687907853269984665640564039457584007913129639936) (hb : b < 115792089237316195423570985008687907853269984665640564039457584007913129639936) : F_field_Add (b32 a) (b32 b) = some (if a < pp ∧ b < pp then (b32 ((a + b) % pp), 0) else (b32 0, 1)) := by
  unfold F_field_Add
  rw [P_two ha hb, bnd_mk]
  by_cases q : a < pp ∧ b < pp
  · rw [if_pos q, if_pos q]; dsimp only; rw [P_add ha hb, bnd_mk, P_bytes (md_lt _), bnd_mk]
  · rw [if_neg q, if_neg q]; dsimp only; rw [P_add (by decide) (by decide), bnd_mk, P_bytes (md_lt _), bnd_mk, show (0 + 0) % pp = 0 by decide]
theorem P_FSub {a b : Nat} (ha : a < 115792089237316195423570985008687907853269984665640564039457584007913129639936) (hb : b < 115792089237316195423570985008687907853269984665640564039457584007913129639936) : F_field_Sub (b32 a) (b32 b) = some (if a < pp ∧ b < pp then (b32 ((a + (pp - b)) % pp), 0) else (b32 0, 1)) := by
  unfold F_field_Sub
  rw [P_two ha hb, bnd_mk]
  by_cases q : a < pp ∧ b < pp
  · rw [if_pos q, if_pos q]; dsimp only; rw [P_neg (by omega), bnd_mk, P_add ha (md_lt _), bnd_mk, P_bytes (md_lt _), bnd_mk, Nat.add_mod_mod]
  · rw [if_neg q, if_neg q]; dsimp only; rw [P_neg (Nat.zero_le _), bnd_mk, P_add (by decide) (md_lt _), bnd_mk, P_bytes (md_lt _), bnd_mk]
    rw [Nat.sub_zero, Nat.mod_self]
    rfl
theorem P_FMul {a b : Nat} (ha : a < 115792089237316195423570985008687907853269984665640564039457584007913129639936) (hb : b < 115792089237316195423570985008687907853269984665640564039457584007913129639936) : F_field_Mul (b32 a) (b32 b) = some (if a < pp ∧ b < pp then (b32 (a * b % pp), 0) else (b32 0, 1)) := by
  unfold F_field_Mul
  rw [P_two ha hb, bnd_mk]
  by_cases q : a < pp ∧ b < pp
  · rw [if_pos q, if_pos q]; dsimp only; rw [P_mul ha hb, bnd_mk, P_bytes (md_lt _), bnd_mk]
  · rw [if_neg q, if_neg q]; dsimp only; rw [P_mul (by decide) (by decide), bnd_mk, P_bytes (md_lt _), bnd_mk, show (0 * 0) % pp = 0 by decide]
/-! ### powers -/
def E1 : Nat := 2 ^ 252 - 2
def E2 : Nat := 2 ^ 253 - 5
def EI : Nat := pp - 2
/-- the exponent that some bits tell, the highest first -/
def eR (bit : Nat → Bool) : Nat → Nat
  | 0 => 0
  | k + 1 => 2 * eR bit k + (bit k).toNat
theorem pw2 (a e : Nat) : (a ^ e % pp) * (a ^ e % pp) % pp = a ^ (2 * e) % pp := by rw [← Nat.mul_mod, ← Nat.pow_add]; congr 2; omega
theorem pw21 (a e : Nat) : (a ^ e % pp) * a % pp = a ^ (e + 1) % pp := by rw [Nat.mod_mul_mod, Nat.pow_succ]
theorem w4_1 : ((List.replicate 4 0).set 0 1) = w4 1 := by decide
theorem w4_2 : ((List.replicate 4 0).set 0 2) = w4 2 := by decide
theorem one_pow (x : Nat) : (1 : Nat) = x ^ 0 % pp := by rw [Nat.pow_zero, Nat.mod_eq_of_lt (by decide +kernel)]
theorem pwm_lt {k x e : Nat} (he : e < 2 ^ k) : pwF pp k x e < 115792089237316195423570985008687907853269984665640564039457584007913129639936 := by rw [pwF_eq _ _ _ _ he]; exact md_lt _
theorem e1_lt (x : Nat) : pwF pp 252 x E1 < 115792089237316195423570985008687907853269984665640564039457584007913129639936 := pwm_lt (by decide +kernel)
theorem e2_lt (x : Nat) : pwF pp 253 x E2 < 115792089237316195423570985008687907853269984665640564039457584007913129639936 := pwm_lt (by decide +kernel)
theorem ei_lt (x : Nat) : pwF pp 255 x EI < 115792089237316195423570985008687907853269984665640564039457584007913129639936 := pwm_lt (by decide +kernel)
theorem e1_p (x : Nat) : pwF pp 252 x E1 < pp := by rw [pwF_eq _ _ _ _ (by decide +kernel)]; exact Nat.mod_lt _ pp_pos
theorem P_root1 {x : Nat} (hx : x < 115792089237316195423570985008687907853269984665640564039457584007913129639936) : run (F_field_Root_l1 (w4 x)) (((251 : Nat) : Int), ((List.replicate 4 0).set 0 1)) = some (w4 (pwF pp 252 x E1)) := by
  have h := run_for (f := F_field_Root_l1 (w4 x)) (x := w4 (x ^ eR (fun k => decide (k < 251)) 252 % pp)) (fun k => ((251 : Int) - (k : Int), w4 (x ^ eR (fun k => decide (k < 251)) k % pp))) 252 (fun k hk => ?_) ?_
  · have e : (((251 : Int) - ((0 : Nat) : Int)), w4 (x ^ eR (fun k => decide (k < 251)) 0 % pp)) = (((251 : Nat) : Int), ((List.replicate 4 0).set 0 1)) := by
      rw [w4_1, show eR (fun k => decide (k < 251)) 0 = 0 from rfl, ← one_pow]; rfl
    rw [e] at h
    rw [h, show eR (fun k => decide (k < 251)) 252 = E1 by decide +kernel, ← pwF_eq pp 252 x E1 (by decide +kernel)]
  · unfold F_field_Root_l1
    dsimp only
    rw [if_pos (by omega), P_mul (md_lt _) (md_lt _), bnd_mk, pw2]
    have hr : eR (fun k => decide (k < 251)) (k + 1) = 2 * eR (fun k => decide (k < 251)) k + (decide (k < 251)).toNat := rfl
    by_cases q : k < 251
    · rw [if_pos (by omega), P_mul (md_lt _) hx, bnd_mk, pw21, gd_pos (by omega), gd_pos (by omega), hr, decide_eq_true q]
      congr 3
      omega
    · rw [if_neg (by omega), gd_pos (by omega), gd_pos (by omega), hr, decide_eq_false q]
      congr 3
      omega
  · unfold F_field_Root_l1
    dsimp only
    rw [if_neg (by omega)]
theorem P_root2 : run F_field_Root_l2 (((252 : Nat) : Int), ((List.replicate 4 0).set 0 1)) = some (w4 (pwF pp 253 2 E2)) := by
  have h := run_for (f := F_field_Root_l2) (x := w4 (2 ^ eR (fun k => !decide (k = 250)) 253 % pp)) (fun k => ((252 : Int) - (k : Int), w4 (2 ^ eR (fun k => !decide (k = 250)) k % pp))) 253 (fun k hk => ?_) ?_
  · have e : (((252 : Int) - ((0 : Nat) : Int)), w4 (2 ^ eR (fun k => !decide (k = 250)) 0 % pp)) = (((252 : Nat) : Int), ((List.replicate 4 0).set 0 1)) := by
      rw [w4_1, show eR (fun k => !decide (k = 250)) 0 = 0 from rfl, ← one_pow]; rfl
    rw [e] at h
    rw [h, show eR (fun k => !decide (k = 250)) 253 = E2 by decide +kernel, ← pwF_eq pp 253 2 E2 (by decide +kernel)]
  · unfold F_field_Root_l2
    dsimp only
    rw [if_pos (by omega), P_mul (md_lt _) (md_lt _), bnd_mk, pw2]
    have hr : eR (fun k => !decide (k = 250)) (k + 1) = 2 * eR (fun k => !decide (k = 250)) k + (!decide (k = 250)).toNat := rfl
    by_cases q : k = 250
    · rw [if_pos (by omega), gd_pos (by omega), gd_pos (by omega), hr, decide_eq_true q]
      congr 3
      omega
    · rw [if_neg (by omega), w4_2, P_mul (md_lt _) (by decide), bnd_mk, pw21, gd_pos (by omega), gd_pos (by omega), hr, decide_eq_false q]
      congr 3
      omega
  · unfold F_field_Root_l2
    dsimp only
    rw [if_neg (by omega)]
/-- the bits of p - 2 -/
def invB (z : Nat) : Bool := decide (((w4 (pp - 2)).getD (z / 64) 0 / 2 ^ (z % 64)) &&& 1 = 1)
theorem P_inv1 {x : Nat} (hx : x < 115792089237316195423570985008687907853269984665640564039457584007913129639936) : run (F_field_Inv_l1 (w4 (pp - 2)) (w4 x)) (((254 : Nat) : Int), ((List.replicate 4 0).set 0 1)) = some (w4 (pwF pp 255 x EI)) := by
  have h := run_for (f := F_field_Inv_l1 (w4 (pp - 2)) (w4 x)) (x := w4 (x ^ eR (fun k => invB (254 - k)) 255 % pp)) (fun k => ((254 : Int) - (k : Int), w4 (x ^ eR (fun k => invB (254 - k)) k % pp))) 255 (fun k hk => ?_) ?_
  · have e : (((254 : Int) - ((0 : Nat) : Int)), w4 (x ^ eR (fun k => invB (254 - k)) 0 % pp)) = (((254 : Nat) : Int), ((List.replicate 4 0).set 0 1)) := by
      rw [w4_1, show eR (fun k => invB (254 - k)) 0 = 0 from rfl, ← one_pow]; rfl
    rw [e] at h
    rw [h, show eR (fun k => invB (254 - k)) 255 = EI by decide +kernel, ← pwF_eq pp 255 x EI (by decide +kernel)]
  · unfold F_field_Inv_l1
    dsimp only
    have e1 : Int.toNat (((254 : Int) - (k : Int)) / ((64 : Nat) : Int)) = (254 - k) / 64 := by omega
    have e2 : Int.toNat (((254 : Int) - (k : Int)) % ((64 : Nat) : Int)) = (254 - k) % 64 := by omega
    rw [if_pos (by omega), P_mul (md_lt _) (md_lt _), bnd_mk, pw2, gd_pos (by omega), gd_pos (by omega), gd_pos (by omega), gd_pos (by omega), gd_pos (by omega), gd_pos (by omega), gd_pos (by omega), e1, e2]
    have hr : eR (fun k => invB (254 - k)) (k + 1) = 2 * eR (fun k => invB (254 - k)) k + (invB (254 - k)).toNat := rfl
    by_cases q : ((w4 (pp - 2)).getD ((254 - k) / 64) 0 / 2 ^ ((254 - k) % 64)) &&& 1 = 1
    · rw [if_pos q, P_mul (md_lt _) hx, bnd_mk, pw21, gd_pos (by omega), gd_pos (by omega), hr, show invB (254 - k) = true from decide_eq_true q]
      congr 3
      omega
    · rw [if_neg q, gd_pos (by omega), gd_pos (by omega), hr, show invB (254 - k) = false from decide_eq_false q]
      congr 3
      omega
  · unfold F_field_Inv_l1
    dsimp only
    rw [if_neg (by omega)]
theorem b32_0 : List.replicate 32 0 = b32 0 := by decide
theorem q32 : (256 : Nat) ^ 32 = 115792089237316195423570985008687907853269984665640564039457584007913129639936 := by decide +kernel
theorem b32_eq {a b : Nat} (ha : a < 115792089237316195423570985008687907853269984665640564039457584007913129639936) (hb : b < 115792089237316195423570985008687907853269984665640564039457584007913129639936) : b32 a = b32 b ↔ a = b := leb_eq (by decide) (by rw [q32]; exact ha) (by rw [q32]; exact hb)
theorem w4_eq {a b : Nat} (ha : a < 115792089237316195423570985008687907853269984665640564039457584007913129639936) (hb : b < 115792089237316195423570985008687907853269984665640564039457584007913129639936) : w4 a = w4 b ↔ a = b := leb_eq (by decide) (by rw [q4]; exact ha) (by rw [q4]; exact hb)
theorem P_FInv {a : Nat} (ha : a < 115792089237316195423570985008687907853269984665640564039457584007913129639936) : F_field_Inv (b32 a) = some (if a < pp then if a = 0 then (b32 0, 20) else (b32 (pwF pp 255 a EI), 0) else (b32 0, 1)) := by
  unfold F_field_Inv
  rw [P_FIs ha, bnd_mk]
  by_cases q : a < pp
  · rw [decide_eq_true q, if_pos rfl, if_pos q, b32_0]
    by_cases q2 : a = 0
    · subst q2; rw [if_pos rfl, if_pos rfl]; rfl
    · rw [if_neg (fun h => q2 ((b32_eq ha (by decide)).1 h)), if_neg q2, P_prime, bnd_mk, w4_2, P_less pp_q4 (by decide), bnd_mk]
      dsimp only
      rw [if_pos (by decide), P_read ha, bnd_mk, P_inv1 ha, bnd_mk, P_bytes (ei_lt _), bnd_mk]; rfl
  · rw [decide_eq_false q, if_neg (by decide), if_neg q, b32_0]; rfl
/-- the root that layer 16 finds -/
def rootN (n : Nat) : Nat × Bool :=
  let r0 := pwF pp 252 n E1
  let r1 := if r0 * r0 % pp = n then r0 else r0 * (pwF pp 253 2 E2) % pp
  if r1 * r1 % pp = n then (if r1 % 2 = 1 then (pp - r1) % pp else r1, true) else (0, false)
theorem P_FRoot {a : Nat} (ha : a < 115792089237316195423570985008687907853269984665640564039457584007913129639936) : F_field_Root (b32 a) = some (if a < pp then (b32 (rootN a).1, (rootN a).2, 0) else (b32 0, false, 1)) := by
  unfold F_field_Root
  rw [P_FIs ha, bnd_mk]
  by_cases q : a < pp
  · rw [decide_eq_true q, if_pos rfl, if_pos q, P_read ha, bnd_mk, P_root1 ha, bnd_mk, P_mul (e1_lt _) (e1_lt _), bnd_mk]
    have e : (if w4 (pwF pp 252 a E1 * (pwF pp 252 a E1) % pp) = w4 a then (some (w4 (pwF pp 252 a E1))) else (bnd (run (F_field_Root_l2) (((252 : Nat) : Int), ((List.replicate 4 0).set 0 1)) : Option (List Nat)) (fun (l11 : List Nat) => bnd (F_field_mul (w4 (pwF pp 252 a E1)) l11) (fun (l16 : List Nat) => some l16))))
        = some (w4 (if pwF pp 252 a E1 * (pwF pp 252 a E1) % pp = a then pwF pp 252 a E1 else pwF pp 252 a E1 * (pwF pp 253 2 E2) % pp)) := by
      by_cases q2 : pwF pp 252 a E1 * (pwF pp 252 a E1) % pp = a
      · rw [if_pos (congrArg w4 q2), if_pos q2]
      · rw [if_neg (fun h => q2 ((w4_eq (md_lt _) ha).1 h)), if_neg q2, P_root2, bnd_mk, P_mul (e1_lt _) (e2_lt _), bnd_mk]
    rw [e, bnd_mk]
    unfold rootN
    dsimp only
    generalize hr : (if pwF pp 252 a E1 * (pwF pp 252 a E1) % pp = a then pwF pp 252 a E1 else pwF pp 252 a E1 * (pwF pp 253 2 E2) % pp) = r
    have hlt : r < pp := by
      rw [← hr]
      split
      · exact e1_p _
      · exact Nat.mod_lt _ pp_pos
    have hq : r < 115792089237316195423570985008687907853269984665640564039457584007913129639936 := Nat.lt_trans hlt pp_q4
    rw [P_mul hq hq, bnd_mk]
    by_cases q3 : r * r % pp = a
    · rw [if_pos (congrArg w4 q3), if_pos q3, leb_get 4 r 0 (by decide), Nat.pow_zero, Nat.div_one, Nat.and_one_is_mod, show r % 18446744073709551616 % 2 = r % 2 by omega]
      by_cases q4 : r % 2 = 1
      · rw [if_pos q4, if_pos q4, P_neg (by omega), bnd_mk, bnd_mk, P_bytes (md_lt _), bnd_mk]; rfl
      · rw [if_neg q4, if_neg q4, bnd_mk, P_bytes hq, bnd_mk]; rfl
    · rw [if_neg (fun h => q3 ((w4_eq (md_lt _) ha).1 h)), if_neg q3, b32_0]; rfl
  · rw [decide_eq_false q, if_neg (by decide), if_neg q, b32_0]; rfl
end Go.Proofs.Ytmlmbolcblafmaa
