/- What the plain functions of the reference of layer 16 tell: products by digits of 16 bits. -/
import Derived.Test.YtmlmbolcblafmaaQd
set_option linter.unusedVariables false
set_option linter.unusedSimpArgs false
set_option maxRecDepth 10000
namespace Go.Proofs.Ytmlmbolcblafmaa
/-- numbers as integers -/
def zl (xs : List Nat) : List Int := xs.map (fun n : Nat => (n : Int))
theorem zl_get (xs : List Nat) (i : Nat) : (zl xs).getD i 0 = ((xs.getD i 0 : Nat) : Int) := by
  unfold zl
  rw [List.getD_eq_getElem?_getD, List.getD_eq_getElem?_getD, List.getElem?_map]
  cases xs[i]? <;> rfl
theorem zl_set (xs : List Nat) (i v : Nat) : (zl xs).set i (v : Int) = zl (xs.set i v) := by unfold zl; rw [List.map_set]
theorem zl_rep (n : Nat) : List.replicate n (0 : Int) = zl (List.replicate n 0) := by unfold zl; rw [List.map_replicate]; rfl
theorem zl_set0 (xs : List Nat) (i : Nat) : (zl xs).set i ((0 : Nat) : Int) = zl (xs.set i 0) := zl_set xs i 0
/-- two bytes a digit -/
def dg (l : List Nat) (i : Nat) : Nat := l.getD (2 * i) 0 + 256 * l.getD (2 * i + 1) 0
def dgs (l : List Nat) (k : Nat) : List Nat := (List.range k).map (dg l)
theorem dg_lt {l : List Nat} (h : LB 256 l) (i : Nat) : dg l i < 65536 := by
  have h1 := h.get (by decide) (2 * i)
  have h2 := h.get (by decide) (2 * i + 1)
  unfold dg; omega
theorem dgs_lt {l : List Nat} (h : LB 256 l) (k : Nat) : LB 65536 (dgs l k) := fun x hx => by
  obtain ⟨i, _, rfl⟩ := List.mem_map.1 hx
  exact dg_lt h i
theorem dgs_len (l : List Nat) (k : Nat) : (dgs l k).length = k := by unfold dgs; simp
theorem dgs_nv (l : List Nat) : ∀ k, nv 65536 (dgs l k) = nv 256 (l.take (2 * k))
  | 0 => rfl
  | k + 1 => by
    have e : dgs l (k + 1) = dgs l k ++ [dg l k] := by unfold dgs; rw [List.range_succ, List.map_append]; rfl
    rw [e, nv_append, dgs_len, dgs_nv l k, show 2 * (k + 1) = (2 * k + 1) + 1 by omega, nv_at', nv_at']
    show _ + 65536 ^ k * (dg l k + 65536 * 0) = _
    rw [Nat.mul_zero, Nat.add_zero, show (65536 : Nat) ^ k = 256 ^ (2 * k) by rw [Nat.pow_mul], Nat.pow_succ]
    unfold dg
    rw [Nat.mul_add, Nat.mul_assoc, Nat.add_assoc]
theorem fillg_step {α : Type} (f : Nat → α) (z : α) {i m : Nat} (hm : i < m) : ((List.range i).map f ++ List.replicate (m - i) z).set i (f i) = (List.range (i + 1)).map f ++ List.replicate (m - (i + 1)) z := by
  have h1 : ((List.range i).map f).length = i := by simp
  rw [List.set_append_right _ _ (by omega), h1, Nat.sub_self]
  obtain ⟨d, hd⟩ : ∃ d, m - i = d + 1 := ⟨m - i - 1, by omega⟩
  rw [hd, show m - (i + 1) = d by omega, List.replicate_succ, List.set_cons_zero, List.range_succ, List.map_append, List.append_assoc]
  rfl
theorem P_digits {l : List Nat} (hb : LB 256 l) : F_casemateref16_digits l = some (zl (dgs l 16)) := by
  unfold F_casemateref16_digits
  have h := run_for (f := F_casemateref16_digits_l1 l) (x := zl (dgs l 16)) (fun i => (i, (List.range i).map (fun i => ((dg l i : Nat) : Int)) ++ List.replicate (16 - i) (0 : Int))) 16 (fun i hi => ?_) ?_
  · have e : ((0 : Nat), (List.range 0).map (fun i => ((dg l i : Nat) : Int)) ++ List.replicate (16 - 0) (0 : Int)) = (0, List.replicate 16 0) := rfl
    rw [e] at h
    rw [h, bnd_mk]
  · unfold F_casemateref16_digits_l1
    dsimp only
    have h1 := hb.get (by decide) (2 * i)
    have h2 := hb.get (by decide) (2 * i + 1)
    rw [if_pos hi, gd_pos (by omega), gd_pos (by omega), gd_pos (by omega), gd_pos (by omega), gd_pos (by omega), gd_pos (by omega), gd_pos (by omega), gd_pos (by omega), gd_pos (by omega)]
    have e := fillg_step (fun i => ((dg l i : Nat) : Int)) (0 : Int) (i := i) (m := 16) hi
    rw [← e]
    rfl
  · unfold F_casemateref16_digits_l1
    dsimp only
    rw [if_neg (by omega)]
    congr 2
/-! ### all products -/
theorem sum_step {b : Nat} {xs ys z : List Nat} {i k : Nat} (hk : i + k < z.length) (h : nv b z = nv b (xs.take i) * nv b ys + b ^ i * (xs.getD i 0 * nv b (ys.take k))) :
    nv b (z.set (i + k) (z.getD (i + k) 0 + xs.getD i 0 * ys.getD k 0)) = nv b (xs.take i) * nv b ys + b ^ i * (xs.getD i 0 * nv b (ys.take (k + 1))) := by
  have hs := nv_set b z (i + k) (z.getD (i + k) 0 + xs.getD i 0 * ys.getD k 0) hk
  rw [nv_at' b ys k, Nat.mul_add, Nat.mul_add]
  rw [Nat.mul_add, Nat.pow_add] at hs
  have e : b ^ i * (xs.getD i 0 * (b ^ k * ys.getD k 0)) = b ^ i * b ^ k * (xs.getD i 0 * ys.getD k 0) := by
    rw [Nat.mul_assoc, Nat.mul_left_comm (xs.getD i 0)]
  rw [e]
  omega
theorem LB.mono {m k : Nat} {xs : List Nat} (h : LB m xs) (hk : m ≤ k) : LB k xs := fun x hx => Nat.lt_of_lt_of_le (h x hx) hk
theorem P_wide_in {xs ys z : List Nat} {i : Nat} (hX : LB 65536 xs) (hY : LB 65536 ys) (hyl : ys.length = 16) (hi : i < 16) (hz : z.length = 32) (hZ : LB (16 * i * 4294967296 + 1) z) (hv : nv 65536 z = nv 65536 (xs.take i) * nv 65536 ys) :
    ∃ w, run (F_casemateref16_Mul_l2 (zl xs) (zl ys) i) (0, zl z) = some (zl w) ∧ w.length = 32 ∧ LB (16 * (i + 1) * 4294967296 + 1) w ∧ nv 65536 w = nv 65536 (xs.take (i + 1)) * nv 65536 ys := by
  have key := run_inv (f := F_casemateref16_Mul_l2 (zl xs) (zl ys) i) (fun s : Nat × List Int => ∃ w, s.2 = zl w ∧ s.1 ≤ 16 ∧ w.length = 32 ∧ LB ((16 * i + s.1) * 4294967296 + 1) w ∧ nv 65536 w = nv 65536 (xs.take i) * nv 65536 ys + 65536 ^ i * (xs.getD i 0 * nv 65536 (ys.take s.1)))
    (fun s => 16 - s.1) (fun r => ∃ w, r = zl w ∧ w.length = 32 ∧ LB (16 * (i + 1) * 4294967296 + 1) w ∧ nv 65536 w = nv 65536 (xs.take (i + 1)) * nv 65536 ys) ?_ (0, zl z) ⟨z, rfl, Nat.zero_le _, hz, hZ, ?_⟩
  · obtain ⟨r, hr, w, rfl, h⟩ := key
    exact ⟨w, hr, h⟩
  · rintro ⟨k, m⟩ ⟨w, rfl, h1, h2, h3, h4⟩
    dsimp only at h1 h3 h4
    unfold F_casemateref16_Mul_l2
    dsimp only
    by_cases q : k < 16
    · left
      have a1 := hX.get (by decide) i
      have a2 := hY.get (by decide) k
      have a3 := h3.get (Nat.succ_pos _) (i + k)
      have a4 : xs.getD i 0 * ys.getD k 0 ≤ 65535 * 65535 := Nat.mul_le_mul (by omega) (by omega)
      have hk16 : (16 * i + k) * 4294967296 ≤ 256 * 4294967296 := Nat.mul_le_mul_right _ (by omega)
      have e1 : (((xs.getD i 0 : Nat) : Int) * ((ys.getD k 0 : Nat) : Int)) = ((xs.getD i 0 * ys.getD k 0 : Nat) : Int) := (Int.natCast_mul ..).symm
      simp only [zl_get]
      rw [e1]
      have e2 : ((w.getD (i + k) 0 : Nat) : Int) + ((xs.getD i 0 * ys.getD k 0 : Nat) : Int) = ((w.getD (i + k) 0 + xs.getD i 0 * ys.getD k 0 : Nat) : Int) := by omega
      rw [e2, zl_set]
      have hst := sum_step (by omega) h4
      generalize xs.getD i 0 * ys.getD k 0 = t at *
      rw [if_pos q, gd_pos (by omega), gd_pos (by omega), gd_pos (by omega), gd_pos (by omega), gd_pos (by omega), gd_pos (by omega), gd_pos (by omega), gd_pos (by omega), gd_pos (by omega), gd_pos (by omega), gd_pos (by omega)]
      refine ⟨_, rfl, ⟨_, rfl, by dsimp only; omega, by simpa using h2, ?_, hst⟩, by dsimp only; omega⟩
      dsimp only
      have hg : (16 * i + (k + 1)) * 4294967296 + 1 = (16 * i + k) * 4294967296 + 1 + 4294967296 := by omega
      rw [hg]
      exact (h3.mono (Nat.le_add_right ..)).set (by omega) _
    · right
      have : k = 16 := by omega
      subst this
      rw [if_neg q]
      refine ⟨_, rfl, w, rfl, h2, ?_, ?_⟩
      · rw [show 16 * (i + 1) = 16 * i + 16 by omega]; exact h3
      · rw [h4, List.take_of_length_le (l := ys) (by omega), nv_at' _ xs i, Nat.add_mul, Nat.mul_assoc]
  · dsimp only
    rw [hv, List.take_zero]
    show _ = _ + _ * (_ * 0)
    rw [Nat.mul_zero, Nat.mul_zero, Nat.add_zero]
theorem P_wide {xs ys : List Nat} (hX : LB 65536 xs) (hY : LB 65536 ys) (hxl : xs.length = 16) (hyl : ys.length = 16) :
    ∃ w, run (F_casemateref16_Mul_l1 (zl xs) (zl ys)) (0, List.replicate 32 0) = some (zl w) ∧ w.length = 32 ∧ LB 1099511627777 w ∧ nv 65536 w = nv 65536 xs * nv 65536 ys := by
  have key := run_inv (f := F_casemateref16_Mul_l1 (zl xs) (zl ys)) (fun s : Nat × List Int => ∃ w, s.2 = zl w ∧ s.1 ≤ 16 ∧ w.length = 32 ∧ LB (16 * s.1 * 4294967296 + 1) w ∧ nv 65536 w = nv 65536 (xs.take s.1) * nv 65536 ys)
    (fun s => 16 - s.1) (fun r => ∃ w, r = zl w ∧ w.length = 32 ∧ LB 1099511627777 w ∧ nv 65536 w = nv 65536 xs * nv 65536 ys) ?_ (0, List.replicate 32 0) ⟨List.replicate 32 0, zl_rep 32, Nat.zero_le _, by simp, LB.rep (Nat.succ_pos _) _, ?_⟩
  · obtain ⟨r, hr, w, rfl, h⟩ := key
    exact ⟨w, hr, h⟩
  · rintro ⟨i, m⟩ ⟨w, rfl, h1, h2, h3, h4⟩
    dsimp only at h1 h3 h4
    unfold F_casemateref16_Mul_l1
    dsimp only
    by_cases q : i < 16
    · left
      obtain ⟨w', g1, g2, g3, g4⟩ := P_wide_in hX hY hyl q h2 h3 h4
      rw [if_pos q, g1, bnd_mk, gd_pos (by omega)]
      exact ⟨_, rfl, ⟨w', rfl, by dsimp only; omega, g2, g3, g4⟩, by dsimp only; omega⟩
    · right
      have : i = 16 := by omega
      subst this
      rw [if_neg q]
      refine ⟨_, rfl, w, rfl, h2, h3, ?_⟩
      rw [h4, List.take_of_length_le (l := xs) (by omega)]
  · dsimp only
    rw [nv_replicate, List.take_zero]
    show 0 = 0 * _
    rw [Nat.zero_mul]
/-! ### what stands at 2^256 and above comes in 38 times -/
def lw (w : List Nat) (i : Nat) : Nat := w.getD i 0 + 38 * w.getD (16 + i) 0
theorem P_low {w : List Nat} (hw : w.length = 32) (hb : LB 1099511627777 w) : run (F_casemateref16_Mul_l3 (zl w)) (0, List.replicate 17 0) = some (zl ((List.range 16).map (lw w) ++ [0])) := by
  have h := run_for (f := F_casemateref16_Mul_l3 (zl w)) (x := zl ((List.range 16).map (lw w) ++ [0])) (fun i => (i, (List.range i).map (fun i => ((lw w i : Nat) : Int)) ++ List.replicate (17 - i) (0 : Int))) 16 (fun i hi => ?_) ?_
  · exact h
  · unfold F_casemateref16_Mul_l3
    dsimp only
    have h1 := hb.get (by decide) i
    have h2 := hb.get (by decide) (16 + i)
    rw [zl_get, zl_get]
    rw [if_pos hi, gd_pos (by omega), gd_pos (by omega), gd_pos (by omega), gd_pos (by omega), gd_pos (by omega), gd_pos (by omega), gd_pos (by omega), gd_pos (by omega), gd_pos (by omega)]
    have e := fillg_step (fun i => ((lw w i : Nat) : Int)) (0 : Int) (i := i) (m := 17) (by omega)
    rw [← e]
    have e2 : ((w.getD i 0 : Nat) : Int) + ((38 : Nat) : Int) * ((w.getD (16 + i) 0 : Nat) : Int) = ((lw w i : Nat) : Int) := by unfold lw; omega
    rw [e2]
  · unfold F_casemateref16_Mul_l3
    dsimp only
    rw [if_neg (by omega)]
    congr 2
theorem lw_nv {b : Nat} : ∀ (xs ys : List Nat), xs.length = ys.length → nv b (List.zipWith (fun x y => x + 38 * y) xs ys) = nv b xs + 38 * nv b ys
  | [], [], _ => rfl
  | x :: xs, y :: ys, h => by
    show (x + 38 * y) + b * nv b (List.zipWith _ xs ys) = (x + b * nv b xs) + 38 * (y + b * nv b ys)
    rw [lw_nv xs ys (Nat.succ.inj h), Nat.mul_add, Nat.mul_add, Nat.mul_left_comm b 38]
    omega
theorem lw_zip {w : List Nat} (hw : w.length = 32) : (List.range 16).map (lw w) = List.zipWith (fun x y => x + 38 * y) (w.take 16) (w.drop 16) := by
  apply List.ext_getElem
  · simp [hw]
  · intro i h1 h2
    have hi : i < 16 := by simpa using h1
    rw [List.getElem_map, List.getElem_range, List.getElem_zipWith]
    unfold lw
    rw [List.getElem_take, List.getElem_drop, List.getD_eq_getElem?_getD, List.getD_eq_getElem?_getD, List.getElem?_eq_getElem (by omega), List.getElem?_eq_getElem (by omega)]
    rfl
theorem mod_38 {a b : Nat} : (a + 38 * b) % pp = (a + 65536 ^ 16 * b) % pp := by
  have e : (65536 : Nat) ^ 16 = 38 + pp * 2 := by rw [pp_eq]
  rw [e, Nat.add_mul, Nat.mul_assoc, ← Nat.add_assoc, Nat.add_mul_mod_self_left]
theorem low_nv {w : List Nat} (hw : w.length = 32) : nv 65536 ((List.range 16).map (lw w) ++ [0]) % pp = nv 65536 w % pp := by
  rw [nv_append, lw_zip hw, lw_nv _ _ (by rw [List.length_take, List.length_drop]; omega)]
  show (_ + _ * (0 + 65536 * 0)) % pp = _
  rw [Nat.mul_zero, Nat.add_zero, mod_38, ← nv_split 65536 w 16 (by omega)]
theorem low_lt {w : List Nat} (hb : LB 1099511627777 w) : LB 42880953483304 ((List.range 16).map (lw w) ++ [0]) := by
  refine LB.app (fun x hx => ?_) (LB.cons (by decide) LB.nil)
  obtain ⟨i, _, rfl⟩ := List.mem_map.1 hx
  have h1 := hb.get (by decide) i
  have h2 := hb.get (by decide) (16 + i)
  unfold lw; omega
/-! ### carries -/
theorem carry_nv {z : List Nat} {i : Nat} (hi : i + 1 < z.length) :
    nv 65536 ((z.set (i + 1) (z.getD (i + 1) 0 + z.getD i 0 / 65536)).set i ((z.set (i + 1) (z.getD (i + 1) 0 + z.getD i 0 / 65536)).getD i 0 % 65536)) = nv 65536 z := by
  have h1 := nv_set 65536 z (i + 1) (z.getD (i + 1) 0 + z.getD i 0 / 65536) hi
  have h2 := nv_set 65536 (z.set (i + 1) (z.getD (i + 1) 0 + z.getD i 0 / 65536)) i ((z.set (i + 1) (z.getD (i + 1) 0 + z.getD i 0 / 65536)).getD i 0 % 65536) (by rw [List.length_set]; omega)
  rw [set_get (by omega)] at h2 ⊢
  have h3 := Nat.mod_add_div (z.getD i 0) 65536
  have e : 65536 ^ i * z.getD i 0 = 65536 ^ i * (z.getD i 0 % 65536) + 65536 ^ (i + 1) * (z.getD i 0 / 65536) := by
    conv => lhs; rw [← h3]
    rw [Nat.mul_add, Nat.pow_succ, Nat.mul_assoc]
  rw [Nat.mul_add] at h1
  omega
/-- carried through: the low digits are digits -/
theorem P_carry {z : List Nat} {M : Nat} (hM : 65536 ≤ M) (hM2 : M ≤ 72057594037927936) (hz : z.length = 17) (hb : LB M z) :
    ∃ w, run F_casemateref16_Mul_l5 (0, zl z) = some (zl w) ∧ w.length = 17 ∧ (∀ j, j < 16 → w.getD j 0 < 65536) ∧ w.getD 16 0 < M + M ∧ nv 65536 w = nv 65536 z := by
  have key := run_inv (f := F_casemateref16_Mul_l5) (fun s : Nat × List Int => ∃ w, s.2 = zl w ∧ s.1 ≤ 16 ∧ w.length = 17 ∧ (∀ j, j < s.1 → w.getD j 0 < 65536) ∧ w.getD s.1 0 < M + M ∧ (∀ j, s.1 < j → w.getD j 0 < M) ∧ nv 65536 w = nv 65536 z)
    (fun s => 16 - s.1) (fun r => ∃ w, r = zl w ∧ w.length = 17 ∧ (∀ j, j < 16 → w.getD j 0 < 65536) ∧ w.getD 16 0 < M + M ∧ nv 65536 w = nv 65536 z) ?_ (0, zl z)
    ⟨z, rfl, Nat.zero_le _, hz, fun j h => absurd h (Nat.not_lt_zero _), Nat.lt_of_lt_of_le (hb.get (by omega) 0) (Nat.le_add_right ..), fun j _ => hb.get (by omega) j, rfl⟩
  · obtain ⟨r, hr, w, rfl, h⟩ := key
    exact ⟨w, hr, h⟩
  · rintro ⟨i, m⟩ ⟨w, rfl, h1, h2, h3, h4, h5, h6⟩
    dsimp only at h1 h3 h4 h5 h6
    unfold F_casemateref16_Mul_l5
    dsimp only
    by_cases q : i < 16
    · left
      have a1 := h5 (i + 1) (by omega)
      have e0 : (((w.getD i 0 : Nat) : Int) / ((65536 : Nat) : Int)) = ((w.getD i 0 / 65536 : Nat) : Int) := by omega
      have e1 : ((w.getD (i + 1) 0 : Nat) : Int) + ((w.getD i 0 / 65536 : Nat) : Int) = ((w.getD (i + 1) 0 + w.getD i 0 / 65536 : Nat) : Int) := by omega
      have hst := carry_nv (z := w) (i := i) (by omega)
      have hc := set_get (xs := w) (i := i + 1) (j := i) (v := w.getD (i + 1) 0 + w.getD i 0 / 65536) (by omega)
      simp only [zl_get]
      rw [e0, e1, zl_set, zl_get]
      have e2 : (((w.set (i + 1) (w.getD (i + 1) 0 + w.getD i 0 / 65536)).getD i 0 : Nat) : Int) % ((65536 : Nat) : Int) = (((w.set (i + 1) (w.getD (i + 1) 0 + w.getD i 0 / 65536)).getD i 0 % 65536 : Nat) : Int) := by omega
      rw [e2, zl_set]
      rw [if_pos q, gd_pos (by omega), gd_pos (by omega), gd_pos (by omega), gd_pos (by omega), gd_pos (by omega), gd_pos (by omega), gd_pos (by omega), gd_pos (by omega), gd_pos (by omega), gd_pos (by omega), gd_pos (by omega), gd_pos (by omega), gd_pos (by omega), gd_pos (by omega)]
      refine ⟨_, rfl, ⟨_, rfl, by dsimp only; omega, by simp [h2], fun j hj => ?_, ?_, fun j hj => ?_, by rw [hst, h6]⟩, by dsimp only; omega⟩
      · dsimp only at hj
        by_cases e : j = i
        · subst e
          rw [getD_set _ _ _ _ (by simp; omega), if_pos rfl]
          exact Nat.mod_lt _ (by decide)
        · rw [set_get (by omega), set_get (by omega)]
          exact h3 j (by omega)
      · dsimp only
        rw [set_get (by omega), getD_set _ _ _ _ (by omega), if_pos rfl]
        omega
      · dsimp only at hj
        rw [set_get (by omega), set_get (by omega)]
        exact h5 j (by omega)
    · right
      have : i = 16 := by omega
      subst this
      rw [if_neg q]
      exact ⟨_, rfl, w, rfl, h2, h3, h4, h6⟩
theorem nv_near {z : List Nat} {e : Nat} (hz : z.length = 17) (h16 : z.getD 16 0 = 0) (h : ∀ j, 1 ≤ j → j < 16 → z.getD j 0 < 65536) (h0 : z.getD 0 0 < 65536 + e) : nv 65536 z < 65536 ^ 16 + e := by
  have h1 := nv_set 65536 z 0 65535 (by omega)
  have h2 := nv_split 65536 (z.set 0 65535) 16 (by rw [List.length_set]; omega)
  rw [nv_at, set_get (by omega), h16, List.drop_of_length_le (by rw [List.length_set]; omega)] at h2
  have h3 : LB 65536 ((z.set 0 65535).take 16) := fun x hx => by
    obtain ⟨j, hj, rfl⟩ := List.mem_iff_getElem.1 hx
    have hj' : j < 16 := by rw [List.length_take] at hj; omega
    rw [List.getElem_take]
    have e1 : (z.set 0 65535)[j]'(by rw [List.length_set]; omega) = (z.set 0 65535).getD j 0 := by
      rw [List.getD_eq_getElem?_getD, List.getElem?_eq_getElem (by rw [List.length_set]; omega)]; rfl
    rw [e1]
    by_cases q : j = 0
    · subst q; rw [getD_set _ _ _ _ (by omega), if_pos rfl]; decide
    · rw [set_get (by omega)]; exact h j (by omega) hj'
  have h4 := nv_lt _ h3
  rw [List.length_take, List.length_set, hz] at h4
  have h5 : nv 65536 (z.set 0 65535) < 65536 ^ 16 := by
    rw [h2]
    exact h4
  rw [Nat.pow_zero, Nat.one_mul, Nat.one_mul] at h1
  omega
/-- one round of carries -/
theorem P_rnd {z : List Nat} {M n : Nat} (hn : n < 3) (hM : 65536 ≤ M) (hM2 : M ≤ 72057594037927936) (hz : z.length = 17) (hb : LB M z) :
    ∃ w c, F_casemateref16_Mul_l4 (n, zl z) = some (.inl (n + 1, zl w)) ∧ w.length = 17 ∧ w.getD 16 0 = 0 ∧ (∀ j, 1 ≤ j → j < 16 → w.getD j 0 < 65536) ∧ w.getD 0 0 < 65536 + 38 * c ∧ c < M + M ∧ 65536 ^ 16 * c ≤ nv 65536 z ∧
      nv 65536 w % pp = nv 65536 z % pp ∧ nv 65536 w + 65536 ^ 16 * c = nv 65536 z + 38 * c := by
  obtain ⟨w, h1, h2, h3, h4, h5⟩ := P_carry hM hM2 hz hb
  have hsp := nv_split 65536 w 16 (by omega)
  rw [nv_at, List.drop_of_length_le (by omega)] at hsp
  have hsp : nv 65536 w = nv 65536 (w.take 16) + 65536 ^ 16 * w.getD 16 0 := hsp
  have s1 := nv_set 65536 w 0 (w.getD 0 0 + 38 * w.getD 16 0) (by omega)
  have s2 := nv_set 65536 (w.set 0 (w.getD 0 0 + 38 * w.getD 16 0)) 16 0 (by rw [List.length_set]; omega)
  rw [set_get (by omega)] at s2
  have hw0 := h3 0 (by decide)
  refine ⟨(w.set 0 (w.getD 0 0 + 38 * w.getD 16 0)).set 16 0, w.getD 16 0, ?_, by simp [h2], by rw [getD_set _ _ _ _ (by rw [List.length_set]; omega), if_pos rfl], fun j hj hj2 => ?_, ?_, h4, by rw [← h5, hsp]; exact Nat.le_add_left .., ?_, ?_⟩
  · unfold F_casemateref16_Mul_l4
    dsimp only
    have e0 : ((38 : Nat) : Int) * ((w.getD 16 0 : Nat) : Int) = ((38 * w.getD 16 0 : Nat) : Int) := by omega
    have e1 : ((w.getD 0 0 : Nat) : Int) + ((38 * w.getD 16 0 : Nat) : Int) = ((w.getD 0 0 + 38 * w.getD 16 0 : Nat) : Int) := by omega
    rw [if_pos hn, h1, bnd_mk, zl_get, zl_get, e0, e1, zl_set, zl_set0, gd_pos (by omega), gd_pos (by omega), gd_pos (by omega), gd_pos (by omega), bnd_mk, gd_pos (by omega)]
  · rw [set_get (by omega), set_get (by omega)]; exact h3 j hj2
  · rw [set_get (by omega), getD_set _ _ _ _ (by omega), if_pos rfl]; omega
  · have e : nv 65536 ((w.set 0 (w.getD 0 0 + 38 * w.getD 16 0)).set 16 0) = nv 65536 (w.take 16) + 38 * w.getD 16 0 := by omega
    rw [e, mod_38, ← hsp, h5]
  · omega
theorem LB.near {z : List Nat} {M : Nat} (hM : 65536 ≤ M) (hz : z.length = 17) (h16 : z.getD 16 0 = 0) (h : ∀ j, 1 ≤ j → j < 16 → z.getD j 0 < 65536) (h0 : z.getD 0 0 < M) : LB M z := fun x hx => by
  obtain ⟨j, hj, rfl⟩ := List.mem_iff_getElem.1 hx
  have e1 : z[j] = z.getD j 0 := by rw [List.getD_eq_getElem?_getD, List.getElem?_eq_getElem hj]; rfl
  rw [e1]
  by_cases q : j = 0
  · subst q; exact h0
  · by_cases q2 : j = 16
    · subst q2; rw [h16]; omega
    · have := h j (by omega) (by omega); omega
theorem P_rounds {z : List Nat} (hz : z.length = 17) (hb : LB 42880953483304 z) :
    ∃ w, run F_casemateref16_Mul_l4 (0, zl z) = some (zl w) ∧ w.length = 17 ∧ LB 65536 w ∧ w.getD 16 0 = 0 ∧ nv 65536 w % pp = nv 65536 z % pp := by
  obtain ⟨w1, c1, a1, a2, a3, a4, a5, a6, a7, a8, a9⟩ := P_rnd (n := 0) (by decide) (by decide) (by decide) hz hb
  have b1 : LB (65536 + 38 * (42880953483304 + 42880953483304)) w1 := LB.near (by decide) a2 a3 a4 (by omega)
  obtain ⟨w2, c2, d1, d2, d3, d4, d5, d6, d7, d8, d9⟩ := P_rnd (n := 1) (by decide) (by decide) (by decide) a2 b1
  have b2 := nv_near (e := 38 * (42880953483304 + 42880953483304)) a2 a3 a4 (by omega)
  have hp : (65536 : Nat) ^ 16 = 115792089237316195423570985008687907853269984665640564039457584007913129639936 := by decide +kernel
  have c2' : c2 ≤ 1 := by
    rcases Nat.lt_or_ge c2 2 with q | q
    · omega
    · have := Nat.mul_le_mul_left (65536 ^ 16) q
      rw [hp] at *
      omega
  have b3 : LB (65536 + 38) w2 := LB.near (by decide) d2 d3 d4 (by omega)
  obtain ⟨w3, c3, f1, f2, f3, f4, f5, f6, f7, f8, f9⟩ := P_rnd (n := 2) (by decide) (by decide) (by decide) d2 b3
  have b4 := nv_near (e := 38) d2 d3 d4 (by omega)
  have c3' : c3 ≤ 1 := by
    rcases Nat.lt_or_ge c3 2 with q | q
    · omega
    · have := Nat.mul_le_mul_left (65536 ^ 16) q
      rw [hp] at *
      omega
  have b5 : w3.getD 0 0 < 65536 := by
    have hc : c3 = 0 ∨ c3 = 1 := by omega
    rcases hc with rfl | rfl
    · omega
    · have h1 := nv_set 65536 w3 0 0 (by omega)
      rw [Nat.pow_zero, Nat.one_mul] at h1
      omega
  refine ⟨w3, run_next a1 (run_next d1 (run_next f1 (run_exit ?_))), f2, LB.near (Nat.le_refl _) f2 f3 f4 b5, f3, by rw [f8, d8, a8]⟩
  unfold F_casemateref16_Mul_l4
  dsimp only
  rw [if_neg (by decide)]
theorem P_out {z : List Nat} (hz : z.length = 17) (hb : LB 65536 z) (h16 : z.getD 16 0 = 0) : ∃ l, run (F_casemateref16_Mul_l6 (zl z)) ([], 0) = some l ∧ l.length = 32 ∧ LB 256 l ∧ nv 256 l = nv 65536 z := by
  have key := run_inv (f := F_casemateref16_Mul_l6 (zl z)) (fun s : List Nat × Nat => s.2 ≤ 16 ∧ s.1.length = 2 * s.2 ∧ LB 256 s.1 ∧ nv 256 s.1 = nv 65536 (z.take s.2)) (fun s => 16 - s.2)
    (fun l => l.length = 32 ∧ LB 256 l ∧ nv 256 l = nv 65536 z) ?_ ([], 0) ⟨Nat.zero_le _, rfl, LB.nil, rfl⟩
  · exact key
  · rintro ⟨l, i⟩ ⟨h1, h2, h3, h4⟩
    dsimp only at h1 h2 h3 h4
    unfold F_casemateref16_Mul_l6
    dsimp only
    by_cases q : i < 16
    · left
      have a := hb.get (by decide) i
      rw [zl_get]
      have e1 : Int.toNat ((((z.getD i 0 : Nat) : Int) % ((256 : Nat) : Int)) % ((256 : Nat) : Int)) = z.getD i 0 % 256 := by omega
      have e2 : Int.toNat ((((z.getD i 0 : Nat) : Int) / ((256 : Nat) : Int)) % ((256 : Nat) : Int)) = z.getD i 0 / 256 := by omega
      rw [e1, e2, if_pos q, gd_pos (by omega), gd_pos (by omega), gd_pos (by omega), gd_pos (by omega), gd_pos (by omega), gd_pos (by omega), gd_pos (by omega), gd_pos (by omega)]
      refine ⟨_, rfl, ⟨by dsimp only; omega, by simp; omega, LB.app h3 (LB.cons (Nat.mod_lt _ (by decide)) (LB.cons (by omega) LB.nil)), ?_⟩, by dsimp only; omega⟩
      dsimp only
      rw [nv_append, h2, h4, nv_at', show (65536 : Nat) ^ i = 256 ^ (2 * i) by rw [Nat.pow_mul]]
      show _ + _ * (z.getD i 0 % 256 + 256 * (z.getD i 0 / 256 + 256 * 0)) = _
      rw [Nat.mul_zero, Nat.add_zero, Nat.mod_add_div]
    · right
      have : i = 16 := by omega
      subst this
      rw [if_neg q]
      refine ⟨_, rfl, h2, h3, ?_⟩
      have hsp := nv_split 65536 z 16 (by omega)
      rw [nv_at, h16, List.drop_of_length_le (by omega)] at hsp
      rw [h4, hsp]
      rfl
theorem P_Mul16 {a b : List Nat} (ha : LB 256 a) (hb : LB 256 b) (hla : a.length = 32) (hlb : b.length = 32) : F_casemateref16_Mul a b = some (b32 (nv 256 a * nv 256 b % pp)) := by
  unfold F_casemateref16_Mul
  obtain ⟨w, h1, h2, h3, h4⟩ := P_wide (dgs_lt ha 16) (dgs_lt hb 16) (dgs_len _ _) (dgs_len _ _)
  obtain ⟨z, g1, g2, g3, g4, g5⟩ := P_rounds (z := (List.range 16).map (lw w) ++ [0]) (by simp) (low_lt h3)
  obtain ⟨l, f1, f2, f3, f4⟩ := P_out g2 g3 g4
  rw [P_digits ha, bnd_mk, P_digits hb, bnd_mk, h1, bnd_mk, P_low h2 h3, bnd_mk, g1, bnd_mk, f1, bnd_mk]
  refine Eq.trans (P_FullRound f3 (by omega)) ?_
  rw [f4, g5, low_nv h2, h4, dgs_nv, dgs_nv, List.take_of_length_le (by omega), List.take_of_length_le (by omega)]
end Go.Proofs.Ytmlmbolcblafmaa
