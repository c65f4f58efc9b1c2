/- A block of layer 14, in plain numbers and by the program. Lemmas, no statement of the claim. -/
import Derived.Test.YtnagkhofkjjajaaEe
set_option linter.unusedVariables false
set_option linter.unusedSimpArgs false
set_option maxRecDepth 10000
namespace Go.Proofs.Ytnagkhofkjjajaa.H
open Go.Proofs.Ytnagkhofkjjajaa
theorem or_sh {a b k : Nat} (h : a < 2 ^ k) : a ||| (b <<< k) = a + 2 ^ k * b := by
  rw [Nat.or_comm, ← Nat.shiftLeft_add_eq_or_of_lt h, Nat.shiftLeft_eq, Nat.add_comm, Nat.mul_comm]
def ror (x n : Nat) : Nat := x / 2 ^ n + x % 2 ^ n * 2 ^ (64 - n)
theorem pow64 {m n : Nat} (h : m + n = 64) : 2 ^ n * 2 ^ m = 18446744073709551616 := by rw [← Nat.pow_add, Nat.add_comm, h]
theorem div_lt64 {x m n : Nat} (hx : x < 18446744073709551616) (h : m + n = 64) : x / 2 ^ n < 2 ^ m := Nat.div_lt_of_lt_mul (by rw [pow64 h]; exact hx)
theorem ror_b {x m n : Nat} (hx : x < 18446744073709551616) (h : m + n = 64) : ((x * 2 ^ m) % 18446744073709551616) ||| (x / 2 ^ n) = ror x n := by
  have e : x * 2 ^ m % 18446744073709551616 = x % 2 ^ n * 2 ^ m := by rw [← pow64 h, Nat.mul_mod_mul_right]
  unfold ror
  rw [e, Nat.or_comm, ← Nat.shiftLeft_eq, or_sh (div_lt64 hx h), show 64 - n = m by omega, Nat.mul_comm]
theorem ror_a {x m n : Nat} (hx : x < 18446744073709551616) (h : m + n = 64) : ((x <<< m) % 18446744073709551616) ||| (x / 2 ^ n) = ror x n := by rw [Nat.shiftLeft_eq, ror_b hx h]
theorem ror_lt {x m n : Nat} (hx : x < 18446744073709551616) (h : m + n = 64) : ror x n < 18446744073709551616 := by
  rw [← ror_b hx h]
  exact Nat.or_lt_two_pow (n := 64) (Nat.mod_lt _ (by decide)) (Nat.lt_of_le_of_lt (Nat.div_le_self _ _) hx)
theorem x64 {a b : Nat} (ha : a < 18446744073709551616) (hb : b < 18446744073709551616) : a ^^^ b < 18446744073709551616 := Nat.xor_lt_two_pow (n := 64) ha hb
theorem a64 {a b : Nat} (ha : a < 18446744073709551616) : a &&& b < 18446744073709551616 := Nat.lt_of_le_of_lt Nat.and_le_left ha
def s0W (x : Nat) : Nat := (ror x 1 ^^^ ror x 8) ^^^ (x / 2 ^ 7)
def s1W (x : Nat) : Nat := (ror x 19 ^^^ ror x 61) ^^^ (x / 2 ^ 6)
def e0W (x : Nat) : Nat := (ror x 14 ^^^ ror x 18) ^^^ ror x 41
def e1W (x : Nat) : Nat := (ror x 28 ^^^ ror x 34) ^^^ ror x 39
/-- k bytes of word i -/
def w8 (d : List Nat) (i : Nat) : Nat → Nat
  | 0 => 0
  | k + 1 => d.getD (8 * i + k) 0 + 256 * w8 d i k
theorem w8_lt {d : List Nat} (hd : LB 256 d) (i : Nat) : ∀ k, w8 d i k < 256 ^ k
  | 0 => Nat.zero_lt_succ 0
  | k + 1 => by
    have h := w8_lt hd i k
    have h0 := hd.get (by decide) (8 * i + k)
    rw [Nat.pow_succ]
    unfold w8
    omega
def wn (d l : List Nat) (i : Nat) : Nat := if i < 16 then w8 d i 8 else (l.getD (i - 16) 0 + s0W (l.getD (i - 15) 0) + l.getD (i - 7) 0 + s1W (l.getD (i - 2) 0)) % 18446744073709551616
def ws (d : List Nat) : Nat → List Nat
  | 0 => []
  | i + 1 => ws d i ++ [wn d (ws d i) i]
theorem ws_length (d : List Nat) : ∀ i, (ws d i).length = i := by
  intro i
  induction i with
  | zero => rfl
  | succ i ih => simp [ws, ih]
theorem wn_lt {d l : List Nat} (hd : LB 256 d) (i : Nat) : wn d l i < 18446744073709551616 := by
  unfold wn
  split
  · exact w8_lt hd i 8
  · exact Nat.mod_lt _ (by decide)
theorem ws_lt {d : List Nat} (hd : LB 256 d) : ∀ i, LB 18446744073709551616 (ws d i) := by
  intro i
  induction i with
  | zero => exact LB.nil
  | succ i ih => exact ih.app (LB.cons (wn_lt hd i) LB.nil)
/-- the array of words, the first i of them made -/
def wf (d : List Nat) (i v : Nat) : List Nat := ws d i ++ v :: List.replicate (79 - i) 0
theorem wf_set {d : List Nat} {i v u : Nat} : (wf d i v).set i u = wf d i u := by
  unfold wf
  rw [List.set_append_right _ _ (by rw [ws_length]; exact Nat.le_refl _), ws_length, Nat.sub_self]
  rfl
theorem wf_old {d : List Nat} {i v j : Nat} (h : j < i) : (wf d i v).getD j 0 = (ws d i).getD j 0 := by
  unfold wf
  rw [List.getD_eq_getElem?_getD, List.getElem?_append_left (by rw [ws_length]; exact h), ← List.getD_eq_getElem?_getD]
theorem wf_get {d : List Nat} {i v : Nat} : (wf d i v).getD i 0 = v := by
  unfold wf
  rw [List.getD_eq_getElem?_getD, List.getElem?_append_right (by rw [ws_length]; exact Nat.le_refl _), ws_length, Nat.sub_self]
  rfl
def wg (d : List Nat) (i : Nat) : List Nat := ws d i ++ List.replicate (80 - i) 0
theorem wg_wf {d : List Nat} {i : Nat} (h : i < 80) : wg d i = wf d i 0 := by
  unfold wg wf
  rw [show 80 - i = (79 - i) + 1 by omega, List.replicate_succ]
theorem wf_wg {d : List Nat} {i : Nat} (h : i < 80) : wf d i (wn d (ws d i) i) = wg d (i + 1) := by
  unfold wg wf
  rw [show 80 - (i + 1) = 79 - i by omega]
  simp [ws, List.append_assoc]
theorem P_word {d : List Nat} (hd : LB 256 d) {i : Nat} (hi : i < 16) : run (F_sha512_block_l2 d i) (0, wf d i 0) = some (wf d i (w8 d i 8)) := by
  refine run_for (f := F_sha512_block_l2 d i) (fun k => (k, wf d i (w8 d i k))) 8 (fun k hk => ?_) ?_
  · unfold F_sha512_block_l2
    dsimp only
    have h1 : w8 d i k < 72057594037927936 := by
      have h := w8_lt hd i k
      have h2 : (256 : Nat) ^ k ≤ 256 ^ 7 := Nat.pow_le_pow_right (by decide) (by omega)
      have h3 : (256 : Nat) ^ 7 = 72057594037927936 := rfl
      omega
    rw [if_pos (by omega), gd_pos (by omega), gd_pos (by omega), gd_pos (by omega), gd_pos (by omega), wf_get, shl_or h1 (hd.get (by decide) _), wf_set]
    rfl
  · unfold F_sha512_block_l2
    dsimp only
    rw [if_neg (by omega)]
theorem P_words {d : List Nat} (hd : LB 256 d) (hl : d.length = 128) : run (F_sha512_block_l1 d) (0, List.replicate 80 0) = some (ws d 80) := by
  have h := run_for (f := F_sha512_block_l1 d) (x := wg d 80) (fun i => (i, wg d i)) 80 (fun i hi => ?_) ?_
  · have e : wg d 0 = List.replicate 80 0 := rfl
    have e2 : wg d 80 = ws d 80 := List.append_nil _
    rw [e, e2] at h; exact h
  · unfold F_sha512_block_l1
    dsimp only
    rw [if_pos hi, wg_wf hi]
    by_cases q : i < 16
    · rw [if_pos q]
      iterate 5 rw [gd_pos (by omega)]
      rw [P_word hd q, bnd_mk, bnd_mk, sel_inr, bnd_mk, gd_pos (by omega), ← wf_wg hi]
      congr 4
      unfold wn
      rw [if_pos q]
    · have e15 : Int.toNat (((i : Nat) : Int) - ((15 : Nat) : Int)) = i - 15 := by omega
      have e2 : Int.toNat (((i : Nat) : Int) - ((2 : Nat) : Int)) = i - 2 := by omega
      have e16 : Int.toNat (((i : Nat) : Int) - ((16 : Nat) : Int)) = i - 16 := by omega
      have e7 : Int.toNat (((i : Nat) : Int) - ((7 : Nat) : Int)) = i - 7 := by omega
      rw [if_neg q, bnd_mk, sel_inl]
      iterate 9 rw [gd_pos (by omega)]
      rw [bnd_mk, gd_pos (by omega), e15, e2, e16, e7, wf_set, wf_old (by omega), wf_old (by omega), wf_old (by omega), wf_old (by omega)]
      have hw := fun j => (ws_lt hd i).get (by decide) j
      rw [ror_a (m := 63) (n := 1) (hw _) rfl, ror_a (m := 56) (n := 8) (hw _) rfl, ror_a (m := 45) (n := 19) (hw _) rfl, ror_b (m := 3) (n := 61) (hw _) rfl, ← wf_wg hi]
      congr 4
      unfold wn s0W s1W
      rw [if_neg q]
      generalize (ror ((ws d i).getD (i - 15) 0) 1 ^^^ ror ((ws d i).getD (i - 15) 0) 8) ^^^ ((ws d i).getD (i - 15) 0 / 2 ^ 7) = A
      generalize (ror ((ws d i).getD (i - 2) 0) 19 ^^^ ror ((ws d i).getD (i - 2) 0) 61) ^^^ ((ws d i).getD (i - 2) 0 / 2 ^ 6) = B
      omega
  · unfold F_sha512_block_l1
    dsimp only
    rw [if_neg (by decide)]
/-! ### Rounds -/
def chW (a b c : Nat) : Nat := (a &&& b) ^^^ ((18446744073709551615 - a) &&& c)
def maW (a b c : Nat) : Nat := ((a &&& b) ^^^ (a &&& c)) ^^^ (b &&& c)
def rt1 (s : List Nat) (k w : Nat) : Nat := s.getD 7 0 + e0W (s.getD 4 0) + chW (s.getD 4 0) (s.getD 5 0) (s.getD 6 0) + k + w
def rt2 (s : List Nat) : Nat := e1W (s.getD 0 0) + maW (s.getD 0 0) (s.getD 1 0) (s.getD 2 0)
def rnd (s : List Nat) (k w : Nat) : List Nat := [(rt1 s k w + rt2 s) % 18446744073709551616, s.getD 0 0, s.getD 1 0, s.getD 2 0, (s.getD 3 0 + rt1 s k w) % 18446744073709551616, s.getD 4 0, s.getD 5 0, s.getD 6 0]
def rs (K l s : List Nat) : Nat → List Nat
  | 0 => s
  | i + 1 => rnd (rs K l s i) (K.getD i 0) (l.getD i 0)
/-- what a block makes of a state -/
def blockN (K s d : List Nat) : List Nat := (List.range 8).map fun i => (s.getD i 0 + (rs K (ws d 80) s 80).getD i 0) % 18446744073709551616
theorem rnd_lt {s : List Nat} {k w : Nat} (hs : LB 18446744073709551616 s) : LB 18446744073709551616 (rnd s k w) := by
  have h := fun q => hs.get (Nat.zero_lt_succ _) q
  exact LB.cons (Nat.mod_lt _ (Nat.zero_lt_succ _)) (LB.cons (h 0) (LB.cons (h 1) (LB.cons (h 2) (LB.cons (Nat.mod_lt _ (Nat.zero_lt_succ _)) (LB.cons (h 4) (LB.cons (h 5) (LB.cons (h 6) LB.nil)))))))
theorem rs_lt {K l s : List Nat} (hs : LB 18446744073709551616 s) : ∀ j, LB 18446744073709551616 (rs K l s j) := by
  intro j
  induction j with
  | zero => exact hs
  | succ j ih => exact rnd_lt ih
theorem rs_len {K l s : List Nat} (hs : s.length = 8) : ∀ j, (rs K l s j).length = 8 := by
  intro j
  cases j with
  | zero => exact hs
  | succ j => rfl
theorem blockN_len (K s d : List Nat) : (blockN K s d).length = 8 := by unfold blockN; simp
theorem blockN_lt (K s d : List Nat) : LB 18446744073709551616 (blockN K s d) := by
  unfold blockN
  intro x hx
  obtain ⟨p, _, rfl⟩ := List.mem_map.1 hx
  exact Nat.mod_lt _ (Nat.zero_lt_succ _)
theorem P_rounds {K l s : List Nat} (hs : LB 18446744073709551616 s) : run (F_sha512_block_l3 K l) (s.getD 0 0, s.getD 1 0, s.getD 2 0, s.getD 3 0, s.getD 4 0, s.getD 5 0, s.getD 6 0, s.getD 7 0, 0) =
    some ((rs K l s 80).getD 0 0, (rs K l s 80).getD 1 0, (rs K l s 80).getD 2 0, (rs K l s 80).getD 3 0, (rs K l s 80).getD 4 0, (rs K l s 80).getD 5 0, (rs K l s 80).getD 6 0, (rs K l s 80).getD 7 0) := by
  refine run_for (f := F_sha512_block_l3 K l) (fun j => ((rs K l s j).getD 0 0, (rs K l s j).getD 1 0, (rs K l s j).getD 2 0, (rs K l s j).getD 3 0, (rs K l s j).getD 4 0, (rs K l s j).getD 5 0, (rs K l s j).getD 6 0, (rs K l s j).getD 7 0, j)) 80 (fun j hj => ?_) ?_
  · unfold F_sha512_block_l3
    dsimp only
    have hb := fun q => (rs_lt (K := K) (l := l) hs j).get (Nat.zero_lt_succ _) q
    rw [if_pos hj, gd_pos hj, gd_pos hj, gd_pos (by omega)]
    rw [ror_a (m := 50) (n := 14) (hb 4) rfl, ror_a (m := 46) (n := 18) (hb 4) rfl, ror_a (m := 23) (n := 41) (hb 4) rfl, ror_a (m := 36) (n := 28) (hb 0) rfl, ror_a (m := 30) (n := 34) (hb 0) rfl, ror_a (m := 25) (n := 39) (hb 0) rfl]
    have e1 : ∀ h E C k w T2, ((((((((h + E) % 18446744073709551616) + C) % 18446744073709551616) + k) % 18446744073709551616) + w) % 18446744073709551616 + T2 % 18446744073709551616) % 18446744073709551616 = (h + E + C + k + w + T2) % 18446744073709551616 := by intros; omega
    have e2 : ∀ d h E C k w, (d + ((((((((h + E) % 18446744073709551616) + C) % 18446744073709551616) + k) % 18446744073709551616) + w) % 18446744073709551616)) % 18446744073709551616 = (d + (h + E + C + k + w)) % 18446744073709551616 := by intros; omega
    have e3 : 18446744073709551616 - 1 - (rs K l s j).getD 4 0 = 18446744073709551615 - (rs K l s j).getD 4 0 := by omega
    have e4 : ([K].getD 0 []).getD j 0 = K.getD j 0 := rfl
    have r : rs K l s (j + 1) = rnd (rs K l s j) (K.getD j 0) (l.getD j 0) := rfl
    rw [e1, e2, e3, r]
    try rw [e4]
    unfold rnd
    simp only [List.getD_cons_zero, List.getD_cons_succ]
    unfold rt1 rt2 e0W e1W chW maW
    rfl
  · unfold F_sha512_block_l3
    dsimp only
    rw [if_neg (by omega)]
theorem addf_step {s : List Nat} {m : Nat} (f : Nat → Nat) (hm : m < s.length) :
    ((List.range m).map f ++ s.drop m).set m (f m) = (List.range (m + 1)).map f ++ s.drop (m + 1) ∧ ((List.range m).map f ++ s.drop m).getD m 0 = s.getD m 0 := by
  have h1 : ((List.range m).map f).length = m := by simp
  have h2 : s.drop m = s.getD m 0 :: s.drop (m + 1) := drop_cons hm
  constructor
  · rw [List.set_append_right _ _ (by rw [h1]; exact Nat.le_refl _), h1, Nat.sub_self, h2, List.set_cons_zero, List.range_succ, List.map_append, List.append_assoc]
    rfl
  · rw [List.getD_eq_getElem?_getD, List.getElem?_append_right (by rw [h1]; exact Nat.le_refl _), h1, Nat.sub_self, h2]
    rfl
theorem list8 {l : List Nat} (h : l.length = 8) : ((((((((List.replicate 8 0).set 0 (l.getD 0 0)).set 1 (l.getD 1 0)).set 2 (l.getD 2 0)).set 3 (l.getD 3 0)).set 4 (l.getD 4 0)).set 5 (l.getD 5 0)).set 6 (l.getD 6 0)).set 7 (l.getD 7 0) = l := by
  match l, h with
  | [a, b, c, d, e, f, g, h'], _ => rfl
theorem P_sum8 {s R : List Nat} (hR : R.length = 8) (hs : s.length = 8) :
    run (F_sha512_block_l4 (R.getD 0 0) (R.getD 1 0) (R.getD 2 0) (R.getD 3 0) (R.getD 4 0) (R.getD 5 0) (R.getD 6 0) (R.getD 7 0)) (0, s) = some ((List.range 8).map fun i => (s.getD i 0 + R.getD i 0) % 18446744073709551616) := by
  have h := run_for (f := F_sha512_block_l4 (R.getD 0 0) (R.getD 1 0) (R.getD 2 0) (R.getD 3 0) (R.getD 4 0) (R.getD 5 0) (R.getD 6 0) (R.getD 7 0)) (x := (List.range 8).map (fun i => (s.getD i 0 + R.getD i 0) % 18446744073709551616) ++ s.drop 8)
    (fun m => (m, (List.range m).map (fun i => (s.getD i 0 + R.getD i 0) % 18446744073709551616) ++ s.drop m)) 8 (fun m hm => ?_) ?_
  · have e : (0, (List.range 0).map (fun i => (s.getD i 0 + R.getD i 0) % 18446744073709551616) ++ s.drop 0) = (0, s) := rfl
    rw [e, List.drop_of_length_le (by omega), List.append_nil] at h
    exact h
  · unfold F_sha512_block_l4
    dsimp only
    obtain ⟨h1, h2⟩ := addf_step (fun i => (s.getD i 0 + R.getD i 0) % 18446744073709551616) (s := s) (m := m) (by omega)
    rw [if_pos hm, gd_pos hm, gd_pos hm, gd_pos hm, gd_pos (by omega), list8 hR, h2, h1]
  · unfold F_sha512_block_l4
    dsimp only
    rw [if_neg (by omega)]
theorem P_block {K s d : List Nat} (hs : LB 18446744073709551616 s) (hsl : s.length = 8) (hd : LB 256 d) (hl : d.length = 128) : F_sha512_block K s d = some (blockN K s d) := by
  unfold F_sha512_block
  rw [P_words hd hl, bnd_mk, P_rounds hs, bnd_mk]
  dsimp only
  rw [P_sum8 (rs_len hsl 80) hsl, bnd_mk]
  rfl
end Go.Proofs.Ytnagkhofkjjajaa.H
