/- A block of layer 13, in plain numbers and by the program. Lemmas, no statement of the claim. -/
import Derived.Test.YtddphjmcoolinaaWc
set_option linter.unusedVariables false
set_option linter.unusedSimpArgs false
set_option maxRecDepth 10000
namespace Go.Proofs.Ytddphjmcoolinaa
theorem or_sh {a b k : Nat} (h : a < 2 ^ k) : a ||| (b <<< k) = a + 2 ^ k * b := by
  rw [Nat.or_comm, ← Nat.shiftLeft_add_eq_or_of_lt h, Nat.shiftLeft_eq, Nat.add_comm, Nat.mul_comm]
def ror (x n : Nat) : Nat := x / 2 ^ n + x % 2 ^ n * 2 ^ (32 - n)
theorem pow32 {m n : Nat} (h : m + n = 32) : 2 ^ n * 2 ^ m = 4294967296 := by rw [← Nat.pow_add, Nat.add_comm, h]
theorem div_lt32 {x m n : Nat} (hx : x < 4294967296) (h : m + n = 32) : x / 2 ^ n < 2 ^ m := Nat.div_lt_of_lt_mul (by rw [pow32 h]; exact hx)
theorem ror_b {x m n : Nat} (hx : x < 4294967296) (h : m + n = 32) : ((x * 2 ^ m) % 4294967296) ||| (x / 2 ^ n) = ror x n := by
  have e : x * 2 ^ m % 4294967296 = x % 2 ^ n * 2 ^ m := by rw [← pow32 h, Nat.mul_mod_mul_right]
  unfold ror
  rw [e, Nat.or_comm, ← Nat.shiftLeft_eq, or_sh (div_lt32 hx h), show 32 - n = m by omega, Nat.mul_comm]
theorem ror_a {x m n : Nat} (hx : x < 4294967296) (h : m + n = 32) : ((x <<< m) % 4294967296) ||| (x / 2 ^ n) = ror x n := by rw [Nat.shiftLeft_eq, ror_b hx h]
theorem ror_lt {x m n : Nat} (hx : x < 4294967296) (h : m + n = 32) : ror x n < 4294967296 := by
  rw [← ror_b hx h]
  exact Nat.or_lt_two_pow (n := 32) (Nat.mod_lt _ (by decide)) (Nat.lt_of_le_of_lt (Nat.div_le_self _ _) hx)
theorem x32 {a b : Nat} (ha : a < 4294967296) (hb : b < 4294967296) : a ^^^ b < 4294967296 := Nat.xor_lt_two_pow (n := 32) ha hb
theorem a32 {a b : Nat} (ha : a < 4294967296) : a &&& b < 4294967296 := Nat.lt_of_le_of_lt Nat.and_le_left ha
def s0W (x : Nat) : Nat := (ror x 7 ^^^ ror x 18) ^^^ (x / 2 ^ 3)
def s1W (x : Nat) : Nat := (ror x 17 ^^^ ror x 19) ^^^ (x / 2 ^ 10)
def e0W (x : Nat) : Nat := (ror x 6 ^^^ ror x 11) ^^^ ror x 25
def e1W (x : Nat) : Nat := (ror x 2 ^^^ ror x 13) ^^^ ror x 22
theorem d32 {x : Nat} (hx : x < 4294967296) (n : Nat) : x / 2 ^ n < 4294967296 := Nat.lt_of_le_of_lt (Nat.div_le_self _ _) hx
theorem s0W_lt {x : Nat} (hx : x < 4294967296) : s0W x < 4294967296 := x32 (x32 (ror_lt (m := 25) hx rfl) (ror_lt (m := 14) hx rfl)) (d32 hx 3)
theorem s1W_lt {x : Nat} (hx : x < 4294967296) : s1W x < 4294967296 := x32 (x32 (ror_lt (m := 15) hx rfl) (ror_lt (m := 13) hx rfl)) (d32 hx 10)
theorem e0W_lt {x : Nat} (hx : x < 4294967296) : e0W x < 4294967296 := x32 (x32 (ror_lt (m := 26) hx rfl) (ror_lt (m := 21) hx rfl)) (ror_lt (m := 7) hx rfl)
theorem e1W_lt {x : Nat} (hx : x < 4294967296) : e1W x < 4294967296 := x32 (x32 (ror_lt (m := 30) hx rfl) (ror_lt (m := 19) hx rfl)) (ror_lt (m := 10) hx rfl)
def w4 (d : List Nat) (i : Nat) : Nat := ((d.getD (4 * i) 0 * 256 + d.getD (4 * i + 1) 0) * 256 + d.getD (4 * i + 2) 0) * 256 + d.getD (4 * i + 3) 0
theorem w4_lt {d : List Nat} (hd : LB 256 d) (i : Nat) : w4 d i < 4294967296 := by
  have h0 := hd.get (by decide) (4 * i)
  have h1 := hd.get (by decide) (4 * i + 1)
  have h2 := hd.get (by decide) (4 * i + 2)
  have h3 := hd.get (by decide) (4 * i + 3)
  unfold w4; omega
theorem w4_or {a b c d : Nat} (ha : a < 256) (hb : b < 256) (hc : c < 256) (hd : d < 256) : ((((a <<< 24) % 4294967296) ||| ((b <<< 16) % 4294967296)) ||| ((c * (2 ^ 8)) % 4294967296)) ||| d = ((a * 256 + b) * 256 + c) * 256 + d := by
  have e1 : (a <<< 24) % 4294967296 = a <<< 24 := by rw [Nat.shiftLeft_eq]; omega
  have e2 : (b <<< 16) % 4294967296 = b * 65536 := by rw [Nat.shiftLeft_eq, show (2 : Nat) ^ 16 = 65536 from rfl]; omega
  have e3 : (c * 2 ^ 8) % 4294967296 = c * 256 := by rw [show (2 : Nat) ^ 8 = 256 from rfl]; omega
  rw [e1, e2, e3, Nat.or_comm (a <<< 24), or_sh (show b * 65536 < 2 ^ 24 by omega)]
  rw [Nat.or_comm, Nat.or_comm _ (c * 256), show b * 65536 + 2 ^ 24 * a = (a * 256 + b) <<< 16 by rw [Nat.shiftLeft_eq]; omega, or_sh (show c * 256 < 2 ^ 16 by omega)]
  rw [show c * 256 + 2 ^ 16 * (a * 256 + b) = ((a * 256 + b) * 256 + c) <<< 8 by rw [Nat.shiftLeft_eq]; omega, or_sh (show d < 2 ^ 8 by omega)]
  omega
def wn (d l : List Nat) (i : Nat) : Nat := if i < 16 then w4 d i else (l.getD (i - 16) 0 + s0W (l.getD (i - 15) 0) + l.getD (i - 7) 0 + s1W (l.getD (i - 2) 0)) % 4294967296
def ws (d : List Nat) : Nat → List Nat
  | 0 => []
  | i + 1 => ws d i ++ [wn d (ws d i) i]
theorem ws_length (d : List Nat) : ∀ i, (ws d i).length = i := by
  intro i
  induction i with
  | zero => rfl
  | succ i ih => simp [ws, ih]
theorem wn_lt {d l : List Nat} (hd : LB 256 d) (i : Nat) : wn d l i < 4294967296 := by
  unfold wn
  split
  · exact w4_lt hd i
  · exact Nat.mod_lt _ (by decide)
theorem ws_lt {d : List Nat} (hd : LB 256 d) : ∀ i, LB 4294967296 (ws d i) := by
  intro i
  induction i with
  | zero => exact LB.nil
  | succ i ih => exact ih.app (LB.cons (wn_lt hd i) LB.nil)
/-- the array of words, the first i of them made -/
def wf (d : List Nat) (i v : Nat) : List Nat := ws d i ++ v :: List.replicate (63 - i) 0
theorem wf_set {d : List Nat} {i v u : Nat} : (wf d i v).set i u = wf d i u := by
  unfold wf
  rw [List.set_append_right _ _ (by rw [ws_length]; exact Nat.le_refl _), ws_length, Nat.sub_self]
  rfl
theorem wf_old {d : List Nat} {i v j : Nat} (h : j < i) : (wf d i v).getD j 0 = (ws d i).getD j 0 := by
  unfold wf
  rw [List.getD_eq_getElem?_getD, List.getElem?_append_left (by rw [ws_length]; exact h), ← List.getD_eq_getElem?_getD]
def wg (d : List Nat) (i : Nat) : List Nat := ws d i ++ List.replicate (64 - i) 0
theorem wg_wf {d : List Nat} {i : Nat} (h : i < 64) : wg d i = wf d i 0 := by
  unfold wg wf
  rw [show 64 - i = (63 - i) + 1 by omega, List.replicate_succ]
theorem wf_wg {d : List Nat} {i : Nat} (h : i < 64) : wf d i (wn d (ws d i) i) = wg d (i + 1) := by
  unfold wg wf
  rw [show 64 - (i + 1) = 63 - i by omega]
  simp [ws, List.append_assoc]
theorem P_words {d : List Nat} (hd : LB 256 d) (hl : d.length = 64) : run (F_sha256_block_l1 d) (0, List.replicate 64 0) = some (ws d 64) := by
  have h := run_for (f := F_sha256_block_l1 d) (x := wg d 64) (fun i => (i, wg d i)) 64 (fun i hi => ?_) ?_
  · have e : wg d 0 = List.replicate 64 0 := rfl
    have e2 : wg d 64 = ws d 64 := List.append_nil _
    rw [e, e2] at h; exact h
  · unfold F_sha256_block_l1
    dsimp only
    rw [if_pos hi, wg_wf hi]
    by_cases q : i < 16
    · have h0 := hd.get (by decide) (4 * i)
      have h1 := hd.get (by decide) (4 * i + 1)
      have h2 := hd.get (by decide) (4 * i + 2)
      have h3 := hd.get (by decide) (4 * i + 3)
      rw [if_pos q]
      iterate 13 rw [gd_pos (by omega)]
      rw [w4_or h0 h1 h2 h3, wf_set, ← wf_wg hi]
      congr 5
      unfold wn
      rw [if_pos q]
      rfl
    · have e15 : Int.toNat (((i : Nat) : Int) - ((15 : Nat) : Int)) = i - 15 := by omega
      have e2 : Int.toNat (((i : Nat) : Int) - ((2 : Nat) : Int)) = i - 2 := by omega
      have e16 : Int.toNat (((i : Nat) : Int) - ((16 : Nat) : Int)) = i - 16 := by omega
      have e7 : Int.toNat (((i : Nat) : Int) - ((7 : Nat) : Int)) = i - 7 := by omega
      rw [if_neg q]
      iterate 10 rw [gd_pos (by omega)]
      rw [e15, e2, e16, e7, wf_set, wf_old (by omega), wf_old (by omega), wf_old (by omega), wf_old (by omega)]
      have hw := fun j => (ws_lt hd i).get (by decide) j
      rw [ror_a (m := 25) (n := 7) (hw _) rfl, ror_b (m := 14) (n := 18) (hw _) rfl, ror_b (m := 15) (n := 17) (hw _) rfl, ror_b (m := 13) (n := 19) (hw _) rfl, ← wf_wg hi]
      congr 5
      unfold wn s0W s1W
      rw [if_neg q]
      generalize (ror ((ws d i).getD (i - 15) 0) 7 ^^^ ror ((ws d i).getD (i - 15) 0) 18) ^^^ ((ws d i).getD (i - 15) 0 / 2 ^ 3) = A
      generalize (ror ((ws d i).getD (i - 2) 0) 17 ^^^ ror ((ws d i).getD (i - 2) 0) 19) ^^^ ((ws d i).getD (i - 2) 0 / 2 ^ 10) = B
      omega
  · unfold F_sha256_block_l1
    dsimp only
    rw [if_neg (by decide)]
/-! ### Rounds -/
def chW (a b c : Nat) : Nat := (a &&& b) ^^^ ((4294967295 - a) &&& c)
def maW (a b c : Nat) : Nat := ((a &&& b) ^^^ (a &&& c)) ^^^ (b &&& c)
def rt1 (s : List Nat) (k w : Nat) : Nat := s.getD 7 0 + e0W (s.getD 4 0) + chW (s.getD 4 0) (s.getD 5 0) (s.getD 6 0) + k + w
def rt2 (s : List Nat) : Nat := e1W (s.getD 0 0) + maW (s.getD 0 0) (s.getD 1 0) (s.getD 2 0)
def rnd (s : List Nat) (k w : Nat) : List Nat := [(rt1 s k w + rt2 s) % 4294967296, s.getD 0 0, s.getD 1 0, s.getD 2 0, (s.getD 3 0 + rt1 s k w) % 4294967296, s.getD 4 0, s.getD 5 0, s.getD 6 0]
def rs (K l s : List Nat) : Nat → List Nat
  | 0 => s
  | i + 1 => rnd (rs K l s i) (K.getD i 0) (l.getD i 0)
/-- what a block makes of a state -/
def blockN (K s d : List Nat) : List Nat := (List.range 8).map fun i => (s.getD i 0 + (rs K (ws d 64) s 64).getD i 0) % 4294967296
theorem rnd_lt {s : List Nat} {k w : Nat} (hs : LB 4294967296 s) : LB 4294967296 (rnd s k w) := by
  have h := fun q => hs.get (Nat.zero_lt_succ _) q
  exact LB.cons (Nat.mod_lt _ (Nat.zero_lt_succ _)) (LB.cons (h 0) (LB.cons (h 1) (LB.cons (h 2) (LB.cons (Nat.mod_lt _ (Nat.zero_lt_succ _)) (LB.cons (h 4) (LB.cons (h 5) (LB.cons (h 6) LB.nil)))))))
theorem rs_lt {K l s : List Nat} (hs : LB 4294967296 s) : ∀ j, LB 4294967296 (rs K l s j) := by
  intro j
  induction j with
  | zero => exact hs
  | succ j ih => exact rnd_lt ih
theorem rs_len {K l s : List Nat} (hs : s.length = 8) : ∀ j, (rs K l s j).length = 8 := by
  intro j
  cases j with
  | zero => exact hs
  | succ j => rfl
theorem blockN_len (K s d : List Nat) : (blockN K s d).length = 8 := by unfold blockN; simp
theorem blockN_lt (K s d : List Nat) : LB 4294967296 (blockN K s d) := by
  unfold blockN
  intro x hx
  obtain ⟨p, _, rfl⟩ := List.mem_map.1 hx
  exact Nat.mod_lt _ (Nat.zero_lt_succ _)
theorem P_rounds {K l s : List Nat} (hs : LB 4294967296 s) : run (F_sha256_block_l2 K l) (s.getD 0 0, s.getD 1 0, s.getD 2 0, s.getD 3 0, s.getD 4 0, s.getD 5 0, s.getD 6 0, s.getD 7 0, 0) =
    some ((rs K l s 64).getD 0 0, (rs K l s 64).getD 1 0, (rs K l s 64).getD 2 0, (rs K l s 64).getD 3 0, (rs K l s 64).getD 4 0, (rs K l s 64).getD 5 0, (rs K l s 64).getD 6 0, (rs K l s 64).getD 7 0) := by
  refine run_for (f := F_sha256_block_l2 K l) (fun j => ((rs K l s j).getD 0 0, (rs K l s j).getD 1 0, (rs K l s j).getD 2 0, (rs K l s j).getD 3 0, (rs K l s j).getD 4 0, (rs K l s j).getD 5 0, (rs K l s j).getD 6 0, (rs K l s j).getD 7 0, j)) 64 (fun j hj => ?_) ?_
  · unfold F_sha256_block_l2
    dsimp only
    have hb := fun q => (rs_lt (K := K) (l := l) hs j).get (Nat.zero_lt_succ _) q
    rw [if_pos hj, gd_pos hj, gd_pos hj, gd_pos (by omega)]
    rw [ror_a (m := 26) (n := 6) (hb 4) rfl, ror_a (m := 21) (n := 11) (hb 4) rfl, ror_b (m := 7) (n := 25) (hb 4) rfl, ror_a (m := 30) (n := 2) (hb 0) rfl, ror_a (m := 19) (n := 13) (hb 0) rfl, ror_b (m := 10) (n := 22) (hb 0) rfl]
    have e1 : ∀ h E C k w T2, ((((((((h + E) % 4294967296) + C) % 4294967296) + k) % 4294967296) + w) % 4294967296 + T2 % 4294967296) % 4294967296 = (h + E + C + k + w + T2) % 4294967296 := by intros; omega
    have e2 : ∀ d h E C k w, (d + ((((((((h + E) % 4294967296) + C) % 4294967296) + k) % 4294967296) + w) % 4294967296)) % 4294967296 = (d + (h + E + C + k + w)) % 4294967296 := by intros; omega
    have e3 : 4294967296 - 1 - (rs K l s j).getD 4 0 = 4294967295 - (rs K l s j).getD 4 0 := by omega
    have e4 : ([K].getD 0 []).getD j 0 = K.getD j 0 := rfl
    have r : rs K l s (j + 1) = rnd (rs K l s j) (K.getD j 0) (l.getD j 0) := rfl
    rw [e1, e2, e3, r]
    try rw [e4]
    unfold rnd
    simp only [List.getD_cons_zero, List.getD_cons_succ]
    unfold rt1 rt2 e0W e1W chW maW
    rfl
  · unfold F_sha256_block_l2
    dsimp only
    rw [if_neg (by omega)]
theorem addf_step {s : List Nat} {m : Nat} (f : Nat → Nat) (hm : m < s.length) :
    ((List.range m).map f ++ s.drop m).set m (f m) = (List.range (m + 1)).map f ++ s.drop (m + 1) ∧ ((List.range m).map f ++ s.drop m).getD m 0 = s.getD m 0 := by
  have h1 : ((List.range m).map f).length = m := by simp
  have h2 : s.drop m = s.getD m 0 :: s.drop (m + 1) := drop_cons hm
  constructor
  · rw [List.set_append_right _ _ (by rw [h1]; exact Nat.le_refl _), h1, Nat.sub_self, h2, List.set_cons_zero, List.range_succ, List.map_append, List.append_assoc]
    rfl
  · rw [List.getD_eq_getElem?_getD, List.getElem?_append_right (by rw [h1]; exact Nat.le_refl _), h1, Nat.sub_self, h2]
    rfl
theorem list8 {l : List Nat} (h : l.length = 8) : ((((((((List.replicate 8 0).set 0 (l.getD 0 0)).set 1 (l.getD 1 0)).set 2 (l.getD 2 0)).set 3 (l.getD 3 0)).set 4 (l.getD 4 0)).set 5 (l.getD 5 0)).set 6 (l.getD 6 0)).set 7 (l.getD 7 0) = l := by
  match l, h with
  | [a, b, c, d, e, f, g, h'], _ => rfl
theorem P_sum8 {s R : List Nat} (hR : R.length = 8) (hs : s.length = 8) :
    run (F_sha256_block_l3 (R.getD 0 0) (R.getD 1 0) (R.getD 2 0) (R.getD 3 0) (R.getD 4 0) (R.getD 5 0) (R.getD 6 0) (R.getD 7 0)) (0, s) = some ((List.range 8).map fun i => (s.getD i 0 + R.getD i 0) % 4294967296) := by
  have h := run_for (f := F_sha256_block_l3 (R.getD 0 0) (R.getD 1 0) (R.getD 2 0) (R.getD 3 0) (R.getD 4 0) (R.getD 5 0) (R.getD 6 0) (R.getD 7 0)) (x := (List.range 8).map (fun i => (s.getD i 0 + R.getD i 0) % 4294967296) ++ s.drop 8)
    (fun m => (m, (List.range m).map (fun i => (s.getD i 0 + R.getD i 0) % 4294967296) ++ s.drop m)) 8 (fun m hm => ?_) ?_
  · have e : (0, (List.range 0).map (fun i => (s.getD i 0 + R.getD i 0) % 4294967296) ++ s.drop 0) = (0, s) := rfl
    rw [e, List.drop_of_length_le (by omega), List.append_nil] at h
    exact h
  · unfold F_sha256_block_l3
    dsimp only
    obtain ⟨h1, h2⟩ := addf_step (fun i => (s.getD i 0 + R.getD i 0) % 4294967296) (s := s) (m := m) (by omega)
    rw [if_pos hm, gd_pos hm, gd_pos hm, gd_pos hm, gd_pos (by omega), list8 hR, h2, h1]
  · unfold F_sha256_block_l3
    dsimp only
    rw [if_neg (by omega)]
theorem P_block {K s d : List Nat} (hs : LB 4294967296 s) (hsl : s.length = 8) (hd : LB 256 d) (hl : d.length = 64) : F_sha256_block K s d = some (blockN K s d) := by
  unfold F_sha256_block
  rw [P_words hd hl, bnd_mk, P_rounds hs, bnd_mk]
  dsimp only
  rw [P_sum8 (rs_len hsl 64) hsl, bnd_mk]
  rfl
end Go.Proofs.Ytddphjmcoolinaa
