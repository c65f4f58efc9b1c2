/- Padding and the digest of layer 13, by the program and the reference. Lemmas, no statement of the claim. -/
import Derived.Test.YtddphjmcoolinaaWe
set_option linter.unusedVariables false
set_option linter.unusedSimpArgs false
set_option maxRecDepth 10000
namespace Go.Proofs.Ytddphjmcoolinaa
theorem K64_len : K64.length = 64 := by unfold K64; rw [List.length_map, prs_len (by decide)]
theorem S8_len : S8.length = 8 := by unfold S8; rw [List.length_map, prs_len (by decide)]
theorem rootW_lt (p k : Nat) : rootW p k < 4294967296 := Nat.mod_lt _ (Nat.zero_lt_succ _)
theorem S8_lt : LB 4294967296 S8 := by
  unfold S8
  intro x hx
  obtain ⟨p, _, rfl⟩ := List.mem_map.1 hx
  exact rootW_lt _ _
theorem K64_lt : LB 4294967296 K64 := by
  unfold K64
  intro x hx
  obtain ⟨p, _, rfl⟩ := List.mem_map.1 hx
  exact rootW_lt _ _
/-! ### Padding -/
def zn (n : Nat) : Nat := (64 - (n + 9) % 64) % 64
def lb8 (n : Nat) : List Nat := (List.range 8).map fun i => n / 2 ^ (56 - 8 * i) % 256
def pt (n : Nat) : List Nat := [128] ++ List.replicate (zn n) 0 ++ lb8 (8 * n)
def padN (d : List Nat) : List Nat := d ++ pt d.length
theorem pt_len (n : Nat) : (pt n).length = zn n + 9 := by unfold pt lb8; simp
theorem padN_len (d : List Nat) : (padN d).length = d.length + zn d.length + 9 := by unfold padN; rw [List.length_append, pt_len]; omega
theorem lb8_snoc (n i : Nat) : (List.range i).map (fun i => n / 2 ^ (56 - 8 * i) % 256) ++ [n / 2 ^ (56 - 8 * i) % 256] = (List.range (i + 1)).map fun i => n / 2 ^ (56 - 8 * i) % 256 := by
  rw [List.range_succ, List.map_append]; rfl
theorem pt_lb (n : Nat) : LB 256 (pt n) := by
  unfold pt lb8
  refine LB.app (LB.app (LB.cons (by decide) LB.nil) (LB.rep (by decide) _)) ?_
  intro x hx
  obtain ⟨p, _, rfl⟩ := List.mem_map.1 hx
  exact Nat.mod_lt _ (Nat.zero_lt_succ _)
theorem padN_lb {d : List Nat} (hd : LB 256 d) : LB 256 (padN d) := LB.app hd (pt_lb _)
theorem rep_snoc0 (n : Nat) : List.replicate n 0 ++ [0] = List.replicate (n + 1) (0 : Nat) := by rw [← List.replicate_succ']
theorem P_pad {n : Nat} (hn : n ≤ 100000) : F_sha256_pad ((n : Nat) : Int) = some (pt n) := by
  unfold F_sha256_pad
  have h1 := run_for (f := F_sha256_pad_l1 ((n : Nat) : Int)) (x := [128] ++ List.replicate (zn n) 0) (fun i => [128] ++ List.replicate i 0) (zn n) (fun i hi => ?_) ?_
  · have e1 : run (F_sha256_pad_l1 ((n : Nat) : Int)) ((List.replicate 1 0).set 0 128) = some ([128] ++ List.replicate (zn n) 0) := h1
    rw [e1, bnd_mk]
    have hl : ([128] ++ List.replicate (zn n) 0).length = 1 + zn n := by simp; omega
    have hz : zn n < 64 := Nat.mod_lt _ (by decide)
    have h := run_for (f := F_sha256_pad_l2 ((n : Nat) : Int)) (x := pt n) (fun i => ([128] ++ List.replicate (zn n) 0 ++ (List.range i).map (fun i => 8 * n / 2 ^ (56 - 8 * i) % 256), ((56 : Nat) : Int) - 8 * ((i : Nat) : Int))) 8 (fun i hi => ?_) ?_
    · have e : ([128] ++ List.replicate (zn n) 0 ++ (List.range 0).map (fun i => 8 * n / 2 ^ (56 - 8 * i) % 256), ((56 : Nat) : Int) - 8 * ((0 : Nat) : Int)) = ([128] ++ List.replicate (zn n) 0, ((56 : Nat) : Int)) := by
        refine Prod.ext (List.append_nil _) ?_
        show ((56 : Nat) : Int) - 8 * ((0 : Nat) : Int) = ((56 : Nat) : Int)
        omega
      rw [e] at h
      rw [h, bnd_mk]
    · unfold F_sha256_pad_l2
      dsimp only
      have hl2 : ([128] ++ List.replicate (zn n) 0 ++ (List.range i).map (fun i => 8 * n / 2 ^ (56 - 8 * i) % 256)).length = 1 + zn n + i := by rw [List.length_append, hl]; simp
      have e2 : Int.toNat (((n : Nat) : Int) % ((18446744073709551616 : Nat) : Int)) = n := by omega
      have e3 : Int.toNat (((56 : Nat) : Int) - 8 * ((i : Nat) : Int)) = 56 - 8 * i := by omega
      have e4 : 8 * n % 18446744073709551616 = 8 * n := by omega
      rw [if_pos (by omega), gd_pos (by omega), hl2, gd_pos (by omega), gd_pos (by omega), gd_pos (by omega), e2, e3, e4, List.append_assoc _ _ [_], lb8_snoc, show ((56 : Nat) : Int) - 8 * ((i : Nat) : Int) - ((8 : Nat) : Int) = ((56 : Nat) : Int) - 8 * ((i + 1 : Nat) : Int) by omega]
    · unfold F_sha256_pad_l2
      dsimp only
      rw [if_neg (by omega)]
      rfl
  · have hl : ([128] ++ List.replicate i 0).length = 1 + i := by simp; omega
    unfold zn at hi
    unfold F_sha256_pad_l1
    rw [hl]
    rw [gd_pos (by omega), gd_pos (by omega), gd_pos (by omega), gd_pos (by omega), gd_pos (by omega), gd_pos (by omega), if_neg (by omega), gd_pos (by omega), List.append_assoc, rep_snoc0]
  · have hl : ([128] ++ List.replicate (zn n) 0).length = 1 + zn n := by simp; omega
    unfold F_sha256_pad_l1
    rw [hl]
    unfold zn
    rw [gd_pos (by omega), gd_pos (by omega), gd_pos (by omega), gd_pos (by omega), gd_pos (by omega), gd_pos (by omega), if_pos (by omega)]
theorem P_Pad {d : List Nat} (hd : d.length ≤ 100000) : F_sha256_Pad d = some (padN d) := by
  unfold F_sha256_Pad
  have hz : zn d.length < 64 := Nat.mod_lt _ (by decide)
  rw [gd_pos (by omega), P_pad hd, bnd_mk, pt_len, gd_pos (by omega), show min d.length d.length = d.length from Nat.min_self _, List.take_length, List.drop_of_length_le (by simp), List.append_nil]
  rfl
/-! ### The state after the blocks -/
def stN (p s : List Nat) : Nat → List Nat
  | 0 => s
  | k + 1 => blockN K64 (stN p s k) ((p.drop (64 * k)).take 64)
def outb (s : List Nat) (i : Nat) : Nat := s.getD (i / 4) 0 / 2 ^ (24 - 8 * (i % 4)) % 256
def sumN (d : List Nat) : List Nat := (List.range 32).map (outb (stN (padN d) S8 ((padN d).length / 64)))
theorem stN_len {p s : List Nat} (hs : s.length = 8) (k : Nat) : (stN p s k).length = 8 := by
  cases k with
  | zero => exact hs
  | succ k => exact blockN_len _ _ _
theorem stN_lt {p s : List Nat} (hs : LB 4294967296 s) (k : Nat) : LB 4294967296 (stN p s k) := by
  cases k with
  | zero => exact hs
  | succ k => exact blockN_lt _ _ _
theorem piece_len {p : List Nat} {k : Nat} (hk : 64 * k + 64 ≤ p.length) : ((p.drop (64 * k)).take 64).length = 64 := by
  rw [List.length_take, List.length_drop]; omega
theorem padN_blocks (d : List Nat) : (padN d).length = 64 * ((padN d).length / 64) := by
  rw [padN_len]; unfold zn; omega
theorem stN_app {d t s : List Nat} : ∀ k, 64 * k ≤ d.length → stN (d ++ t) s k = stN d s k
  | 0, _ => rfl
  | k + 1, h => by
    show blockN K64 (stN (d ++ t) s k) (((d ++ t).drop (64 * k)).take 64) = blockN K64 (stN d s k) ((d.drop (64 * k)).take 64)
    rw [stN_app k (by omega), List.drop_append_of_le_length (by omega), List.take_append_of_le_length (by rw [List.length_drop]; omega)]
theorem stN_add (p s : List Nat) (a : Nat) : ∀ b, stN p s (a + b) = stN (p.drop (64 * a)) (stN p s a) b
  | 0 => rfl
  | b + 1 => by
    show blockN K64 (stN p s (a + b)) ((p.drop (64 * (a + b))).take 64) = blockN K64 (stN (p.drop (64 * a)) (stN p s a) b) (((p.drop (64 * a)).drop (64 * b)).take 64)
    rw [stN_add p s a b, List.drop_drop, Nat.mul_add]
abbrev HSt := (Unit × (Unit × Nat) × Unit × Nat × Nat) × (List Nat) × (List Nat) × Nat × Nat × Unit × Unit × Nat
theorem P_write {d : List Nat} (hd : LB 256 d) : run (F_sha256_Sum_l1 d) (((), ((), 1), (), 0, 0), K64, S8, 0, d.length, (), (), (0 + d.length)) =
    some (((), ((), 1), (), 0, 0), K64, stN d S8 (d.length / 64), 64 * (d.length / 64), d.length - 64 * (d.length / 64), (), (), (0 + d.length)) := by
  refine run_for (f := F_sha256_Sum_l1 d) (fun k => ((((), ((), 1), (), 0, 0), K64, stN d S8 k, 64 * k, d.length - 64 * k, (), (), (0 + d.length)) : HSt)) (d.length / 64) (fun k hk => ?_) ?_
  · unfold F_sha256_Sum_l1
    dsimp only
    rw [if_pos (by omega), gd_pos (by omega), P_block (stN_lt S8_lt k) (stN_len S8_len k) ((hd.drop _).take _) (piece_len (by omega)), bnd_mk, gd_pos (by omega)]
    rw [show 64 * k + 64 = 64 * (k + 1) by omega, show d.length - 64 * k - 64 = d.length - 64 * (k + 1) by omega]
    rfl
  · unfold F_sha256_Sum_l1
    dsimp only
    rw [if_neg (by omega)]
theorem P_rest {d p s : List Nat} {a b m : Nat} (hp : p = (d.drop a).take b ++ pt d.length) (hl : p.length = 64 * m) (hb : LB 256 p) (hs : LB 4294967296 s) (hsl : s.length = 8) : run (F_sha256_Sum_l2 d a b K64 (pt d.length)) (0, p.length, s) = some (stN p s m) := by
  have h := run_for (f := F_sha256_Sum_l2 d a b K64 (pt d.length)) (x := stN p s m) (fun k => (64 * k, 64 * m - 64 * k, stN p s k)) m (fun k hk => ?_) ?_
  · rw [hl]; exact h
  · unfold F_sha256_Sum_l2
    dsimp only
    rw [if_pos (by omega), gd_pos (by omega), ← hp, P_block (stN_lt hs k) (stN_len hsl k) ((hb.drop _).take _) (piece_len (by omega)), bnd_mk, gd_pos (by omega)]
    rw [show 64 * k + 64 = 64 * (k + 1) by omega, show 64 * m - 64 * k - 64 = 64 * m - 64 * (k + 1) by omega]
    rfl
  · unfold F_sha256_Sum_l2
    dsimp only
    rw [if_neg (by omega)]
theorem P_lay {s : List Nat} : run (F_sha256_Sum_l3 s) (0, List.replicate 32 0) = some ((List.range 32).map (outb s)) := by
  have h := run_for (f := F_sha256_Sum_l3 s) (x := (List.range (4 * 8)).map (outb s) ++ (List.replicate 32 0).drop (4 * 8)) (fun i => (i, (List.range (4 * i)).map (outb s) ++ (List.replicate 32 0).drop (4 * i))) 8 (fun i hi => ?_) ?_
  · have e : (0, (List.range (4 * 0)).map (outb s) ++ (List.replicate 32 0).drop (4 * 0)) = (0, List.replicate 32 0) := rfl
    rw [e, List.drop_of_length_le (by simp), List.append_nil] at h
    exact h
  · unfold F_sha256_Sum_l3
    dsimp only
    have h := run_for (f := F_sha256_Sum_l4 s i) (x := (List.range (4 * (i + 1))).map (outb s) ++ (List.replicate 32 0).drop (4 * (i + 1))) (fun j => (j, (List.range (4 * i + j)).map (outb s) ++ (List.replicate 32 0).drop (4 * i + j))) 4 (fun j hj => ?_) ?_
    · rw [show 4 * i + 0 = 4 * i from rfl] at h
      rw [if_pos hi, gd_pos hi, h, bnd_mk, gd_pos (by omega)]
    · unfold F_sha256_Sum_l4
      dsimp only
      obtain ⟨h1, _⟩ := addf_step (outb s) (s := List.replicate 32 0) (m := 4 * i + j) (by simp; omega)
      have e : s.getD i 0 / 2 ^ Int.toNat (((24 : Nat) : Int) - ((8 * j : Nat) : Int)) % 256 = outb s (4 * i + j) := by
        unfold outb
        rw [show (4 * i + j) / 4 = i by omega, show (4 * i + j) % 4 = j by omega, show Int.toNat (((24 : Nat) : Int) - ((8 * j : Nat) : Int)) = 24 - 8 * j by omega]
      rw [if_pos hj, gd_pos (by omega), gd_pos (by omega), gd_pos (by omega), gd_pos (by omega), gd_pos (by omega), gd_pos (by omega), e, h1]
      rfl
    · unfold F_sha256_Sum_l4
      dsimp only
      rw [if_neg (by decide), show 4 * i + 4 = 4 * (i + 1) by omega]
  · unfold F_sha256_Sum_l3
    dsimp only
    rw [if_neg (by decide)]
theorem rest_pad (d : List Nat) : (d.drop (64 * (d.length / 64))).take (d.length - 64 * (d.length / 64)) ++ pt d.length = (padN d).drop (64 * (d.length / 64)) := by
  unfold padN
  rw [List.drop_append_of_le_length (by omega), List.take_of_length_le (by rw [List.length_drop]; exact Nat.le_refl _)]
theorem P_Sum {d : List Nat} (hd : LB 256 d) (hl : d.length ≤ 100000) : F_sha256_Sum d = some (sumN d) := by
  unfold F_sha256_Sum
  rw [P_Rounds, bnd_mk, P_Start, bnd_mk, gd_pos (by omega), gd_pos (by omega), P_write hd, bnd_mk]
  dsimp only
  rw [if_neg (by decide), bnd_mk]
  dsimp only
  have hz : zn d.length < 64 := Nat.mod_lt _ (by decide)
  have hp := padN_len d
  have hm := padN_blocks d
  have hrest := rest_pad d
  have hlen : ((padN d).drop (64 * (d.length / 64))).length = 64 * ((padN d).length / 64 - d.length / 64) := by rw [List.length_drop]; omega
  have e : d.length - 64 * (d.length / 64) + (pt d.length).length = ((padN d).drop (64 * (d.length / 64))).length := by rw [List.length_drop, pt_len]; omega
  rw [gd_pos (Nat.le_refl _), gd_pos (Nat.le_refl _), gd_pos (Nat.le_refl _), Nat.zero_add, P_pad hl, bnd_mk, gd_pos (by rw [pt_len]; omega), gd_pos (by rw [pt_len]; omega), e]
  rw [P_rest (p := (padN d).drop (64 * (d.length / 64))) hrest.symm hlen ((padN_lb hd).drop _) (stN_lt S8_lt _) (stN_len S8_len _), bnd_mk, P_lay, bnd_mk]
  unfold sumN
  have h1 : stN d S8 (d.length / 64) = stN (padN d) S8 (d.length / 64) := (stN_app _ (by omega)).symm
  rw [h1, ← stN_add, show d.length / 64 + ((padN d).length / 64 - d.length / 64) = (padN d).length / 64 by omega]
theorem P_Block {s d : List Nat} (hs : LB 4294967296 s) (hsl : s.length = 8) (hd : LB 256 d) :
    F_sha256_Block s d = some (if d.length = 64 then (blockN K64 s d, ((0 : Nat) : Int)) else (List.replicate 8 0, ((1 : Nat) : Int))) := by
  unfold F_sha256_Block
  by_cases q : d.length = 64
  · rw [if_pos q, P_Rounds, bnd_mk, P_block hs hsl hd q, bnd_mk, if_pos q]
  · rw [if_neg q, if_neg q]
/-! ### The reference -/
theorem P_refPad {d : List Nat} (hd : d.length ≤ 100000) : F_casemateref13_Pad d = some (padN d) := by
  have hz : zn d.length < 64 := Nat.mod_lt _ (by decide)
  unfold F_casemateref13_Pad
  rw [gd_pos (by omega), gd_pos (by omega)]
  have h1 := run_for (f := F_casemateref13_Pad_l1) (x := d ++ [128] ++ List.replicate (zn d.length) 0) (fun i => d ++ [128] ++ List.replicate i 0) (zn d.length) (fun i hi => ?_) ?_
  · have e1 : run (F_casemateref13_Pad_l1) (d ++ [128]) = some (d ++ [128] ++ List.replicate (zn d.length) 0) := by
      have e : d ++ [128] ++ List.replicate 0 0 = d ++ [128] := List.append_nil _
      rw [e] at h1; exact h1
    have hl : (d ++ [128] ++ List.replicate (zn d.length) 0).length = d.length + 1 + zn d.length := by simp; omega
    rw [e1, bnd_mk, gd_pos (by omega)]
    have h := run_for (f := F_casemateref13_Pad_l2 d) (x := padN d) (fun i => (d ++ [128] ++ List.replicate (zn d.length) 0 ++ (List.range i).map (fun i => 8 * d.length / 2 ^ (56 - 8 * i) % 256), ((7 : Nat) : Int) - ((i : Nat) : Int))) 8 (fun i hi => ?_) ?_
    · have e : (d ++ [128] ++ List.replicate (zn d.length) 0 ++ (List.range 0).map (fun i => 8 * d.length / 2 ^ (56 - 8 * i) % 256), ((7 : Nat) : Int) - ((0 : Nat) : Int)) = (d ++ [128] ++ List.replicate (zn d.length) 0, ((7 : Nat) : Int)) := by
        refine Prod.ext (List.append_nil _) ?_
        show ((7 : Nat) : Int) - ((0 : Nat) : Int) = ((7 : Nat) : Int)
        omega
      rw [e] at h
      rw [h, bnd_mk]
    · unfold F_casemateref13_Pad_l2
      dsimp only
      have hl2 : (d ++ [128] ++ List.replicate (zn d.length) 0 ++ (List.range i).map (fun i => 8 * d.length / 2 ^ (56 - 8 * i) % 256)).length = d.length + 1 + zn d.length + i := by rw [List.length_append, hl]; simp
      have e2 : ((8 : Nat) : Int) * (((7 : Nat) : Int) - ((i : Nat) : Int)) = ((56 - 8 * i : Nat) : Int) := by omega
      have hpow : 0 < 2 ^ (56 - 8 * i) := Nat.pow_pos (by decide)
      have pa : (0 : Int) ≤ ((8 * d.length / 2 ^ (56 - 8 * i) : Nat) : Int) := Int.natCast_nonneg _
      have e3 : Int.toNat ((((8 * d.length / 2 ^ (56 - 8 * i) : Nat) : Int) % ((256 : Nat) : Int)) % ((256 : Nat) : Int)) = 8 * d.length / 2 ^ (56 - 8 * i) % 256 := by
        rw [← Int.natCast_emod, ← Int.natCast_emod, Int.toNat_natCast, Nat.mod_mod]
      rw [if_pos (by omega), e2, gd_pos (by omega), gd_pos (by omega), P_power (by omega), bnd_mk, gd_pos (by omega), gd_pos (by omega), ← Int.natCast_ediv, gd_pos pa, gd_pos (by decide), hl2, gd_pos (by omega), gd_pos (by omega), gd_pos (by omega), e3, List.append_assoc _ _ [_], lb8_snoc, show ((7 : Nat) : Int) - ((i : Nat) : Int) - ((1 : Nat) : Int) = ((7 : Nat) : Int) - ((i + 1 : Nat) : Int) by omega]
    · unfold F_casemateref13_Pad_l2
      dsimp only
      rw [if_neg (by omega)]
      unfold padN pt lb8
      simp only [List.append_assoc]
  · have hl : (d ++ [128] ++ List.replicate i 0).length = d.length + 1 + i := by simp; omega
    unfold zn at hi
    unfold F_casemateref13_Pad_l1
    rw [hl, gd_pos (by omega), if_neg (by omega), gd_pos (by omega), List.append_assoc, rep_snoc0]
  · have hl : (d ++ [128] ++ List.replicate (zn d.length) 0).length = d.length + 1 + zn d.length := by simp; omega
    unfold F_casemateref13_Pad_l1
    rw [hl]
    unfold zn
    rw [gd_pos (by omega), if_pos (by omega)]
theorem P_refblocks {p : List Nat} {n : Nat} (hb : LB 256 p) (hp : p.length = 64 * n) (hn : n ≤ 100000) : run (F_casemateref13_Sum_l1 p (cI K64)) (cI S8, 0) = some (cI (stN p S8 n)) := by
  refine run_for (f := F_casemateref13_Sum_l1 p (cI K64)) (fun k => (cI (stN p S8 k), 64 * k)) n (fun k hk => ?_) ?_
  · unfold F_casemateref13_Sum_l1
    dsimp only
    rw [if_pos (by omega), gd_pos (by omega), gd_pos (by omega), gd_pos (by omega), show 64 * k + 64 - 64 * k = 64 by omega, P_refBlock K64_lt K64_len (stN_lt S8_lt k) (stN_len S8_len k) ((hb.drop _).take _) (piece_len (by omega)), bnd_mk, gd_pos (by omega)]
    rw [show 64 * k + 64 = 64 * (k + 1) by omega]
    rfl
  · unfold F_casemateref13_Sum_l1
    dsimp only
    rw [if_neg (by omega)]
theorem P_reflay {s : List Nat} (hsl : s.length = 8) : run (F_casemateref13_Sum_l2 (cI s)) ([], 0) = some ((List.range 32).map (outb s)) := by
  refine run_for (f := F_casemateref13_Sum_l2 (cI s)) (fun i => ((List.range (4 * i)).map (outb s), i)) 8 (fun i hi => ?_) ?_
  · unfold F_casemateref13_Sum_l2
    dsimp only
    have h := run_for (f := F_casemateref13_Sum_l3 (cI s) i) (x := (List.range (4 * (i + 1))).map (outb s)) (fun j => ((List.range (4 * i + j)).map (outb s), ((3 : Nat) : Int) - ((j : Nat) : Int))) 4 (fun j hj => ?_) ?_
    · have e : ((List.range (4 * i + 0)).map (outb s), ((3 : Nat) : Int) - ((0 : Nat) : Int)) = ((List.range (4 * i)).map (outb s), ((3 : Nat) : Int)) := by
        refine Prod.ext rfl ?_
        show ((3 : Nat) : Int) - ((0 : Nat) : Int) = ((3 : Nat) : Int)
        omega
      rw [e] at h
      rw [if_pos hi, h, bnd_mk, gd_pos (by omega)]
    · unfold F_casemateref13_Sum_l3
      dsimp only
      have e2 : ((8 : Nat) : Int) * (((3 : Nat) : Int) - ((j : Nat) : Int)) = ((24 - 8 * j : Nat) : Int) := by omega
      have hpow : 0 < 2 ^ (24 - 8 * j) := Nat.pow_pos (by decide)
      have pa : (0 : Int) ≤ ((s.getD i 0 / 2 ^ (24 - 8 * j) : Nat) : Int) := Int.natCast_nonneg _
      have e3 : Int.toNat ((((s.getD i 0 / 2 ^ (24 - 8 * j) : Nat) : Int) % ((256 : Nat) : Int)) % ((256 : Nat) : Int)) = outb s (4 * i + j) := by
        unfold outb
        rw [← Int.natCast_emod, ← Int.natCast_emod, Int.toNat_natCast, Nat.mod_mod, show (4 * i + j) / 4 = i by omega, show (4 * i + j) % 4 = j by omega]
      rw [if_pos (by omega), cI_length, gd_pos (by omega), e2, gd_pos (by omega), gd_pos (by omega), P_power (by omega), bnd_mk, cI_at, gd_pos (by omega), gd_pos (by omega), ← Int.natCast_ediv, gd_pos pa, gd_pos (by decide), List.length_map, List.length_range, gd_pos (by omega), gd_pos (by omega), gd_pos (by omega), e3]
      have e4 : (List.range (4 * i + j)).map (outb s) ++ [outb s (4 * i + j)] = (List.range (4 * i + (j + 1))).map (outb s) := by
        rw [← Nat.add_assoc, List.range_succ, List.map_append]; rfl
      rw [e4, show ((3 : Nat) : Int) - ((j : Nat) : Int) - ((1 : Nat) : Int) = ((3 : Nat) : Int) - ((j + 1 : Nat) : Int) by omega]
    · unfold F_casemateref13_Sum_l3
      dsimp only
      rw [if_neg (by omega), show 4 * i + 4 = 4 * (i + 1) by omega]
  · unfold F_casemateref13_Sum_l2
    dsimp only
    rw [if_neg (by decide)]
theorem P_refSum {d : List Nat} (hd : LB 256 d) (hl : d.length ≤ 100000) : F_casemateref13_Sum d = some (sumN d) := by
  have hz : zn d.length < 64 := Nat.mod_lt _ (by decide)
  have hp := padN_len d
  unfold F_casemateref13_Sum
  rw [P_refPad hl, bnd_mk, P_refRounds, bnd_mk, P_refStart, bnd_mk, P_refblocks (padN_lb hd) (padN_blocks d) (by omega), bnd_mk, P_reflay (stN_len S8_len _), bnd_mk]
  rfl
end Go.Proofs.Ytddphjmcoolinaa
