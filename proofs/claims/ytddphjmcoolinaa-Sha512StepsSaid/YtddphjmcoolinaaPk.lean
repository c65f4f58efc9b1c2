/- Padding and the digest of layer 14. -/
import Derived.Test.YtddphjmcoolinaaVd
import Derived.Test.YtddphjmcoolinaaPh
import Derived.Test.YtddphjmcoolinaaPi
set_option linter.unusedVariables false
set_option linter.unusedSimpArgs false
set_option maxRecDepth 10000
namespace Go.Proofs.Ytddphjmcoolinaa
theorem K80_len : K80.length = 80 := by unfold K80; rw [List.length_map, prs_len (by decide)]
theorem S8_len : S8.length = 8 := by unfold S8; rw [List.length_map, prs_len (by decide)]
theorem S8_lt : LB 18446744073709551616 S8 := by
  unfold S8
  intro x hx
  obtain ⟨p, _, rfl⟩ := List.mem_map.1 hx
  exact Nat.mod_lt _ (Nat.zero_lt_succ _)
theorem blockN_len (K s d : List Nat) : (blockN K s d).length = 8 := by unfold blockN; simp
theorem blockN_lt (K s d : List Nat) : LB 18446744073709551616 (blockN K s d) := by
  unfold blockN
  intro x hx
  obtain ⟨p, _, rfl⟩ := List.mem_map.1 hx
  exact Nat.mod_lt _ (Nat.zero_lt_succ _)
theorem P_Block {s d : List Nat} (hs : LB 18446744073709551616 s) (hsl : s.length = 8) (hd : By d) :
    F_sha512_Block s d = some (if d.length = 128 then (blockN K80 s d, 0) else ([0, 0, 0, 0, 0, 0, 0, 0], 1)) := by
  unfold F_sha512_Block
  by_cases q : d.length = 128
  · rw [if_pos (by omega), P_Rounds, bnd_mk, P_block hs hsl hd q, bnd_mk, if_pos q]
  · rw [if_neg (by omega), if_neg q]

/-! ### Padding -/
/-- how many zeros are laid on -/
def zn (n : Nat) : Nat := (128 - (n + 17) % 128) % 128
def pz (d : List Nat) : List Nat := d ++ [128] ++ List.replicate (zn d.length) 0
def lb8 (n : Nat) : List Nat := (List.range 8).map fun i => n / 2 ^ (56 - 8 * i) % 256
def padN (d : List Nat) : List Nat := pz d ++ List.replicate 8 0 ++ lb8 (8 * d.length)
theorem rep_snoc (n : Nat) : List.replicate n 0 ++ [0] = List.replicate (n + 1) (0 : Nat) := by
  rw [← List.replicate_succ']
theorem P_zeros {d : List Nat} (hd : d.length ≤ 100000) : run F_sha512_Pad_l1 (d ++ [128]) = some (pz d) := by
  have h := run_for (f := F_sha512_Pad_l1) (x := pz d) (fun i => d ++ [128] ++ List.replicate i 0) (zn d.length) (fun i hi => ?_) ?_
  · have e : d ++ [128] ++ List.replicate 0 0 = d ++ [128] := List.append_nil _
    rw [e] at h; exact h
  · unfold F_sha512_Pad_l1
    have hl : (d ++ [128] ++ List.replicate i 0).length = d.length + 1 + i := by simp; omega
    unfold zn at hi
    rw [hl, gd_pos (by omega), if_neg (by omega), gd_pos (by omega), List.append_assoc, rep_snoc]
  · unfold F_sha512_Pad_l1
    have hl : (d ++ [128] ++ List.replicate (zn d.length) 0).length = d.length + 1 + zn d.length := by simp; omega
    rw [hl, gd_pos (by unfold zn; omega), if_pos (by unfold zn; omega)]
    rfl
theorem pz_len (d : List Nat) : (pz d).length = d.length + 1 + zn d.length := by unfold pz; simp; omega
theorem lb8_snoc (n i : Nat) : (List.range i).map (fun i => n / 2 ^ (56 - 8 * i) % 256) ++ [n / 2 ^ (56 - 8 * i) % 256] = (List.range (i + 1)).map fun i => n / 2 ^ (56 - 8 * i) % 256 := by
  rw [List.range_succ, List.map_append]; rfl
theorem P_Pad {d : List Nat} (hd : d.length ≤ 100000) : F_sha512_Pad d = some (padN d) := by
  unfold F_sha512_Pad
  have hz := pz_len d
  have hzn : zn d.length < 128 := Nat.mod_lt _ (by decide)
  rw [gd_pos (by omega), gd_pos (by omega), P_zeros hd, bnd_mk, gd_pos (by omega)]
  have h := run_for (f := F_sha512_Pad_l2 d) (x := padN d) (fun i => (pz d ++ List.replicate 8 0 ++ (List.range i).map (fun i => 8 * d.length / 2 ^ (56 - 8 * i) % 256), (56 : Int) - 8 * (i : Int))) 8 (fun i hi => ?_) ?_
  · have e : pz d ++ List.replicate 8 0 ++ (List.range 0).map (fun i => 8 * d.length / 2 ^ (56 - 8 * i) % 256) = pz d ++ List.replicate 8 0 := List.append_nil _
    rw [e] at h
    rw [show (56 : Int) - 8 * ((0 : Nat) : Int) = 56 by omega] at h
    rw [h, bnd_mk]
  · unfold F_sha512_Pad_l2
    dsimp only
    have hl : (pz d ++ List.replicate 8 0 ++ (List.range i).map (fun i => 8 * d.length / 2 ^ (56 - 8 * i) % 256)).length = (pz d).length + 8 + i := by simp; omega
    rw [hl, if_pos (by omega), gd_pos (by omega), gd_pos (by omega), gd_pos (by omega), gd_pos (by omega), gd_pos (by omega)]
    rw [show ((56 : Int) - 8 * (i : Int)).toNat = 56 - 8 * i by omega, show 8 * d.length % 18446744073709551616 = 8 * d.length by omega, List.append_assoc _ _ [_], lb8_snoc]
    rw [show (56 : Int) - 8 * (i : Int) - 8 = 56 - 8 * ((i + 1 : Nat) : Int) by omega]
  · unfold F_sha512_Pad_l2
    dsimp only
    rw [if_neg (by omega)]
    rfl
theorem padN_len (d : List Nat) : (padN d).length = d.length + zn d.length + 17 := by unfold padN lb8; simp [pz_len]; omega
theorem padN_by {d : List Nat} (hd : By d) : By (padN d) := by
  unfold padN pz lb8
  refine LB.app (LB.app (LB.app (LB.app hd (LB.cons (by decide) LB.nil)) (LB.rep (by decide) _)) (LB.rep (by decide) _)) ?_
  intro x hx
  obtain ⟨p, _, rfl⟩ := List.mem_map.1 hx
  exact Nat.mod_lt _ (Nat.zero_lt_succ _)

/-! ### The state after the blocks -/
def stN (p s : List Nat) : Nat → List Nat
  | 0 => s
  | k + 1 => blockN K80 (stN p s k) ((p.drop (128 * k)).take 128)
def sumN (d : List Nat) : List Nat := (List.range 64).map fun i => (stN (padN d) S8 ((padN d).length / 128)).getD (i / 8) 0 / 2 ^ (56 - 8 * (i % 8)) % 256
theorem stN_len {p s : List Nat} (hs : s.length = 8) (k : Nat) : (stN p s k).length = 8 := by
  cases k with
  | zero => exact hs
  | succ k => exact blockN_len _ _ _
theorem stN_lt {p s : List Nat} (hs : LB 18446744073709551616 s) (k : Nat) : LB 18446744073709551616 (stN p s k) := by
  cases k with
  | zero => exact hs
  | succ k => exact blockN_lt _ _ _
theorem piece_len {p : List Nat} {n k : Nat} (hp : p.length = 128 * n) (hk : k < n) : ((p.drop (128 * k)).take 128).length = 128 := by
  rw [List.length_take, List.length_drop, hp]; omega
theorem P_blocks {p : List Nat} {n : Nat} (hp : p.length = 128 * n) (hb : By p) : run (F_sha512_Sum_l2 K80 p) (S8, 0, p.length) = some (stN p S8 n) := by
  have h := run_for (f := F_sha512_Sum_l2 K80 p) (x := stN p S8 n) (fun k => (stN p S8 k, 128 * k, 128 * n - 128 * k)) n (fun k hk => ?_) ?_
  · rw [hp]; exact h
  · unfold F_sha512_Sum_l2
    dsimp only
    rw [if_pos (by omega), gd_pos (by omega), P_block (stN_lt S8_lt k) (stN_len S8_len k) ((LB.drop hb _).take _) (piece_len hp hk), bnd_mk]
    rw [show 128 * k + 128 = 128 * (k + 1) by omega, show 128 * n - 128 * k - 128 = 128 * n - 128 * (k + 1) by omega]
    rfl
  · unfold F_sha512_Sum_l2
    dsimp only
    rw [if_neg (by omega)]
def outb (s : List Nat) (i : Nat) : Nat := s.getD (i / 8) 0 / 2 ^ (56 - 8 * (i % 8)) % 256
theorem P_lay {s : List Nat} : run (F_sha512_Sum_l3 s) (List.replicate 64 0, 0) = some ((List.range 64).map (outb s)) := by
  have h := run_for (f := F_sha512_Sum_l3 s) (x := (List.range (8 * 8)).map (outb s) ++ (List.replicate 64 0).drop (8 * 8)) (fun i => ((List.range (8 * i)).map (outb s) ++ (List.replicate 64 0).drop (8 * i), i)) 8 (fun i hi => ?_) ?_
  · have e : ((List.range (8 * 0)).map (outb s) ++ (List.replicate 64 0).drop (8 * 0), 0) = (List.replicate 64 0, 0) := rfl
    rw [e, List.drop_of_length_le (by simp), List.append_nil] at h
    exact h
  · unfold F_sha512_Sum_l3
    dsimp only
    have h := run_for (f := F_sha512_Sum_l4 i s) (x := ((List.range (8 * (i + 1))).map (outb s) ++ (List.replicate 64 0).drop (8 * (i + 1)), 8)) (fun j => ((List.range (8 * i + j)).map (outb s) ++ (List.replicate 64 0).drop (8 * i + j), j)) 8 (fun j hj => ?_) ?_
    · rw [show 8 * i + 0 = 8 * i from rfl] at h
      rw [if_pos (by omega), gd_pos (by omega), h, bnd_mk]
      dsimp only
      rw [gd_pos (by omega)]
    · unfold F_sha512_Sum_l4
      dsimp only
      obtain ⟨h1, _⟩ := addf_step (outb s) (s := List.replicate 64 0) (m := 8 * i + j) (by simp; omega)
      rw [if_pos (by omega), gd_pos (by omega), gd_pos (by omega), gd_pos (by omega), gd_pos (by omega), gd_pos (by omega), gd_pos (by omega), gd_pos (by omega), gd_pos (by omega)]
      have e : s.getD i 0 / 2 ^ ((56 : Int) - ((8 * j : Nat) : Int)).toNat % 256 = outb s (8 * i + j) := by
        unfold outb
        rw [show (8 * i + j) / 8 = i by omega, show (8 * i + j) % 8 = j by omega, show ((56 : Int) - ((8 * j : Nat) : Int)).toNat = 56 - 8 * j by omega]
      rw [e, h1]
      rfl
    · unfold F_sha512_Sum_l4
      dsimp only
      rw [if_neg (by omega), show 8 * i + 8 = 8 * (i + 1) by omega]
  · unfold F_sha512_Sum_l3
    dsimp only
    rw [if_neg (by omega)]
theorem padN_blocks (d : List Nat) : (padN d).length = 128 * ((padN d).length / 128) := by
  rw [padN_len]; unfold zn; omega
theorem P_parts {xss : List (List Nat)} (hl : xss.length ≤ 1000) (hx : ∀ x, x ∈ xss → x.length ≤ 10000) : run (F_sha512_Sum_l1 xss) ([], 0) = some xss.flatten := by
  have hlen : ∀ i, i ≤ xss.length → ((xss.take i).flatten).length ≤ 10000 * i := by
    intro i
    induction i with
    | zero => intro _; simp
    | succ i ih =>
      intro hi
      have e : xss.take (i + 1) = xss.take i ++ [xss.getD i []] := by
        rw [List.take_add_one, List.getD_eq_getElem?_getD, List.getElem?_eq_getElem (by omega)]; rfl
      have hm : xss.getD i [] ∈ xss := by rw [List.getD_eq_getElem?_getD, List.getElem?_eq_getElem (by omega)]; exact List.getElem_mem _
      have h1 := hx _ hm
      have h2 := ih (by omega)
      rw [e, List.flatten_append, List.length_append]
      simp only [List.flatten_cons, List.flatten_nil, List.append_nil]
      omega
  have h := run_for (f := F_sha512_Sum_l1 xss) (x := (xss.take xss.length).flatten) (fun i => ((xss.take i).flatten, i)) xss.length (fun i hi => ?_) ?_
  · rw [List.take_length] at h
    exact h
  · unfold F_sha512_Sum_l1
    dsimp only
    have e : xss.take (i + 1) = xss.take i ++ [xss.getD i []] := by
      rw [List.take_add_one, List.getD_eq_getElem?_getD, List.getElem?_eq_getElem hi]; rfl
    have hm : xss.getD i [] ∈ xss := by rw [List.getD_eq_getElem?_getD, List.getElem?_eq_getElem hi]; exact List.getElem_mem _
    have h1 := hx _ hm
    have h2 := hlen i (by omega)
    rw [if_pos (by omega), gd_pos (by omega), gd_pos (by omega), e, List.flatten_append]
    simp only [List.flatten_cons, List.flatten_nil, List.append_nil]
  · unfold F_sha512_Sum_l1
    dsimp only
    rw [if_neg (by omega)]
theorem P_Sum {xss : List (List Nat)} (hl : xss.length ≤ 1000) (hx : ∀ x, x ∈ xss → x.length ≤ 10000) (hf : xss.flatten.length ≤ 100000) (hb : By xss.flatten) : F_sha512_Sum xss = some (sumN xss.flatten) := by
  unfold F_sha512_Sum
  rw [P_parts hl hx, bnd_mk, P_Rounds, bnd_mk, P_Start, bnd_mk, P_Pad hf, bnd_mk, P_blocks (padN_blocks _) (padN_by hb), bnd_mk, P_lay, bnd_mk]
  rfl
end Go.Proofs.Ytddphjmcoolinaa
