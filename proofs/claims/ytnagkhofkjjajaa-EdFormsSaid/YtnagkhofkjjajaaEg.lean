/- Padding and the digest of layer 14, by the program. Lemmas, no statement of the claim. -/
import Derived.Test.YtnagkhofkjjajaaEf
set_option linter.unusedVariables false
set_option linter.unusedSimpArgs false
set_option maxRecDepth 10000
namespace Go.Proofs.Ytnagkhofkjjajaa.H
open Go.Proofs.Ytnagkhofkjjajaa
theorem S8_len : S8.length = 8 := by unfold S8; rw [List.length_map, prs_len (by decide)]
theorem rootH_lt (p k : Nat) : rootH p k < 18446744073709551616 := Nat.mod_lt _ (Nat.zero_lt_succ _)
theorem S8_lt : LB 18446744073709551616 S8 := by
  unfold S8
  intro x hx
  obtain ⟨p, _, rfl⟩ := List.mem_map.1 hx
  exact rootH_lt _ _
/-! ### Padding -/
def zn (n : Nat) : Nat := (128 - (n + 17) % 128) % 128
def lb8 (n : Nat) : List Nat := (List.range 8).map fun i => n / 2 ^ (56 - 8 * i) % 256
def pt (n : Nat) : List Nat := [128] ++ List.replicate (zn n) 0 ++ List.replicate 8 0 ++ lb8 (8 * n)
def padN (d : List Nat) : List Nat := d ++ pt d.length
theorem pt_len (n : Nat) : (pt n).length = zn n + 17 := by unfold pt lb8; simp
theorem padN_len (d : List Nat) : (padN d).length = d.length + zn d.length + 17 := by unfold padN; rw [List.length_append, pt_len]; omega
theorem lb8_snoc (n i : Nat) : (List.range i).map (fun i => n / 2 ^ (56 - 8 * i) % 256) ++ [n / 2 ^ (56 - 8 * i) % 256] = (List.range (i + 1)).map fun i => n / 2 ^ (56 - 8 * i) % 256 := by
  rw [List.range_succ, List.map_append]; rfl
theorem pt_lb (n : Nat) : LB 256 (pt n) := by
  unfold pt lb8
  refine LB.app (LB.app (LB.app (LB.cons (by decide) LB.nil) (LB.rep (by decide) _)) (LB.rep (by decide) _)) ?_
  intro x hx
  obtain ⟨p, _, rfl⟩ := List.mem_map.1 hx
  exact Nat.mod_lt _ (Nat.zero_lt_succ _)
theorem padN_lb {d : List Nat} (hd : LB 256 d) : LB 256 (padN d) := LB.app hd (pt_lb _)
theorem rep_snoc0 (n : Nat) : List.replicate n 0 ++ [0] = List.replicate (n + 1) (0 : Nat) := by rw [← List.replicate_succ']
theorem P_Pad {d : List Nat} (hl : d.length ≤ 100000) : F_sha512_Pad d = some (padN d) := by
  unfold F_sha512_Pad
  have hz : zn d.length < 128 := Nat.mod_lt _ (by decide)
  rw [gd_pos (by omega), gd_pos (by omega)]
  have h1 := run_for (f := F_sha512_Pad_l1) (x := d ++ [128] ++ List.replicate (zn d.length) 0) (fun i => d ++ [128] ++ List.replicate i 0) (zn d.length) (fun i hi => ?_) ?_
  · have e0 : d ++ [128] ++ List.replicate 0 0 = d ++ [128] := List.append_nil _
    rw [e0] at h1
    have hl2 : (d ++ [128] ++ List.replicate (zn d.length) 0).length = d.length + 1 + zn d.length := by simp; omega
    rw [h1, bnd_mk, hl2, gd_pos (by omega)]
    have h := run_for (f := F_sha512_Pad_l2 d) (x := padN d) (fun i => (d ++ [128] ++ List.replicate (zn d.length) 0 ++ List.replicate 8 0 ++ (List.range i).map (fun i => 8 * d.length / 2 ^ (56 - 8 * i) % 256), ((56 : Nat) : Int) - 8 * ((i : Nat) : Int))) 8 (fun i hi => ?_) ?_
    · have e : (d ++ [128] ++ List.replicate (zn d.length) 0 ++ List.replicate 8 0 ++ (List.range 0).map (fun i => 8 * d.length / 2 ^ (56 - 8 * i) % 256), ((56 : Nat) : Int) - 8 * ((0 : Nat) : Int)) = (d ++ [128] ++ List.replicate (zn d.length) 0 ++ List.replicate 8 0, ((56 : Nat) : Int)) := by
        refine Prod.ext (List.append_nil _) ?_
        show ((56 : Nat) : Int) - 8 * ((0 : Nat) : Int) = ((56 : Nat) : Int)
        omega
      rw [e] at h
      rw [h, bnd_mk]
    · unfold F_sha512_Pad_l2
      dsimp only
      have hl3 : (d ++ [128] ++ List.replicate (zn d.length) 0 ++ List.replicate 8 0 ++ (List.range i).map (fun i => 8 * d.length / 2 ^ (56 - 8 * i) % 256)).length = d.length + 1 + zn d.length + 8 + i := by rw [List.length_append, List.length_append, hl2]; simp
      have e3 : Int.toNat (((56 : Nat) : Int) - 8 * ((i : Nat) : Int)) = 56 - 8 * i := by omega
      have e4 : 8 * d.length % 18446744073709551616 = 8 * d.length := by omega
      rw [if_pos (by omega), gd_pos (by omega), hl3, gd_pos (by omega), gd_pos (by omega), gd_pos (by omega), e3, e4, List.append_assoc _ _ [_], lb8_snoc, show ((56 : Nat) : Int) - 8 * ((i : Nat) : Int) - ((8 : Nat) : Int) = ((56 : Nat) : Int) - 8 * ((i + 1 : Nat) : Int) by omega]
    · unfold F_sha512_Pad_l2
      dsimp only
      rw [if_neg (by omega)]
      unfold padN pt lb8
      simp only [List.append_assoc]
  · have hl2 : (d ++ [128] ++ List.replicate i 0).length = d.length + 1 + i := by simp; omega
    unfold zn at hi
    unfold F_sha512_Pad_l1
    rw [hl2, gd_pos (by omega), if_neg (by omega), gd_pos (by omega), List.append_assoc _ _ [0], rep_snoc0]
  · have hl2 : (d ++ [128] ++ List.replicate (zn d.length) 0).length = d.length + 1 + zn d.length := by simp; omega
    unfold F_sha512_Pad_l1
    rw [hl2]
    unfold zn
    rw [gd_pos (by omega), if_pos (by omega)]
/-! ### The state after the blocks -/
def stN (p s : List Nat) : Nat → List Nat
  | 0 => s
  | k + 1 => blockN K80 (stN p s k) ((p.drop (128 * k)).take 128)
def outb (s : List Nat) (i : Nat) : Nat := s.getD (i / 8) 0 / 2 ^ (56 - 8 * (i % 8)) % 256
def sumN (d : List Nat) : List Nat := (List.range 64).map (outb (stN (padN d) S8 ((padN d).length / 128)))
theorem sumN_len (d : List Nat) : (sumN d).length = 64 := by unfold sumN; simp
theorem sumN_lb (d : List Nat) : LB 256 (sumN d) := by
  unfold sumN
  intro x hx
  obtain ⟨p, _, rfl⟩ := List.mem_map.1 hx
  exact Nat.mod_lt _ (Nat.zero_lt_succ _)
theorem stN_len {p s : List Nat} (hs : s.length = 8) (k : Nat) : (stN p s k).length = 8 := by
  cases k with
  | zero => exact hs
  | succ k => exact blockN_len _ _ _
theorem stN_lt {p s : List Nat} (hs : LB 18446744073709551616 s) (k : Nat) : LB 18446744073709551616 (stN p s k) := by
  cases k with
  | zero => exact hs
  | succ k => exact blockN_lt _ _ _
theorem piece_len {p : List Nat} {k : Nat} (hk : 128 * k + 128 ≤ p.length) : ((p.drop (128 * k)).take 128).length = 128 := by
  rw [List.length_take, List.length_drop]; omega
theorem padN_blocks (d : List Nat) : (padN d).length = 128 * ((padN d).length / 128) := by
  rw [padN_len]; unfold zn; omega
theorem P_blocks {f : Nat × Nat × List Nat → Option ((Nat × Nat × List Nat) ⊕ List Nat)} {p : List Nat} {n : Nat} (hb : LB 256 p) (hp : p.length = 128 * n)
    (hf : ∀ a m s, f (a, m, s) = if (0 : Nat) < m then (gd (128 ≤ m) (bnd (F_sha512_block K80 s ((p.drop a).take 128)) (fun (r : List Nat) => gd (128 ≤ m) (some (.inl ((a + 128), (m - 128), r)))))) else (some (.inr s))) : run f (0, p.length, S8) = some (stN p S8 n) := by
  have h := run_for (f := f) (x := stN p S8 n) (fun k => (128 * k, 128 * n - 128 * k, stN p S8 k)) n (fun k hk => ?_) ?_
  · rw [hp]; exact h
  · rw [hf, if_pos (by omega), gd_pos (by omega), P_block (stN_lt S8_lt k) (stN_len S8_len k) ((hb.drop _).take _) (piece_len (by omega)), bnd_mk, gd_pos (by omega)]
    rw [show 128 * k + 128 = 128 * (k + 1) by omega, show 128 * n - 128 * k - 128 = 128 * n - 128 * (k + 1) by omega]
    rfl
  · rw [hf, if_neg (by omega)]
theorem lay_stepH (g : Nat → Nat) {i n : Nat} (hi : i < n) : ((List.range i).map g ++ List.replicate (n - i) 0).set i (g i) = (List.range (i + 1)).map g ++ List.replicate (n - (i + 1)) 0 := by
  have h1 : ((List.range i).map g).length = i := by simp
  rw [List.set_append_right _ _ (by rw [h1]; exact Nat.le_refl _), h1, Nat.sub_self, show n - i = (n - (i + 1)) + 1 by omega, List.replicate_succ, List.set_cons_zero, List.range_succ, List.map_append, List.append_assoc]
  rfl
theorem P_out {f : Nat × List Nat → Option ((Nat × List Nat) ⊕ List Nat)} {g : Nat → Nat × List Nat → Option ((Nat × List Nat) ⊕ List Nat)} {s : List Nat}
    (hf : ∀ n l, f (n, l) = if n < 8 then (bnd (gd (n < 8) (run (g n) (0, l)) : Option (List Nat)) (fun (r : List Nat) => gd ((n + 1) ≤ 9223372036854775807) (some (.inl ((n + 1), r))))) else (some (.inr l)))
    (hg : ∀ n k l, g n (k, l) = if k < 8 then (gd ((8 * n) ≤ 9223372036854775807) (gd (((8 * n) + k) ≤ 9223372036854775807) (gd ((8 * k) ≤ 9223372036854775807) (gd ((0 : Int) ≤ (((56 : Nat) : Int) - (((8 * k) : Nat) : Int))) (gd (((8 * n) + k) < 64) (gd ((k + 1) ≤ 9223372036854775807) (some (.inl ((k + 1), (l.set ((8 * n) + k) (((s.getD n 0) / (2 ^ (Int.toNat (((56 : Nat) : Int) - (((8 * k) : Nat) : Int))))) % 256))))))))))) else (some (.inr l))) :
    run f (0, List.replicate 64 0) = some ((List.range 64).map (outb s)) := by
  have h := run_for (f := f) (x := (List.range (8 * 8)).map (outb s) ++ List.replicate (64 - 8 * 8) 0) (fun i => (i, (List.range (8 * i)).map (outb s) ++ List.replicate (64 - 8 * i) 0)) 8 (fun i hi => ?_) ?_
  · have e : (0, (List.range (8 * 0)).map (outb s) ++ List.replicate (64 - 8 * 0) 0) = (0, List.replicate 64 0) := rfl
    rw [e] at h
    rw [h]
    exact congrArg some (List.append_nil _)
  · rw [hf, if_pos hi, gd_pos hi]
    have h2 := run_for (f := g i) (x := (List.range (8 * i + 8)).map (outb s) ++ List.replicate (64 - (8 * i + 8)) 0) (fun k => (k, (List.range (8 * i + k)).map (outb s) ++ List.replicate (64 - (8 * i + k)) 0)) 8 (fun k hk => ?_) ?_
    · have e : (0, (List.range (8 * i + 0)).map (outb s) ++ List.replicate (64 - (8 * i + 0)) 0) = (0, (List.range (8 * i)).map (outb s) ++ List.replicate (64 - 8 * i) 0) := rfl
      rw [e] at h2
      rw [h2, bnd_mk, gd_pos (by omega), show 8 * i + 8 = 8 * (i + 1) by omega]
    · rw [hg, if_pos hk]
      iterate 6 rw [gd_pos (by omega)]
      have e : ((s.getD i 0) / (2 ^ (Int.toNat (((56 : Nat) : Int) - (((8 * k) : Nat) : Int))))) % 256 = outb s (8 * i + k) := by
        unfold outb
        rw [show (8 * i + k) / 8 = i by omega, show (8 * i + k) % 8 = k by omega, show Int.toNat (((56 : Nat) : Int) - (((8 * k) : Nat) : Int)) = 56 - 8 * k by omega]
      rw [e, lay_stepH (outb s) (show 8 * i + k < 64 by omega)]
      rfl
    · rw [hg, if_neg (by omega)]
  · rw [hf, if_neg (by omega)]
theorem P_hash {α : Type} {f : List Nat → List Nat → Nat × Nat × List Nat → Option ((Nat × Nat × List Nat) ⊕ List Nat)} {f2 : List Nat → Nat × List Nat → Option ((Nat × List Nat) ⊕ List Nat)} {g : List Nat → Nat → Nat × List Nat → Option ((Nat × List Nat) ⊕ List Nat)} {d : List Nat} {k : List Nat → Option α} (hd : LB 256 d) (hl : d.length ≤ 100000)
    (hf : ∀ K p a m s, f K p (a, m, s) = if (0 : Nat) < m then (gd (128 ≤ m) (bnd (F_sha512_block K s ((p.drop a).take 128)) (fun (r : List Nat) => gd (128 ≤ m) (some (.inl ((a + 128), (m - 128), r)))))) else (some (.inr s)))
    (hf2 : ∀ s n l, f2 s (n, l) = if n < 8 then (bnd (gd (n < 8) (run (g s n) (0, l)) : Option (List Nat)) (fun (r : List Nat) => gd ((n + 1) ≤ 9223372036854775807) (some (.inl ((n + 1), r))))) else (some (.inr l)))
    (hg : ∀ s n k l, g s n (k, l) = if k < 8 then (gd ((8 * n) ≤ 9223372036854775807) (gd (((8 * n) + k) ≤ 9223372036854775807) (gd ((8 * k) ≤ 9223372036854775807) (gd ((0 : Int) ≤ (((56 : Nat) : Int) - (((8 * k) : Nat) : Int))) (gd (((8 * n) + k) < 64) (gd ((k + 1) ≤ 9223372036854775807) (some (.inl ((k + 1), (l.set ((8 * n) + k) (((s.getD n 0) / (2 ^ (Int.toNat (((56 : Nat) : Int) - (((8 * k) : Nat) : Int))))) % 256))))))))))) else (some (.inr l))) :
    bnd (F_sha512_Rounds) (fun (l4 : List Nat) => bnd (F_sha512_Start) (fun (l5 : List Nat) => bnd (bnd (F_sha512_Pad d) (fun (l7 : List Nat) => run (f l4 l7) (0, l7.length, l5)) : Option (List Nat)) (fun (l6 : List Nat) => bnd (run (f2 l6) (0, (List.replicate 64 0)) : Option (List Nat)) k))) = k (sumN d) := by
  rw [P_K80, bnd_mk, P_S8, bnd_mk, P_Pad hl, bnd_mk, P_blocks (padN_lb hd) (padN_blocks d) (hf K80 _), bnd_mk, P_out (hf2 _) (hg _), bnd_mk]
  rfl
end Go.Proofs.Ytnagkhofkjjajaa.H
