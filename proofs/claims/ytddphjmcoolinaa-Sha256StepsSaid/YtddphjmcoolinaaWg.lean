/- Laws of layer 13 in plain law. Lemmas, no statement of the claim. -/
import Derived.Test.YtddphjmcoolinaaWf
set_option linter.unusedVariables false
set_option linter.unusedSimpArgs false
set_option maxRecDepth 10000
namespace Go.Proofs.Ytddphjmcoolinaa
theorem S8_first : S8.getD 0 0 = 1779033703 := by decide +kernel
theorem K64_first : K64.getD 0 0 = 1116352408 := by decide +kernel
def abc3 : List Nat := (List.range 3).map fun i => (sumN [97, 98, 99]).getD (if i = 2 then 31 else i) 0
theorem abc3_eq : abc3 = [186, 120, 173] := by decide +kernel
theorem L_awake13 : F_casematelaw13_awake = some true := by
  unfold F_casematelaw13_awake
  have e := P_Sum (d := [97, 98, 99]) (LB.cons (by decide) (LB.cons (by decide) (LB.cons (by decide) LB.nil))) (by decide)
  have e0 : (sumN [97, 98, 99]).getD 0 0 = 186 := congrArg (fun l => l.getD 0 0) abc3_eq
  have e1 : (sumN [97, 98, 99]).getD 1 0 = 120 := congrArg (fun l => l.getD 1 0) abc3_eq
  have e2 : (sumN [97, 98, 99]).getD 31 0 = 173 := congrArg (fun l => l.getD 2 0) abc3_eq
  rw [e, bnd_mk, P_Start, bnd_mk, P_Rounds, bnd_mk, e0, e1, e2, S8_first, K64_first, if_pos rfl, if_pos rfl, if_pos rfl, if_pos rfl, bnd_mk]
  rfl
theorem P_Ints {l : List Nat} (hl : l.length ≤ 1000) : F_casemateref01_Ints (cI l) (cI l) = some true := by
  unfold F_casemateref01_Ints
  have h : run (F_casemateref01_Ints_l1 (cI l) (cI l)) 0 = some (.inl ()) := by
    refine run_for (f := F_casemateref01_Ints_l1 (cI l) (cI l)) (fun i => i) l.length (fun i hi => ?_) ?_
    · unfold F_casemateref01_Ints_l1
      rw [cI_length, if_pos hi, gd_pos hi, gd_pos hi, if_pos rfl, gd_pos (by omega)]
    · unfold F_casemateref01_Ints_l1
      rw [cI_length, if_neg (by omega)]
  rw [if_pos rfl, h, bnd_mk, sel_inl]
theorem P_same : run (F_casematelaw13_Sha256Constants_l1 S8 K64 (cI S8) (cI K64)) 0 = some (.inl ()) := by
  refine run_for (f := F_casematelaw13_Sha256Constants_l1 S8 K64 (cI S8) (cI K64)) (fun i => i) 64 (fun i hi => ?_) ?_
  · unfold F_casematelaw13_Sha256Constants_l1
    rw [cI_length, cI_length, S8_len, K64_len, if_pos hi, cI_at, cI_at]
    by_cases q : i < 8
    · rw [if_pos q, gd_pos q, gd_pos q, if_pos rfl, gd_pos hi, gd_pos hi, if_pos rfl, gd_pos (by omega)]
    · rw [if_neg q, gd_pos hi, gd_pos hi, if_pos rfl, gd_pos (by omega)]
  · unfold F_casematelaw13_Sha256Constants_l1
    rw [if_neg (by decide)]
theorem L_Sha256Constants {z : Int} : F_casematelaw13_Sha256Constants z = some true := by
  unfold F_casematelaw13_Sha256Constants
  by_cases q1 : z < 0
  · have e : F_sha256_Primes z = some ([], ((1 : Nat) : Int)) := by
      unfold F_sha256_Primes
      rw [if_pos (show z < ((0 : Nat) : Int) from q1)]
    rw [e, bnd_mk]
    dsimp only
    rw [if_pos (show z < ((0 : Nat) : Int) from q1), bnd_mk, if_pos rfl, L_awake13, bnd_mk, if_pos rfl, if_pos rfl]
    rfl
  · by_cases q2 : 100 < z
    · have e : F_sha256_Primes z = some ([], ((1 : Nat) : Int)) := by
        unfold F_sha256_Primes
        rw [if_neg (show ¬ z < ((0 : Nat) : Int) from q1), if_pos (show ((100 : Nat) : Int) < z from q2)]
      rw [e, bnd_mk]
      dsimp only
      rw [if_neg (show ¬ z < ((0 : Nat) : Int) from q1), decide_eq_true (show ((100 : Nat) : Int) < z from q2), bnd_mk, if_pos rfl, L_awake13, bnd_mk, if_pos rfl, if_pos rfl]
      rfl
    · obtain ⟨n, rfl⟩ : ∃ n : Nat, z = ((n : Nat) : Int) := ⟨z.toNat, by omega⟩
      have hn : n ≤ 100 := by omega
      rw [P_Primes hn, bnd_mk]
      dsimp only
      rw [if_neg (by omega), decide_eq_false (by omega), bnd_mk, if_neg (by decide), if_pos rfl, P_refPrimes hn, bnd_mk, P_Ints (by rw [prs_len hn]; omega), bnd_mk, if_pos rfl, P_Start, bnd_mk, P_Rounds, bnd_mk, P_refStart, bnd_mk, P_refRounds, bnd_mk, P_same, bnd_mk, sel_inl, L_awake13, bnd_mk]
theorem L_Sha256Sums {d : List Nat} (hd : LB 256 d) : F_casematelaw13_Sha256Sums d = some true := by
  unfold F_casematelaw13_Sha256Sums
  by_cases q : 400 < d.length
  · rw [if_pos q]
  · rw [if_neg q, gd_pos (by omega), List.nil_append, P_Sum hd (by omega), bnd_mk, L_awake13, bnd_mk, if_pos rfl, if_pos rfl, P_refSum hd (by omega), bnd_mk, decide_eq_true rfl]
theorem L_Sha256Pads {d : List Nat} : F_casematelaw13_Sha256Pads d = some true := by
  unfold F_casematelaw13_Sha256Pads
  by_cases q : 5000 < d.length
  · rw [if_pos q]
  · rw [if_neg q, gd_pos (by omega), List.nil_append, P_Pad (by omega), bnd_mk, L_awake13, bnd_mk, if_pos rfl, if_pos rfl, P_refPad (by omega), bnd_mk, decide_eq_true rfl]
theorem pad_apart {d : List Nat} (hl : d.length ≤ 5000) : padN d ≠ padN (d ++ [128]) := by
  intro h
  have hlen : (d ++ [128]).length = d.length + 1 := by simp
  have key : ∀ (e : List Nat), (padN e).drop ((padN e).length - 8) = lb8 (8 * e.length) := by
    intro e
    have hp := padN_len e
    have e1 : padN e = (e ++ [128] ++ List.replicate (zn e.length) 0) ++ lb8 (8 * e.length) := by
      unfold padN pt
      simp only [List.append_assoc]
    have e2 : (padN e).length - 8 = (e ++ [128] ++ List.replicate (zn e.length) 0).length := by
      rw [hp]; simp; omega
    rw [e2]
    conv => lhs; rw [e1]
    rw [List.drop_left]
  have h1 := key d
  have h2 := key (d ++ [128])
  rw [← h, h1, hlen] at h2
  have a7 : 8 * d.length / 2 ^ (56 - 8 * 7) % 256 = 8 * (d.length + 1) / 2 ^ (56 - 8 * 7) % 256 := congrArg (fun l => l.getD 7 0) h2
  have a6 : 8 * d.length / 2 ^ (56 - 8 * 6) % 256 = 8 * (d.length + 1) / 2 ^ (56 - 8 * 6) % 256 := congrArg (fun l => l.getD 6 0) h2
  rw [show (2 : Nat) ^ (56 - 8 * 7) = 1 from rfl] at a7
  rw [show (2 : Nat) ^ (56 - 8 * 6) = 256 from rfl] at a6
  omega
theorem L_Sha256Lengths {d : List Nat} : F_casematelaw13_Sha256Lengths d = some true := by
  unfold F_casematelaw13_Sha256Lengths
  by_cases q : 5000 < d.length
  · rw [if_pos q]
  have hz : zn d.length < 64 := Nat.mod_lt _ (by decide)
  have hp := padN_len d
  have hm := padN_blocks d
  have ht : (padN d).take d.length = d := by unfold padN; exact List.take_left
  have hg : (padN d).getD d.length 0 = 128 := by
    unfold padN
    rw [List.getD_eq_getElem?_getD, List.getElem?_append_right (Nat.le_refl _), Nat.sub_self]
    rfl
  rw [if_neg q, P_Pad (by omega), bnd_mk, gd_pos (by omega), gd_pos (by omega), List.nil_append, P_Pad (by rw [List.length_append]; have : [128].length = 1 := rfl; omega), bnd_mk, L_awake13, bnd_mk, if_pos rfl, if_pos (by omega), gd_pos (by omega), if_pos (by omega), gd_pos (by omega), if_pos (by omega), gd_pos (by omega), if_pos ht, gd_pos (by omega), if_pos hg, decide_eq_false (pad_apart (by omega)), bnd_mk]
  rfl
theorem L_Sha256Blocks {s d : List Nat} (hsl : s.length = 8) (hs : LB 4294967296 s) (hd : LB 256 d) : F_casematelaw13_Sha256Blocks s d = some true := by
  unfold F_casematelaw13_Sha256Blocks
  by_cases q : 200 < d.length
  · rw [if_pos q]
  rw [if_neg q, P_Block hs hsl hd, bnd_mk]
  by_cases q2 : d.length = 64
  · rw [if_pos q2]
    try dsimp only
    have h1 : run (F_casematelaw13_Sha256Blocks_l1 s) ([], 0) = some (cI s) := by
      have h := run_for (f := F_casematelaw13_Sha256Blocks_l1 s) (x := cI (s.take 8)) (fun i => (cI (s.take i), i)) 8 (fun i hi => ?_) ?_
      · have e8 : s.take 8 = s := List.take_of_length_le (by omega)
        rw [e8] at h
        exact h
      · unfold F_casematelaw13_Sha256Blocks_l1
        dsimp only
        have e : s.take (i + 1) = s.take i ++ [s.getD i 0] := by
          rw [List.getD_eq_getElem?_getD, List.getElem?_eq_getElem (by omega)]
          exact (List.take_append_getElem (by omega)).symm
        rw [if_pos hi, gd_pos hi, cI_length, List.length_take, gd_pos (by omega), gd_pos (by omega), cI_snoc, e]
      · unfold F_casematelaw13_Sha256Blocks_l1
        dsimp only
        rw [if_neg (by decide)]
    have h2 : run (F_casematelaw13_Sha256Blocks_l2 (blockN K64 s d) (cI (blockN K64 s d))) 0 = some (.inl ()) := by
      refine run_for (f := F_casematelaw13_Sha256Blocks_l2 (blockN K64 s d) (cI (blockN K64 s d))) (fun i => i) 8 (fun i hi => ?_) ?_
      · unfold F_casematelaw13_Sha256Blocks_l2
        rw [if_pos hi, gd_pos hi, cI_length, blockN_len, gd_pos hi, cI_at, if_pos rfl, gd_pos (by omega)]
      · unfold F_casematelaw13_Sha256Blocks_l2
        rw [if_neg (by decide)]
    rw [if_pos q2, h1, bnd_mk, P_refRounds, bnd_mk, P_refBlock K64_lt K64_len hs hsl hd q2, bnd_mk, h2, bnd_mk, sel_inl, L_awake13, bnd_mk, if_pos rfl]
    rfl
  · rw [if_neg q2]
    try dsimp only
    rw [if_neg q2, L_awake13, bnd_mk, if_pos rfl, if_pos rfl]
    rfl
theorem L_Sha256Steps {d : List Nat} (hd : LB 256 d) : F_casematelaw13_Sha256Steps d = some true := by
  unfold F_casematelaw13_Sha256Steps
  by_cases q : 1000 < d.length
  · rw [if_pos q]
  have hz : zn d.length < 64 := Nat.mod_lt _ (by decide)
  have hp := padN_len d
  have hm := padN_blocks d
  have h1 : run (F_casematelaw13_Sha256Steps_l1 (padN d)) (0, S8) = some (.inl (stN (padN d) S8 ((padN d).length / 64))) := by
    refine run_for (f := F_casematelaw13_Sha256Steps_l1 (padN d)) (fun k => (64 * k, stN (padN d) S8 k)) ((padN d).length / 64) (fun k hk => ?_) ?_
    · unfold F_casematelaw13_Sha256Steps_l1
      dsimp only
      rw [gd_pos (by omega), if_pos (by omega), gd_pos (by omega), gd_pos (by omega), gd_pos (by omega), show 64 * k + 64 - 64 * k = 64 by omega, P_Block (stN_lt S8_lt k) (stN_len S8_len k) (((padN_lb hd).drop _).take _), bnd_mk, if_pos (piece_len (by omega))]
      dsimp only
      rw [if_pos rfl, gd_pos (by omega), show 64 * k + 64 = 64 * (k + 1) by omega]
      rfl
    · unfold F_casematelaw13_Sha256Steps_l1
      dsimp only
      rw [gd_pos (by omega), if_neg (by omega)]
  have h2 : run (F_casematelaw13_Sha256Steps_l2 (stN (padN d) S8 ((padN d).length / 64)) (sumN d)) 0 = some (.inl ()) := by
    refine run_for (f := F_casematelaw13_Sha256Steps_l2 (stN (padN d) S8 ((padN d).length / 64)) (sumN d)) (fun i => i) 32 (fun i hi => ?_) ?_
    · unfold F_casematelaw13_Sha256Steps_l2
      have e1 : (sumN d).getD i 0 = outb (stN (padN d) S8 ((padN d).length / 64)) i := by
        unfold sumN
        rw [List.getD_eq_getElem?_getD, List.getElem?_map, List.getElem?_range hi]; rfl
      have e2 : Int.toNat ((((24 : Nat) : Int) - ((8 * (i % 4) : Nat) : Int)) % ((18446744073709551616 : Nat) : Int)) = 24 - 8 * (i % 4) := by omega
      rw [if_pos hi, gd_pos hi, gd_pos (by omega), gd_pos (by omega), e1, e2, if_pos (show outb (stN (padN d) S8 ((padN d).length / 64)) i = (stN (padN d) S8 ((padN d).length / 64)).getD (i / 4) 0 / 2 ^ (24 - 8 * (i % 4)) % 256 from rfl), gd_pos (by omega)]
    · unfold F_casematelaw13_Sha256Steps_l2
      rw [if_neg (by decide)]
  rw [if_neg q, P_Pad (by omega), bnd_mk, P_Start, bnd_mk, h1, bnd_mk, sel_inl, P_Sum hd (by omega), bnd_mk, h2, bnd_mk, sel_inl, L_awake13, bnd_mk]
end Go.Proofs.Ytddphjmcoolinaa
