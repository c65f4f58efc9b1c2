/- A block of layer 14, by the program. -/
import Derived.Test.YtddphjmcoolinaaVc
import Derived.Test.YtddphjmcoolinaaSb
import Derived.Test.YtddphjmcoolinaaPa
set_option linter.unusedVariables false
set_option linter.unusedSimpArgs false
set_option maxRecDepth 10000
namespace Go.Proofs.Ytddphjmcoolinaa
theorem P_rotr {x n : Nat} (hx : x < 18446744073709551616) (h1 : 1 ≤ n) (h2 : n ≤ 63) : F_sha512_rotr x ((n : Nat) : Int) = some (ror x n) := by
  unfold F_sha512_rotr F_bits_RotateLeft64
  have e : ((-((n : Nat) : Int)) % 18446744073709551616).toNat = 18446744073709551616 - n := by omega
  rw [gd_pos (by omega), gd_pos (by omega), ltb_eq, bnd_mk, e, rl_ror hx h1 h2]
theorem P_word {d : List Nat} {i : Nat} (hd : By d) (hl : d.length = 128) (hi : i < 16) :
    run (F_sha512_block_l2 i d) (wg d i, 8 * i, 8 * i + 8 - 8 * i, 0) = some (wg d (i + 1), 8 * i, 8 * i + 8 - 8 * i, 8) := by
  have e8 : 8 * i + 8 - 8 * i = 8 := by omega
  rw [wg_wf (by omega), e8]
  refine run_for (f := F_sha512_block_l2 i d) (fun k => (wf d i (be8 d i k), 8 * i, 8, k)) 8 (fun k hk => ?_) ?_
  · unfold F_sha512_block_l2
    dsimp only
    have e : ((d.drop (8 * i)).take 8).getD k 0 = (d.drop (8 * i)).getD k 0 := getD_take hk
    rw [e8, if_pos (by omega), gd_pos (by omega), gd_pos (by omega), e, be8_step]
  · unfold F_sha512_block_l2
    dsimp only
    have e : wf d i (be8 d i 8) = wg d (i + 1) := by
      rw [← wf_wg (by omega)]
      congr 1
      unfold wn
      rw [if_pos hi]
    rw [e8, if_neg (by omega), e]
theorem wf_lt {d : List Nat} (hd : By d) (i v : Nat) (hv : v < 18446744073709551616) : LB 18446744073709551616 (wf d i v) := by
  unfold wf
  exact LB.app (ws_lt hd i) (LB.cons hv (LB.rep (Nat.zero_lt_succ _) _))
theorem P_words {d : List Nat} (hd : By d) (hl : d.length = 128) : run (F_sha512_block_l1 d) (List.replicate 80 0, 0) = some (ws d 80) := by
  have h := run_for (f := F_sha512_block_l1 d) (x := wg d 80) (fun i => (wg d i, i)) 80 (fun i hi => ?_) ?_
  · have e : wg d 0 = List.replicate 80 0 := rfl
    have e2 : wg d 80 = ws d 80 := List.append_nil _
    rw [e, e2] at h; exact h
  · unfold F_sha512_block_l1
    dsimp only
    rw [if_pos (by omega)]
    by_cases q : i < 16
    · rw [if_pos (by omega), gd_pos (by omega), gd_pos (by omega), gd_pos (by omega), gd_pos (by omega), P_word hd hl q, bnd_mk]
      dsimp only
      rw [bnd_mk, sel_inr, bnd_mk, gd_pos (by omega)]
    · have hb := wf_lt hd i 0 (Nat.zero_lt_succ _)
      rw [if_neg (by omega), bnd_mk, sel_inl, wg_wf hi]
      rw [gd_pos (by omega), gd_pos (by omega), gd_pos (by omega), gd_pos (by omega), gd_pos (by omega), gd_pos (by omega), gd_pos (by omega), gd_pos (by omega), gd_pos (by omega), gd_pos (by omega), gd_pos (by omega), gd_pos (by omega)]
      rw [show (1 : Int) = ((1 : Nat) : Int) from rfl, P_rotr (hb.get (Nat.zero_lt_succ _) _) (by decide) (by decide), bnd_mk, show (8 : Int) = ((8 : Nat) : Int) from rfl, P_rotr (hb.get (Nat.zero_lt_succ _) _) (by decide) (by decide), bnd_mk]
      rw [gd_pos (by omega), gd_pos (by omega), gd_pos (by omega), gd_pos (by omega), ltb_eq]
      rw [show (19 : Int) = ((19 : Nat) : Int) from rfl, P_rotr (hb.get (Nat.zero_lt_succ _) _) (by decide) (by decide), bnd_mk, show (61 : Int) = ((61 : Nat) : Int) from rfl, P_rotr (hb.get (Nat.zero_lt_succ _) _) (by decide) (by decide), bnd_mk, bnd_mk, gd_pos (by omega)]
      rw [wn_big (by omega) hi, wf_wg hi]
  · unfold F_sha512_block_l1
    dsimp only
    rw [if_neg (by omega)]
theorem rnd_lt {s : List Nat} {k w : Nat} (hs : LB 18446744073709551616 s) : LB 18446744073709551616 (rnd s k w) := by
  have h := fun q => hs.get (Nat.zero_lt_succ _) q
  exact LB.cons (Nat.mod_lt _ (Nat.zero_lt_succ _)) (LB.cons (h 0) (LB.cons (h 1) (LB.cons (h 2) (LB.cons (Nat.mod_lt _ (Nat.zero_lt_succ _)) (LB.cons (h 4) (LB.cons (h 5) (LB.cons (h 6) LB.nil)))))))
theorem rs_lt {K l s : List Nat} (hs : LB 18446744073709551616 s) : ∀ j, LB 18446744073709551616 (rs K l s j) := by
  intro j
  induction j with
  | zero => exact hs
  | succ j ih => exact rnd_lt ih
theorem P_rounds {K l s : List Nat} (hs : LB 18446744073709551616 s) : run (F_sha512_block_l3 K l) (s.getD 0 0, s.getD 1 0, s.getD 2 0, s.getD 3 0, s.getD 4 0, s.getD 5 0, s.getD 6 0, s.getD 7 0, 0) =
    some ((rs K l s 80).getD 0 0, (rs K l s 80).getD 1 0, (rs K l s 80).getD 2 0, (rs K l s 80).getD 3 0, (rs K l s 80).getD 4 0, (rs K l s 80).getD 5 0, (rs K l s 80).getD 6 0, (rs K l s 80).getD 7 0) := by
  refine run_for (f := F_sha512_block_l3 K l) (fun j => ((rs K l s j).getD 0 0, (rs K l s j).getD 1 0, (rs K l s j).getD 2 0, (rs K l s j).getD 3 0, (rs K l s j).getD 4 0, (rs K l s j).getD 5 0, (rs K l s j).getD 6 0, (rs K l s j).getD 7 0, j)) 80 (fun j hj => ?_) ?_
  · unfold F_sha512_block_l3
    dsimp only
    have hb := fun q => (rs_lt (K := K) (l := l) hs j).get (Nat.zero_lt_succ _) q
    rw [if_pos (by omega)]
    rw [show (14 : Int) = ((14 : Nat) : Int) from rfl, P_rotr (hb _) (by decide) (by decide), bnd_mk, show (18 : Int) = ((18 : Nat) : Int) from rfl, P_rotr (hb _) (by decide) (by decide), bnd_mk, show (41 : Int) = ((41 : Nat) : Int) from rfl, P_rotr (hb _) (by decide) (by decide), bnd_mk, ltb_eq, ltb_eq]
    rw [show (28 : Int) = ((28 : Nat) : Int) from rfl, P_rotr (hb _) (by decide) (by decide), bnd_mk, show (34 : Int) = ((34 : Nat) : Int) from rfl, P_rotr (hb _) (by decide) (by decide), bnd_mk, show (39 : Int) = ((39 : Nat) : Int) from rfl, P_rotr (hb _) (by decide) (by decide), bnd_mk, ltb_eq, gd_pos (by omega)]
    rfl
  · unfold F_sha512_block_l3
    dsimp only
    rw [if_neg (by omega)]
theorem addf_step {s : List Nat} {m : Nat} (f : Nat → Nat) (hm : m < s.length) :
    ((List.range m).map f ++ s.drop m).set m (f m) = (List.range (m + 1)).map f ++ s.drop (m + 1) ∧ ((List.range m).map f ++ s.drop m).getD m 0 = s.getD m 0 := by
  have h1 : ((List.range m).map f).length = m := by simp
  have h2 : s.drop m = s.getD m 0 :: s.drop (m + 1) := drop_cons hm
  constructor
  · rw [List.set_append_right _ _ (by rw [h1]; exact Nat.le_refl _), h1, Nat.sub_self, h2, List.set_cons_zero, List.range_succ, List.map_append, List.append_assoc]
    rfl
  · rw [List.getD_eq_getElem?_getD, List.getElem?_append_right (by rw [h1]; exact Nat.le_refl _), h1, Nat.sub_self, h2]
    rfl
theorem list8 {l : List Nat} (h : l.length = 8) : [l.getD 0 0, l.getD 1 0, l.getD 2 0, l.getD 3 0, l.getD 4 0, l.getD 5 0, l.getD 6 0, l.getD 7 0] = l := by
  match l, h with
  | [a, b, c, d, e, f, g, h'], _ => rfl
theorem rs_len {K l s : List Nat} (hs : s.length = 8) : ∀ j, (rs K l s j).length = 8 := by
  intro j
  cases j with
  | zero => exact hs
  | succ j => rfl
theorem P_sum8 {s R : List Nat} (hR : R.length = 8) (hs : s.length = 8) :
    run (F_sha512_block_l4 (R.getD 0 0) (R.getD 1 0) (R.getD 2 0) (R.getD 3 0) (R.getD 4 0) (R.getD 5 0) (R.getD 6 0) (R.getD 7 0)) (s, 0) = some ((List.range 8).map fun i => (s.getD i 0 + R.getD i 0) % 18446744073709551616) := by
  have h := run_for (f := F_sha512_block_l4 (R.getD 0 0) (R.getD 1 0) (R.getD 2 0) (R.getD 3 0) (R.getD 4 0) (R.getD 5 0) (R.getD 6 0) (R.getD 7 0)) (x := (List.range 8).map (fun i => (s.getD i 0 + R.getD i 0) % 18446744073709551616) ++ s.drop 8)
    (fun m => ((List.range m).map (fun i => (s.getD i 0 + R.getD i 0) % 18446744073709551616) ++ s.drop m, m)) 8 (fun m hm => ?_) ?_
  · have e : ((List.range 0).map (fun i => (s.getD i 0 + R.getD i 0) % 18446744073709551616) ++ s.drop 0, 0) = (s, 0) := rfl
    rw [e, List.drop_of_length_le (by omega), List.append_nil] at h
    exact h
  · unfold F_sha512_block_l4
    dsimp only
    obtain ⟨h1, h2⟩ := addf_step (fun i => (s.getD i 0 + R.getD i 0) % 18446744073709551616) (s := s) (m := m) (by omega)
    rw [if_pos (by omega), gd_pos (by omega), ltb_eq, gd_pos (by omega), list8 hR, h2, h1]
  · unfold F_sha512_block_l4
    dsimp only
    rw [if_neg (by omega)]
theorem P_block {K s d : List Nat} (hs : LB 18446744073709551616 s) (hsl : s.length = 8) (hd : By d) (hl : d.length = 128) : F_sha512_block K s d = some (blockN K s d) := by
  unfold F_sha512_block
  rw [P_words hd hl, bnd_mk, P_rounds hs, bnd_mk]
  dsimp only
  rw [P_sum8 (rs_len hsl 80) hsl, bnd_mk]
  rfl
end Go.Proofs.Ytddphjmcoolinaa
