/- A block of layer 14, by the reference. -/
import Derived.Test.YtddphjmcoolinaaVf
import Derived.Test.YtddphjmcoolinaaPi
set_option linter.unusedVariables false
set_option linter.unusedSimpArgs false
set_option maxRecDepth 10000
namespace Go.Proofs.Ytddphjmcoolinaa
theorem P_refrotr {x n : Nat} (h2 : n ≤ 63) : F_casemateref14_rotr x n = some (ror x n) := by
  unfold F_casemateref14_rotr
  rw [ltb_eq, show (64 + 18446744073709551616 - n) % 18446744073709551616 = 64 - n by omega]
  rfl
theorem P_three {x a b c : Nat} (h1 : a ≤ 63) (h2 : b ≤ 63) (h3 : c ≤ 63) : F_casemateref14_three x a b c = some ((ror x a ^^^ ror x b) ^^^ ror x c) := by
  unfold F_casemateref14_three
  rw [P_refrotr h1, bnd_mk, P_refrotr h2, bnd_mk, P_refrotr h3, bnd_mk]
theorem P_refword {d : List Nat} {i : Nat} (hl : d.length = 128) (hi : i < 16) :
    run (F_casemateref14_Block_l2 i d) (wg d i, 0) = some (wg d (i + 1), 8) := by
  rw [wg_wf (by omega)]
  refine run_for (f := F_casemateref14_Block_l2 i d) (fun k => (wf d i (be8 d i k), k)) 8 (fun k hk => ?_) ?_
  · unfold F_casemateref14_Block_l2
    dsimp only
    have e := be8_step (d := d) (i := i) (k := k)
    rw [getD_drop] at e
    rw [if_pos (by omega), gd_pos (by omega), gd_pos (by omega), gd_pos (by omega), gd_pos (by omega), e]
  · unfold F_casemateref14_Block_l2
    dsimp only
    have e : wf d i (be8 d i 8) = wg d (i + 1) := by
      rw [← wf_wg (by omega)]
      congr 1
      unfold wn
      rw [if_pos hi]
    rw [if_neg (by omega), e]
theorem P_refwords {d : List Nat} (hl : d.length = 128) : run (F_casemateref14_Block_l1 d) (List.replicate 80 0, 0) = some (ws d 80) := by
  have h := run_for (f := F_casemateref14_Block_l1 d) (x := wg d 80) (fun i => (wg d i, i)) 80 (fun i hi => ?_) ?_
  · have e : wg d 0 = List.replicate 80 0 := rfl
    have e2 : wg d 80 = ws d 80 := List.append_nil _
    rw [e, e2] at h; exact h
  · unfold F_casemateref14_Block_l1
    dsimp only
    rw [if_pos (by omega)]
    by_cases q : i < 16
    · rw [if_pos (by omega), P_refword hl q, bnd_mk]
      dsimp only
      rw [bnd_mk, sel_inr, bnd_mk, gd_pos (by omega)]
    · rw [if_neg (by omega), bnd_mk, sel_inl, wg_wf hi]
      rw [gd_pos (by omega), gd_pos (by omega), gd_pos (by omega), gd_pos (by omega), P_refrotr (by decide), bnd_mk, P_refrotr (by decide), bnd_mk, ltb_eq]
      rw [gd_pos (by omega), gd_pos (by omega), gd_pos (by omega), gd_pos (by omega), P_refrotr (by decide), bnd_mk, P_refrotr (by decide), bnd_mk, ltb_eq]
      rw [gd_pos (by omega), gd_pos (by omega), gd_pos (by omega), gd_pos (by omega), gd_pos (by omega), gd_pos (by omega), gd_pos (by omega), gd_pos (by omega), bnd_mk, gd_pos (by omega)]
      rw [wn_big (by omega) hi, wf_wg hi]
  · unfold F_casemateref14_Block_l1
    dsimp only
    rw [if_neg (by omega)]
theorem P_refrounds {K l s : List Nat} : run (F_casemateref14_Block_l3 K l) (s, 0) = some (rs K l s 80) := by
  refine run_for (f := F_casemateref14_Block_l3 K l) (fun j => (rs K l s j, j)) 80 (fun j hj => ?_) ?_
  · unfold F_casemateref14_Block_l3
    dsimp only
    rw [if_pos (by omega), ltb_eq, ltb_eq, P_three (by decide) (by decide) (by decide), bnd_mk, ltb_eq, P_three (by decide) (by decide) (by decide), bnd_mk, gd_pos (by omega)]
    rfl
  · unfold F_casemateref14_Block_l3
    dsimp only
    rw [if_neg (by omega)]
theorem P_refsum8 {s R : List Nat} (hR : R.length = 8) : run (F_casemateref14_Block_l4 s) (R, 0) = some ((List.range 8).map fun i => (s.getD i 0 + R.getD i 0) % 18446744073709551616) := by
  have h := run_for (f := F_casemateref14_Block_l4 s) (x := (List.range 8).map (fun i => (s.getD i 0 + R.getD i 0) % 18446744073709551616) ++ R.drop 8)
    (fun m => ((List.range m).map (fun i => (s.getD i 0 + R.getD i 0) % 18446744073709551616) ++ R.drop m, m)) 8 (fun m hm => ?_) ?_
  · have e : ((List.range 0).map (fun i => (s.getD i 0 + R.getD i 0) % 18446744073709551616) ++ R.drop 0, 0) = (R, 0) := rfl
    rw [e, List.drop_of_length_le (by omega), List.append_nil] at h
    exact h
  · unfold F_casemateref14_Block_l4
    dsimp only
    obtain ⟨h1, h2⟩ := addf_step (fun i => (s.getD i 0 + R.getD i 0) % 18446744073709551616) (s := R) (m := m) (by omega)
    rw [if_pos (by omega), gd_pos (by omega), h2, Nat.add_comm (R.getD m 0), h1]
  · unfold F_casemateref14_Block_l4
    dsimp only
    rw [if_neg (by omega)]
theorem P_refBlock {K s d : List Nat} (hsl : s.length = 8) (hl : d.length = 128) : F_casemateref14_Block K s d = some (blockN K s d) := by
  unfold F_casemateref14_Block
  rw [P_refwords hl, bnd_mk, P_refrounds, bnd_mk, P_refsum8 (rs_len hsl 80), bnd_mk]
  rfl
end Go.Proofs.Ytddphjmcoolinaa
