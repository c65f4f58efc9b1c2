/- The steps: the plain law. -/
import Derived.Test.YtddphjmcoolinaaVl
import Derived.Test.YtddphjmcoolinaaPl
set_option linter.unusedVariables false
set_option linter.unusedSimpArgs false
set_option maxRecDepth 10000
namespace Go.Proofs.Ytddphjmcoolinaa
theorem padN_take (d : List Nat) : (padN d).take d.length = d := by
  unfold padN pz
  rw [List.append_assoc, List.append_assoc, List.append_assoc, List.take_left' rfl]
theorem P_stepblocks {p : List Nat} {n : Nat} (hp : p.length = 128 * n) (hn : n ≤ 100000) (hb : By p) : run (F_casematelaw14_Sha512Steps_l1 p) (S8, 0) = some (.inl (stN p S8 n)) := by
  refine run_for (f := F_casematelaw14_Sha512Steps_l1 p) (fun k => (stN p S8 k, 128 * k)) n (fun k hk => ?_) ?_
  · unfold F_casematelaw14_Sha512Steps_l1
    dsimp only
    have hpl : ((p.drop (128 * k)).take 128).length = 128 := piece_len hp hk
    rw [gd_pos (by omega), if_pos (by omega), gd_pos (by omega), gd_pos (by omega), show 128 * k + 128 - 128 * k = 128 by omega, P_Block (stN_lt S8_lt k) (stN_len S8_len k) (LB.take (LB.drop hb _) _), if_pos hpl, bnd_mk]
    dsimp only
    rw [if_pos (by omega), show 128 * k + 128 = 128 * (k + 1) by omega]
    rfl
  · unfold F_casematelaw14_Sha512Steps_l1
    dsimp only
    rw [gd_pos (by omega), if_neg (by omega)]
theorem range_getD (f : Nat → Nat) {n i : Nat} (h : i < n) : ((List.range n).map f).getD i 0 = f i := by
  rw [List.getD_eq_getElem?_getD, List.getElem?_map, List.getElem?_range h]; rfl
theorem P_stepbytes {s : List Nat} : run (F_casematelaw14_Sha512Steps_l2 ((List.range 64).map (outb s)) s) 0 = some (.inl ()) := by
  refine run_for (f := F_casematelaw14_Sha512Steps_l2 ((List.range 64).map (outb s)) s) (fun k => k) 64 (fun i hi => ?_) ?_
  · unfold F_casematelaw14_Sha512Steps_l2
    rw [range_getD _ hi]
    rw [if_pos (by omega), gd_pos (by omega), gd_pos (by omega), gd_pos (by omega), gd_pos (by omega), gd_pos (by omega)]
    have e : s.getD (i / 8) 0 / 2 ^ (((56 : Int) - ((8 * (i % 8) : Nat) : Int)) % 18446744073709551616).toNat % 256 = outb s i := by
      unfold outb
      rw [show (((56 : Int) - ((8 * (i % 8) : Nat) : Int)) % 18446744073709551616).toNat = 56 - 8 * (i % 8) by omega]
    rw [e, if_pos rfl, gd_pos (by omega)]
  · unfold F_casematelaw14_Sha512Steps_l2
    rw [if_neg (by omega)]
theorem L_Sha512Steps {d : List Nat} (hd : By d) : F_casematelaw14_Sha512Steps d = some true := by
  unfold F_casematelaw14_Sha512Steps
  by_cases h : 1000 < ((d.length : Nat) : Int)
  · rw [if_pos h]
  · have hl := padN_len d
    have hb := padN_blocks d
    have hz : zn d.length < 128 := Nat.mod_lt _ (by decide)
    rw [if_neg h, P_Pad (by omega), bnd_mk, if_pos (by omega), gd_pos (by omega), if_neg (by omega), gd_pos (by omega), if_neg (by omega), gd_pos (by omega), padN_take, if_pos rfl, P_Start, bnd_mk, P_stepblocks hb (by omega) (padN_by hd), bnd_mk, sel_inl, P_Sum1 (by omega) hd, bnd_mk]
    have e : sumN d = (List.range 64).map (outb (stN (padN d) S8 ((padN d).length / 128))) := rfl
    rw [e, P_stepbytes, bnd_mk, sel_inl, P_awake, bnd_mk]
end Go.Proofs.Ytddphjmcoolinaa
