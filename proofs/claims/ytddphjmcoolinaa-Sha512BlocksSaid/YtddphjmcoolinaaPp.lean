/- A block: the plain law. -/
import Derived.Test.YtddphjmcoolinaaVk
import Derived.Test.YtddphjmcoolinaaPl
set_option linter.unusedVariables false
set_option linter.unusedSimpArgs false
set_option maxRecDepth 10000
namespace Go.Proofs.Ytddphjmcoolinaa
theorem L_Sha512Blocks {s d : List Nat} (hs : LB 18446744073709551616 s) (hsl : s.length = 8) (hd : By d) : F_casematelaw14_Sha512Blocks s d = some true := by
  unfold F_casematelaw14_Sha512Blocks
  by_cases h : 300 < ((d.length : Nat) : Int)
  · rw [if_pos h]
  · rw [if_neg h, gd_pos (by omega), P_Block hs hsl hd, bnd_mk]
    by_cases q : d.length = 128
    · rw [if_pos q]
      dsimp only
      rw [if_pos rfl, if_pos (by omega), P_awake, bnd_mk, if_pos rfl, if_pos (by omega), P_refRounds, bnd_mk, P_refBlock hsl q, bnd_mk, decide_eq_true rfl]
    · rw [if_neg q]
      dsimp only
      rw [if_pos rfl, if_neg (by omega), P_awake, bnd_mk, if_pos rfl, if_pos (by omega)]
      rfl
end Go.Proofs.Ytddphjmcoolinaa
