/- The constants: the plain law. -/
import Derived.Test.YtddphjmcoolinaaVh
import Derived.Test.YtddphjmcoolinaaPl
set_option linter.unusedVariables false
set_option linter.unusedSimpArgs false
set_option maxRecDepth 10000
namespace Go.Proofs.Ytddphjmcoolinaa
theorem L_Sha512Constants (x : Int) : F_casematelaw14_Sha512Constants x = some true := by
  unfold F_casematelaw14_Sha512Constants
  rw [P_awake]
  by_cases h : x < 0
  · rw [if_pos h, bnd_mk]
  · rw [if_neg h]
    by_cases h2 : 80 ≤ x
    · rw [if_pos h2, bnd_mk]
    · rw [if_neg h2, bnd_mk, if_pos rfl, P_Rounds, bnd_mk, gd_pos (by omega), ltb_eq, gd_pos (by omega), P_refRounds, bnd_mk, ltb_eq, gd_pos (by omega), if_pos rfl, P_Start, bnd_mk, gd_pos (by omega), gd_pos (by omega), ltb_eq, gd_pos (by omega), P_refStart, bnd_mk, ltb_eq, gd_pos (by omega), decide_eq_true rfl]
end Go.Proofs.Ytddphjmcoolinaa
