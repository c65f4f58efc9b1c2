/- The digest: the plain law. -/
import Derived.Test.YtddphjmcoolinaaVi
import Derived.Test.YtddphjmcoolinaaPl
set_option linter.unusedVariables false
set_option linter.unusedSimpArgs false
set_option maxRecDepth 10000
namespace Go.Proofs.Ytddphjmcoolinaa
theorem L_Sha512Sums {d : List Nat} (hb : By d) : F_casematelaw14_Sha512Sums d = some true := by
  unfold F_casematelaw14_Sha512Sums
  by_cases h : 1000 < ((d.length : Nat) : Int)
  · rw [if_pos h]
  · rw [if_neg h, gd_pos (by omega), P_Sum1 (by omega) hb, bnd_mk, P_Pad (by omega), bnd_mk, P_awake, bnd_mk, if_pos rfl, if_pos rfl, P_refSum (by omega), bnd_mk, if_pos rfl, P_refPad (by omega), bnd_mk, decide_eq_true rfl]
end Go.Proofs.Ytddphjmcoolinaa
