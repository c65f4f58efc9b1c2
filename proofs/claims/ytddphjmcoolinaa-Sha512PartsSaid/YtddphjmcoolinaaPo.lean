/- The digest of parts: the plain law. -/
import Derived.Test.YtddphjmcoolinaaVj
import Derived.Test.YtddphjmcoolinaaPl
set_option linter.unusedVariables false
set_option linter.unusedSimpArgs false
set_option maxRecDepth 10000
namespace Go.Proofs.Ytddphjmcoolinaa
theorem L_Sha512Parts {a b c : List Nat} (ha : By a) (hb : By b) (hc : By c) : F_casematelaw14_Sha512Parts a b c = some true := by
  unfold F_casematelaw14_Sha512Parts
  by_cases h1 : 1000 < ((a.length : Nat) : Int)
  · rw [if_pos h1]
  · rw [if_neg h1]
    by_cases h2 : 1000 < ((b.length : Nat) : Int)
    · rw [if_pos h2]
    · rw [if_neg h2]
      by_cases h3 : 1000 < ((c.length : Nat) : Int)
      · rw [if_pos h3]
      · have hab : (a ++ b).length = a.length + b.length := List.length_append
        have hbc : (b ++ c).length = b.length + c.length := List.length_append
        have habc : (a ++ b ++ c).length = a.length + b.length + c.length := by rw [List.length_append, hab]
        have f1 : [a, b, c].flatten = a ++ b ++ c := by simp
        have f2 : [a, b ++ c].flatten = a ++ b ++ c := by simp
        have e1 := P_Sum (xss := [a, b, c]) (Nat.le_add_left 3 997) (by intro x hx; simp at hx; rcases hx with rfl | rfl | rfl <;> omega) (by rw [f1]; omega) (by rw [f1]; exact LB.app (LB.app ha hb) hc)
        have e2 := P_Sum (xss := [a, b ++ c]) (Nat.le_add_left 2 998) (by intro x hx; simp at hx; rcases hx with rfl | rfl <;> omega) (by rw [f2]; omega) (by rw [f2]; exact LB.app (LB.app ha hb) hc)
        have e0 := P_Sum (xss := []) (by decide) (by decide) (by decide) LB.nil
        have e00 := P_Sum (xss := [[], []]) (by decide) (by decide) (by decide) LB.nil
        rw [f1] at e1; rw [f2] at e2
        have f0 : [([] : List Nat), []].flatten = ([] : List (List Nat)).flatten := rfl
        rw [f0] at e00
        rw [if_neg h3, gd_pos (by omega), gd_pos (by omega), gd_pos (by omega), gd_pos (by omega), gd_pos (by omega), P_awake, bnd_mk, if_pos rfl, e1, bnd_mk, P_Sum1 (by omega) (LB.app (LB.app ha hb) hc), bnd_mk, if_pos rfl, e2, bnd_mk, bnd_mk, if_pos rfl, e0, bnd_mk, e00, bnd_mk, decide_eq_true rfl]
end Go.Proofs.Ytddphjmcoolinaa
