/- Layer 14's program is awake. -/
import Derived.Test.YtddphjmcoolinaaPk
set_option linter.unusedVariables false
set_option linter.unusedSimpArgs false
set_option maxRecDepth 10000
namespace Go.Proofs.Ytddphjmcoolinaa
theorem S8_first : S8.getD 0 0 = 7640891576956012808 := by decide +kernel
theorem K80_first : K80.getD 0 0 = 4794697086780616226 := by decide +kernel
def abc3 : List Nat := (List.range 3).map fun i => (sumN [97, 98, 99]).getD (if i = 2 then 63 else i) 0
theorem abc3_eq : abc3 = [221, 175, 159] := by decide +kernel
theorem P_awake : F_casematelaw14_awake = some true := by
  unfold F_casematelaw14_awake
  have e := P_Sum (xss := [[97, 98, 99]]) (by decide) (by decide) (by decide) (LB.cons (by decide) (LB.cons (by decide) (LB.cons (by decide) LB.nil)))
  have e0 : (sumN [97, 98, 99]).getD 0 0 = 221 := congrArg (fun l => l.getD 0 0) abc3_eq
  have e1 : (sumN [97, 98, 99]).getD 1 0 = 175 := congrArg (fun l => l.getD 1 0) abc3_eq
  have e2 : (sumN [97, 98, 99]).getD 63 0 = 159 := congrArg (fun l => l.getD 2 0) abc3_eq
  rw [show [[97, 98, 99]].flatten = [97, 98, 99] from rfl] at e
  rw [e, bnd_mk, P_Start, bnd_mk, P_Rounds, bnd_mk, e0, e1, e2, S8_first, K80_first, if_pos (by omega), if_pos (by omega), if_pos (by omega), if_pos (by omega)]
  rfl
theorem flat1 (d : List Nat) : [d].flatten = d := List.append_nil d
theorem P_Sum1 {d : List Nat} (hl : d.length ≤ 10000) (hb : By d) : F_sha512_Sum [d] = some (sumN d) := by
  have e := P_Sum (xss := [d]) (Nat.le_add_left 1 999) (by intro x hx; rw [List.mem_singleton.1 hx]; exact hl) (by rw [flat1]; omega) (by rw [flat1]; exact hb)
  rw [flat1] at e; exact e
end Go.Proofs.Ytddphjmcoolinaa
