/- The laws of layer 16, plain. -/
import Derived.Test.YtmlmbolcblafmaaQh
set_option linter.unusedVariables false
set_option linter.unusedSimpArgs false
set_option maxRecDepth 10000
namespace Go.Proofs.Ytmlmbolcblafmaa
theorem z0 : (0 : Int) = ((0 : Nat) : Int) := rfl
theorem z1 : (1 : Int) = ((1 : Nat) : Int) := rfl
theorem z20 : (20 : Int) = ((20 : Nat) : Int) := rfl
theorem nt : ¬ ((!true) = true) := by decide
theorem ff : ¬ (false = true) := by decide
theorem ex_b32 {l : List Nat} (hb : LB 256 l) (hl : l.length = 32) : ∃ a, a < 115792089237316195423570985008687907853269984665640564039457584007913129639936 ∧ l = b32 a := by
  have h := nv_lt l hb
  rw [hl, q32] at h
  exact ⟨nv 256 l, h, leb_of (by decide) hl hb rfl⟩
theorem nvb {a : Nat} (h : a < 115792089237316195423570985008687907853269984665640564039457584007913129639936) : nv 256 (b32 a) = a := nv_b32 (by rw [q32]; exact h)
theorem p_q {a : Nat} (h : a < pp) : a < 115792089237316195423570985008687907853269984665640564039457584007913129639936 := Nat.lt_trans h pp_q4
theorem R_Is {a : Nat} (ha : a < 115792089237316195423570985008687907853269984665640564039457584007913129639936) : F_casemateref16_Is (b32 a) = some (decide (a < pp)) := by rw [P_Is16 (b32_by _) (b32_len _), nvb ha]
theorem R_Add {a b : Nat} (ha : a < 115792089237316195423570985008687907853269984665640564039457584007913129639936) (hb : b < 115792089237316195423570985008687907853269984665640564039457584007913129639936) : F_casemateref16_Add (b32 a) (b32 b) = some (b32 ((a + b) % pp)) := by rw [P_Add16 (b32_by _) (b32_by _) (b32_len _) (b32_len _), nvb ha, nvb hb]
theorem R_Sub {a b : Nat} (ha : a < 115792089237316195423570985008687907853269984665640564039457584007913129639936) (hb : b < 115792089237316195423570985008687907853269984665640564039457584007913129639936) : F_casemateref16_Sub (b32 a) (b32 b) = some (b32 ((a + (pp - b)) % pp)) := by rw [P_Sub16 (b32_by _) (b32_by _) (b32_len _) (b32_len _), nvb ha, nvb hb]
theorem R_Mul {a b : Nat} (ha : a < 115792089237316195423570985008687907853269984665640564039457584007913129639936) (hb : b < 115792089237316195423570985008687907853269984665640564039457584007913129639936) : F_casemateref16_Mul (b32 a) (b32 b) = some (b32 (a * b % pp)) := by rw [P_Mul16 (b32_by _) (b32_by _) (b32_len _) (b32_len _), nvb ha, nvb hb]
/-! ### the examples -/
theorem n16_0 : F_casematelaw16_num 0 = some (b32 0) := congrArg some (by decide +kernel)
theorem n16_1 : F_casematelaw16_num 1 = some (b32 1) := congrArg some (by decide +kernel)
theorem n16_2 : F_casematelaw16_num 2 = some (b32 2) := congrArg some (by decide +kernel)
theorem n16_4 : F_casematelaw16_num 4 = some (b32 4) := congrArg some (by decide +kernel)
theorem n16_l : F_casematelaw16_last = some (b32 (pp - 1)) := by
  unfold F_casematelaw16_last
  rw [P_P, bnd_mk, P_Full (b32_by _) (Nat.le_of_eq (b32_len _)), bnd_mk]
  exact congrArg some (by decide +kernel)
theorem P_awake16 : F_casematelaw16_awake = some true := by
  have a1 : F_field_Add (b32 (pp - 1)) (b32 2) = some (b32 1, 0) := by rw [P_FAdd (by decide +kernel) (by decide +kernel)]; exact congrArg some (by decide +kernel)
  have a2 : F_field_Sub (b32 0) (b32 1) = some (b32 (pp - 1), 0) := by rw [P_FSub (by decide +kernel) (by decide +kernel)]; exact congrArg some (by decide +kernel)
  have a3 : F_field_Mul (b32 (pp - 1)) (b32 (pp - 1)) = some (b32 1, 0) := by rw [P_FMul (by decide +kernel) (by decide +kernel)]; exact congrArg some (by decide +kernel)
  have a4 : F_field_Root (b32 4) = some (b32 2, true, 0) := by rw [P_FRoot (by decide +kernel)]; exact congrArg some (by decide +kernel)
  have a5 : F_field_Root (b32 2) = some (b32 0, false, 0) := by rw [P_FRoot (by decide +kernel)]; exact congrArg some (by decide +kernel)
  have a6 : F_field_Inv (b32 0) = some (b32 0, 20) := by rw [P_FInv (by decide +kernel)]; exact congrArg some (by decide +kernel)
  unfold F_casematelaw16_awake
  rw [n16_l]; (repeat (first | rw [bnd_mk] | rw [if_pos rfl] | rw [if_pos z0] | rw [if_pos z1] | rw [if_pos z20] | rw [if_neg ff] | rw [if_neg nt] | dsimp only)); rw [n16_2]; (repeat (first | rw [bnd_mk] | rw [if_pos rfl] | rw [if_pos z0] | rw [if_pos z1] | rw [if_pos z20] | rw [if_neg ff] | rw [if_neg nt] | dsimp only)); rw [a1]; (repeat (first | rw [bnd_mk] | rw [if_pos rfl] | rw [if_pos z0] | rw [if_pos z1] | rw [if_pos z20] | rw [if_neg ff] | rw [if_neg nt] | dsimp only))
  rw [n16_0]; (repeat (first | rw [bnd_mk] | rw [if_pos rfl] | rw [if_pos z0] | rw [if_pos z1] | rw [if_pos z20] | rw [if_neg ff] | rw [if_neg nt] | dsimp only)); rw [n16_1]; (repeat (first | rw [bnd_mk] | rw [if_pos rfl] | rw [if_pos z0] | rw [if_pos z1] | rw [if_pos z20] | rw [if_neg ff] | rw [if_neg nt] | dsimp only)); rw [a2]; (repeat (first | rw [bnd_mk] | rw [if_pos rfl] | rw [if_pos z0] | rw [if_pos z1] | rw [if_pos z20] | rw [if_neg ff] | rw [if_neg nt] | dsimp only))
  (repeat (first | rw [bnd_mk] | rw [if_pos rfl] | rw [if_pos z0] | rw [if_pos z1] | rw [if_pos z20] | rw [if_neg ff] | rw [if_neg nt] | dsimp only)); rw [a3]; (repeat (first | rw [bnd_mk] | rw [if_pos rfl] | rw [if_pos z0] | rw [if_pos z1] | rw [if_pos z20] | rw [if_neg ff] | rw [if_neg nt] | dsimp only))
  rw [n16_4]; (repeat (first | rw [bnd_mk] | rw [if_pos rfl] | rw [if_pos z0] | rw [if_pos z1] | rw [if_pos z20] | rw [if_neg ff] | rw [if_neg nt] | dsimp only)); rw [a4]; (repeat (first | rw [bnd_mk] | rw [if_pos rfl] | rw [if_pos z0] | rw [if_pos z1] | rw [if_pos z20] | rw [if_neg ff] | rw [if_neg nt] | dsimp only))
  (repeat (first | rw [bnd_mk] | rw [if_pos rfl] | rw [if_pos z0] | rw [if_pos z1] | rw [if_pos z20] | rw [if_neg ff] | rw [if_neg nt] | dsimp only)); rw [a5]; (repeat (first | rw [bnd_mk] | rw [if_pos rfl] | rw [if_pos z0] | rw [if_pos z1] | rw [if_pos z20] | rw [if_neg ff] | rw [if_neg nt] | dsimp only))
  (repeat (first | rw [bnd_mk] | rw [if_pos rfl] | rw [if_pos z0] | rw [if_pos z1] | rw [if_pos z20] | rw [if_neg ff] | rw [if_neg nt] | dsimp only)); rw [a6]; (repeat (first | rw [bnd_mk] | rw [if_pos rfl] | rw [if_pos z0] | rw [if_pos z1] | rw [if_pos z20] | rw [if_neg ff] | rw [if_neg nt] | dsimp only))
  (repeat (first | rw [bnd_mk] | rw [if_pos rfl] | rw [if_pos z0] | rw [if_pos z1] | rw [if_pos z20] | rw [if_neg ff] | rw [if_neg nt] | dsimp only))
  exact congrArg some (by decide)
theorem L_FieldReckons {xs ys : List Nat} (hb0 : LB 256 xs) (hl0 : xs.length = 32) (hb1 : LB 256 ys) (hl1 : ys.length = 32) : F_casematelaw16_FieldReckons xs ys = some true := by
  obtain ⟨a, ha, rfl⟩ := ex_b32 hb0 hl0
  obtain ⟨b, hb, rfl⟩ := ex_b32 hb1 hl1
  clear hb0 hl0 hb1 hl1
  unfold F_casematelaw16_FieldReckons
  rw [P_FAdd ha hb]; (repeat (first | rw [bnd_mk] | rw [if_pos rfl] | rw [if_pos z0] | rw [if_pos z1] | rw [if_pos z20] | rw [if_neg ff] | rw [if_neg nt] | dsimp only)); rw [P_FSub ha hb, P_FMul ha hb]
  by_cases q : a < pp ∧ b < pp
  · rw [if_pos q, if_pos q, if_pos q]
    (repeat (first | rw [bnd_mk] | rw [if_pos rfl] | rw [if_pos z0] | rw [if_pos z1] | rw [if_pos z20] | rw [if_neg ff] | rw [if_neg nt] | dsimp only))
    (repeat (first | rw [bnd_mk] | rw [if_pos rfl] | rw [if_pos z0] | rw [if_pos z1] | rw [if_pos z20] | rw [if_neg ff] | rw [if_neg nt] | dsimp only))
    rw [P_FIs ha]; (repeat (first | rw [bnd_mk] | rw [if_pos rfl] | rw [if_pos z0] | rw [if_pos z1] | rw [if_pos z20] | rw [if_neg ff] | rw [if_neg nt] | dsimp only)); rw [R_Is ha]; (repeat (first | rw [bnd_mk] | rw [if_pos rfl] | rw [if_pos z0] | rw [if_pos z1] | rw [if_pos z20] | rw [if_neg ff] | rw [if_neg nt] | dsimp only)); rw [decide_eq_true q.1]; (repeat (first | rw [bnd_mk] | rw [if_pos rfl] | rw [if_pos z0] | rw [if_pos z1] | rw [if_pos z20] | rw [if_neg ff] | rw [if_neg nt] | dsimp only)); rw [R_Is hb]; (repeat (first | rw [bnd_mk] | rw [if_pos rfl] | rw [if_pos z0] | rw [if_pos z1] | rw [if_pos z20] | rw [if_neg ff] | rw [if_neg nt] | dsimp only)); rw [decide_eq_true q.2]; (repeat (first | rw [bnd_mk] | rw [if_pos rfl] | rw [if_pos z0] | rw [if_pos z1] | rw [if_pos z20] | rw [if_neg ff] | rw [if_neg nt] | dsimp only)); rw [P_awake16]; (repeat (first | rw [bnd_mk] | rw [if_pos rfl] | rw [if_pos z0] | rw [if_pos z1] | rw [if_pos z20] | rw [if_neg ff] | rw [if_neg nt] | dsimp only)); rw [R_Add ha hb]; (repeat (first | rw [bnd_mk] | rw [if_pos rfl] | rw [if_pos z0] | rw [if_pos z1] | rw [if_pos z20] | rw [if_neg ff] | rw [if_neg nt] | dsimp only)); rw [R_Sub ha hb]; (repeat (first | rw [bnd_mk] | rw [if_pos rfl] | rw [if_pos z0] | rw [if_pos z1] | rw [if_pos z20] | rw [if_neg ff] | rw [if_neg nt] | dsimp only)); rw [R_Mul ha hb]; (repeat (first | rw [bnd_mk] | rw [if_pos rfl] | rw [if_pos z0] | rw [if_pos z1] | rw [if_pos z20] | rw [if_neg ff] | rw [if_neg nt] | dsimp only))
    exact congrArg some (decide_eq_true rfl)
  · rw [if_neg q, if_neg q, if_neg q]
    (repeat (first | rw [bnd_mk] | rw [if_pos rfl] | rw [if_pos z0] | rw [if_pos z1] | rw [if_pos z20] | rw [if_neg ff] | rw [if_neg nt] | dsimp only))
    (repeat (first | rw [bnd_mk] | rw [if_pos rfl] | rw [if_pos z0] | rw [if_pos z1] | rw [if_pos z20] | rw [if_neg ff] | rw [if_neg nt] | dsimp only))
    rw [P_FIs ha]; (repeat (first | rw [bnd_mk] | rw [if_pos rfl] | rw [if_pos z0] | rw [if_pos z1] | rw [if_pos z20] | rw [if_neg ff] | rw [if_neg nt] | dsimp only)); rw [R_Is ha]; (repeat (first | rw [bnd_mk] | rw [if_pos rfl] | rw [if_pos z0] | rw [if_pos z1] | rw [if_pos z20] | rw [if_neg ff] | rw [if_neg nt] | dsimp only)); rw [R_Is hb]; (repeat (first | rw [bnd_mk] | rw [if_pos rfl] | rw [if_pos z0] | rw [if_pos z1] | rw [if_pos z20] | rw [if_neg ff] | rw [if_neg nt] | dsimp only))
    have e : (if decide (a < pp) = true then some (!decide (decide (b < pp) = true)) else some true) = some true := by
      by_cases q1 : a < pp
      · rw [decide_eq_true q1]; (repeat (first | rw [bnd_mk] | rw [if_pos rfl] | rw [if_pos z0] | rw [if_pos z1] | rw [if_pos z20] | rw [if_neg ff] | rw [if_neg nt] | dsimp only)); rw [decide_eq_false (fun h => q ⟨q1, h⟩)]; rfl
      · rw [decide_eq_false q1]; rfl
    rw [e]; (repeat (first | rw [bnd_mk] | rw [if_pos rfl] | rw [if_pos z0] | rw [if_pos z1] | rw [if_pos z20] | rw [if_neg ff] | rw [if_neg nt] | dsimp only)); rw [P_awake16]; (repeat (first | rw [bnd_mk] | rw [if_pos rfl] | rw [if_pos z0] | rw [if_pos z1] | rw [if_pos z20] | rw [if_neg ff] | rw [if_neg nt] | dsimp only)); rw [b32_0]; (repeat (first | rw [bnd_mk] | rw [if_pos rfl] | rw [if_pos z0] | rw [if_pos z1] | rw [if_pos z20] | rw [if_neg ff] | rw [if_neg nt] | dsimp only))
    exact congrArg some (decide_eq_true rfl)
theorem L_FieldInverts {xs : List Nat} (hb0 : LB 256 xs) (hl0 : xs.length = 32) : F_casematelaw16_FieldInverts xs = some true := by
  obtain ⟨a, ha, rfl⟩ := ex_b32 hb0 hl0
  clear hb0 hl0
  unfold F_casematelaw16_FieldInverts
  rw [P_FInv ha]; (repeat (first | rw [bnd_mk] | rw [if_pos rfl] | rw [if_pos z0] | rw [if_pos z1] | rw [if_pos z20] | rw [if_neg ff] | rw [if_neg nt] | dsimp only))
  by_cases q : a < pp
  · rw [if_pos q]
    by_cases q0 : a = 0
    · rw [if_pos q0]
      rw [R_Is ha]; (repeat (first | rw [bnd_mk] | rw [if_pos rfl] | rw [if_pos z0] | rw [if_pos z1] | rw [if_pos z20] | rw [if_neg ff] | rw [if_neg nt] | dsimp only)); rw [decide_eq_true q]; (repeat (first | rw [bnd_mk] | rw [if_pos rfl] | rw [if_pos z0] | rw [if_pos z1] | rw [if_pos z20] | rw [if_neg ff] | rw [if_neg nt] | dsimp only)); rw [n16_0]; (repeat (first | rw [bnd_mk] | rw [if_pos rfl] | rw [if_pos z0] | rw [if_pos z1] | rw [if_pos z20] | rw [if_neg ff] | rw [if_neg nt] | dsimp only)); rw [if_pos (congrArg b32 q0), P_awake16]; (repeat (first | rw [bnd_mk] | rw [if_pos rfl] | rw [if_pos z0] | rw [if_pos z1] | rw [if_pos z20] | rw [if_neg ff] | rw [if_neg nt] | dsimp only)); rw [b32_0]
      exact congrArg some (decide_eq_true rfl)
    · rw [if_neg q0]
      have hi : pwF pp 255 a EI < pp := inv_lt a
      rw [R_Is ha]; (repeat (first | rw [bnd_mk] | rw [if_pos rfl] | rw [if_pos z0] | rw [if_pos z1] | rw [if_pos z20] | rw [if_neg ff] | rw [if_neg nt] | dsimp only)); rw [decide_eq_true q]; (repeat (first | rw [bnd_mk] | rw [if_pos rfl] | rw [if_pos z0] | rw [if_pos z1] | rw [if_pos z20] | rw [if_neg ff] | rw [if_neg nt] | dsimp only)); rw [n16_0]; (repeat (first | rw [bnd_mk] | rw [if_pos rfl] | rw [if_pos z0] | rw [if_pos z1] | rw [if_pos z20] | rw [if_neg ff] | rw [if_neg nt] | dsimp only)); rw [if_neg (fun h => q0 ((b32_eq ha (by decide)).1 h)), P_awake16]; (repeat (first | rw [bnd_mk] | rw [if_pos rfl] | rw [if_pos z0] | rw [if_pos z1] | rw [if_pos z20] | rw [if_neg ff] | rw [if_neg nt] | dsimp only)); rw [R_Is (p_q hi)]; (repeat (first | rw [bnd_mk] | rw [if_pos rfl] | rw [if_pos z0] | rw [if_pos z1] | rw [if_pos z20] | rw [if_neg ff] | rw [if_neg nt] | dsimp only)); rw [decide_eq_true hi]; (repeat (first | rw [bnd_mk] | rw [if_pos rfl] | rw [if_pos z0] | rw [if_pos z1] | rw [if_pos z20] | rw [if_neg ff] | rw [if_neg nt] | dsimp only)); rw [R_Mul ha (p_q hi)]; (repeat (first | rw [bnd_mk] | rw [if_pos rfl] | rw [if_pos z0] | rw [if_pos z1] | rw [if_pos z20] | rw [if_neg ff] | rw [if_neg nt] | dsimp only)); rw [n16_1]; (repeat (first | rw [bnd_mk] | rw [if_pos rfl] | rw [if_pos z0] | rw [if_pos z1] | rw [if_pos z20] | rw [if_neg ff] | rw [if_neg nt] | dsimp only))
      rw [show a * pwF pp 255 a EI % pp = 1 from inv_mul q q0]
      exact congrArg some (decide_eq_true rfl)
  · rw [if_neg q]
    rw [R_Is ha]; (repeat (first | rw [bnd_mk] | rw [if_pos rfl] | rw [if_pos z0] | rw [if_pos z1] | rw [if_pos z20] | rw [if_neg ff] | rw [if_neg nt] | dsimp only)); rw [decide_eq_false q]; (repeat (first | rw [bnd_mk] | rw [if_pos rfl] | rw [if_pos z0] | rw [if_pos z1] | rw [if_pos z20] | rw [if_neg ff] | rw [if_neg nt] | dsimp only)); rw [P_awake16]; (repeat (first | rw [bnd_mk] | rw [if_pos rfl] | rw [if_pos z0] | rw [if_pos z1] | rw [if_pos z20] | rw [if_neg ff] | rw [if_neg nt] | dsimp only)); rw [b32_0]
    exact congrArg some (decide_eq_true rfl)
theorem get0 (a : Nat) : (b32 a).getD 0 0 % 2 = a % 2 := by
  rw [leb_get 32 a 0 (by decide), Nat.pow_zero, Nat.div_one]; omega
theorem L_FieldRoots {xs : List Nat} (hb0 : LB 256 xs) (hl0 : xs.length = 32) : F_casematelaw16_FieldRoots xs = some true := by
  obtain ⟨a, ha, rfl⟩ := ex_b32 hb0 hl0
  clear hb0 hl0
  unfold F_casematelaw16_FieldRoots
  rw [P_FRoot ha]; (repeat (first | rw [bnd_mk] | rw [if_pos rfl] | rw [if_pos z0] | rw [if_pos z1] | rw [if_pos z20] | rw [if_neg ff] | rw [if_neg nt] | dsimp only))
  by_cases q : a < pp
  · rw [if_pos q]
    rw [R_Is ha]; (repeat (first | rw [bnd_mk] | rw [if_pos rfl] | rw [if_pos z0] | rw [if_pos z1] | rw [if_pos z20] | rw [if_neg ff] | rw [if_neg nt] | dsimp only)); rw [decide_eq_true q]; (repeat (first | rw [bnd_mk] | rw [if_pos rfl] | rw [if_pos z0] | rw [if_pos z1] | rw [if_pos z20] | rw [if_neg ff] | rw [if_neg nt] | dsimp only))
    have h2 : bnd (F_casemateref16_Add (b32 a) (b32 a)) (fun (l14 : List Nat) => bnd (F_field_Root l14) (fun (l15, b16, z17) => bnd (F_casematelaw16_awake) (fun (b18 : Bool) => if b18 = true then (if z17 = ((0 : Nat) : Int) then (some (!decide ((rootN a).2 = b16))) else (some false)) else (some false))))
        = some (!decide ((rootN a).2 = (rootN ((a + a) % pp)).2)) := by
      rw [R_Add ha ha]; (repeat (first | rw [bnd_mk] | rw [if_pos rfl] | rw [if_pos z0] | rw [if_pos z1] | rw [if_pos z20] | rw [if_neg ff] | rw [if_neg nt] | dsimp only)); rw [P_FRoot (md_lt _), if_pos (Nat.mod_lt _ pp_pos)]; (repeat (first | rw [bnd_mk] | rw [if_pos rfl] | rw [if_pos z0] | rw [if_pos z1] | rw [if_pos z20] | rw [if_neg ff] | rw [if_neg nt] | dsimp only))
      rw [P_awake16]; (repeat (first | rw [bnd_mk] | rw [if_pos rfl] | rw [if_pos z0] | rw [if_pos z1] | rw [if_pos z20] | rw [if_neg ff] | rw [if_neg nt] | dsimp only))
    cases hr : (rootN a).2 with
    | true =>
      obtain ⟨r1, r2, r3⟩ := root_ok q hr
      rw [hr] at h2
      (repeat (first | rw [bnd_mk] | rw [if_pos rfl] | rw [if_pos z0] | rw [if_pos z1] | rw [if_pos z20] | rw [if_neg ff] | rw [if_neg nt] | dsimp only)); rw [sel_inl]; (repeat (first | rw [bnd_mk] | rw [if_pos rfl] | rw [if_pos z0] | rw [if_pos z1] | rw [if_pos z20] | rw [if_neg ff] | rw [if_neg nt] | dsimp only)); rw [R_Is (p_q r1)]; (repeat (first | rw [bnd_mk] | rw [if_pos rfl] | rw [if_pos z0] | rw [if_pos z1] | rw [if_pos z20] | rw [if_neg ff] | rw [if_neg nt] | dsimp only)); rw [decide_eq_true r1]; (repeat (first | rw [bnd_mk] | rw [if_pos rfl] | rw [if_pos z0] | rw [if_pos z1] | rw [if_pos z20] | rw [if_neg ff] | rw [if_neg nt] | dsimp only)); rw [get0, if_pos r2, R_Mul (p_q r1) (p_q r1), r3]; (repeat (first | rw [bnd_mk] | rw [if_pos rfl] | rw [if_pos z0] | rw [if_pos z1] | rw [if_pos z20] | rw [if_neg ff] | rw [if_neg nt] | dsimp only)); rw [decide_eq_true rfl]; (repeat (first | rw [bnd_mk] | rw [if_pos rfl] | rw [if_pos z0] | rw [if_pos z1] | rw [if_pos z20] | rw [if_neg ff] | rw [if_neg nt] | dsimp only)); rw [n16_0]; (repeat (first | rw [bnd_mk] | rw [if_pos rfl] | rw [if_pos z0] | rw [if_pos z1] | rw [if_pos z20] | rw [if_neg ff] | rw [if_neg nt] | dsimp only))
      by_cases q0 : a = 0
      · rw [if_pos (congrArg b32 q0), P_awake16]; (repeat (first | rw [bnd_mk] | rw [if_pos rfl] | rw [if_pos z0] | rw [if_pos z1] | rw [if_pos z20] | rw [if_neg ff] | rw [if_neg nt] | dsimp only))
      · rw [if_neg (fun h => q0 ((b32_eq ha (by decide)).1 h))]
        refine h2.trans ?_
        have := root_twice q q0
        rw [hr] at this
        rw [decide_eq_false this]; rfl
    | false =>
      have r0 := root_no hr
      rw [hr] at h2
      (repeat (first | rw [bnd_mk] | rw [if_pos rfl] | rw [if_pos z0] | rw [if_pos z1] | rw [if_pos z20] | rw [if_neg ff] | rw [if_neg nt] | dsimp only)); rw [n16_0]; (repeat (first | rw [bnd_mk] | rw [if_pos rfl] | rw [if_pos z0] | rw [if_pos z1] | rw [if_pos z20] | rw [if_neg ff] | rw [if_neg nt] | dsimp only)); rw [r0]; (repeat (first | rw [bnd_mk] | rw [if_pos rfl] | rw [if_pos z0] | rw [if_pos z1] | rw [if_pos z20] | rw [if_neg ff] | rw [if_neg nt] | dsimp only)); rw [sel_inl]; (repeat (first | rw [bnd_mk] | rw [if_pos rfl] | rw [if_pos z0] | rw [if_pos z1] | rw [if_pos z20] | rw [if_neg ff] | rw [if_neg nt] | dsimp only))
      have q0 : a ≠ 0 := fun e => by rw [e, root_zero] at hr; cases hr
      rw [if_neg (fun h => q0 ((b32_eq ha (by decide)).1 h))]
      refine h2.trans ?_
      have := root_twice q q0
      rw [hr] at this
      rw [decide_eq_false this]; rfl
  · rw [if_neg q]
    rw [R_Is ha]; (repeat (first | rw [bnd_mk] | rw [if_pos rfl] | rw [if_pos z0] | rw [if_pos z1] | rw [if_pos z20] | rw [if_neg ff] | rw [if_neg nt] | dsimp only)); rw [decide_eq_false q]; (repeat (first | rw [bnd_mk] | rw [if_pos rfl] | rw [if_pos z0] | rw [if_pos z1] | rw [if_pos z20] | rw [if_neg ff] | rw [if_neg nt] | dsimp only)); rw [P_awake16]; (repeat (first | rw [bnd_mk] | rw [if_pos rfl] | rw [if_pos z0] | rw [if_pos z1] | rw [if_pos z20] | rw [if_neg ff] | rw [if_neg nt] | dsimp only)); rw [b32_0]
    exact congrArg some (decide_eq_true rfl)
theorem L_FieldSquares {xs : List Nat} (hb0 : LB 256 xs) (hl0 : xs.length = 32) : F_casematelaw16_FieldSquares xs = some true := by
  obtain ⟨a, ha, rfl⟩ := ex_b32 hb0 hl0
  clear hb0 hl0
  unfold F_casematelaw16_FieldSquares
  have e := P_FMul ha ha
  by_cases q : a < pp
  · rw [if_pos ⟨q, q⟩] at e
    rw [e]
    (repeat (first | rw [bnd_mk] | rw [if_pos rfl] | rw [if_pos z0] | rw [if_pos z1] | rw [if_pos z20] | rw [if_neg ff] | rw [if_neg nt] | dsimp only))
    (repeat (first | rw [bnd_mk] | rw [if_pos rfl] | rw [if_pos z0] | rw [if_pos z1] | rw [if_pos z20] | rw [if_neg ff] | rw [if_neg nt] | dsimp only)); rw [P_FRoot (md_lt _), if_pos (Nat.mod_lt _ pp_pos)]; (repeat (first | rw [bnd_mk] | rw [if_pos rfl] | rw [if_pos z0] | rw [if_pos z1] | rw [if_pos z20] | rw [if_neg ff] | rw [if_neg nt] | dsimp only))
    rw [n16_0]; (repeat (first | rw [bnd_mk] | rw [if_pos rfl] | rw [if_pos z0] | rw [if_pos z1] | rw [if_pos z20] | rw [if_neg ff] | rw [if_neg nt] | dsimp only)); rw [P_FSub (by decide) ha, if_pos ⟨pp_pos, q⟩]; (repeat (first | rw [bnd_mk] | rw [if_pos rfl] | rw [if_pos z0] | rw [if_pos z1] | rw [if_pos z20] | rw [if_neg ff] | rw [if_neg nt] | dsimp only))
    have hr := root_sq q
    obtain ⟨r1, r2, r3⟩ := root_ok (Nat.mod_lt (a * a) pp_pos) hr
    have ho := pp_odd
    have hw : (if ((b32 a).getD 0 0) % 2 = 0 then (some (b32 a)) else (some (b32 ((0 + (pp - a)) % pp))) : Option (List Nat)) = some (b32 (rootN (a * a % pp)).1) := by
      rw [get0]
      rcases sq_eq r1 q r3 with e | e
      · rw [if_pos (by omega), e]
      · by_cases q0 : a = 0
        · omega
        · rw [if_neg (by omega), Nat.zero_add, md_self (by omega)]
          congr 2
          omega
    rw [hw]; (repeat (first | rw [bnd_mk] | rw [if_pos rfl] | rw [if_pos z0] | rw [if_pos z1] | rw [if_pos z20] | rw [if_neg ff] | rw [if_neg nt] | dsimp only)); rw [P_awake16]; (repeat (first | rw [bnd_mk] | rw [if_pos rfl] | rw [if_pos z0] | rw [if_pos z1] | rw [if_pos z20] | rw [if_neg ff] | rw [if_neg nt] | dsimp only)); rw [hr]; (repeat (first | rw [bnd_mk] | rw [if_pos rfl] | rw [if_pos z0] | rw [if_pos z1] | rw [if_pos z20] | rw [if_neg ff] | rw [if_neg nt] | dsimp only))
    exact congrArg some (decide_eq_true rfl)
  · rw [if_neg (fun h => q h.1)] at e
    rw [e]
    (repeat (first | rw [bnd_mk] | rw [if_pos rfl] | rw [if_pos z0] | rw [if_pos z1] | rw [if_pos z20] | rw [if_neg ff] | rw [if_neg nt] | dsimp only))
    (repeat (first | rw [bnd_mk] | rw [if_pos rfl] | rw [if_pos z0] | rw [if_pos z1] | rw [if_pos z20] | rw [if_neg ff] | rw [if_neg nt] | dsimp only)); rw [P_awake16]; (repeat (first | rw [bnd_mk] | rw [if_pos rfl] | rw [if_pos z0] | rw [if_pos z1] | rw [if_pos z20] | rw [if_neg ff] | rw [if_neg nt] | dsimp only)); rw [P_FIs ha]; (repeat (first | rw [bnd_mk] | rw [if_pos rfl] | rw [if_pos z0] | rw [if_pos z1] | rw [if_pos z20] | rw [if_neg ff] | rw [if_neg nt] | dsimp only)); rw [decide_eq_false q]
    rfl
theorem L_add {a b : Nat} (ha : a < pp) (hb : b < pp) : F_casematelaw16_add (b32 a) (b32 b) = some (b32 ((a + b) % pp)) := by
  unfold F_casematelaw16_add
  rw [P_FAdd (p_q ha) (p_q hb), if_pos ⟨ha, hb⟩]; (repeat (first | rw [bnd_mk] | rw [if_pos rfl] | rw [if_pos z0] | rw [if_pos z1] | rw [if_pos z20] | rw [if_neg ff] | rw [if_neg nt] | dsimp only))
theorem L_mul {a b : Nat} (ha : a < pp) (hb : b < pp) : F_casematelaw16_mul (b32 a) (b32 b) = some (b32 (a * b % pp)) := by
  unfold F_casematelaw16_mul
  rw [P_FMul (p_q ha) (p_q hb), if_pos ⟨ha, hb⟩]; (repeat (first | rw [bnd_mk] | rw [if_pos rfl] | rw [if_pos z0] | rw [if_pos z1] | rw [if_pos z20] | rw [if_neg ff] | rw [if_neg nt] | dsimp only))
theorem mp (n : Nat) : n % pp < pp := Nat.mod_lt _ pp_pos
theorem L_FieldLaws {xs ys zs : List Nat} (hb0 : LB 256 xs) (hl0 : xs.length = 32) (hb1 : LB 256 ys) (hl1 : ys.length = 32) (hb2 : LB 256 zs) (hl2 : zs.length = 32) : F_casematelaw16_FieldLaws xs ys zs = some true := by
  obtain ⟨a, ha, rfl⟩ := ex_b32 hb0 hl0
  obtain ⟨b, hb, rfl⟩ := ex_b32 hb1 hl1
  obtain ⟨c, hc, rfl⟩ := ex_b32 hb2 hl2
  clear hb0 hl0 hb1 hl1 hb2 hl2
  unfold F_casematelaw16_FieldLaws
  rw [R_Is ha]; (repeat (first | rw [bnd_mk] | rw [if_pos rfl] | rw [if_pos z0] | rw [if_pos z1] | rw [if_pos z20] | rw [if_neg ff] | rw [if_neg nt] | dsimp only))
  by_cases q : a < pp
  · rw [decide_eq_true q]; (repeat (first | rw [bnd_mk] | rw [if_pos rfl] | rw [if_pos z0] | rw [if_pos z1] | rw [if_pos z20] | rw [if_neg ff] | rw [if_neg nt] | dsimp only)); rw [R_Is hb]; (repeat (first | rw [bnd_mk] | rw [if_pos rfl] | rw [if_pos z0] | rw [if_pos z1] | rw [if_pos z20] | rw [if_neg ff] | rw [if_neg nt] | dsimp only))
    by_cases q1 : b < pp
    · rw [decide_eq_true q1]; (repeat (first | rw [bnd_mk] | rw [if_pos rfl] | rw [if_pos z0] | rw [if_pos z1] | rw [if_pos z20] | rw [if_neg ff] | rw [if_neg nt] | dsimp only)); rw [R_Is hc]; (repeat (first | rw [bnd_mk] | rw [if_pos rfl] | rw [if_pos z0] | rw [if_pos z1] | rw [if_pos z20] | rw [if_neg ff] | rw [if_neg nt] | dsimp only))
      by_cases q2 : c < pp
      · rw [decide_eq_true q2]; (repeat (first | rw [bnd_mk] | rw [if_pos rfl] | rw [if_pos z0] | rw [if_pos z1] | rw [if_pos z20] | rw [if_neg ff] | rw [if_neg nt] | dsimp only)); rw [L_add q q1]; (repeat (first | rw [bnd_mk] | rw [if_pos rfl] | rw [if_pos z0] | rw [if_pos z1] | rw [if_pos z20] | rw [if_neg ff] | rw [if_neg nt] | dsimp only)); rw [P_FSub (md_lt _) hb, if_pos ⟨mp _, q1⟩]; (repeat (first | rw [bnd_mk] | rw [if_pos rfl] | rw [if_pos z0] | rw [if_pos z1] | rw [if_pos z20] | rw [if_neg ff] | rw [if_neg nt] | dsimp only))
        have e1 : ((a + b) % pp + (pp - b)) % pp = a := by rw [Nat.mod_add_mod, show a + b + (pp - b) = a + pp by omega, Nat.add_mod_right, md_self q]
        have e2 : (b + a) % pp = (a + b) % pp := by rw [Nat.add_comm]
        have e3 : ((a + b) % pp + c) % pp = (a + (b + c) % pp) % pp := by rw [Nat.mod_add_mod, Nat.add_mod_mod, Nat.add_assoc]
        have e4 : b * a % pp = a * b % pp := by rw [Nat.mul_comm]
        have e5 : a * b % pp * c % pp = a * (b * c % pp) % pp := by rw [Nat.mod_mul_mod, Nat.mul_mod_mod, Nat.mul_assoc]
        have e6 : (a + b) % pp * c % pp = (a * c % pp + b * c % pp) % pp := by rw [Nat.mod_mul_mod, ← Nat.add_mod, Nat.add_mul]
        have e7 : a * 1 % pp = a := by rw [Nat.mul_one, md_self q]
        rw [P_awake16]; (repeat (first | rw [bnd_mk] | rw [if_pos rfl] | rw [if_pos z0] | rw [if_pos z1] | rw [if_pos z20] | rw [if_neg ff] | rw [if_neg nt] | dsimp only)); rw [e1]; (repeat (first | rw [bnd_mk] | rw [if_pos rfl] | rw [if_pos z0] | rw [if_pos z1] | rw [if_pos z20] | rw [if_neg ff] | rw [if_neg nt] | dsimp only)); rw [L_add q1 q]; (repeat (first | rw [bnd_mk] | rw [if_pos rfl] | rw [if_pos z0] | rw [if_pos z1] | rw [if_pos z20] | rw [if_neg ff] | rw [if_neg nt] | dsimp only)); rw [e2]; (repeat (first | rw [bnd_mk] | rw [if_pos rfl] | rw [if_pos z0] | rw [if_pos z1] | rw [if_pos z20] | rw [if_neg ff] | rw [if_neg nt] | dsimp only)); rw [L_add (mp _) q2]; (repeat (first | rw [bnd_mk] | rw [if_pos rfl] | rw [if_pos z0] | rw [if_pos z1] | rw [if_pos z20] | rw [if_neg ff] | rw [if_neg nt] | dsimp only)); rw [L_add q1 q2]; (repeat (first | rw [bnd_mk] | rw [if_pos rfl] | rw [if_pos z0] | rw [if_pos z1] | rw [if_pos z20] | rw [if_neg ff] | rw [if_neg nt] | dsimp only)); rw [L_add q (mp _)]; (repeat (first | rw [bnd_mk] | rw [if_pos rfl] | rw [if_pos z0] | rw [if_pos z1] | rw [if_pos z20] | rw [if_neg ff] | rw [if_neg nt] | dsimp only)); rw [if_pos (congrArg b32 e3)]
        rw [L_mul q q1]; (repeat (first | rw [bnd_mk] | rw [if_pos rfl] | rw [if_pos z0] | rw [if_pos z1] | rw [if_pos z20] | rw [if_neg ff] | rw [if_neg nt] | dsimp only)); rw [L_mul q1 q]; (repeat (first | rw [bnd_mk] | rw [if_pos rfl] | rw [if_pos z0] | rw [if_pos z1] | rw [if_pos z20] | rw [if_neg ff] | rw [if_neg nt] | dsimp only)); rw [if_pos (congrArg b32 e4.symm)]; (repeat (first | rw [bnd_mk] | rw [if_pos rfl] | rw [if_pos z0] | rw [if_pos z1] | rw [if_pos z20] | rw [if_neg ff] | rw [if_neg nt] | dsimp only)); rw [L_mul (mp _) q2]; (repeat (first | rw [bnd_mk] | rw [if_pos rfl] | rw [if_pos z0] | rw [if_pos z1] | rw [if_pos z20] | rw [if_neg ff] | rw [if_neg nt] | dsimp only)); rw [L_mul q1 q2]; (repeat (first | rw [bnd_mk] | rw [if_pos rfl] | rw [if_pos z0] | rw [if_pos z1] | rw [if_pos z20] | rw [if_neg ff] | rw [if_neg nt] | dsimp only)); rw [L_mul q (mp _)]; (repeat (first | rw [bnd_mk] | rw [if_pos rfl] | rw [if_pos z0] | rw [if_pos z1] | rw [if_pos z20] | rw [if_neg ff] | rw [if_neg nt] | dsimp only)); rw [if_pos (congrArg b32 e5)]
        (repeat (first | rw [bnd_mk] | rw [if_pos rfl] | rw [if_pos z0] | rw [if_pos z1] | rw [if_pos z20] | rw [if_neg ff] | rw [if_neg nt] | dsimp only)); rw [L_mul (mp _) q2]; (repeat (first | rw [bnd_mk] | rw [if_pos rfl] | rw [if_pos z0] | rw [if_pos z1] | rw [if_pos z20] | rw [if_neg ff] | rw [if_neg nt] | dsimp only)); rw [L_mul q q2]; (repeat (first | rw [bnd_mk] | rw [if_pos rfl] | rw [if_pos z0] | rw [if_pos z1] | rw [if_pos z20] | rw [if_neg ff] | rw [if_neg nt] | dsimp only)); rw [L_add (mp _) (mp _)]; (repeat (first | rw [bnd_mk] | rw [if_pos rfl] | rw [if_pos z0] | rw [if_pos z1] | rw [if_pos z20] | rw [if_neg ff] | rw [if_neg nt] | dsimp only)); rw [if_pos (congrArg b32 e6), n16_1]; (repeat (first | rw [bnd_mk] | rw [if_pos rfl] | rw [if_pos z0] | rw [if_pos z1] | rw [if_pos z20] | rw [if_neg ff] | rw [if_neg nt] | dsimp only)); rw [L_mul q (by decide +kernel)]; (repeat (first | rw [bnd_mk] | rw [if_pos rfl] | rw [if_pos z0] | rw [if_pos z1] | rw [if_pos z20] | rw [if_neg ff] | rw [if_neg nt] | dsimp only)); rw [e7]
        exact congrArg some (decide_eq_true rfl)
      · rw [decide_eq_false q2]; rfl
    · rw [decide_eq_false q1]; rfl
  · rw [decide_eq_false q]; rfl
theorem L_FieldProducts {xs ys : List Nat} (hb0 : LB 256 xs) (hl0 : xs.length = 32) (hb1 : LB 256 ys) (hl1 : ys.length = 32) : F_casematelaw16_FieldProducts xs ys = some true := by
  obtain ⟨a, ha, rfl⟩ := ex_b32 hb0 hl0
  obtain ⟨b, hb, rfl⟩ := ex_b32 hb1 hl1
  clear hb0 hl0 hb1 hl1
  unfold F_casematelaw16_FieldProducts
  rw [R_Is ha]; (repeat (first | rw [bnd_mk] | rw [if_pos rfl] | rw [if_pos z0] | rw [if_pos z1] | rw [if_pos z20] | rw [if_neg ff] | rw [if_neg nt] | dsimp only))
  by_cases q : a < pp
  · rw [decide_eq_true q]; (repeat (first | rw [bnd_mk] | rw [if_pos rfl] | rw [if_pos z0] | rw [if_pos z1] | rw [if_pos z20] | rw [if_neg ff] | rw [if_neg nt] | dsimp only)); rw [R_Is hb]; (repeat (first | rw [bnd_mk] | rw [if_pos rfl] | rw [if_pos z0] | rw [if_pos z1] | rw [if_pos z20] | rw [if_neg ff] | rw [if_neg nt] | dsimp only))
    by_cases q1 : b < pp
    · rw [decide_eq_true q1]; (repeat (first | rw [bnd_mk] | rw [if_pos rfl] | rw [if_pos z0] | rw [if_pos z1] | rw [if_pos z20] | rw [if_neg ff] | rw [if_neg nt] | dsimp only)); rw [L_mul q q1]; (repeat (first | rw [bnd_mk] | rw [if_pos rfl] | rw [if_pos z0] | rw [if_pos z1] | rw [if_pos z20] | rw [if_neg ff] | rw [if_neg nt] | dsimp only)); rw [n16_0]; (repeat (first | rw [bnd_mk] | rw [if_pos rfl] | rw [if_pos z0] | rw [if_pos z1] | rw [if_pos z20] | rw [if_neg ff] | rw [if_neg nt] | dsimp only))
      have hz := mul_zero_p q q1
      have hm := mp (a * b)
      have hmi := inv_prod a b
      generalize a * b % pp = m at *
      have e : (if b32 a = b32 0 then (if (decide (b32 m = b32 0)) = true then (some (.inl ())) else (some (.inr false))) else (if (decide (b32 m = b32 0)) = (decide (b32 b = b32 0)) then (some (.inl ())) else (some (.inr false))) : Option (Unit ⊕ Bool)) = some (.inl ()) := by
        by_cases a0 : a = 0
        · rw [if_pos (congrArg b32 a0), if_pos (decide_eq_true (congrArg b32 (hz.2 (.inl a0))))]
        · rw [if_neg (fun h => a0 ((b32_eq ha (by decide)).1 h))]
          by_cases b0 : b = 0
          · rw [decide_eq_true (congrArg b32 (hz.2 (.inr b0))), decide_eq_true (congrArg b32 b0)]; (repeat (first | rw [bnd_mk] | rw [if_pos rfl] | rw [if_pos z0] | rw [if_pos z1] | rw [if_pos z20] | rw [if_neg ff] | rw [if_neg nt] | dsimp only))
          · rw [decide_eq_false (fun h => b0 ((b32_eq hb (by decide)).1 h)), decide_eq_false (fun h => ?_)]; (repeat (first | rw [bnd_mk] | rw [if_pos rfl] | rw [if_pos z0] | rw [if_pos z1] | rw [if_pos z20] | rw [if_neg ff] | rw [if_neg nt] | dsimp only))
            rcases hz.1 ((b32_eq (p_q hm) (by decide)).1 h) with r | r
            · exact a0 r
            · exact b0 r
      rw [e]; (repeat (first | rw [bnd_mk] | rw [if_pos rfl] | rw [if_pos z0] | rw [if_pos z1] | rw [if_pos z20] | rw [if_neg ff] | rw [if_neg nt] | dsimp only)); rw [sel_inl, L_mul hm hm]; (repeat (first | rw [bnd_mk] | rw [if_pos rfl] | rw [if_pos z0] | rw [if_pos z1] | rw [if_pos z20] | rw [if_neg ff] | rw [if_neg nt] | dsimp only)); rw [P_FRoot (md_lt _), if_pos (mp _)]; (repeat (first | rw [bnd_mk] | rw [if_pos rfl] | rw [if_pos z0] | rw [if_pos z1] | rw [if_pos z20] | rw [if_neg ff] | rw [if_neg nt] | dsimp only))
      (repeat (first | rw [bnd_mk] | rw [if_pos rfl] | rw [if_pos z0] | rw [if_pos z1] | rw [if_pos z20] | rw [if_neg ff] | rw [if_neg nt] | dsimp only)); rw [P_FSub (by decide) (p_q hm), if_pos ⟨pp_pos, hm⟩]; (repeat (first | rw [bnd_mk] | rw [if_pos rfl] | rw [if_pos z0] | rw [if_pos z1] | rw [if_pos z20] | rw [if_neg ff] | rw [if_neg nt] | dsimp only))
      have hr := root_sq hm
      obtain ⟨r1, r2, r3⟩ := root_ok (mp (m * m)) hr
      (repeat (first | rw [bnd_mk] | rw [if_pos rfl] | rw [if_pos z0] | rw [if_pos z1] | rw [if_pos z20] | rw [if_neg ff] | rw [if_neg nt] | dsimp only)); rw [hr]; (repeat (first | rw [bnd_mk] | rw [if_pos rfl] | rw [if_pos z0] | rw [if_pos z1] | rw [if_pos z20] | rw [if_neg ff] | rw [if_neg nt] | dsimp only))
      have e2 : (if b32 (rootN (m * m % pp)).1 = b32 m then (some false) else (some (!decide (b32 (rootN (m * m % pp)).1 = b32 ((0 + (pp - m)) % pp)))) : Option Bool) = some false := by
        rcases sq_eq r1 hm r3 with w | w
        · rw [if_pos (congrArg b32 w)]
        · by_cases w2 : b32 (rootN (m * m % pp)).1 = b32 m
          · rw [if_pos w2]
          · rw [if_neg w2, decide_eq_true ?_]; rfl
            rw [Nat.zero_add]
            congr 1
            by_cases m0 : m = 0
            · omega
            · rw [md_self (x := pp - m) (by omega)]; omega
      rw [e2]; (repeat (first | rw [bnd_mk] | rw [if_pos rfl] | rw [if_pos z0] | rw [if_pos z1] | rw [if_pos z20] | rw [if_neg ff] | rw [if_neg nt] | dsimp only))
      by_cases m0 : m = 0
      · rw [if_pos (congrArg b32 m0), P_awake16]; (repeat (first | rw [bnd_mk] | rw [if_pos rfl] | rw [if_pos z0] | rw [if_pos z1] | rw [if_pos z20] | rw [if_neg ff] | rw [if_neg nt] | dsimp only))
      · have a0 : a ≠ 0 := fun h => m0 (hz.2 (.inl h))
        have b0 : b ≠ 0 := fun h => m0 (hz.2 (.inr h))
        rw [if_neg (fun h => m0 ((b32_eq (p_q hm) (by decide)).1 h)), P_FInv ha, if_pos q, if_neg a0]; (repeat (first | rw [bnd_mk] | rw [if_pos rfl] | rw [if_pos z0] | rw [if_pos z1] | rw [if_pos z20] | rw [if_neg ff] | rw [if_neg nt] | dsimp only))
        rw [P_FInv hb, if_pos q1, if_neg b0]; (repeat (first | rw [bnd_mk] | rw [if_pos rfl] | rw [if_pos z0] | rw [if_pos z1] | rw [if_pos z20] | rw [if_neg ff] | rw [if_neg nt] | dsimp only))
        rw [P_FInv (p_q hm), if_pos hm, if_neg m0]; (repeat (first | rw [bnd_mk] | rw [if_pos rfl] | rw [if_pos z0] | rw [if_pos z1] | rw [if_pos z20] | rw [if_neg ff] | rw [if_neg nt] | dsimp only))
        rw [P_awake16]; (repeat (first | rw [bnd_mk] | rw [if_pos rfl] | rw [if_pos z0] | rw [if_pos z1] | rw [if_pos z20] | rw [if_neg ff] | rw [if_neg nt] | dsimp only)); have hml := L_mul (inv_lt a) (inv_lt b)
        unfold invN at hml hmi
        rw [hml]; (repeat (first | rw [bnd_mk] | rw [if_pos rfl] | rw [if_pos z0] | rw [if_pos z1] | rw [if_pos z20] | rw [if_neg ff] | rw [if_neg nt] | dsimp only))
        exact congrArg some (decide_eq_true (congrArg b32 hmi))
    · rw [decide_eq_false q1]; rfl
  · rw [decide_eq_false q]; rfl
end Go.Proofs.Ytmlmbolcblafmaa
