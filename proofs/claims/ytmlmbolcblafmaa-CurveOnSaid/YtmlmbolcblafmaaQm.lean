/- What layer 17's program computes: field elements, points, sums. Lemmas, no statement of the claim. -/
import Derived.Test.YtmlmbolcblafmaaQl
import Derived.Test.YtmlmbolcblafmaaQi
import Derived.Test.YtmlmbolcblafmaaTb
set_option linter.unusedVariables false
set_option maxRecDepth 10000
set_option maxHeartbeats 2000000
namespace Go.Proofs.Ytmlmbolcblafmaa
def bf (a : FF) : List Nat := b32 a.val
theorem bf_q (a : FF) : a.val < 115792089237316195423570985008687907853269984665640564039457584007913129639936 := p_q a.isLt
theorem bf_eq {a b : FF} : bf a = bf b ↔ a = b := by
  unfold bf
  rw [b32_eq (bf_q a) (bf_q b)]
  exact ⟨Fin.ext, congrArg _⟩
theorem bf_by (a : FF) : LB 256 (bf a) := b32_by _
theorem bf_len (a : FF) : (bf a).length = 32 := b32_len _
theorem bf0 : List.replicate 32 0 = bf 0 := by unfold bf; rw [ff0]; exact b32_0
theorem bf1 : (List.replicate 32 0).set 0 1 = bf 1 := by unfold bf; rw [ff1]; decide
theorem bf_of {n : Nat} (h : n < pp) : b32 n = bf ⟨n, h⟩ := rfl
theorem c_mul (a b : FF) : F_curve_mul (bf a) (bf b) = some (bf (a * b)) := by
  unfold F_curve_mul bf
  rw [P_FMul (bf_q a) (bf_q b), if_pos ⟨a.isLt, b.isLt⟩, bnd_mk, Fin.val_mul]
theorem c_add (a b : FF) : F_curve_add (bf a) (bf b) = some (bf (a + b)) := by
  unfold F_curve_add bf
  rw [P_FAdd (bf_q a) (bf_q b), if_pos ⟨a.isLt, b.isLt⟩, bnd_mk, Fin.val_add]
theorem c_sub (a b : FF) : F_curve_sub (bf a) (bf b) = some (bf (a - b)) := by
  unfold F_curve_sub bf
  rw [P_FSub (bf_q a) (bf_q b), if_pos ⟨a.isLt, b.isLt⟩, bnd_mk, Fin.val_sub, Nat.add_comm (pp - b.val)]
theorem iv0 : iv 0 = 0 := by decide +kernel
theorem c_inv (a : FF) : F_curve_inv (bf a) = some (bf (iv a)) := by
  by_cases q : a = 0
  · subst q
    rw [iv0]
    unfold F_curve_inv bf
    rw [P_FInv (bf_q 0), if_pos (0 : FF).isLt, if_pos ff0, bnd_mk, ff0]
  · unfold F_curve_inv bf
    rw [P_FInv (bf_q a), if_pos a.isLt, if_neg (ff_ne q), bnd_mk]
    rfl
theorem c_n0 : F_curve_num ((0 : Nat) : Int) = some (bf 0) := congrArg some (by decide +kernel)
theorem c_n1 : F_curve_num ((1 : Nat) : Int) = some (bf 1) := congrArg some (by decide +kernel)
theorem c_n4 : F_curve_num ((4 : Nat) : Int) = some (bf 4) := congrArg some (by decide +kernel)
theorem c_n5 : F_curve_num ((5 : Nat) : Int) = some (bf 5) := congrArg some (by decide +kernel)
theorem c_n65 : F_curve_num ((121665 : Nat) : Int) = some (bf 121665) := congrArg some (by decide +kernel)
theorem c_n66 : F_curve_num ((121666 : Nat) : Int) = some (bf 121666) := congrArg some (by decide +kernel)
theorem c_d : F_curve_d = some (bf cd) := by
  unfold F_curve_d
  rw [c_n0, bnd_mk, c_n65, bnd_mk, c_sub, bnd_mk, c_n66, bnd_mk, c_inv, bnd_mk, c_mul, bnd_mk]
  exact congrArg some (congrArg bf (by decide +kernel))
/-! ### The reference -/
theorem r_num (n : Nat) (h : n < 4294967296) : F_casemateref17_num ((n : Nat) : Int) = some (b32 n) := by
  unfold F_casemateref17_num
  have h1 : run (F_casemateref17_num_l1) (((n : Nat) : Int), 0, (List.replicate 32 0)) = some (((((List.replicate 32 0).set 0 (n % 256)).set 1 (n / 256 % 256)).set 2 (n / 256 / 256 % 256)).set 3 (n / 256 / 256 / 256 % 256)) := by
    have st : ∀ (m : Nat) (k : Nat) (l : List Nat), k < 4 → F_casemateref17_num_l1 (((m : Nat) : Int), k, l) = some (.inl (((m / 256 : Nat) : Int), k + 1, l.set k (m % 256))) := by
      intro m k l hk
      unfold F_casemateref17_num_l1
      dsimp only
      rw [if_pos hk, gd_pos (by omega), gd_pos (by omega), gd_pos (by omega), gd_pos (by omega), gd_pos (by omega), gd_pos (by omega)]
      congr 5
      omega
    refine run_next (st _ _ _ (by decide)) (run_next (st _ _ _ (by decide)) (run_next (st _ _ _ (by decide)) (run_next (st _ _ _ (by decide)) (run_exit ?_))))
    unfold F_casemateref17_num_l1
    dsimp only
    rw [if_neg (by decide)]
  rw [h1, bnd_mk]
  have e : ∀ k, 4 ≤ k → n / 256 ^ k % 256 = 0 := by
    intro k hk
    rw [Nat.div_eq_of_lt]
    exact Nat.lt_of_lt_of_le h (Nat.le_trans (by decide : 4294967296 ≤ 256 ^ 4) (Nat.pow_le_pow_right (by decide) hk))
  refine congrArg some (leb_of (by decide) (by simp) ?_ ?_)
  · exact ((((LB.rep (by decide) _).set (Nat.mod_lt _ (by decide)) _).set (Nat.mod_lt _ (by decide)) _).set (Nat.mod_lt _ (by decide)) _).set (Nat.mod_lt _ (by decide)) _
  · simp only [List.replicate, List.set_cons_zero, List.set_cons_succ, nv]
    omega
theorem r_n65 : F_casemateref17_num ((121665 : Nat) : Int) = some (bf 121665) := (r_num 121665 (by decide)).trans (congrArg some (by decide +kernel))
theorem r_n66 : F_casemateref17_num ((121666 : Nat) : Int) = some (bf 121666) := (r_num 121666 (by decide)).trans (congrArg some (by decide +kernel))
theorem r_mul (a b : FF) : F_casemateref16_Mul (bf a) (bf b) = some (bf (a * b)) := by
  unfold bf; rw [R_Mul (bf_q a) (bf_q b), Fin.val_mul]
theorem r_add (a b : FF) : F_casemateref16_Add (bf a) (bf b) = some (bf (a + b)) := by
  unfold bf; rw [R_Add (bf_q a) (bf_q b), Fin.val_add]
theorem r_sub (a b : FF) : F_casemateref16_Sub (bf a) (bf b) = some (bf (a - b)) := by
  unfold bf; rw [R_Sub (bf_q a) (bf_q b), Fin.val_sub, Nat.add_comm (pp - b.val)]
theorem r_is (a : FF) : F_casemateref16_Is (bf a) = some true := by
  unfold bf; rw [R_Is (bf_q a), decide_eq_true a.isLt]
theorem f_is (a : FF) : F_field_Is (bf a) = some true := by
  unfold bf; rw [P_FIs (bf_q a), decide_eq_true a.isLt]
/-! ### Points -/
def bpt (P : PP) : List Nat × List Nat := (bf P.1, bf P.2)
theorem bpt_eq {P Q : PP} : (bf P.1 = bf Q.1 ∧ bf P.2 = bf Q.2) ↔ P = Q := by
  rw [bf_eq, bf_eq]
  exact ⟨fun h => Prod.ext h.1 h.2, fun h => by rw [h]; exact ⟨rfl, rfl⟩⟩
instance (P : PP) : Decidable (onP P) := by unfold onP onC; exact inferInstance
theorem c_On (P : PP) : F_curve_On (bpt P) = some (decide (onP P)) := by
  unfold F_curve_On bpt
  simp only [f_is, bnd_mk, c_mul, c_sub, c_n1, c_d, c_add, ↓reduceIte, bf_eq]
  congr 1
  apply decide_eq_decide.2
  unfold onP onC
  rw [show P.1 * P.1 * (P.2 * P.2) = (P.1 * P.1) * (P.2 * P.2) from rfl, show cd * (P.1 * P.1) * (P.2 * P.2) = cd * ((P.1 * P.1) * (P.2 * P.2)) by grind -lia -order -linarith -mbtc (splits := 0) (ematch := 0)]
theorem n66_ne : (121666 : FF) ≠ 0 := by decide +kernel
theorem r_On (P : PP) : F_casemateref17_On (bpt P) = some (decide (onP P)) := by
  unfold F_casemateref17_On bpt
  simp only [r_is, bnd_mk, r_mul, r_sub, r_n65, r_n66, ↓reduceIte, bf_eq]
  congr 1
  apply decide_eq_decide.2
  unfold onP onC
  have e := cd_eq
  constructor
  · intro h
    apply ff_cancel n66_ne
    generalize cd = d at *
    grind -lia -order -linarith -mbtc (splits := 0) (ematch := 0)
  · intro h
    rw [h]
    generalize cd = d at *
    grind -lia -order -linarith -mbtc (splits := 0) (ematch := 0)
instance (P Q R : PP) : Decidable (isSum P Q R) := by unfold isSum; exact inferInstance
theorem r_IsSum (P Q R : PP) : F_casemateref17_IsSum (bpt P) (bpt Q) (bpt R) = some (decide (isSum P Q R)) := by
  unfold F_casemateref17_IsSum bpt
  simp only [r_is, bnd_mk, r_mul, r_sub, r_add, r_n65, r_n66, ↓reduceIte, bf_eq]
  have e := cd_eq
  have k1 : (R.1 * (121666 - 121665 * (P.1 * Q.2 * (P.2 * Q.1))) = 121666 * (P.1 * Q.2 + P.2 * Q.1)) ↔ R.1 * (1 + pD P Q) = P.1 * Q.2 + P.2 * Q.1 := by
    unfold pD
    constructor
    · intro h
      apply ff_cancel n66_ne
      generalize cd = d at *
      grind -lia -order -linarith -mbtc (splits := 0) (ematch := 0)
    · intro h
      rw [← h]
      generalize cd = d at *
      grind -lia -order -linarith -mbtc (splits := 0) (ematch := 0)
  have k2 : (R.2 * (121666 + 121665 * (P.1 * Q.2 * (P.2 * Q.1))) = 121666 * (P.2 * Q.2 + P.1 * Q.1)) ↔ R.2 * (1 - pD P Q) = P.2 * Q.2 + P.1 * Q.1 := by
    unfold pD
    constructor
    · intro h
      apply ff_cancel n66_ne
      generalize cd = d at *
      grind -lia -order -linarith -mbtc (splits := 0) (ematch := 0)
    · intro h
      rw [← h]
      generalize cd = d at *
      grind -lia -order -linarith -mbtc (splits := 0) (ematch := 0)
  simp only [k1, k2]
  unfold isSum
  by_cases h1 : R.1 * (1 + pD P Q) = P.1 * Q.2 + P.2 * Q.1
  · rw [if_pos h1]
    exact congrArg some (decide_eq_decide.2 ⟨fun h => ⟨h1, h⟩, fun h => h.2⟩)
  · rw [if_neg h1]
    exact congrArg some (decide_eq_false (fun h => h1 h.1)).symm
/-- any two rows of 32 bytes: a point of elements, or none -/
theorem pt_cases {x : List Nat × List Nat} (h1 : LB 256 x.1 ∧ x.1.length = 32) (h2 : LB 256 x.2 ∧ x.2.length = 32) : (∃ P, x = bpt P) ∨ (F_curve_On x = some false ∧ F_casemateref17_On x = some false) := by
  obtain ⟨x, y⟩ := x
  obtain ⟨a, ha, rfl⟩ := ex_b32 h1.1 h1.2
  obtain ⟨b, hb, rfl⟩ := ex_b32 h2.1 h2.2
  by_cases qa : a < pp
  · by_cases qb : b < pp
    · exact .inl ⟨(⟨a, qa⟩, ⟨b, qb⟩), rfl⟩
    · right
      unfold F_curve_On F_casemateref17_On
      dsimp only
      rw [P_FIs ha, bnd_mk, decide_eq_true qa, if_pos rfl, P_FIs hb, bnd_mk, decide_eq_false qb, if_neg (by decide), R_Is ha, bnd_mk, decide_eq_true qa, if_pos rfl, R_Is hb, bnd_mk, decide_eq_false qb, if_neg (by decide)]
      exact ⟨rfl, rfl⟩
  · right
    unfold F_curve_On F_casemateref17_On
    dsimp only
    rw [P_FIs ha, bnd_mk, decide_eq_false qa, if_neg (by decide), R_Is ha, bnd_mk, decide_eq_false qa, if_neg (by decide)]
    exact ⟨rfl, rfl⟩
theorem c_on1 {x : List Nat × List Nat} {b : Bool} (h : F_curve_On x = some b) : F_curve_on [x] = some (if b = true then ((0 : Nat) : Int) else ((170 : Nat) : Int)) := by
  unfold F_curve_on
  have s0 : F_curve_on_l1 [x] 0 = if b = true then some (.inl 1) else some (.inr (.inr ((170 : Nat) : Int))) := by
    unfold F_curve_on_l1
    rw [if_pos (by simp), gd_pos (by simp), show [x].getD 0 ([], []) = x from rfl, h, bnd_mk]
    cases b
    · rw [if_neg (by decide), if_neg (by decide)]
    · rw [if_pos rfl, if_pos rfl, gd_pos (by decide)]
  have s1 : F_curve_on_l1 [x] 1 = some (.inr (.inl ())) := by
    unfold F_curve_on_l1
    rw [if_neg (by simp)]
  cases b
  · rw [if_neg (by decide)] at s0
    rw [run_exit s0, bnd_mk, sel_inr, if_neg (by decide)]
  · rw [if_pos rfl] at s0
    rw [run_next s0 (run_exit s1), bnd_mk, sel_inl, if_pos rfl]
theorem c_on2 {x y : List Nat × List Nat} {a b : Bool} (h : F_curve_On x = some a) (g : F_curve_On y = some b) : F_curve_on [x, y] = some (if (a && b) = true then ((0 : Nat) : Int) else ((170 : Nat) : Int)) := by
  unfold F_curve_on
  have s0 : F_curve_on_l1 [x, y] 0 = if a = true then some (.inl 1) else some (.inr (.inr ((170 : Nat) : Int))) := by
    unfold F_curve_on_l1
    rw [if_pos (by simp), gd_pos (by simp), show [x, y].getD 0 ([], []) = x from rfl, h, bnd_mk]
    cases a
    · rw [if_neg (by decide), if_neg (by decide)]
    · rw [if_pos rfl, if_pos rfl, gd_pos (by decide)]
  have s1 : F_curve_on_l1 [x, y] 1 = if b = true then some (.inl 2) else some (.inr (.inr ((170 : Nat) : Int))) := by
    unfold F_curve_on_l1
    rw [if_pos (by simp), gd_pos (by simp), show [x, y].getD 1 ([], []) = y from rfl, g, bnd_mk]
    cases b
    · rw [if_neg (by decide), if_neg (by decide)]
    · rw [if_pos rfl, if_pos rfl, gd_pos (by decide)]
  have s2 : F_curve_on_l1 [x, y] 2 = some (.inr (.inl ())) := by
    unfold F_curve_on_l1
    rw [if_neg (by simp)]
  cases a
  · rw [if_neg (by decide)] at s0
    rw [run_exit s0, bnd_mk, sel_inr, Bool.false_and, if_neg (by decide)]
  · rw [if_pos rfl] at s0
    cases b
    · rw [if_neg (by decide)] at s1
      rw [run_next s0 (run_exit s1), bnd_mk, sel_inr, Bool.and_false, if_neg (by decide)]
    · rw [if_pos rfl] at s1
      rw [run_next s0 (run_next s1 (run_exit s2)), bnd_mk, sel_inl, Bool.and_true, if_pos rfl]
/-! ### Places -/
theorem c_plus (x1 y1 z1 t1 x2 y2 z2 t2 : FF) : F_curve_place_plus (bf x1, bf y1, bf z1, bf t1) (bf x2, bf y2, bf z2, bf t2) (bf (cd + cd)) = some (bf (plus (x1, y1, z1, t1) (x2, y2, z2, t2)).1, bf (plus (x1, y1, z1, t1) (x2, y2, z2, t2)).2.1, bf (plus (x1, y1, z1, t1) (x2, y2, z2, t2)).2.2.1, bf (plus (x1, y1, z1, t1) (x2, y2, z2, t2)).2.2.2) := by
  unfold F_curve_place_plus plus
  simp only [bnd_mk, c_mul, c_add, c_sub]
def bl (p : PL) : List Nat × List Nat × List Nat × List Nat := (bf p.1, bf p.2.1, bf p.2.2.1, bf p.2.2.2)
theorem c_padd {P Q : PP} (h1 : onP P) (h2 : onP Q) {z w : FF} (hz : z ≠ 0) (hw : w ≠ 0) : ∃ k, k ≠ 0 ∧ F_curve_place_plus (bl (rep P z)) (bl (rep Q w)) (bf (cd + cd)) = some (bl (rep (padd P Q) k)) := by
  obtain ⟨k, hk, e⟩ := rep_plus h1 h2 hz hw
  refine ⟨k, hk, ?_⟩
  rw [← e]
  exact c_plus ..
theorem c_plain (P : PP) {z : FF} (hz : z ≠ 0) : F_curve_place_plain (bl (rep P z)) = some (bpt P) := by
  have e := rep_plain P hz
  unfold F_curve_place_plain bl bpt
  simp only [bnd_mk, c_mul, c_inv]
  exact congrArg (fun Q : PP => some (bf Q.1, bf Q.2)) e
theorem c_of (P : PP) : F_curve_of (bpt P) = some (bl (rep P 1)) := by
  unfold F_curve_of bl rep bpt
  simp only [bnd_mk, c_mul, c_n1, Fin.mul_one]
theorem one_ne : (1 : FF) ≠ 0 := by decide +kernel
theorem c_Zero : F_curve_Zero = some (bpt p0) := by
  unfold F_curve_Zero bpt p0
  rw [c_n1, bnd_mk, bf0]
theorem none_pt : ((List.replicate 32 0 : List Nat), (List.replicate 32 0 : List Nat)) = (bf 0, bf 0) := by rw [bf0]
theorem c_Add {P Q : PP} (h1 : onP P) (h2 : onP Q) : F_curve_Add (bpt P) (bpt Q) = some (bpt (padd P Q), ((0 : Nat) : Int)) := by
  unfold F_curve_Add
  rw [c_on2 (c_On P) (c_On Q), bnd_mk, decide_eq_true h1, decide_eq_true h2, if_pos (show (true && true) = true from rfl), if_pos rfl, c_of, bnd_mk]
  obtain ⟨k, hk, e⟩ := c_padd h1 h2 one_ne one_ne
  show bnd (F_curve_of (bpt Q)) _ = _
  rw [c_of, bnd_mk]
  show bnd F_curve_d _ = _
  simp only [c_d, bnd_mk, c_add]
  show bnd (F_curve_place_plus (bl (rep P 1)) (bl (rep Q 1)) (bf (cd + cd))) _ = _
  rw [e, bnd_mk]
  show bnd (F_curve_place_plain (bl (rep (padd P Q) k))) _ = _
  rw [c_plain _ hk, bnd_mk]
theorem c_Add_no {x y : List Nat × List Nat} {a b : Bool} (h1 : F_curve_On x = some a) (h2 : F_curve_On y = some b) (h : (a && b) = false) : F_curve_Add x y = some ((bf 0, bf 0), ((170 : Nat) : Int)) := by
  unfold F_curve_Add
  rw [c_on2 h1 h2, bnd_mk, h, if_neg (by decide), if_neg (by decide), none_pt]
theorem c_Neg {P : PP} (h1 : onP P) : F_curve_Neg (bpt P) = some (bpt (pneg P), ((0 : Nat) : Int)) := by
  unfold F_curve_Neg
  rw [c_on1 (c_On P), bnd_mk, decide_eq_true h1, if_pos (show true = true from rfl), if_pos rfl, c_n0, bnd_mk]
  unfold bpt pneg
  rw [c_sub, bnd_mk, show (0 : FF) - P.1 = - P.1 by grind -lia -order -linarith -mbtc (splits := 0) (ematch := 0)]
theorem c_Neg_no {x : List Nat × List Nat} (h1 : F_curve_On x = some false) : F_curve_Neg x = some ((bf 0, bf 0), ((170 : Nat) : Int)) := by
  unfold F_curve_Neg
  rw [c_on1 h1, bnd_mk, if_neg (by decide), if_neg (by decide), none_pt]
end Go.Proofs.Ytmlmbolcblafmaa
