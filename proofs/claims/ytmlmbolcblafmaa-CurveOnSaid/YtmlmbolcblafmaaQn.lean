/- What layer 17's program computes: scaling, packing, the base. Lemmas, no statement of the claim. -/
import Derived.Test.YtmlmbolcblafmaaQm
set_option linter.unusedVariables false
set_option maxRecDepth 10000
set_option maxHeartbeats 2000000
namespace Go.Proofs.Ytmlmbolcblafmaa
theorem by_get {l : List Nat} (h : LB 256 l) {k : Nat} (hk : k < l.length) : l.getD k 0 = nv 256 l / 256 ^ k % 256 := by
  have e := leb_nv (b := 256) (by decide) (k := l.length) rfl h
  have e2 := leb_get (b := 256) l.length (nv 256 l) k hk
  rw [e] at e2
  exact e2
theorem by_bit {l : List Nat} (h : LB 256 l) {i : Nat} (hi : i < 8 * l.length) : (l.getD (i / 8) 0 / 2 ^ (i % 8)) &&& 1 = nv 256 l / 2 ^ i % 2 := by
  rw [by_get h (by omega), Nat.and_one_is_mod]
  have e : (2 : Nat) ^ i = 256 ^ (i / 8) * 2 ^ (i % 8) := by
    rw [show (256 : Nat) = 2 ^ 8 from rfl, ← Nat.pow_mul, ← Nat.pow_add]
    congr 1
    omega
  rw [e, ← Nat.div_div_eq_div_mul]
  generalize nv 256 l / 256 ^ (i / 8) = m
  have hr : i % 8 < 8 := Nat.mod_lt _ (by decide)
  generalize i % 8 = r at hr
  match r, hr with
  | 0, _ => simp only [Nat.pow_zero]; omega
  | 1, _ => simp only [Nat.reducePow]; omega
  | 2, _ => simp only [Nat.reducePow]; omega
  | 3, _ => simp only [Nat.reducePow]; omega
  | 4, _ => simp only [Nat.reducePow]; omega
  | 5, _ => simp only [Nat.reducePow]; omega
  | 6, _ => simp only [Nat.reducePow]; omega
  | 7, _ => simp only [Nat.reducePow]; omega
theorem smul_dbl {P : PP} (h : onP P) (m : Nat) : smul (2 * m) P = padd (smul m P) (smul m P) := by rw [Nat.two_mul, smul_add _ _ h]
theorem smul_dbl1 {P : PP} (h : onP P) (m : Nat) : smul (2 * m + 1) P = padd (padd (smul m P) (smul m P)) P := by rw [smul_add _ _ h, smul_dbl h, smul_1 h]
theorem div_bit (n j : Nat) : n / 2 ^ j = 2 * (n / 2 ^ (j + 1)) + n / 2 ^ j % 2 := by
  rw [Nat.pow_succ, ← Nat.div_div_eq_div_mul]; omega
theorem c_Scale {l : List Nat} (hb : LB 256 l) (hl : l.length ≤ 1000000000) {P : PP} (h1 : onP P) : F_curve_Scale l (bpt P) = some (bpt (smul (nv 256 l) P), ((0 : Nat) : Int)) := by
  have hloop : ∃ x, run (F_curve_Scale_l1 l (bf (cd + cd)) (bl (rep P 1)).1 (bl (rep P 1)).2.1 (bl (rep P 1)).2.2.1 (bl (rep P 1)).2.2.2) (((((8 * l.length) : Nat) : Int) - ((1 : Nat) : Int)), bl (rep p0 1)) = some x ∧ ∃ z, z ≠ 0 ∧ x = bl (rep (smul (nv 256 l) P) z) := by
    refine run_inv (fun s => ∃ j z, j ≤ 8 * l.length ∧ z ≠ 0 ∧ s = (((j : Int) - ((1 : Nat) : Int)), bl (rep (smul (nv 256 l / 2 ^ j) P) z))) (fun s => (s.1 + 1).toNat) (fun x => ∃ z, z ≠ 0 ∧ x = bl (rep (smul (nv 256 l) P) z)) ?_ _ ⟨8 * l.length, 1, Nat.le_refl _, one_ne, ?_⟩
    · rintro s ⟨j, z, hj, hz, rfl⟩
      cases j with
      | zero =>
        right
        refine ⟨bl (rep (smul (nv 256 l) P) z), ?_, z, hz, rfl⟩
        rw [Nat.pow_zero, Nat.div_one]
        unfold F_curve_Scale_l1 bl
        dsimp only
        rw [if_neg (by omega)]
      | succ j =>
        left
        have hon := smul_on (nv 256 l / 2 ^ (j + 1)) h1
        obtain ⟨k, hk, e⟩ := c_padd hon hon hz hz
        obtain ⟨k', hk', e'⟩ := c_padd (padd_on hon hon) h1 hk one_ne
        have ix : (((j + 1 : Nat) : Int) - ((1 : Nat) : Int)) = (j : Int) := by omega
        have ix1 : Int.toNat ((j : Int) / ((8 : Nat) : Int)) = j / 8 := by omega
        have ix2 : Int.toNat ((j : Int) % ((8 : Nat) : Int)) = j % 8 := by omega
        have hbit := by_bit hb (i := j) (by omega)
        have hdv := div_bit (nv 256 l) j
        by_cases q : nv 256 l / 2 ^ j % 2 = 1
        · refine ⟨(((j : Nat) : Int) - ((1 : Nat) : Int), bl (rep (smul (nv 256 l / 2 ^ j) P) k')), ?_, ⟨j, k', by omega, hk', rfl⟩, ?_⟩
          · rw [hdv, q, smul_dbl1 h1]
            rw [ix]
            unfold F_curve_Scale_l1
            show (if ((0 : Nat) : Int) ≤ (j : Int) then bnd (F_curve_place_plus (bl (rep (smul (nv 256 l / 2 ^ (j + 1)) P) z)) (bl (rep (smul (nv 256 l / 2 ^ (j + 1)) P) z)) (bf (cd + cd))) _ else _) = _
            rw [if_pos (by omega), e, bnd_mk]
            unfold bl at e' ⊢
            dsimp only at e' ⊢
            rw [gd_pos (by omega), gd_pos (by omega), gd_pos (by omega), gd_pos (by omega), gd_pos (by omega), gd_pos (by omega), gd_pos (by omega), ix1, ix2, hbit, if_pos q, e', bnd_mk]
            dsimp only
            rw [gd_pos (by omega), gd_pos (by omega)]
          · dsimp only; omega
        · have q0 : nv 256 l / 2 ^ j % 2 = 0 := by omega
          refine ⟨(((j : Nat) : Int) - ((1 : Nat) : Int), bl (rep (smul (nv 256 l / 2 ^ j) P) k)), ?_, ⟨j, k, by omega, hk, rfl⟩, ?_⟩
          · rw [q0, Nat.add_zero] at hdv
            rw [hdv, smul_dbl h1]
            rw [ix]
            unfold F_curve_Scale_l1
            show (if ((0 : Nat) : Int) ≤ (j : Int) then bnd (F_curve_place_plus (bl (rep (smul (nv 256 l / 2 ^ (j + 1)) P) z)) (bl (rep (smul (nv 256 l / 2 ^ (j + 1)) P) z)) (bf (cd + cd))) _ else _) = _
            rw [if_pos (by omega), e, bnd_mk]
            unfold bl at e' ⊢
            dsimp only at e' ⊢
            rw [gd_pos (by omega), gd_pos (by omega), gd_pos (by omega), gd_pos (by omega), gd_pos (by omega), gd_pos (by omega), gd_pos (by omega), ix1, ix2, hbit, if_neg q]
            rw [gd_pos (by omega), gd_pos (by omega)]
          · dsimp only; omega
    · have : nv 256 l / 2 ^ (8 * l.length) = 0 := by
        apply Nat.div_eq_of_lt
        rw [Nat.pow_mul]
        exact nv_lt l hb
      rw [this]
      rfl
  obtain ⟨x, hx, z, hz, rfl⟩ := hloop
  unfold F_curve_Scale
  rw [c_on1 (c_On P), bnd_mk, decide_eq_true h1, if_pos (show true = true from rfl), if_pos rfl, c_d, bnd_mk, bnd_mk, c_add, bnd_mk, c_Zero, bnd_mk]
  show bnd (F_curve_of (bpt p0)) _ = _
  rw [c_of, bnd_mk]
  show bnd (F_curve_of (bpt P)) _ = _
  rw [c_of, bnd_mk]
  show bnd (gd _ (run (F_curve_Scale_l1 l (bf (cd + cd)) (bl (rep P 1)).1 (bl (rep P 1)).2.1 (bl (rep P 1)).2.2.1 (bl (rep P 1)).2.2.2) (((((8 * l.length) : Nat) : Int) - ((1 : Nat) : Int)), bl (rep p0 1)))) _ = _
  rw [gd_pos (by omega), hx, bnd_mk]
  show bnd (F_curve_place_plain (bl (rep (smul (nv 256 l) P) z))) _ = _
  rw [c_plain _ hz, bnd_mk]
theorem c_Scale_no {l : List Nat} {x : List Nat × List Nat} (h1 : F_curve_On x = some false) : F_curve_Scale l x = some ((bf 0, bf 0), ((170 : Nat) : Int)) := by
  unfold F_curve_Scale
  rw [c_on1 h1, bnd_mk, if_neg (by decide), if_neg (by decide), none_pt]
/-! ### Packing -/
def packN (P : PP) : Nat := P.2.val + 2 ^ 255 * (P.1.val % 2)
theorem pp_255 : pp < 2 ^ 255 := by decide +kernel
theorem packN_lt (P : PP) : packN P < 115792089237316195423570985008687907853269984665640564039457584007913129639936 := by
  have h1 := P.2.isLt
  have h2 := pp_255
  have h3 : P.1.val % 2 < 2 := Nat.mod_lt _ (by decide)
  unfold packN
  simp only [Nat.reducePow] at *
  omega
theorem q31 : (256 : Nat) ^ 31 = 452312848583266388373324160190187140051835877600158453279131187530910662656 := by decide +kernel
theorem b32_31 (n : Nat) : (b32 n).getD 31 0 = n / 452312848583266388373324160190187140051835877600158453279131187530910662656 % 256 := by
  rw [leb_get 32 n 31 (by decide), q31]
/-- the last byte set -/
theorem b32_set31 {n v : Nat} (hn : n < 115792089237316195423570985008687907853269984665640564039457584007913129639936) (hv : v < 256) : (b32 n).set 31 v = b32 (n % 452312848583266388373324160190187140051835877600158453279131187530910662656 + 452312848583266388373324160190187140051835877600158453279131187530910662656 * v) := by
  refine leb_of (by decide) (by simp [b32_len]) ((b32_by n).set hv 31) ?_
  have h := nv_set 256 (b32 n) 31 v (by rw [b32_len]; decide)
  rw [nvb hn, b32_31, q31] at h
  omega
theorem byte31 {n : Nat} (h : n < 115792089237316195423570985008687907853269984665640564039457584007913129639936) : n / 452312848583266388373324160190187140051835877600158453279131187530910662656 % 256 = n / 452312848583266388373324160190187140051835877600158453279131187530910662656 := by omega
theorem or128 {a b : Nat} (ha : a < 128) (hb : b < 2) : a ||| (b * 2 ^ 7) % 256 = a + 128 * b := by
  have e : (b * 2 ^ 7) % 256 = 2 ^ 7 * b := by simp only [Nat.reducePow]; omega
  rw [e, Nat.or_comm, ← Nat.two_pow_add_eq_or_of_lt (i := 7) ha b]
  simp only [Nat.reducePow]; omega
theorem y31 (y : FF) : y.val / 452312848583266388373324160190187140051835877600158453279131187530910662656 < 128 := by
  have h1 := y.isLt
  have h2 := pp_255
  simp only [Nat.reducePow] at h2
  omega
theorem c_Pack {P : PP} (h1 : onP P) : F_curve_Pack (bpt P) = some (b32 (packN P), ((0 : Nat) : Int)) := by
  unfold F_curve_Pack
  rw [c_on1 (c_On P), bnd_mk, decide_eq_true h1, if_pos (show true = true from rfl), if_pos rfl]
  unfold bpt bf
  dsimp only
  have hy := y31 P.2
  rw [leb_get 32 P.1.val 0 (by decide), b32_31, byte31 (bf_q P.2), Nat.pow_zero, Nat.div_one, Nat.and_one_is_mod, Nat.mod_mod_of_dvd _ (by decide), or128 hy (Nat.mod_lt _ (by decide))]
  have hm : P.1.val % 2 < 2 := Nat.mod_lt _ (by decide)
  rw [b32_set31 (bf_q P.2) (by omega)]
  congr 3
  unfold packN
  simp only [Nat.reducePow]
  omega
theorem r_Pack (P : PP) : F_casemateref17_Pack (bpt P) = some (b32 (packN P)) := by
  unfold F_casemateref17_Pack bpt bf
  dsimp only
  have hy := y31 P.2
  rw [leb_get 32 P.1.val 0 (by decide), b32_31, byte31 (bf_q P.2), Nat.pow_zero, Nat.div_one, Nat.mod_mod_of_dvd _ (by decide)]
  by_cases q : P.1.val % 2 = 1
  · rw [if_pos q, b32_set31 (bf_q P.2) (by omega)]
    congr 2
    unfold packN
    rw [q]
    simp only [Nat.reducePow]
    omega
  · rw [if_neg q]
    congr 2
    unfold packN
    omega
theorem c_Pack_no {x : List Nat × List Nat} (h1 : F_curve_On x = some false) : F_curve_Pack x = some (bf 0, ((170 : Nat) : Int)) := by
  unfold F_curve_Pack
  rw [c_on1 h1, bnd_mk, if_neg (by decide), if_neg (by decide), bf0]
/-! ### Unpacking -/
def xx (y : FF) : FF := (y * y - 1) * iv (cd * (y * y) + 1)
theorem den_ne (y : FF) : cd * (y * y) + 1 ≠ 0 := by
  intro h
  have e : ci * ci = cd * (y * y) := by rw [ci_sq]; grind -lia -order -linarith -mbtc (splits := 0) (ematch := 0)
  have hy := sqd e
  subst hy
  revert h
  decide +kernel
theorem xx_on (x y : FF) : onP (x, y) ↔ x * x = xx y := by
  have e := ff_inv (den_ne y)
  have hd := den_ne y
  unfold xx onP onC
  dsimp only
  constructor
  · intro h
    apply ff_cancel hd
    generalize iv (cd * (y * y) + 1) = i at *
    grind -lia -order -linarith -mbtc (splits := 0) (ematch := 0)
  · intro h
    generalize iv (cd * (y * y) + 1) = i at *
    grind -lia -order -linarith -mbtc (splits := 0) (ematch := 0)
def rt (a : FF) : Option FF := if (rootN a.val).2 = true then some (Fin.ofNat pp (rootN a.val).1) else none
theorem rt_some {a r : FF} (h : rt a = some r) : (rootN a.val).2 = true ∧ (rootN a.val).1 = r.val ∧ r.val % 2 = 0 ∧ r * r = a := by
  unfold rt at h
  by_cases q : (rootN a.val).2 = true
  · rw [if_pos q] at h
    obtain ⟨h1, h2, h3⟩ := root_ok a.isLt q
    have e : r.val = (rootN a.val).1 := by
      cases h
      rw [Fin.val_ofNat, Nat.mod_eq_of_lt h1]
    refine ⟨q, e.symm, by rw [e]; exact h2, Fin.ext ?_⟩
    rw [Fin.val_mul, e, h3]
  · rw [if_neg q] at h; cases h
theorem rt_none {a : FF} (h : rt a = none) : (rootN a.val).2 = false := by
  unfold rt at h
  by_cases q : (rootN a.val).2 = true
  · rw [if_pos q] at h; cases h
  · exact Bool.eq_false_iff.2 q
theorem rt_sq (x : FF) : ∃ r, rt (x * x) = some r ∧ (x.val % 2 = 0 → r = x) ∧ (x.val % 2 = 1 → r ≠ 0 ∧ - r = x) := by
  have h := root_sq x.isLt
  rw [← Fin.val_mul] at h
  refine ⟨Fin.ofNat pp (rootN (x * x).val).1, if_pos h, ?_⟩
  obtain ⟨q, e1, e2, e3⟩ := rt_some (a := x * x) (r := Fin.ofNat pp (rootN (x * x).val).1) (if_pos h)
  generalize Fin.ofNat pp (rootN (x * x).val).1 = r at *
  have e4 : r.val * r.val % pp = x.val * x.val % pp := by rw [← Fin.val_mul, ← Fin.val_mul, e3]
  have ho := pp_odd
  rcases sq_eq r.isLt x.isLt e4 with g | g
  · refine ⟨fun _ => Fin.ext g, fun hx => ?_⟩
    omega
  · refine ⟨fun hx => by omega, fun hx => ?_⟩
    have hr : r ≠ 0 := fun e => by
      subst e
      rw [ff0] at g
      have := x.isLt
      omega
    refine ⟨hr, Fin.ext ?_⟩
    rw [Fin.val_neg, if_neg hr]
    omega
/-- what 32 bytes are told as -/
def unp (n : Nat) : Option PP :=
  if h : n % 2 ^ 255 < pp then
    match rt (xx ⟨n % 2 ^ 255, h⟩) with
    | some r => if n / 2 ^ 255 = 1 then (if r = 0 then none else some (- r, ⟨n % 2 ^ 255, h⟩)) else some (r, ⟨n % 2 ^ 255, h⟩)
    | none => none
  else none
theorem and127 {a : Nat} (h : a < 256) : a &&& 127 = a % 128 := Nat.and_two_pow_sub_one_eq_mod a 7
theorem low255 {n : Nat} (hn : n < 115792089237316195423570985008687907853269984665640564039457584007913129639936) : (b32 n).set 31 ((b32 n).getD 31 0 &&& 127) = b32 (n % 2 ^ 255) := by
  rw [b32_31, byte31 hn, and127 (by omega), b32_set31 hn (by omega)]
  congr 1
  simp only [Nat.reducePow]
  omega
theorem top255 {n : Nat} (hn : n < 115792089237316195423570985008687907853269984665640564039457584007913129639936) : (b32 n).getD 31 0 / 2 ^ 7 = n / 2 ^ 255 := by
  rw [b32_31, byte31 hn]
  simp only [Nat.reducePow]
  omega
theorem c_Unpack {n : Nat} (hn : n < 115792089237316195423570985008687907853269984665640564039457584007913129639936) : F_curve_Unpack (b32 n) = some (match unp n with
    | some P => (bpt P, ((0 : Nat) : Int))
    | none => ((bf 0, bf 0), ((170 : Nat) : Int))) := by
  unfold F_curve_Unpack unp
  simp only [low255 hn, top255 hn]
  have hlo : n % 2 ^ 255 < 115792089237316195423570985008687907853269984665640564039457584007913129639936 := Nat.lt_of_le_of_lt (Nat.mod_le _ _) hn
  rw [P_FIs hlo, bnd_mk]
  by_cases q : n % 2 ^ 255 < pp
  · rw [decide_eq_true q, if_pos rfl, dif_pos q, bf_of q]
    generalize (⟨n % 2 ^ 255, q⟩ : FF) = y
    generalize n / 2 ^ 255 = o
    rw [c_mul, bnd_mk, c_n1, bnd_mk, c_sub, bnd_mk, c_d, bnd_mk, c_mul, bnd_mk, bnd_mk, c_add, bnd_mk, c_inv, bnd_mk, c_mul, bnd_mk]
    rw [show (y * y - 1) * iv (cd * (y * y) + 1) = xx y from rfl]
    have hR : F_field_Root (bf (xx y)) = some (b32 (rootN (xx y).val).1, (rootN (xx y).val).2, 0) := by
      unfold bf
      rw [P_FRoot (bf_q _), if_pos (xx y).isLt]
    rw [hR, bnd_mk]
    dsimp only
    cases hr : rt (xx y) with
    | none =>
      dsimp only
      rw [rt_none hr, if_neg (by decide), bnd_mk, sel_inr, none_pt]
    | some r =>
      obtain ⟨q1, e1, e2, e3⟩ := rt_some hr
      rw [q1, if_pos rfl, e1, show b32 r.val = bf r from rfl]
      dsimp only
      by_cases qo : o = 1
      · rw [if_pos qo, if_pos qo, if_pos qo, c_n0, bnd_mk, bnd_mk]
        by_cases q0 : r = 0
        · rw [if_pos q0, if_pos (bf_eq.2 q0), bnd_mk, sel_inr, none_pt]
        · rw [if_neg q0, if_neg (fun h => q0 (bf_eq.1 h)), bnd_mk, sel_inl, c_sub, bnd_mk, bnd_mk, show (0 : FF) - r = - r by grind -lia -order -linarith -mbtc (splits := 0) (ematch := 0)]
          rfl
      · rw [if_neg qo, if_neg qo, if_neg qo, bnd_mk, sel_inl, bnd_mk]
        rfl
  · rw [decide_eq_false q, if_neg (by decide), dif_neg q, none_pt]
theorem unp_pack {P : PP} (h : onP P) : unp (packN P) = some P := by
  obtain ⟨x, y⟩ := P
  have h2 := pp_255
  have hy := y.isLt
  have hx2 : x.val % 2 < 2 := Nat.mod_lt _ (by decide)
  have e1 : packN (x, y) % 2 ^ 255 = y.val := by
    unfold packN
    dsimp only
    rw [Nat.add_mul_mod_self_left, Nat.mod_eq_of_lt (by omega)]
  have e2 : packN (x, y) / 2 ^ 255 = x.val % 2 := by
    unfold packN
    dsimp only
    rw [Nat.add_mul_div_left _ _ (by decide), Nat.div_eq_of_lt (by omega), Nat.zero_add]
  have hxx := (xx_on x y).1 h
  obtain ⟨r, hr, g1, g2⟩ := rt_sq x
  unfold unp
  rw [dif_pos (by rw [e1]; exact hy)]
  have e3 : (⟨packN (x, y) % 2 ^ 255, by rw [e1]; exact hy⟩ : FF) = y := Fin.ext e1
  rw [e3, ← hxx, hr, e2]
  dsimp only
  by_cases q : x.val % 2 = 1
  · obtain ⟨g3, g4⟩ := g2 q
    rw [if_pos q, if_neg g3, g4]
  · rw [if_neg q, g1 (by omega)]
theorem pack_unp {n : Nat} (hn : n < 115792089237316195423570985008687907853269984665640564039457584007913129639936) {P : PP} (h : unp n = some P) : onP P ∧ packN P = n := by
  have ho := pp_odd
  unfold unp at h
  by_cases q : n % 2 ^ 255 < pp
  · rw [dif_pos q] at h
    cases hr : rt (xx ⟨n % 2 ^ 255, q⟩) with
    | none => rw [hr] at h; cases h
    | some r =>
      rw [hr] at h
      dsimp only at h
      obtain ⟨q1, e1, e2, e3⟩ := rt_some hr
      have hsp : n = n % 2 ^ 255 + 2 ^ 255 * (n / 2 ^ 255) := (Nat.mod_add_div n (2 ^ 255)).symm
      by_cases qo : n / 2 ^ 255 = 1
      · rw [if_pos qo] at h
        by_cases q0 : r = 0
        · rw [if_pos q0] at h; cases h
        · rw [if_neg q0] at h
          cases h
          refine ⟨(xx_on _ _).2 (Eq.trans (by grind -lia -order -linarith -mbtc (splits := 0) (ematch := 0)) e3), ?_⟩
          unfold packN
          dsimp only
          have hv : (- r).val % 2 = 1 := by
            rw [Fin.val_neg, if_neg q0]
            have := r.isLt
            have := ff_ne q0
            omega
          rw [hv, ← qo]
          exact hsp.symm
      · rw [if_neg qo] at h
        cases h
        refine ⟨(xx_on _ _).2 e3, ?_⟩
        unfold packN
        dsimp only
        have q0 : n / 2 ^ 255 = 0 := by
          have : n / 2 ^ 255 < 2 := by
            rw [Nat.div_lt_iff_lt_mul (by decide)]
            exact Nat.lt_of_lt_of_le hn (by decide +kernel)
          omega
        rw [e2, ← q0]
        exact hsp.symm
  · rw [dif_neg q] at h; cases h
end Go.Proofs.Ytmlmbolcblafmaa
