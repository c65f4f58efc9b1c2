/- Layer 17's last two laws. Lemmas. -/
import Derived.Test.YtmlmbolcblafmaaQo
import Derived.Test.YtmlmbolcblafmaaQp
set_option linter.unusedVariables false
set_option linter.unusedSimpArgs false
set_option maxRecDepth 10000
set_option maxHeartbeats 2000000
namespace Go.Proofs.Ytmlmbolcblafmaa
def unpC (lo o : Nat) : Option PP :=
  if h : lo < pp then
    match rt (xx ⟨lo, h⟩) with
    | some r => if o = 1 then (if r = 0 then none else some (- r, ⟨lo, h⟩)) else some (r, ⟨lo, h⟩)
    | none => none
  else none
theorem unp_eq (n : Nat) : unp n = unpC (n % 2 ^ 255) (n / 2 ^ 255) := rfl
theorem unpC_two (lo : Nat) : (∀ o, unpC lo o = none) ∨ (∃ y, unpC lo 1 = none ∧ unpC lo 0 = some (0, y)) ∨ ∃ r y, r ≠ 0 ∧ unpC lo 1 = some (- r, y) ∧ unpC lo 0 = some (r, y) := by
  by_cases h : lo < pp
  · have h2 : ∀ o, unpC lo o = match rt (xx ⟨lo, h⟩) with
      | some r => if o = 1 then (if r = 0 then none else some ((- r, ⟨lo, h⟩) : PP)) else some ((r, ⟨lo, h⟩) : PP)
      | none => none := fun o => by unfold unpC; exact dif_pos h
    cases hr : rt (xx ⟨lo, h⟩) with
    | none => exact .inl fun o => by rw [h2, hr]
    | some r =>
      rw [h2, h2, hr]
      right
      by_cases q : r = 0
      · subst q
        exact .inl ⟨_, if_pos rfl, rfl⟩
      · exact .inr ⟨r, _, q, if_neg q, rfl⟩
  · exact .inl fun _ => by unfold unpC; exact dif_neg h
theorem unp_two {n n' : Nat} (hn : n < 115792089237316195423570985008687907853269984665640564039457584007913129639936) (e1 : n' % 2 ^ 255 = n % 2 ^ 255) (e2 : n / 2 ^ 255 + n' / 2 ^ 255 = 1) :
    (unp n = none ∧ unp n' = none) ∨ (∃ y, (unp n = some (0, y) ∧ unp n' = none) ∨ (unp n = none ∧ unp n' = some (0, y))) ∨ ∃ P, onP P ∧ unp n = some P ∧ unp n' = some (pneg P) := by
  have hc : (n / 2 ^ 255 = 0 ∧ n' / 2 ^ 255 = 1) ∨ (n / 2 ^ 255 = 1 ∧ n' / 2 ^ 255 = 0) := by omega
  have h := unpC_two (n % 2 ^ 255)
  have hon : ∀ P, unp n = some P → onP P := fun P hP => (pack_unp hn hP).1
  rw [unp_eq n', e1]
  rw [unp_eq n] at hon ⊢
  rcases h with h | ⟨y, h1, h0⟩ | ⟨r, y, hr, h1, h0⟩
  · exact .inl ⟨h _, h _⟩
  · right; left
    rcases hc with ⟨a, b⟩ | ⟨a, b⟩ <;> rw [a, b, h0, h1]
    · exact ⟨y, .inl ⟨rfl, rfl⟩⟩
    · exact ⟨y, .inr ⟨rfl, rfl⟩⟩
  · right; right
    rcases hc with ⟨a, b⟩ | ⟨a, b⟩ <;> rw [a] at hon <;> rw [a, b, h0, h1]
    · exact ⟨(r, y), hon _ h0, rfl, rfl⟩
    · refine ⟨(- r, y), hon _ h1, rfl, ?_⟩
      unfold pneg
      dsimp only
      rw [show - - r = r by grind -lia -order -linarith -mbtc (splits := 0) (ematch := 0)]
theorem flip31 {n : Nat} (hn : n < 115792089237316195423570985008687907853269984665640564039457584007913129639936) : ∃ n', n' < 115792089237316195423570985008687907853269984665640564039457584007913129639936 ∧ (b32 n).set 31 (((b32 n).getD 31 0 + 128) % 256) = b32 n' ∧ n' % 2 ^ 255 = n % 2 ^ 255 ∧ n / 2 ^ 255 + n' / 2 ^ 255 = 1 := by
  refine ⟨n % 452312848583266388373324160190187140051835877600158453279131187530910662656 + 452312848583266388373324160190187140051835877600158453279131187530910662656 * ((n / 452312848583266388373324160190187140051835877600158453279131187530910662656 + 128) % 256), ?_, ?_⟩
  · omega
  · rw [b32_31, byte31 hn, b32_set31 hn (Nat.mod_lt _ (by decide))]
    refine ⟨rfl, ?_, ?_⟩
    · simp only [Nat.reducePow]; omega
    · simp only [Nat.reducePow]; omega
theorem L_CurveTwo {b : List Nat} (hb1 : LB 256 b) (hl1 : b.length = 32) : F_casematelaw17_CurveTwo b = some true := by
  obtain ⟨n, hn, rfl⟩ := ex_b32 hb1 hl1
  obtain ⟨n', hn', e, e1, e2⟩ := flip31 hn
  unfold F_casematelaw17_CurveTwo
  rw [c_Unpack hn, e, c_Unpack hn', bnd_mk]
  have k170 : (((170 : Nat) : Int) = ((0 : Nat) : Int)) = False := by decide
  rcases unp_two hn e1 e2 with ⟨h, h'⟩ | ⟨y, ⟨h, h'⟩ | ⟨h, h'⟩⟩ | ⟨P, hP, h, h'⟩ <;> rw [h, h']
  · simp only [bnd_mk, k170, ↓reduceIte, P_awake17, sel_inr]
  · simp only [bpt, bnd_mk, k170, ↓reduceIte, P_awake17, sel_inl, bf0, decide_false, Bool.not_false]
  · simp only [bpt, bnd_mk, k170, ↓reduceIte, P_awake17, sel_inl, bf0, decide_true]
  · have hN : F_curve_Neg (bf P.1, bf P.2) = some ((bf (pneg P).1, bf (pneg P).2), ((0 : Nat) : Int)) := c_Neg hP
    simp only [bpt, bnd_mk, ↓reduceIte, P_awake17, sel_inl, decide_true, Bool.not_true, hN, Bool.false_eq_true, and_self]
theorem dig_len_le {n k : Nat} (h : n < 256 ^ k) : (dig 256 n).length ≤ k := by
  obtain ⟨e, h1, _, _⟩ := dig_spec (b := 256) (by decide) n
  exact nm_length (b := 256) (by decide) h1 (by rw [e]; exact h)
theorem L_CurveScales {l m : List Nat} (hb0 : LB 256 l) (hb1 : LB 256 m) : F_casematelaw17_CurveScales l m = some true := by
  unfold F_casematelaw17_CurveScales
  by_cases q : 40 < l.length
  · rw [if_pos q]
  · rw [if_neg q]
    by_cases q2 : 40 < m.length
    · rw [if_pos q2]
    · rw [if_neg q2]
      have w0 : LB 256 [0, 0] := LB.cons (by decide) (LB.cons (by decide) LB.nil)
      have w1 : LB 256 [1] := LB.cons (by decide) LB.nil
      have n0 : nv 256 [0, 0] = 0 := rfl
      have n1 : nv 256 [1] = 1 := rfl
      have hlt : ∀ (k : List Nat), LB 256 k → ¬ 40 < k.length → nv 256 k < 256 ^ 40 := fun k hk hq => Nat.lt_of_lt_of_le (nv_lt k hk) (Nat.pow_le_pow_right (n := 256) (by decide) (by omega))
      have a1 := hlt l hb0 q
      have a2 := hlt m hb1 q2
      have p41 : (256 : Nat) ^ 41 = 256 * 256 ^ 40 := by rw [Nat.pow_succ, Nat.mul_comm]
      have p80 : (256 : Nat) ^ 80 = 256 ^ 40 * 256 ^ 40 := by rw [← Nat.pow_add]
      have d1 : (dig 256 (nv 256 l + nv 256 m)).length ≤ 41 := dig_len_le (by rw [p41]; omega)
      have d2 : (dig 256 (nv 256 m + 1)).length ≤ 41 := dig_len_le (by rw [p41]; omega)
      have d3 : (dig 256 (nv 256 l * nv 256 m)).length ≤ 80 := dig_len_le (by rw [p80]; exact Nat.mul_lt_mul'' a1 a2)
      have b0 : ∀ n, LB 256 (dig 256 n) := fun n => dig_LB (b := 256) (by decide) n
      have v0 : ∀ n, nv 256 (dig 256 n) = n := fun n => nv_dig (b := 256) (by decide) n
      simp only [g_point hb0 (by omega), g_point hb1 (by omega), bnd_mk, g_Scale hb1 (by omega), g_Scale w0 (by decide), g_Scale w1 (by decide), n0, n1, gmul_0, gmul_1, g_Zero, P_awake17, P_nAdd hb0 hb1 (by omega) (by omega), P_nMul hb0 hb1 (by omega) (by omega), P_nAdd hb1 w1 (by omega) (by decide), g_add, g_point (b0 _) (Nat.le_trans d1 (by decide)), g_point (b0 _) (Nat.le_trans d3 (by decide)), g_scaled (b0 _) (Nat.le_trans d2 (by decide)), v0, ↓reduceIte, and_self]
      rw [if_pos (gp_eq.2 (gmul_add _ _ _)), if_pos (gp_eq.2 (gmul_mul _ _ _).symm), decide_eq_true (gp_eq.2 (gmul_succ _ _).symm), bnd_mk]
end Go.Proofs.Ytmlmbolcblafmaa
