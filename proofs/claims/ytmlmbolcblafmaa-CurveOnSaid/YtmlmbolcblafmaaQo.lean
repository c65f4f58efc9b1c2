/- The group of the curve's points, and layer 17's laws but one. Lemmas. -/
import Derived.Test.YtmlmbolcblafmaaQn
set_option linter.unusedVariables false
set_option linter.unusedSimpArgs false
set_option maxRecDepth 10000
set_option maxHeartbeats 2000000
namespace Go.Proofs.Ytmlmbolcblafmaa
/-- a point of the curve -/
abbrev GP := {P : PP // onP P}
def gadd (P Q : GP) : GP := ⟨padd P.1 Q.1, padd_on P.2 Q.2⟩
def gneg (P : GP) : GP := ⟨pneg P.1, pneg_on P.2⟩
def g0 : GP := ⟨p0, p0_on⟩
def gmul (n : Nat) (P : GP) : GP := ⟨smul n P.1, smul_on n P.2⟩
theorem gadd_comm (P Q : GP) : gadd P Q = gadd Q P := Subtype.ext (padd_comm _ _)
theorem gadd_assoc (P Q R : GP) : gadd (gadd P Q) R = gadd P (gadd Q R) := Subtype.ext (padd_assoc P.2 Q.2 R.2)
theorem gadd_0 (P : GP) : gadd P g0 = P := Subtype.ext (padd_0 _ P.2)
theorem gadd_neg (P : GP) : gadd P (gneg P) = g0 := Subtype.ext (padd_neg P.2)
theorem g0_add (P : GP) : gadd g0 P = P := by rw [gadd_comm, gadd_0]
theorem gmul_0 (P : GP) : gmul 0 P = g0 := rfl
theorem gmul_1 (P : GP) : gmul 1 P = P := Subtype.ext (smul_1 P.2)
theorem gmul_succ (n : Nat) (P : GP) : gmul (n + 1) P = gadd (gmul n P) P := rfl
theorem gmul_add (m n : Nat) (P : GP) : gmul (m + n) P = gadd (gmul m P) (gmul n P) := Subtype.ext (smul_add m n P.2)
theorem gmul_mul (m n : Nat) (P : GP) : gmul (m * n) P = gmul n (gmul m P) := Subtype.ext (smul_mul m n P.2)
theorem gmul_g0 (n : Nat) : gmul n g0 = g0 := Subtype.ext (smul_p0 n)
theorem gmul_gadd (n : Nat) (P Q : GP) : gmul n (gadd P Q) = gadd (gmul n P) (gmul n Q) := Subtype.ext (smul_padd n P.2 Q.2)
theorem gadd_cancel {P Q R : GP} (h : gadd P R = gadd Q R) : P = Q := Subtype.ext (padd_cancel P.2 Q.2 R.2 (congrArg Subtype.val h))
def gx (P : GP) : List Nat := bf P.1.1
def gy (P : GP) : List Nat := bf P.1.2
theorem gp_eq {P Q : GP} : (gx P = gx Q ∧ gy P = gy Q) ↔ P = Q := by
  unfold gx gy
  rw [bpt_eq]
  exact ⟨Subtype.ext, congrArg _⟩
theorem gx_by (P : GP) : LB 256 (gx P) := b32_by _
theorem gy_by (P : GP) : LB 256 (gy P) := b32_by _
def bB : PP := (⟨15112221349535400772501151409588531511454012693041857206046113283949847762202, by decide +kernel⟩, ⟨46316835694926478169428394003475163141307993866256225615783033603165251855960, by decide +kernel⟩)
theorem bB_on : onP bB := by unfold onP onC; decide +kernel
def gB : GP := ⟨bB, bB_on⟩
theorem g_Base : F_curve_Base = some (gx gB, gy gB) := by
  unfold F_curve_Base
  rw [c_n4, bnd_mk, c_n5, bnd_mk, c_inv, bnd_mk, c_mul, bnd_mk]
  unfold bf
  rw [c_Unpack (bf_q _), show unp (4 * iv 5).val = some bB by decide +kernel, bnd_mk]
  rfl
theorem g_Add (P Q : GP) : F_curve_Add (gx P, gy P) (gx Q, gy Q) = some ((gx (gadd P Q), gy (gadd P Q)), ((0 : Nat) : Int)) := c_Add P.2 Q.2
theorem g_Neg (P : GP) : F_curve_Neg (gx P, gy P) = some ((gx (gneg P), gy (gneg P)), ((0 : Nat) : Int)) := c_Neg P.2
theorem g_Scale {l : List Nat} (hb : LB 256 l) (hl : l.length ≤ 1000000000) (P : GP) : F_curve_Scale l (gx P, gy P) = some ((gx (gmul (nv 256 l) P), gy (gmul (nv 256 l) P)), ((0 : Nat) : Int)) := c_Scale hb hl P.2
theorem g_Pack (P : GP) : F_curve_Pack (gx P, gy P) = some (b32 (packN P.1), ((0 : Nat) : Int)) := c_Pack P.2
theorem g_rPack (P : GP) : F_casemateref17_Pack (gx P, gy P) = some (b32 (packN P.1)) := r_Pack P.1
theorem g_On (P : GP) : F_curve_On (gx P, gy P) = some true := (c_On P.1).trans (congrArg some (decide_eq_true P.2))
theorem g_rOn (P : GP) : F_casemateref17_On (gx P, gy P) = some true := (r_On P.1).trans (congrArg some (decide_eq_true P.2))
theorem g_Zero : F_curve_Zero = some (gx g0, gy g0) := c_Zero
theorem g_IsSum (P Q : GP) : F_casemateref17_IsSum (gx P, gy P) (gx Q, gy Q) (gx (gadd P Q), gy (gadd P Q)) = some true := (r_IsSum P.1 Q.1 (padd P.1 Q.1)).trans (congrArg some (decide_eq_true (padd_is P.2 Q.2)))
theorem g_IsSum0 (P : GP) : F_casemateref17_IsSum (gx P, gy P) (gx (gneg P), gy (gneg P)) (gx g0, gy g0) = some true := by rw [← gadd_neg P]; exact g_IsSum _ _
theorem g_point {l : List Nat} (hb : LB 256 l) (hl : l.length ≤ 1000000000) : F_casematelaw17_point l = some (gx (gmul (nv 256 l) gB), gy (gmul (nv 256 l) gB)) := by
  unfold F_casematelaw17_point
  simp only [g_Base, bnd_mk, g_Scale hb hl]
theorem g_add (P Q : GP) : F_casematelaw17_add (gx P, gy P) (gx Q, gy Q) = some (gx (gadd P Q), gy (gadd P Q)) := by
  unfold F_casematelaw17_add
  simp only [g_Add, bnd_mk]
theorem g_scaled {l : List Nat} (hb : LB 256 l) (hl : l.length ≤ 1000000000) (P : GP) : F_casematelaw17_scaled l (gx P, gy P) = some (gx (gmul (nv 256 l) P), gy (gmul (nv 256 l) P)) := by
  unfold F_casematelaw17_scaled
  simp only [g_Scale hb hl, bnd_mk]
theorem g_eqT (P : GP) : ((gx P = gx P ∧ gy P = gy P)) = True := eq_true ⟨rfl, rfl⟩
theorem bf1' : (bf 0).set 0 1 = bf 1 := by rw [← bf0, bf1]
theorem P_awake17 : F_casematelaw17_awake = some true := by
  unfold F_casematelaw17_awake
  have h1 : F_curve_On (bf 1, bf 1) = some false := (c_On (1, 1)).trans (congrArg some (by decide +kernel))
  have h2 : (b32 (packN gB.1)).getD 0 0 = 88 := by decide +kernel
  have h3 : (b32 (packN gB.1)).getD 31 0 = 102 := by decide +kernel
  have h4 : gx g0 = bf 0 := rfl
  have h5 : gy g0 = bf 1 := rfl
  simp only [g_Base, bnd_mk, g_Pack, g_Scale LB.nil (by decide), g_Neg, g_Add, g_On, bf1', bf0, h1, h2, h3, g_Zero, gadd_neg, nv_nil, gmul_0, h4, h5, ↓reduceIte, and_self, Bool.false_eq_true, decide_true]
theorem L_CurveAdds {l m : List Nat} (hb0 : LB 256 l) (hb1 : LB 256 m) : F_casematelaw17_CurveAdds l m = some true := by
  unfold F_casematelaw17_CurveAdds
  by_cases q : 40 < l.length
  · rw [if_pos q]
  · rw [if_neg q]
    by_cases q2 : 40 < m.length
    · rw [if_pos q2]
    · rw [if_neg q2]
      have hy : ∀ P : GP, (gy (gneg P) = gy P) = True := fun P => eq_true rfl
      simp only [g_point hb0 (by omega), g_point hb1 (by omega), bnd_mk, g_Add, g_Neg, P_awake17, g_IsSum, g_IsSum0, g_rOn, g_Zero, hy, ↓reduceIte, decide_true]
theorem L_CurveLaws {l m n : List Nat} (hb0 : LB 256 l) (hb1 : LB 256 m) (hb2 : LB 256 n) : F_casematelaw17_CurveLaws l m n = some true := by
  unfold F_casematelaw17_CurveLaws
  by_cases q : 40 < l.length
  · rw [if_pos q]
  · rw [if_neg q]
    by_cases q2 : 40 < m.length
    · rw [if_pos q2]
    · rw [if_neg q2]
      by_cases q3 : 40 < n.length
      · rw [if_pos q3]
      · rw [if_neg q3]
        simp only [g_point hb0 (by omega), g_point hb1 (by omega), g_point hb2 (by omega), bnd_mk, g_Neg, P_awake17, g_add, g_Zero, gadd_0, gadd_neg, ↓reduceIte, and_self, decide_true]
        rw [if_pos (gp_eq.2 (gadd_comm _ _)), if_pos (gp_eq.2 (gadd_assoc _ _ _)), bnd_mk]
theorem g_Unpack (P : GP) : F_curve_Unpack (b32 (packN P.1)) = some ((gx P, gy P), ((0 : Nat) : Int)) := by
  rw [c_Unpack (packN_lt _), unp_pack P.2]
  rfl
theorem L_CurvePacks {l b : List Nat} (hb0 : LB 256 l) (hb1 : LB 256 b) (hl1 : b.length = 32) : F_casematelaw17_CurvePacks l b = some true := by
  obtain ⟨n, hn, rfl⟩ := ex_b32 hb1 hl1
  unfold F_casematelaw17_CurvePacks
  by_cases q : 40 < l.length
  · rw [if_pos q]
  · rw [if_neg q]
    simp only [g_point hb0 (by omega), bnd_mk, g_Pack, g_Unpack, P_awake17, and_self, ↓reduceIte, c_Unpack hn]
    cases h : unp n with
    | none => simp only [bf0, and_self, decide_true, show (((170 : Nat) : Int) = ((0 : Nat) : Int)) = False by decide, ↓reduceIte]
    | some P =>
      obtain ⟨h1, h2⟩ := pack_unp hn h
      simp only [bpt, ↓reduceIte]
      unfold F_casemateref17_IsUnpacked
      rw [show (bf P.1, bf P.2) = bpt P from rfl, r_On, bnd_mk, decide_eq_true h1, if_pos rfl, r_Pack, bnd_mk, h2, bnd_mk, decide_eq_true rfl]
theorem L_CurveUnpacks {x : List Nat × List Nat} (h1 : LB 256 x.1 ∧ x.1.length = 32) (h2 : LB 256 x.2 ∧ x.2.length = 32) : F_casematelaw17_CurveUnpacks x = some true := by
  unfold F_casematelaw17_CurveUnpacks
  rcases pt_cases h1 h2 with ⟨P, rfl⟩ | ⟨_, h3⟩
  · by_cases q : onP P
    · rw [r_On, bnd_mk, decide_eq_true q, if_pos rfl, r_Pack, bnd_mk, c_Unpack (packN_lt _), unp_pack q, bnd_mk]
      simp only [bpt, P_awake17, bnd_mk, ↓reduceIte, and_self, decide_true]
    · rw [r_On, bnd_mk, decide_eq_false q, if_neg (by decide), P_awake17, bnd_mk]
  · rw [h3, bnd_mk, if_neg (by decide), P_awake17, bnd_mk]
theorem gneg_two {P : GP} : P = gneg P ↔ gadd P P = g0 := by
  constructor
  · intro h
    have := gadd_neg P
    rw [← h] at this
    exact this
  · intro h
    apply gadd_cancel (R := P)
    rw [h, gadd_comm (gneg P), gadd_neg]
theorem L_CurveOrders {l : List Nat} (hb0 : LB 256 l) : F_casematelaw17_CurveOrders l = some true := by
  unfold F_casematelaw17_CurveOrders
  by_cases q : 40 < l.length
  · rw [if_pos q]
  · rw [if_neg q]
    have b8 : LB 256 [8] := LB.cons (by decide) LB.nil
    have b7 : LB 256 [7] := LB.cons (by decide) LB.nil
    have b4 : LB 256 [4] := LB.cons (by decide) LB.nil
    simp only [g_point hb0 (by omega), bnd_mk, g_Zero, g_Scale hb0 (by omega), g_Neg, g_add, P_awake17, gmul_g0, g_scaled b8 (by decide), g_scaled b7 (by decide), g_scaled b4 (by decide), and_self, ↓reduceIte, show nv 256 [8] = 8 from rfl, show nv 256 [7] = 7 from rfl, show nv 256 [4] = 4 from rfl]
    generalize gmul (nv 256 l) gB = P
    have e8 : gadd (gmul 8 P) (gneg P) = gmul 7 P := by rw [gmul_succ 7, gadd_assoc, gadd_neg, gadd_0]
    have e4 : gadd (gadd P P) (gadd P P) = gmul 4 P := by rw [show (4 : Nat) = 2 + 2 from rfl, gmul_add, show (2 : Nat) = 1 + 1 from rfl, gmul_add, gmul_1]
    rw [if_pos (gp_eq.2 e8), if_pos (decide_eq_decide.2 (gp_eq.trans (gneg_two.trans gp_eq.symm))), decide_eq_true (gp_eq.2 e4), bnd_mk]
theorem L_CurveOn {x y : List Nat × List Nat} {l : List Nat} (h1 : LB 256 x.1 ∧ x.1.length = 32) (h2 : LB 256 x.2 ∧ x.2.length = 32) (hb0 : LB 256 l) (h3 : LB 256 y.1 ∧ y.1.length = 32) (h4 : LB 256 y.2 ∧ y.2.length = 32) : F_casematelaw17_CurveOn x l y = some true := by
  unfold F_casematelaw17_CurveOn
  have hB : (gx gB).getD 0 0 % 2 = 0 := by decide +kernel
  by_cases q : 40 < l.length
  · rw [if_pos q]
  · rw [if_neg q]
    have no : ∀ x : List Nat × List Nat, F_curve_On x = some false → ∀ b, F_curve_On y = some b → F_casemateref17_On x = some false → bnd (F_casemateref17_On x) (fun (b4 : Bool) => bnd (F_curve_Add x y) (fun ((l5, l6), z7) => bnd (F_curve_Add y x) (fun ((l8, l9), z10) => bnd (F_curve_Neg x) (fun ((l11, l12), z13) => bnd (F_curve_Scale l x) (fun ((l14, l15), z16) => bnd (F_curve_Pack x) (fun (l17, z18) => bnd (F_curve_On x) (fun (b19 : Bool) => if b19 = b4 then (bnd (F_curve_Base) (fun (l20, l21) => bnd (F_casemateref17_On (l20, l21)) (fun (b22 : Bool) => if b22 = true then (bnd (F_curve_Base) (fun (l23, l24) => if (l23.getD 0 0) % 2 = 0 then (if b4 = true then (bnd (bnd (F_casematelaw17_awake) (fun (b28 : Bool) => if b28 = true then (if z13 = ((0 : Nat) : Int) then (if z16 = ((0 : Nat) : Int) then (if z18 = ((0 : Nat) : Int) then (bnd (F_casemateref17_On (l11, l12)) (fun (b29 : Bool) => if b29 = true then (bnd (F_casemateref17_On (l14, l15)) (fun (b30 : Bool) => if b30 = true then (bnd (F_casemateref17_Pack x) (fun (l31 : List Nat) => some (decide (l17 = l31)))) else (some false))) else (some false))) else (some false)) else (some false)) else (some false)) else (some false)) : Option Bool) (fun (b27 : Bool) => some b27)) else (bnd (bnd (F_casematelaw17_awake) (fun (b26 : Bool) => if b26 = true then (if z7 = ((170 : Nat) : Int) then (if z10 = z7 then (if z13 = z7 then (if z16 = z7 then (if z18 = z7 then (if (l5 = (List.replicate 32 0)) ∧ (l6 = (List.replicate 32 0)) then (if (l8 = (List.replicate 32 0)) ∧ (l9 = (List.replicate 32 0)) then (if (l11 = (List.replicate 32 0)) ∧ (l12 = (List.replicate 32 0)) then (if (l14 = (List.replicate 32 0)) ∧ (l15 = (List.replicate 32 0)) then (some (decide (l17 = (List.replicate 32 0)))) else (some false)) else (some false)) else (some false)) else (some false)) else (some false)) else (some false)) else (some false)) else (some false)) else (some false)) else (some false)) : Option Bool) (fun (b25 : Bool) => some b25))) else (some false))) else (some false)))) else (some false)))))))) = some true := by
      intro x h5 b h6 h7
      simp only [h7, bnd_mk, c_Add_no h5 h6 rfl, c_Add_no h6 h5 (Bool.and_false b), c_Neg_no h5, c_Scale_no h5, c_Pack_no h5, h5, g_Base, g_rOn, hB, P_awake17, bf0, and_self, ↓reduceIte, Bool.false_eq_true, decide_true]
    have hq : ∃ b, F_curve_On y = some b := by
      rcases pt_cases h3 h4 with ⟨Q, rfl⟩ | ⟨h5, _⟩
      · exact ⟨_, c_On Q⟩
      · exact ⟨_, h5⟩
    obtain ⟨b, hy⟩ := hq
    rcases pt_cases h1 h2 with ⟨P, rfl⟩ | ⟨h5, h6⟩
    · by_cases q2 : onP P
      · have hA : ∀ c : Bool, (∃ v, F_curve_Add (bpt P) y = some v) ∧ ∃ v, F_curve_Add y (bpt P) = some v := by
          intro c
          rcases pt_cases h3 h4 with ⟨Q, rfl⟩ | ⟨h5, _⟩
          · by_cases q3 : onP Q
            · exact ⟨⟨_, c_Add q2 q3⟩, ⟨_, c_Add q3 q2⟩⟩
            · exact ⟨⟨_, c_Add_no (c_On P) (c_On Q) (by rw [decide_eq_false q3, Bool.and_false])⟩, ⟨_, c_Add_no (c_On Q) (c_On P) (by rw [decide_eq_false q3, Bool.false_and])⟩⟩
          · exact ⟨⟨_, c_Add_no (c_On P) h5 (Bool.and_false _)⟩, ⟨_, c_Add_no h5 (c_On P) rfl⟩⟩
        obtain ⟨⟨⟨⟨v1, v2⟩, v3⟩, e1⟩, ⟨⟨⟨v4, v5⟩, v6⟩, e2⟩⟩ := hA true
        have e3 : bpt P = (gx ⟨P, q2⟩, gy ⟨P, q2⟩) := rfl
        clear no
        simp only [e1, e2, bnd_mk]
        rw [e3]
        generalize (⟨P, q2⟩ : GP) = G
        simp only [g_rOn, bnd_mk, g_Neg, g_Scale hb0 (by omega), g_Pack, g_On, g_Base, g_rPack, P_awake17, hB, ↓reduceIte, decide_true]
      · exact no _ ((c_On P).trans (congrArg some (decide_eq_false q2))) b hy ((r_On P).trans (congrArg some (decide_eq_false q2)))
    · exact no _ h5 b hy h6
end Go.Proofs.Ytmlmbolcblafmaa
