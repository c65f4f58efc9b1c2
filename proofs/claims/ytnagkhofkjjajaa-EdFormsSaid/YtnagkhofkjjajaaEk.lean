/- What layer 19's program computes; layer 19's laws. Lemmas, no statement of the claim. -/
import Derived.Test.YtnagkhofkjjajaaEi
set_option linter.unusedVariables false
set_option linter.unusedSimpArgs false
set_option maxRecDepth 10000
namespace Go.Proofs.Ytnagkhofkjjajaa
open Go.Proofs.Ytnagkhofkjjajaa.H
/-- a place, in 32 bytes -/
def enc (P : GP) : List Nat := b32 (packN P.1)
theorem enc_len (P : GP) : (enc P).length = 32 := b32_len _
theorem enc_lb (P : GP) : LB 256 (enc P) := b32_by _
theorem e_Unpack (P : GP) : F_curve_Unpack (enc P) = some ((gx P, gy P), ((0 : Nat) : Int)) := g_Unpack P
theorem e_Pack (P : GP) : F_curve_Pack (gx P, gy P) = some (enc P, ((0 : Nat) : Int)) := g_Pack P
theorem P_packed {l : List Nat} (hb : LB 256 l) (hl : l.length ≤ 1000) : F_ed_packed l = some (enc (gmul (nv 256 l) gB)) := by
  unfold F_ed_packed
  rw [g_Base, bnd_mk]
  dsimp only
  rw [g_Scale hb (by omega), bnd_mk]
  dsimp only
  rw [e_Pack, bnd_mk]
theorem P_cl (l : List Nat) : F_scalar_Clamp l = some (clN l) := rfl
theorem cl_ok {l : List Nat} (hb : LB 256 l) (hl : l.length = 32) : LB 256 (clN l) ∧ (clN l).length = 32 := by
  obtain ⟨r, e, h1, h2⟩ := P_Clamp hb hl
  rw [P_cl] at e
  rw [Option.some.inj e]
  exact ⟨h1, h2⟩
def akey (sd : List Nat) : List Nat := clN ((sumN sd).take 32)
theorem akey_ok (sd : List Nat) : LB 256 (akey sd) ∧ (akey sd).length = 32 := cl_ok ((sumN_lb sd).take 32) (by rw [List.length_take, sumN_len]; rfl)
def pubN (sd : List Nat) : List Nat := enc (gmul (nv 256 (akey sd)) gB)
def nonce (sd m : List Nat) : Nat := nv 256 (sumN ((sumN sd).drop 32 ++ m)) % LL
def chal (R A m : List Nat) : Nat := nv 256 (sumN ((R ++ A) ++ m)) % LL
def rN (sd m : List Nat) : List Nat := enc (gmul (nonce sd m) gB)
def sN (sd m : List Nat) : Nat := (chal (rN sd m) (pubN sd) m * nv 256 (akey sd) + nonce sd m) % LL
def signN (sd m : List Nat) : List Nat := rN sd m ++ b32 (sN sd m)
theorem P_Public {sd : List Nat} (hb : LB 256 sd) (hl : sd.length = 32) : F_ed_Public sd = some (pubN sd) := by
  unfold F_ed_Public
  rw [bnd_mk, P_hash (f := F_ed_Public_l1) (f2 := F_ed_Public_l2) (g := F_ed_Public_l3) hb (by omega) (by intros; unfold F_ed_Public_l1; rfl) (by intros; unfold F_ed_Public_l2; rfl) (by intros; unfold F_ed_Public_l3; rfl), P_cl, bnd_mk]
  rw [show clN ((sumN sd).take 32) = akey sd from rfl, P_packed (akey_ok sd).1 (by rw [(akey_ok sd).2]; decide), bnd_mk]
  rfl
theorem halfS (a b : List Nat) (h : a.length = 32) : (a ++ (List.replicate 64 0).drop 32).take 32 ++ b = a ++ b := by
  rw [List.take_append_of_le_length (by omega), List.take_of_length_le (by omega)]
theorem P_Sign {sd m : List Nat} (hb : LB 256 sd) (hl : sd.length = 32) (hm : LB 256 m) (hml : m.length ≤ 50000) : F_ed_Sign sd m = some (signN sd m) := by
  have hs := sumN_lb sd
  have hsl := sumN_len sd
  have ha := akey_ok sd
  unfold F_ed_Sign
  rw [bnd_mk, P_hash (f := F_ed_Sign_l1) (f2 := F_ed_Sign_l2) (g := F_ed_Sign_l3) hb (by omega) (by intros; unfold F_ed_Sign_l1; rfl) (by intros; unfold F_ed_Sign_l2; rfl) (by intros; unfold F_ed_Sign_l3; rfl), P_cl, bnd_mk]
  rw [show clN ((sumN sd).take 32) = akey sd from rfl, P_packed ha.1 (by omega), bnd_mk, gd_pos (by omega), bnd_mk]
  rw [P_hash (f := F_ed_Sign_l4) (f2 := F_ed_Sign_l5) (g := F_ed_Sign_l6) ((hs.drop 32).app hm) (by rw [List.length_append, List.length_drop]; omega) (by intros; unfold F_ed_Sign_l4; rfl) (by intros; unfold F_ed_Sign_l5; rfl) (by intros; unfold F_ed_Sign_l6; rfl)]
  rw [P_SReduce (sumN_lb _) (by rw [sumN_len]; decide), bnd_mk, P_packed (b32_by _) (by rw [b32_len]; decide), bnd_mk, gd_pos (by omega), bnd_mk, nv_mod]
  rw [P_hash (f := F_ed_Sign_l7) (f2 := F_ed_Sign_l8) (g := F_ed_Sign_l9) (((enc_lb _).app (enc_lb _)).app hm) (by rw [List.length_append, List.length_append, enc_len, enc_len]; omega) (by intros; unfold F_ed_Sign_l7; rfl) (by intros; unfold F_ed_Sign_l8; rfl) (by intros; unfold F_ed_Sign_l9; rfl)]
  rw [P_SReduce (sumN_lb _) (by rw [sumN_len]; decide), bnd_mk, P_MulAdd (b32_by _) ha.1 (b32_by _) (b32_len _) ha.2 (b32_len _), bnd_mk, nv_mod, nv_mod, halfS _ _ (enc_len _)]
  rfl
/-! ### What is verified -/
theorem P_Verify_len {pub m sg : List Nat} (h : ¬ sg.length = 64) : F_ed_Verify pub m sg = some ((1 : Nat) : Int) := if_neg h
theorem P_Verify (A R : GP) {s : Nat} (hs : s < LL) {m : List Nat} (hm : LB 256 m) (hml : m.length ≤ 50000) : F_ed_Verify (enc A) m (enc R ++ b32 s) = some (if gmul s gB = gadd R (gmul (chal (enc R) (enc A) m) A) then ((0 : Nat) : Int) else ((191 : Nat) : Int)) := by
  have hl : (enc R ++ b32 s).length = 64 := by rw [List.length_append, enc_len, b32_len]
  have t1 : (enc R ++ b32 s).take 32 = enc R := List.take_left' (enc_len R)
  have t2 : ((enc R ++ b32 s).drop 32).take 32 = b32 s := by rw [List.drop_left' (enc_len R), List.take_of_length_le (by rw [b32_len]; exact Nat.le_refl _)]
  have hv : nv 256 (b32 s) = s := nv_b32 (Nat.lt_trans hs LL_lt)
  unfold F_ed_Verify
  rw [if_pos hl, gd_pos (by omega), gd_pos (by omega), gd_pos (by omega), e_Unpack, bnd_mk]
  dsimp only
  rw [t1, t2, e_Unpack, bnd_mk]
  dsimp only
  rw [if_pos rfl, if_pos rfl, P_SIs (b32_by _) (b32_len _), hv, bnd_mk, decide_eq_true hs, if_pos rfl, gd_pos (by omega), bnd_mk]
  rw [P_hash (f := F_ed_Verify_l1) (f2 := F_ed_Verify_l2) (g := F_ed_Verify_l3) (((enc_lb _).app (enc_lb _)).app hm) (by rw [List.length_append, List.length_append, enc_len, enc_len]; omega) (by intros; unfold F_ed_Verify_l1; rfl) (by intros; unfold F_ed_Verify_l2; rfl) (by intros; unfold F_ed_Verify_l3; rfl)]
  rw [P_SReduce (sumN_lb _) (by rw [sumN_len]; decide), bnd_mk, g_Base, bnd_mk]
  dsimp only
  rw [g_Scale (b32_by _) (by rw [b32_len]; decide), bnd_mk, hv]
  dsimp only
  rw [g_Scale (b32_by _) (by rw [b32_len]; decide), bnd_mk, nv_mod]
  dsimp only
  rw [g_Add, bnd_mk]
  dsimp only
  by_cases c : gmul s gB = gadd R (gmul (chal (enc R) (enc A) m) A)
  · rw [if_pos c]
    exact if_pos (gp_eq.2 c)
  · rw [if_neg c]
    exact if_neg fun h => c (gp_eq.1 h)
theorem two_sum (k a n : Nat) : gadd (gmul n gB) (gmul k (gmul a gB)) = gmul ((k * a + n) % LL) gB := by
  rw [← gmul_mod, gmul_add, Nat.mul_comm, gmul_mul, gadd_comm]
theorem sN_lt (sd m : List Nat) : sN sd m < LL := Nat.mod_lt _ LL_pos
theorem V_ok {sd m : List Nat} (hm : LB 256 m) (hml : m.length ≤ 50000) : F_ed_Verify (pubN sd) m (signN sd m) = some ((0 : Nat) : Int) := by
  refine (P_Verify (gmul (nv 256 (akey sd)) gB) (gmul (nonce sd m) gB) (sN_lt sd m) hm hml).trans (congrArg some (if_pos ?_))
  rw [two_sum]
  rfl
/-! ### The first key -/
theorem first0 : F_casematelaw19_first = some sd0 := congrArg some (by decide +kernel)
theorem sd0_lb : LB 256 sd0 := by intro x hx; revert x; decide
theorem sd0_len : sd0.length = 32 := by decide
theorem key0 : nv 256 (akey sd0) = a0 := by unfold akey; rw [sum0, clm0, nva0]
theorem pub0 : pubN sd0 = eA0 := by
  unfold pubN enc
  rw [key0]
  show b32 (packN (smul a0 bB)) = _
  rw [gA0, pA0]
theorem nonce0 : nonce sd0 [] = n0 := by unfold nonce; rw [sum0, sum1, nvn0]
theorem r0 : rN sd0 [] = eR0 := by
  unfold rN enc
  rw [nonce0]
  show b32 (packN (smul n0 bB)) = _
  rw [gR0, pR0]
theorem sN_of {sd m R A : List Nat} {a n k s : Nat} (hR : rN sd m = R) (hA : pubN sd = A) (ha : nv 256 (akey sd) = a) (hn : nonce sd m = n) (hk : chal R A m = k) (hs : (k * a + n) % LL = s) : sN sd m = s := by
  subst hR hA ha hn hk
  exact hs
theorem chal0 : chal eR0 eA0 [] = k0 := by unfold chal; rw [sum2, nvk0]
theorem ss0 : sN sd0 [] = s0 := sN_of r0 pub0 key0 nonce0 chal0 nvs0
theorem sign0 : signN sd0 [] = sg0 := by unfold signN; rw [r0, ss0, sig0]
theorem ver0 : F_ed_Verify eA0 [] sg0 = some ((0 : Nat) : Int) := by
  have h := V_ok (sd := sd0) (m := []) LB.nil (by decide)
  rw [pub0, sign0] at h
  exact h
theorem ver1 : F_ed_Verify eA0 [0] sg0 = some ((191 : Nat) : Int) := by
  have h := P_Verify (gmul (nv 256 (akey sd0)) gB) (gmul (nonce sd0 []) gB) (sN_lt sd0 []) (m := [0]) (LB.cons (by decide) LB.nil) (by decide)
  have h : F_ed_Verify (pubN sd0) [0] (signN sd0 []) = some (if gmul (sN sd0 []) gB = gadd (gmul (nonce sd0 []) gB) (gmul (chal (rN sd0 []) (pubN sd0) [0]) (gmul (nv 256 (akey sd0)) gB)) then ((0 : Nat) : Int) else ((191 : Nat) : Int)) := h
  rw [two_sum, r0, pub0, sign0, ss0, key0, nonce0] at h
  have hc : chal eR0 eA0 [0] = k3 := by unfold chal; rw [sum3, nvk3]
  rw [hc] at h
  rw [h, if_neg]
  intro e
  have e := gmul_inj e
  rw [Nat.mod_mod] at e
  refine ne3 (e.symm.trans (Nat.mod_eq_of_lt ?_))
  rw [← ss0]; exact sN_lt _ _
theorem P_awake19 : F_casematelaw19_awake = some true := by
  unfold F_casematelaw19_awake
  rw [first0, bnd_mk, P_Public sd0_lb sd0_len, bnd_mk, bnd_mk, P_Sign sd0_lb sd0_len LB.nil (by decide), bnd_mk, pub0, sign0, if_pos (by decide), if_pos (by decide), if_pos (by decide), if_pos (by decide), if_pos (by decide), if_pos (by decide), ver0, bnd_mk, if_pos rfl, ver1, bnd_mk, if_pos rfl, P_Verify_len (by decide), bnd_mk, bnd_mk]
  rfl
/-! ### The laws -/
theorem L_EdVerifies {sd m : List Nat} (hb : LB 256 sd) (hl : sd.length = 32) (hm : LB 256 m) : F_casematelaw19_EdVerifies sd m = some true := by
  unfold F_casematelaw19_EdVerifies
  by_cases q : 2000 < m.length
  · rw [if_pos q]
  · rw [if_neg q, gd_pos (by omega), List.nil_append, P_Sign hb hl hm (by omega), bnd_mk, P_Public hb hl, bnd_mk, V_ok hm (by omega), bnd_mk, P_awake19, bnd_mk, if_pos rfl, if_pos rfl]
    exact congrArg some (decide_eq_true rfl)
theorem rN_len (sd m : List Nat) : (rN sd m).length = 32 := enc_len _
theorem sgn_len (sd m : List Nat) : (signN sd m).length = 64 := by unfold signN; rw [List.length_append, b32_len]; unfold rN; rw [enc_len]
theorem sgn_take (sd m : List Nat) : (signN sd m).take 32 = rN sd m := List.take_left' (enc_len _)
theorem sgn_drop (sd m : List Nat) : (signN sd m).drop 32 = b32 (sN sd m) := List.drop_left' (enc_len _)
theorem L_EdForms {sd m : List Nat} (hb : LB 256 sd) (hl : sd.length = 32) (hm : LB 256 m) : F_casematelaw19_EdForms sd m = some true := by
  unfold F_casematelaw19_EdForms
  by_cases q : 1000 < m.length
  · rw [if_pos q]
  · have t2 : ((signN sd m).drop 32).take 32 = b32 (sN sd m) := by rw [sgn_drop, List.take_of_length_le (by rw [b32_len]; exact Nat.le_refl _)]
    have hv : nv 256 (b32 (sN sd m)) = sN sd m := nv_b32 (Nat.lt_trans (sN_lt sd m) LL_lt)
    rw [if_neg q, P_Sign hb hl hm (by omega), bnd_mk, P_Public hb hl, bnd_mk, show pubN sd = enc (gmul (nv 256 (akey sd)) gB) from rfl, e_Unpack, bnd_mk]
    dsimp only
    rw [sgn_take, show rN sd m = enc (gmul (nonce sd m) gB) from rfl, e_Unpack, bnd_mk]
    dsimp only
    rw [e_Pack, bnd_mk]
    dsimp only
    rw [P_awake19, bnd_mk, if_pos rfl, if_pos rfl, if_pos rfl, if_pos rfl, g_On, bnd_mk, if_pos rfl, g_On, bnd_mk, if_pos rfl, if_pos rfl, t2, P_SIs (b32_by _) (b32_len _), hv, bnd_mk, decide_eq_true (sN_lt sd m), if_pos rfl, bnd_mk, bnd_mk]
    exact congrArg some (decide_eq_true rfl)
theorem one_l1 {sg : List Nat} (hl : sg.length = 64) : run (F_casematelaw19_EdOne_l1 sg) (0, List.replicate 32 0) = some (sg.drop 32) := by
  have h := run_for (f := F_casematelaw19_EdOne_l1 sg) (x := sg.drop 32) (fun i => (i, (List.range i).map (fun j => sg.getD (32 + j) 0) ++ List.replicate (32 - i) 0)) 32 (fun i hi => ?_) ?_
  · exact h
  · unfold F_casematelaw19_EdOne_l1
    dsimp only
    rw [if_pos hi, gd_pos (by omega), gd_pos (by omega), gd_pos (by omega), gd_pos (by omega), lay_stepH (fun j => sg.getD (32 + j) 0) hi]
  · unfold F_casematelaw19_EdOne_l1
    dsimp only
    rw [if_neg (by decide)]
    congr 2
    refine List.ext_getElem (by simp; omega) fun i h1 h2 => ?_
    simp at h1 h2
    simp [List.getElem_append_left, List.getD_eq_getElem?_getD, List.getElem?_eq_getElem, show 32 + i < sg.length by omega]
theorem over_step {o n : List Nat} {i : Nat} (ho : o.length = 32) (hn : n.length = 32) (hi : i < 32) : (n.take i ++ o.drop i).set i (n.getD i 0) = n.take (i + 1) ++ o.drop (i + 1) := by
  have h1 : (n.take i).length = i := by rw [List.length_take]; omega
  rw [List.set_append_right _ _ (by omega), h1, Nat.sub_self, drop_cons (show i < o.length by omega), List.set_cons_zero]
  have : n.take (i + 1) = n.take i ++ [n.getD i 0] := by
    rw [List.getD_eq_getElem?_getD, List.getElem?_eq_getElem (by omega)]
    exact (List.take_append_getElem (by omega)).symm
  rw [this, List.append_assoc]
  rfl
theorem one_l2 {r o n : List Nat} (hr : r.length = 32) (ho : o.length = 32) (hn : n.length = 32) : run (F_casematelaw19_EdOne_l2 n) (0, r ++ o) = some (r ++ n) := by
  have h := run_for (f := F_casematelaw19_EdOne_l2 n) (x := r ++ n) (fun i => (i, r ++ (n.take i ++ o.drop i))) 32 (fun i hi => ?_) ?_
  · exact h
  · unfold F_casematelaw19_EdOne_l2
    dsimp only
    rw [if_pos hi, gd_pos (by omega), gd_pos (by omega), gd_pos (by omega), gd_pos (by omega), List.set_append_right _ _ (by omega), hr, show 32 + i - 32 = i by omega, over_step ho hn hi]
  · unfold F_casematelaw19_EdOne_l2
    dsimp only
    rw [if_neg (by decide), List.take_of_length_le (by omega), List.drop_of_length_le (by omega), List.append_nil]
theorem num32 {n : Nat} (h : n < 256) : (List.replicate 32 0).set 0 n = b32 n := Option.some.inj (n18 h)
theorem L_EdOne {sd m : List Nat} {n : Nat} (hb : LB 256 sd) (hl : sd.length = 32) (hm : LB 256 m) (hn : n < 256) : F_casematelaw19_EdOne sd m n = some true := by
  unfold F_casematelaw19_EdOne
  by_cases q : 400 < m.length
  · rw [if_pos q]
  · by_cases q0 : n = 0
    · rw [if_neg q, if_pos q0]
    · have hv : nv 256 (b32 (sN sd m)) = sN sd m := nv_b32 (Nat.lt_trans (sN_lt sd m) LL_lt)
      rw [if_neg q, if_neg q0, P_Sign hb hl hm (by omega), bnd_mk, one_l1 (sgn_len sd m), bnd_mk, sgn_drop, num32 (by decide), num32 hn, P_MulAdd (b32_by _) (b32_by _) (b32_by _) (b32_len _) (b32_len _) (b32_len _), bnd_mk, hv, n18v (by decide), n18v hn, Nat.mul_one]
      rw [show signN sd m = rN sd m ++ b32 (sN sd m) from rfl, one_l2 (rN_len _ _) (b32_len _) (b32_len _), bnd_mk, P_awake19, bnd_mk, if_pos rfl, P_Public hb hl, bnd_mk]
      rw [show rN sd m = enc (gmul (nonce sd m) gB) from rfl, show pubN sd = enc (gmul (nv 256 (akey sd)) gB) from rfl, P_Verify _ _ (Nat.mod_lt _ LL_pos) hm (by omega), two_sum, bnd_mk]
      rw [if_neg]
      · exact congrArg some (decide_eq_true rfl)
      · intro e
        have e := gmul_inj e
        rw [Nat.mod_mod, Nat.mod_mod] at e
        have es : (chal (enc (gmul (nonce sd m) gB)) (enc (gmul (nv 256 (akey sd)) gB)) m * nv 256 (akey sd) + nonce sd m) % LL = sN sd m := rfl
        rw [es] at e
        have hs := sN_lt sd m
        have hL : 256 < LL := by decide
        generalize sN sd m = s at *
        clear es hv
        rcases Nat.lt_or_ge (s + n) LL with c | c
        · rw [Nat.mod_eq_of_lt c] at e; omega
        · rw [Nat.mod_eq_sub_mod c, Nat.mod_eq_of_lt (by omega)] at e; omega
end Go.Proofs.Ytnagkhofkjjajaa
