/- What the plain functions of the references of layers 15 and 16 tell: products, rests by p. -/
import Derived.Test.YtmlmbolcblafmaaQc
import Derived.Test.YtmlmbolcblafmaaQb
set_option linter.unusedVariables false
set_option linter.unusedSimpArgs false
set_option maxRecDepth 10000
namespace Go.Proofs.Ytmlmbolcblafmaa
theorem byte_mul {x y o c : Nat} (hx : x < 256) (hy : y < 256) (ho : o < 256) (hc : c < 256) : x * y + o + c < 65536 := by
  have : x * y ≤ 255 * 255 := Nat.mul_le_mul (by omega) (by omega)
  omega
theorem P_Mul15_in {xs ys zs : List Nat} {i : Nat} (hX : LB 256 xs) (hY : LB 256 ys) (hl : xs.length + ys.length ≤ 1000) (hi : i < xs.length) (hz : zs.length = xs.length + ys.length + 1) (hZ : LB 256 zs)
    (h0 : ∀ j, i + ys.length ≤ j → zs.getD j 0 = 0) (hv : MO 256 xs ys zs i) :
    ∃ r, run (F_casemateref15_Mul_l2 xs ys i) (((0 : Nat) : Int), 0, zs) = some r ∧ (r.2.2.length = zs.length ∧ LB 256 r.2.2 ∧ (∀ j, i + 1 + ys.length ≤ j → r.2.2.getD j 0 = 0) ∧ MO 256 xs ys r.2.2 (i + 1)) := by
  refine run_inv (fun s : Int × Nat × List Nat => s.2.2.length = zs.length ∧ LB 256 s.2.2 ∧ 0 ≤ s.1 ∧ s.1 < 256 ∧ (∀ j, i + 1 + ys.length ≤ j → s.2.2.getD j 0 = 0) ∧ ((s.2.1 ≤ ys.length ∧ s.2.2.getD (i + ys.length) 0 = 0) ∨ (s.2.1 = ys.length + 1 ∧ s.1 = 0)) ∧ MI 256 xs ys s.2.2 i s.1.toNat s.2.1)
    (fun s => ys.length + 1 - s.2.1) _ ?_ _ ⟨rfl, hZ, Int.le_refl 0, (by show (0 : Int) < 256; decide), fun j hj => h0 j (by omega), .inl ⟨Nat.zero_le _, h0 _ (by omega)⟩, MI.start hv⟩
  rintro ⟨c, k, z⟩ ⟨h1, h2, h3, h4, h5, h6, h7⟩
  dsimp only at h1 h2 h3 h4 h5 h6 h7
  unfold F_casemateref15_Mul_l2
  dsimp only
  obtain ⟨c0, rfl⟩ : ∃ c0 : Nat, c = (c0 : Int) := ⟨c.toNat, by omega⟩
  rw [Int.toNat_natCast] at h7
  by_cases q : k < ys.length ∨ 0 < c0
  · left
    have e : (if k < ys.length then (some (.inl ())) else (if ((0 : Nat) : Int) < (c0 : Int) then (some (.inl ())) else (some (.inr (.inr ((c0 : Int), (decide (((0 : Nat) : Int) < (c0 : Int))), z))))) : Option (Unit ⊕ ((Int × Nat × List Nat) ⊕ (Int × Bool × List Nat)))) = some (.inl ()) := by
      by_cases q1 : k < ys.length
      · rw [if_pos q1]
      · rw [if_neg q1, if_pos (by omega)]
    have hk : k ≤ ys.length ∧ z.getD (i + ys.length) 0 = 0 := by
      rcases h6 with r | r
      · exact r
      · omega
    have hx := hX.get (by decide) i
    have hy := hY.get (by decide) k
    have ho := h2.get (by decide) (i + k)
    have hb := byte_mul hx hy ho (show c0 < 256 by omega)
    rw [e, bnd_mk, sel_inl, gd_pos (by omega), gd_pos (by omega), gd_pos (by omega), P_at, bnd_mk]
    have e2 : ((((z.getD (i + k) 0) : Nat) : Int) + ((((xs.getD i 0) : Nat) : Int) * ((ys.getD k 0 : Nat) : Int))) + (c0 : Int) = ((xs.getD i 0 * ys.getD k 0 + z.getD (i + k) 0 + c0 : Nat) : Int) := by
      rw [← Int.natCast_mul]; omega
    have e5 : ((((xs.getD i 0) : Nat) : Int) * ((ys.getD k 0 : Nat) : Int)) = ((xs.getD i 0 * ys.getD k 0 : Nat) : Int) := (Int.natCast_mul ..).symm
    rw [e2, e5, gd_pos (by omega), gd_pos (by omega), gd_pos (by omega), gd_pos (by omega), gd_pos (by omega), gd_pos (by omega), gd_pos (by omega), gd_pos (by omega), gd_pos (by omega), gd_pos (by omega), gd_pos (by omega), gd_pos (by omega), gd_pos (by omega)]
    have hst := MI.step (i := i) (k := k) (by omega) h7 rfl rfl
    have hzero : k = ys.length → xs.getD i 0 * ys.getD k 0 + z.getD (i + k) 0 + c0 = c0 := fun e => by
      rw [e, getD_ge (xs := ys) (Nat.le_refl _), hk.2]; omega
    generalize hs : xs.getD i 0 * ys.getD k 0 + z.getD (i + k) 0 + c0 = s at *
    have e3 : Int.toNat (((s : Int) % ((256 : Nat) : Int)) % ((256 : Nat) : Int)) = s % 256 := by omega
    have e4 : (s : Int) / ((256 : Nat) : Int) = ((s / 256 : Nat) : Int) := by omega
    rw [e3, e4]
    refine ⟨_, rfl, ⟨by simpa using h1, h2.set (Nat.mod_lt _ (by decide)) _, by dsimp only; omega, by dsimp only; omega, fun j hj => ?_, ?_, by rw [Int.toNat_natCast]; exact hst⟩, by dsimp only; omega⟩
    · dsimp only; rw [set_get (by omega)]; exact h5 j hj
    · dsimp only
      by_cases q3 : k < ys.length
      · exact .inl ⟨by omega, by rw [set_get (by omega)]; exact hk.2⟩
      · refine .inr ⟨by omega, ?_⟩
        have := hzero (by omega)
        omega
  · right
    have e : (if k < ys.length then (some (.inl ())) else (if ((0 : Nat) : Int) < (c0 : Int) then (some (.inl ())) else (some (.inr (.inr ((c0 : Int), (decide (((0 : Nat) : Int) < (c0 : Int))), z))))) : Option (Unit ⊕ ((Int × Nat × List Nat) ⊕ (Int × Bool × List Nat)))) = some (.inr (.inr ((c0 : Int), (decide (((0 : Nat) : Int) < (c0 : Int))), z))) := by
      rw [if_neg (by omega), if_neg (by omega)]
    rw [e, bnd_mk, sel_inr]
    refine ⟨_, rfl, h1, h2, h5, ?_⟩
    have : c0 = 0 := by omega
    subst this
    exact MI.stop0 (by omega) h7
theorem P_Mul15 {xs ys : List Nat} (hX : LB 256 xs) (hY : LB 256 ys) (hl : xs.length + ys.length ≤ 1000) : F_casemateref15_Mul xs ys = some (dig 256 (nv 256 xs * nv 256 ys)) := by
  unfold F_casemateref15_Mul
  rw [gd_pos (by omega), gd_pos (by omega), gd_pos (by omega)]
  have key := run_inv (f := F_casemateref15_Mul_l1 xs ys) (fun s : Nat × List Nat => s.1 ≤ xs.length ∧ s.2.length = xs.length + ys.length + 1 ∧ LB 256 s.2 ∧ (∀ j, s.1 + ys.length ≤ j → s.2.getD j 0 = 0) ∧ MO 256 xs ys s.2 s.1)
    (fun s => xs.length - s.1) (fun r => r.length = xs.length + ys.length + 1 ∧ LB 256 r ∧ nv 256 r = nv 256 xs * nv 256 ys) ?_ (0, List.replicate (xs.length + ys.length + 1) 0)
    ⟨Nat.zero_le _, by simp, LB.rep (by decide) _, fun j _ => rep_getD _ _, MO.start _⟩
  · obtain ⟨r, hr, h1, h2, h3⟩ := key
    rw [hr, bnd_mk, P_Norm h2 (by omega), bnd_mk, h3]
  · rintro ⟨i, z⟩ ⟨h1, h2, h3, h4, h5⟩
    dsimp only at h1 h2 h3 h4 h5
    unfold F_casemateref15_Mul_l1
    dsimp only
    by_cases q : i < xs.length
    · left
      obtain ⟨⟨c, b, w⟩, hr, g1, g2, g3, g4⟩ := P_Mul15_in hX hY hl q h2 h3 h4 h5
      dsimp only at g1 g2 g3 g4
      rw [if_pos q, hr, bnd_mk]
      dsimp only
      rw [gd_pos (by omega)]
      exact ⟨_, rfl, ⟨by dsimp only; omega, by dsimp only; omega, g2, g3, g4⟩, by dsimp only; omega⟩
    · right
      rw [if_neg q]
      exact ⟨_, rfl, h2, h3, MO.stop (by omega) h5⟩
/-! ### Layer 16 -/
/-- 2^255 - 19 -/
def pp : Nat := 57896044618658097711785492504343953926634992332820282019728792003956564819949
theorem pp_eq : pp = 2 ^ 255 - 19 := by unfold pp; decide +kernel
theorem pp_pos : 0 < pp := by decide
theorem pp_lt : pp < 256 ^ 32 := by decide +kernel
theorem pp_lt' : pp < 18446744073709551616 ^ 4 := by decide +kernel
theorem pp_ord : Ord pp 2 := ord_57896044618658097711785492504343953926634992332820282019728792003956564819949
theorem pp_prime : IsP pp := pp_ord.prime
abbrev b32 (n : Nat) : List Nat := leb 256 32 n
theorem b32_len (n : Nat) : (b32 n).length = 32 := leb_len ..
theorem b32_by (n : Nat) : LB 256 (b32 n) := leb_lt (b := 256) (by decide) 32 n
theorem nv_b32 {n : Nat} (h : n < 256 ^ 32) : nv 256 (b32 n) = n := by rw [nv_leb (by decide), Nat.mod_eq_of_lt h]
theorem nv_b32p (n : Nat) : nv 256 (b32 (n % pp)) = n % pp := nv_b32 (Nat.lt_trans (Nat.mod_lt _ pp_pos) pp_lt)
theorem P_P : F_casemateref16_P = some (b32 pp) := by
  unfold F_casemateref16_P
  have h := run_for (f := F_casemateref16_P_l1) (x := [237] ++ List.replicate 30 255) (fun i => [237] ++ List.replicate i 255) 30 (fun i hi => ?_) ?_
  · have e : [237] ++ List.replicate 0 255 = [237] := List.append_nil _
    rw [e] at h
    rw [h, bnd_mk, gd_pos (by decide)]
    exact congrArg some (by decide +kernel)
  · unfold F_casemateref16_P_l1
    have hl : ([237] ++ List.replicate i 255).length = i + 1 := by simp
    rw [hl, if_pos (by omega), gd_pos (by omega), List.append_assoc, ← List.replicate_succ']
  · unfold F_casemateref16_P_l1
    rw [if_neg (by decide)]
theorem P_Is16 {l : List Nat} (hb : LB 256 l) (hl : l.length = 32) : F_casemateref16_Is l = some (decide (nv 256 l < pp)) := by
  unfold F_casemateref16_Is
  rw [P_P, bnd_mk, P_Cmp hb (b32_by _) (by omega) (by rw [b32_len]; decide), bnd_mk, nv_b32 pp_lt]
  congr 1
  unfold cmpI
  by_cases q : nv 256 l < pp
  · rw [if_pos q, decide_eq_true q]; rfl
  · rw [if_neg q, decide_eq_false q]; split <;> rfl
/-- a row laid into a row of zeros -/
theorem lay_step {l : List Nat} {i m : Nat} (hi : i < l.length) (hm : i < m) : (l.take i ++ List.replicate (m - i) 0).set i (l.getD i 0) = l.take (i + 1) ++ List.replicate (m - (i + 1)) 0 := by
  have h1 : (l.take i).length = i := by rw [List.length_take]; omega
  rw [List.set_append_right _ _ (by omega), h1, Nat.sub_self]
  obtain ⟨d, hd⟩ : ∃ d, m - i = d + 1 := ⟨m - i - 1, by omega⟩
  rw [hd, show m - (i + 1) = d by omega, List.replicate_succ, List.set_cons_zero, List.take_add_one, List.append_assoc]
  congr 1
  rw [List.getElem?_eq_getElem hi, List.getD_eq_getElem?_getD, List.getElem?_eq_getElem hi]
  rfl
theorem P_Full {l : List Nat} (hb : LB 256 l) (hl : l.length ≤ 32) : F_casemateref16_Full l = some (b32 (nv 256 l)) := by
  unfold F_casemateref16_Full
  have h := run_for (f := F_casemateref16_Full_l1 l) (x := l ++ List.replicate (32 - l.length) 0) (fun i => (i, l.take i ++ List.replicate (32 - i) 0)) l.length (fun i hi => ?_) ?_
  · have e : ((0 : Nat), l.take 0 ++ List.replicate (32 - 0) 0) = (0, List.replicate 32 0) := by rw [List.take_zero, List.nil_append]
    rw [e] at h
    rw [h, bnd_mk]
    congr 1
    refine leb_of (by decide) (by simp; omega) (LB.app hb (LB.rep (by decide) _)) ?_
    rw [nv_append, nv_replicate]; omega
  · unfold F_casemateref16_Full_l1
    dsimp only
    rw [if_pos hi, if_pos (by omega), gd_pos hi, gd_pos (by omega), gd_pos (by omega), lay_step hi (by omega)]
  · unfold F_casemateref16_Full_l1
    dsimp only
    rw [if_neg (by omega), List.take_length]
theorem mod_fold {low high : Nat} : (low + 19 * high) % pp = (low + 2 ^ 255 * high) % pp := by
  have e : low + 2 ^ 255 * high = low + 19 * high + pp * high := by
    have : (2 : Nat) ^ 255 = 19 + pp := by rw [pp_eq]
    rw [this, Nat.add_mul]; omega
  rw [e, Nat.add_mul_mod_self_left]
theorem dig_by (n : Nat) : LB 256 (dig 256 n) := dig_lt (b := 256) (by decide) n
theorem nv_dig' (n : Nat) : nv 256 (dig 256 n) = n := nv_dig (by decide) n
theorem dig_len {n k : Nat} (h : n < 256 ^ k) : (dig 256 n).length ≤ k := dig_length (by decide) h
theorem nv_bound {l : List Nat} {k : Nat} (hb : LB 256 l) (h : l.length ≤ k) : nv 256 l < 256 ^ k := Nat.lt_of_lt_of_le (nv_lt l hb) (Nat.pow_le_pow_right (by decide) h)
/-- the top bit of 32 bytes -/
theorem top_bit {low : List Nat} (hb : LB 256 low) (hl : low.length = 32) : nv 256 (low.set 31 (low.getD 31 0 % 128)) + 2 ^ 255 * (low.getD 31 0 / 128) = nv 256 low := by
  have h1 := nv_set 256 low 31 (low.getD 31 0 % 128) (by omega)
  have h2 := Nat.mod_add_div (low.getD 31 0) 128
  generalize low.getD 31 0 = t at *
  generalize nv 256 (low.set 31 (t % 128)) = A at *
  have h3 : (256 : Nat) ^ 31 * t = 256 ^ 31 * (t % 128) + 2 ^ 255 * (t / 128) := by
    conv => lhs; rw [← h2]
    rw [Nat.mul_add]
    congr 1
    rw [← Nat.mul_assoc]
  omega
theorem P_Round1 {n : Nat} (hn : n < 256 ^ 200) : ∃ m, m < 2 ^ 255 ∧ m % pp = n % pp ∧ run F_casemateref16_Round_l1 (dig 256 n) = some (dig 256 m) := by
  have key := run_inv (f := F_casemateref16_Round_l1) (fun l => ∃ m, m ≤ n ∧ m % pp = n % pp ∧ l = dig 256 m) (fun l => nv 256 l)
    (fun r => ∃ m, m < 2 ^ 255 ∧ m % pp = n % pp ∧ r = dig 256 m) ?_ (dig 256 n) ⟨n, Nat.le_refl _, rfl, rfl⟩
  · obtain ⟨r, hr, m, h1, h2, h3⟩ := key
    exact ⟨m, h1, h2, by rw [hr, h3]⟩
  · rintro l ⟨m, h1, h2, rfl⟩
    unfold F_casemateref16_Round_l1
    have hlen : (dig 256 m).length ≤ 200 := dig_len (Nat.lt_of_le_of_lt h1 hn)
    have hby := dig_by m
    have hnm : Nm (dig 256 m) := dig_nm (b := 256) (by decide) m
    have hnv := nv_dig' m
    generalize hD : dig 256 m = l at *
    by_cases q : 32 < l.length ∨ (l.length = 32 ∧ 127 < l.getD 31 0)
    · left
      have e : (if (32 : Nat) < l.length then (some (.inl ())) else (if l.length = 32 then (gd (31 < l.length) (if (127 : Nat) < (l.getD 31 0) then (some (.inl ())) else (some (.inr (.inr l))))) else (some (.inr (.inr l)))) : Option (Unit ⊕ ((List Nat) ⊕ (List Nat)))) = some (.inl ()) := by
        by_cases q1 : 32 < l.length
        · rw [if_pos q1]
        · rw [if_neg q1, if_pos (by omega), gd_pos (by omega), if_pos (by omega)]
      have hlt : (l.take 32).length = 32 := by rw [List.length_take]; omega
      have hbt : LB 256 (l.take 32) := LB.take hby _
      have hbd : LB 256 (l.drop 32) := LB.drop hby _
      have hld : (l.drop 32).length ≤ 168 := by rw [List.length_drop]; omega
      have ht := hbt.get (by decide) 31
      have htop := top_bit hbt hlt
      have hsp := nv_split 256 l 32 (by omega)
      rw [e, bnd_mk, sel_inl, gd_pos (by omega), gd_pos (by omega), P_Mul15 hbd (LB.cons (by decide) LB.nil) (by simp; omega), bnd_mk]
      have v2 : nv 256 [2] = 2 := rfl
      have v19 : nv 256 [19] = 19 := rfl
      have vt : ∀ t, nv 256 [t] = t := fun t => by show t + 256 * 0 = t; omega
      have hd1 : nv 256 (l.drop 32) < 256 ^ 168 := nv_bound hbd hld
      have hw : nv 256 (l.drop 32) * 2 < 256 ^ 169 := by rw [Nat.pow_succ]; omega
      have hw2 : nv 256 (l.drop 32) * 2 + (l.take 32).getD 31 0 / 128 < 256 ^ 169 := by rw [Nat.pow_succ]; omega
      have hw3 : (nv 256 (l.drop 32) * 2 + (l.take 32).getD 31 0 / 128) * 19 < 256 ^ 170 := by rw [Nat.pow_succ]; omega
      rw [v2, P_Add15 (dig_by _) (LB.cons (by omega) LB.nil) (Nat.le_trans (dig_len hw) (by decide)) (by simp), bnd_mk, nv_dig', vt]
      rw [P_Mul15 (dig_by _) (LB.cons (by decide) LB.nil) (by have := dig_len hw2; show _ + 1 ≤ 1000; omega), bnd_mk, nv_dig', v19]
      rw [P_Add15 (hbt.set (by omega) 31) (dig_by _) (by rw [List.length_set]; omega) (Nat.le_trans (dig_len hw3) (by decide)), bnd_mk, nv_dig']
      generalize hhi : nv 256 (l.drop 32) * 2 + (l.take 32).getD 31 0 / 128 = hi at *
      have hv : nv 256 l = nv 256 ((l.take 32).set 31 ((l.take 32).getD 31 0 % 128)) + 2 ^ 255 * hi := by
        rw [hsp, ← hhi, Nat.mul_add, ← htop]
        have : (256 : Nat) ^ 32 * nv 256 (l.drop 32) = 2 ^ 255 * (nv 256 (l.drop 32) * 2) := by
          rw [show (256 : Nat) ^ 32 = 2 ^ 255 * 2 by decide +kernel, Nat.mul_assoc, Nat.mul_comm 2]
        omega
      have hpos : 0 < hi := by
        rcases q with q | ⟨q1, q2⟩
        · have : 0 < nv 256 (l.drop 32) := by
            rcases Nat.eq_zero_or_pos (nv 256 (l.drop 32)) with r | r
            · have hz : Nm (l.drop 32) := by
                rcases hnm with a | a
                · omega
                · refine .inr ?_
                  rw [List.length_drop, getD_drop]
                  rwa [show 32 + (l.length - 32 - 1) = l.length - 1 by omega]
              have := nm_pos (b := 256) (by decide) hz r
              have : (l.drop 32).length = 0 := by rw [this]; rfl
              rw [List.length_drop] at this
              omega
            · exact r
          omega
        · rw [List.take_of_length_le (by omega)] at hhi
          omega
      refine ⟨_, rfl, ⟨nv 256 ((l.take 32).set 31 ((l.take 32).getD 31 0 % 128)) + 19 * hi, ?_, ?_, by rw [Nat.mul_comm hi]⟩, ?_⟩
      · have : 19 * hi ≤ 2 ^ 255 * hi := Nat.mul_le_mul_right _ (by decide)
        omega
      · rw [mod_fold, ← hv, hnv, h2]
      · show nv 256 (dig 256 _) < _
        rw [nv_dig', hv]
        have : 19 * hi < 2 ^ 255 * hi := Nat.mul_lt_mul_of_pos_right (by decide) hpos
        omega
    · right
      have e : (if (32 : Nat) < l.length then (some (.inl ())) else (if l.length = 32 then (gd (31 < l.length) (if (127 : Nat) < (l.getD 31 0) then (some (.inl ())) else (some (.inr (.inr l))))) else (some (.inr (.inr l)))) : Option (Unit ⊕ ((List Nat) ⊕ (List Nat)))) = some (.inr (.inr l)) := by
        rw [if_neg (by omega)]
        by_cases q1 : l.length = 32
        · rw [if_pos q1, gd_pos (by omega), if_neg (by omega)]
        · rw [if_neg q1]
      rw [e, bnd_mk, sel_inr]
      refine ⟨_, rfl, m, ?_, h2, hD.symm⟩
      rw [← hnv]
      rcases Nat.lt_or_ge l.length 32 with r | r
      · exact Nat.lt_of_lt_of_le (nv_bound hby (show l.length ≤ 31 by omega)) (by decide)
      · have hl : l.length = 32 := by omega
        have h3 := nv_split 256 l 31 (by omega)
        rw [nv_at, List.drop_of_length_le (by omega)] at h3
        have h4 := nv_bound (k := 31) (LB.take hby 31) (by rw [List.length_take]; omega)
        have h5 : l.getD 31 0 ≤ 127 := by omega
        rw [h3]
        show _ + 256 ^ 31 * (_ + 256 * 0) < _
        rw [Nat.mul_zero, Nat.add_zero]
        have h6 : 256 ^ 31 * l.getD 31 0 ≤ 256 ^ 31 * 127 := Nat.mul_le_mul_left _ h5
        have h7 : (2 : Nat) ^ 255 = 256 ^ 31 * 127 + 256 ^ 31 := by decide +kernel
        omega
theorem P_Round2 {m : Nat} (hm : m < 2 ^ 255) : run F_casemateref16_Round_l2 (dig 256 m) = some (dig 256 (m % pp)) := by
  have key := run_inv (f := F_casemateref16_Round_l2) (fun l => ∃ k, k < 2 ^ 255 ∧ k % pp = m % pp ∧ l = dig 256 k) (fun l => nv 256 l) (fun r => r = dig 256 (m % pp)) ?_ (dig 256 m) ⟨m, hm, rfl, rfl⟩
  · obtain ⟨r, hr, rfl⟩ := key
    exact hr
  · rintro l ⟨k, h1, h2, rfl⟩
    unfold F_casemateref16_Round_l2
    have hk : k < 256 ^ 32 := Nat.lt_of_lt_of_le h1 (by decide)
    have hlen : (dig 256 k).length ≤ 32 := dig_len hk
    rw [P_P, bnd_mk, P_Cmp (dig_by _) (b32_by _) (by omega) (by rw [b32_len]; decide), bnd_mk, nv_dig', nv_b32 pp_lt]
    by_cases q : pp ≤ k
    · left
      have hc : ((0 : Nat) : Int) ≤ cmpI k pp := by unfold cmpI; rw [if_neg (by omega)]; split <;> decide
      rw [if_pos hc, bnd_mk, P_Sub15 (dig_by _) (b32_by _) (by omega) (by rw [b32_len]; decide), bnd_mk, nv_dig', nv_b32 pp_lt]
      refine ⟨_, rfl, ⟨k - pp, by omega, by rw [← h2, ← Nat.mod_eq_sub_mod q], rfl⟩, ?_⟩
      show nv 256 (dig 256 _) < k
      rw [nv_dig']
      have := pp_pos
      omega
    · right
      rw [cmpI_lt (by omega), if_neg (by decide)]
      refine ⟨_, rfl, ?_⟩
      rw [← h2, Nat.mod_eq_of_lt (by omega)]
theorem P_Round {l : List Nat} (hb : LB 256 l) (hl : l.length ≤ 200) : F_casemateref16_Round l = some (dig 256 (nv 256 l % pp)) := by
  unfold F_casemateref16_Round
  obtain ⟨m, h1, h2, h3⟩ := P_Round1 (n := nv 256 l) (nv_bound hb hl)
  rw [P_Norm hb (by omega), bnd_mk, h3, bnd_mk, P_Round2 h1, bnd_mk, h2]
theorem dig_len_p (n : Nat) : (dig 256 (n % pp)).length ≤ 32 := dig_len (Nat.lt_trans (Nat.mod_lt _ pp_pos) pp_lt)
theorem P_FullRound {l : List Nat} (hb : LB 256 l) (hl : l.length ≤ 200) : bnd (F_casemateref16_Round l) (fun l4 => bnd (F_casemateref16_Full l4) (fun l5 => some l5)) = some (b32 (nv 256 l % pp)) := by
  rw [P_Round hb hl, bnd_mk, P_Full (dig_by _) (dig_len_p _), bnd_mk, nv_dig']
theorem P_Add16 {a b : List Nat} (ha : LB 256 a) (hb : LB 256 b) (hla : a.length = 32) (hlb : b.length = 32) : F_casemateref16_Add a b = some (b32 ((nv 256 a + nv 256 b) % pp)) := by
  unfold F_casemateref16_Add
  have h1 := nv_bound (k := 32) ha (by omega)
  have h2 := nv_bound (k := 32) hb (by omega)
  rw [P_Add15 ha hb (by omega) (by omega), bnd_mk]
  refine Eq.trans (P_FullRound (dig_by _) (Nat.le_trans (dig_len (k := 33) (by rw [Nat.pow_succ]; omega)) (by decide))) (by rw [nv_dig'])
theorem P_Sub16 {a b : List Nat} (ha : LB 256 a) (hb : LB 256 b) (hla : a.length = 32) (hlb : b.length = 32) : F_casemateref16_Sub a b = some (b32 ((nv 256 a + (pp - nv 256 b)) % pp)) := by
  unfold F_casemateref16_Sub
  have h1 := nv_bound (k := 32) ha (by omega)
  have h2 := pp_lt
  rw [P_P, bnd_mk, P_Sub15 (b32_by _) hb (by rw [b32_len]; decide) (by omega), bnd_mk, nv_b32 pp_lt]
  have h3 : pp - nv 256 b < 256 ^ 32 := by omega
  rw [P_Add15 ha (dig_by _) (by omega) (Nat.le_trans (dig_len h3) (by decide)), bnd_mk, nv_dig']
  refine Eq.trans (P_FullRound (dig_by _) (Nat.le_trans (dig_len (k := 33) (by rw [Nat.pow_succ]; omega)) (by decide))) (by rw [nv_dig'])
end Go.Proofs.Ytmlmbolcblafmaa
