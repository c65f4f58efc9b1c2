/- Laws of layer 21: KeysParse, KeysBack, in plain law. Lemmas, no statement of the claim. -/
import Derived.Test.YtmlddodimpmogaaVb
set_option linter.unusedVariables false
set_option linter.unusedSimpArgs false
set_option maxRecDepth 10000
namespace Go.Proofs.Ytmlddodimpmogaa
/-- four bytes' number -/
def n4 (l : List Nat) (p : Nat) : Nat := l.getD p 0 + 256 * (l.getD (p + 1) 0 + 256 * (l.getD (p + 2) 0 + 256 * l.getD (p + 3) 0))
def ck (l : List Nat) (p : Nat) : Key := (((n4 l p : Nat) : Int), (l.drop (p + 4)).take 32, decide (l.getD (p + 36) 0 = 1))
def pm (l : List Nat) : List Key := (List.range (Nat.min 8 ((l.length - 8) / 37))).map (fun j => ck l (8 + 37 * j))
def fitR (l : List Nat) : Prop := 8 ≤ l.length ∧ mayR (pm l) ∧ ringB (pm l) = l
instance (l : List Nat) : Decidable (fitR l) := by unfold fitR; exact inferInstance
theorem or_sh {a b k : Nat} (h : a < 2 ^ k) : a ||| (b <<< k) = a + 2 ^ k * b := by
  rw [Nat.or_comm, ← Nat.shiftLeft_add_eq_or_of_lt h, Nat.shiftLeft_eq, Nat.add_comm, Nat.mul_comm]
theorem n4_or {l : List Nat} (hb : LB 256 l) (p : Nat) : (((l.getD p 0) ||| ((l.getD (p + 1) 0) <<< 8)) ||| ((l.getD (p + 2) 0) <<< 16)) ||| ((l.getD (p + 3) 0) <<< 24) = n4 l p := by
  have h0 := LB.get hb (by decide) p
  have h1 := LB.get hb (by decide) (p + 1)
  have h2 := LB.get hb (by decide) (p + 2)
  have h3 := LB.get hb (by decide) (p + 3)
  unfold n4
  rw [or_sh (show l.getD p 0 < 2 ^ 8 from h0)]
  rw [or_sh (show l.getD p 0 + 2 ^ 8 * l.getD (p + 1) 0 < 2 ^ 16 by omega)]
  rw [or_sh (show l.getD p 0 + 2 ^ 8 * l.getD (p + 1) 0 + 2 ^ 16 * l.getD (p + 2) 0 < 2 ^ 24 by omega)]
  omega
theorem n4_lt {l : List Nat} (hb : LB 256 l) (p : Nat) : n4 l p < 4294967296 := by
  have h0 := LB.get hb (by decide) p
  have h1 := LB.get hb (by decide) (p + 1)
  have h2 := LB.get hb (by decide) (p + 2)
  have h3 := LB.get hb (by decide) (p + 3)
  unfold n4; omega
theorem sh_le {a k : Nat} (h : a < 256) (hk : k ≤ 24) : a <<< k ≤ 9223372036854775807 := by
  rw [Nat.shiftLeft_eq]
  have : 2 ^ k ≤ 2 ^ 24 := Nat.pow_le_pow_right (by decide) hk
  have h2 : a * 2 ^ k ≤ 255 * 2 ^ 24 := Nat.mul_le_mul (by omega) this
  omega
theorem range_snoc {α : Type} (f : Nat → α) (n : Nat) : (List.range n).map f ++ [f n] = (List.range (n + 1)).map f := by
  rw [List.range_succ, List.map_append]; rfl
theorem ck_at {l : List Nat} {k : Key} (h : k ∈ pm l) : ∃ j, 8 + 37 * j + 37 ≤ l.length ∧ k = ck l (8 + 37 * j) := by
  unfold pm at h
  obtain ⟨j, h1, h2⟩ := List.mem_map.1 h
  have h3 := List.mem_range.1 h1
  have : Nat.min 8 ((l.length - 8) / 37) ≤ (l.length - 8) / 37 := Nat.min_le_right _ _
  exact ⟨j, by omega, h2.symm⟩
theorem pm_ok {l : List Nat} (hb : LB 256 l) : okK (pm l) := by
  intro k hk
  obtain ⟨j, h1, rfl⟩ := ck_at hk
  unfold ck
  refine ⟨?_, (hb.drop _).take _⟩
  dsimp only
  rw [List.length_take, List.length_drop]; omega
theorem pm_len (l : List Nat) : (pm l).length = Nat.min 8 ((l.length - 8) / 37) := by unfold pm; rw [List.length_map, List.length_range]
theorem pm_le (l : List Nat) : (pm l).length ≤ 8 := by rw [pm_len]; exact Nat.min_le_left _ _
theorem ringB_len {m : List Key} (hk : okK m) : (ringB m).length = 8 + 37 * m.length := by
  have : ∀ m : List Key, okK m → (m.flatMap keyB).length = 37 * m.length := by
    intro m
    induction m with
    | nil => intro _; rfl
    | cons k r ih =>
      intro h
      rw [List.flatMap_cons, List.length_append, keyB_len (h k (List.mem_cons_self ..)).1, ih (fun x hx => h x (List.mem_cons_of_mem _ hx)), List.length_cons]; omega
  unfold ringB
  rw [List.length_append, List.length_append, this m hk]; rfl
theorem P_Parse {l : List Nat} (hb : LB 256 l) (hl : l.length ≤ 10000) : F_keys_Parse l = some (if fitR l then (pm l, ((0 : Nat) : Int)) else ([], ((4 : Nat) : Int))) := by
  unfold F_keys_Parse
  by_cases q : l.length < 8
  · rw [if_pos q, if_neg (fun h => by have := h.1; omega)]
  · rw [if_neg q, gd_pos (by omega)]
    have e : run (F_keys_Parse_l1 l) ([], 8, l.length - 8) = some (pm l) := by
      refine run_for (fun j : Nat => (((List.range j).map (fun j => ck l (8 + 37 * j)), 8 + 37 * j, l.length - 8 - 37 * j) : List Key × Nat × Nat)) (Nat.min 8 ((l.length - 8) / 37)) (fun j hj => ?_) ?_
      · have h8 : j < 8 := Nat.lt_of_lt_of_le hj (Nat.min_le_left _ _)
        have h37 : j < (l.length - 8) / 37 := Nat.lt_of_lt_of_le hj (Nat.min_le_right _ _)
        have hlen : ((List.range j).map (fun j => ck l (8 + 37 * j))).length = j := by rw [List.length_map, List.length_range]
        unfold F_keys_Parse_l1
        dsimp only
        have g1 := LB.get hb (by decide) (8 + 37 * j + 1)
        have g2 := LB.get hb (by decide) (8 + 37 * j + 2)
        have g3 := LB.get hb (by decide) (8 + 37 * j + 3)
        rw [hlen, if_pos (by omega), if_pos h8, gd_pos (by omega), gd_pos (by omega), gd_pos (sh_le g1 (by decide)), gd_pos (by omega), gd_pos (sh_le g2 (by decide)), gd_pos (by omega), gd_pos (sh_le g3 (by decide)), gd_pos (by omega), gd_pos (by omega), gd_pos (by omega), gd_pos (by omega), n4_or hb]
        rw [← range_snoc, show 8 + 37 * j + 37 = 8 + 37 * (j + 1) by omega, show l.length - 8 - 37 * j - 37 = l.length - 8 - 37 * (j + 1) by omega]
        rfl
      · unfold F_keys_Parse_l1
        dsimp only
        have hlen : ((List.range (Nat.min 8 ((l.length - 8) / 37))).map (fun j => ck l (8 + 37 * j))).length = Nat.min 8 ((l.length - 8) / 37) := by rw [List.length_map, List.length_range]
        rw [hlen]
        rcases Nat.le_total 8 ((l.length - 8) / 37) with r | r
        · have : Nat.min 8 ((l.length - 8) / 37) = 8 := Nat.min_eq_left r
          rw [this]
          unfold pm; rw [this]
          by_cases r5 : 37 ≤ l.length - 8 - 37 * 8
          · rw [if_pos r5, if_neg (by decide)]
          · rw [if_neg r5]
        · have : Nat.min 8 ((l.length - 8) / 37) = (l.length - 8) / 37 := Nat.min_eq_right r
          rw [this, if_neg (by omega)]
          unfold pm; rw [this]
    have hp := pm_le l
    rw [e, bnd_mk, P_Bytes (pm_ok hb) (by omega), bnd_mk]
    by_cases hm : mayR (pm l)
    · rw [if_pos hm]
      dsimp only
      unfold F_bytes_Equal
      rw [if_pos rfl, bnd_mk]
      by_cases r : ringB (pm l) = l
      · rw [decide_eq_true r, if_pos rfl, if_pos ⟨by omega, hm, r⟩]
      · rw [decide_eq_false r, if_neg (by decide), if_neg (fun h => r h.2.2)]
    · rw [if_neg hm]
      dsimp only
      rw [if_neg (by decide), if_neg (fun h => hm h.2.1)]
theorem R_Number {l : List Nat} (hl : l.length = 4) (hb : LB 256 l) : F_casemateref09_Number l = some ((n4 l 0 : Nat) : Int) := by
  have h0 := LB.get hb (by decide) 0
  have h1 := LB.get hb (by decide) 1
  have h2 := LB.get hb (by decide) 2
  have h3 := LB.get hb (by decide) 3
  have st : ∀ (n i : Nat), i < 4 → n < 16777216 → F_casemateref09_Number_l1 l (n, ((i : Nat) : Int)) = some (.inl (256 * n + l.getD i 0, ((i : Nat) : Int) - ((1 : Nat) : Int))) := by
    intro n i hi hn
    have := LB.get hb (by decide) i
    unfold F_casemateref09_Number_l1
    dsimp only
    rw [if_pos (by omega), gd_pos (by omega), gd_pos (by omega), gd_pos (by omega), Int.toNat_natCast, gd_pos (by omega), gd_pos (by omega), gd_pos (by omega)]
  have hx : run (F_casemateref09_Number_l1 l) (0, ((3 : Nat) : Int)) = some (n4 l 0) := by
    refine run_next (st 0 3 (by decide) (by decide)) ?_
    rw [show ((3 : Nat) : Int) - ((1 : Nat) : Int) = ((2 : Nat) : Int) from rfl]
    refine run_next (st _ 2 (by decide) (by omega)) ?_
    rw [show ((2 : Nat) : Int) - ((1 : Nat) : Int) = ((1 : Nat) : Int) from rfl]
    refine run_next (st _ 1 (by decide) (by omega)) ?_
    rw [show ((1 : Nat) : Int) - ((1 : Nat) : Int) = ((0 : Nat) : Int) from rfl]
    refine run_next (st _ 0 (by decide) (by omega)) ?_
    refine run_exit ?_
    unfold F_casemateref09_Number_l1 n4
    dsimp only
    rw [if_neg (by decide)]
    congr 2
    simp only [Nat.zero_add]
    omega
  unfold F_casemateref09_Number
  rw [hx, bnd_mk]
theorem getD_dt (l : List Nat) (p k i : Nat) (h : i < k) : ((l.drop p).take k).getD i 0 = l.getD (p + i) 0 := by
  rw [List.getD_eq_getElem?_getD, List.getElem?_take, if_pos h, List.getElem?_drop, List.getD_eq_getElem?_getD]
theorem R_fill {l : List Nat} {p : Nat} (h : p + 37 ≤ l.length) (hl : l.length ≤ 1000) (z : Int) (b : Bool) : run (F_casemateref21_Parse_l2 l p) (0, z, List.replicate 32 0, b) = some (z, (l.drop (p + 4)).take 32, b) := by
  have st : ∀ i, i ≤ 32 → (((l.drop (p + 4)).take i ++ List.replicate (32 - i) 0)).length = 32 := by
    intro i hi
    rw [List.length_append, List.length_take, List.length_drop, List.length_replicate]; omega
  have h0 : (0, z, List.replicate 32 0, b) = (fun i : Nat => ((i, z, (l.drop (p + 4)).take i ++ List.replicate (32 - i) 0, b) : Nat × Int × List Nat × Bool)) 0 := by
    dsimp only; rw [List.take_zero]; rfl
  rw [h0]
  refine run_for (fun i : Nat => ((i, z, (l.drop (p + 4)).take i ++ List.replicate (32 - i) 0, b) : Nat × Int × List Nat × Bool)) 32 (fun i hi => ?_) ?_
  · unfold F_casemateref21_Parse_l2
    dsimp only
    rw [if_pos hi, gd_pos (by omega), gd_pos (by omega), gd_pos (by omega), gd_pos hi, gd_pos (by omega)]
    have e : ((l.drop (p + 4)).take i ++ List.replicate (32 - i) 0).set i (l.getD (p + 4 + i) 0) = (l.drop (p + 4)).take (i + 1) ++ List.replicate (32 - (i + 1)) 0 := by
      have hi2 : i < (l.drop (p + 4)).length := by rw [List.length_drop]; omega
      have hlt : ((l.drop (p + 4)).take i).length = i := by rw [List.length_take, List.length_drop]; omega
      rw [List.set_append_right _ _ (by omega), hlt, Nat.sub_self, show 32 - i = (32 - (i + 1)) + 1 by omega, List.replicate_succ, List.set_cons_zero, List.take_add_one, List.getElem?_eq_getElem hi2, List.append_assoc]
      congr 1
      rw [List.getElem_drop, List.getD_eq_getElem?_getD, List.getElem?_eq_getElem (by omega)]
      rfl
    rw [e]
  · unfold F_casemateref21_Parse_l2
    dsimp only
    rw [if_neg (by decide), Nat.sub_self, List.replicate_zero, List.append_nil]
theorem R_Parse {l : List Nat} (hb : LB 256 l) (hl : l.length ≤ 1000) : F_casemateref21_Parse l = some (if fitR l then (pm l, true) else ([], false)) := by
  unfold F_casemateref21_Parse
  by_cases q : l.length < 8
  · rw [if_pos q, if_neg (fun h => by have := h.1; omega)]
  · rw [if_neg q, gd_pos (by omega), gd_pos (by omega)]
    have hlen : fitR l → l.length = 8 + 37 * (pm l).length := fun h => by rw [← ringB_len (pm_ok hb), h.2.2]
    have hp := pm_le l
    by_cases r : (((l.length : Nat) : Int) - ((8 : Nat) : Int)) % ((37 : Nat) : Int) = ((0 : Nat) : Int)
    · rw [if_pos r]
      by_cases r2 : 304 < l.length
      · rw [if_pos r2, if_neg (fun h => by have := hlen h; omega)]
      · rw [if_neg r2]
        obtain ⟨k, hk⟩ : ∃ k, l.length = 8 + 37 * k := ⟨(l.length - 8) / 37, by omega⟩
        have hmin : Nat.min 8 ((l.length - 8) / 37) = k := by
          rw [show (l.length - 8) / 37 = k by omega]; exact Nat.min_eq_right (by omega)
        have e : run (F_casemateref21_Parse_l1 l) ([], 8) = some (pm l) := by
          refine run_for (fun j : Nat => (((List.range j).map (fun j => ck l (8 + 37 * j)), 8 + 37 * j) : List Key × Nat)) k (fun j hj => ?_) ?_
          · have hln : ((List.range j).map (fun j => ck l (8 + 37 * j))).length = j := by rw [List.length_map, List.length_range]
            unfold F_casemateref21_Parse_l1
            dsimp only
            rw [if_pos (by omega), gd_pos (by omega), gd_pos (by omega), gd_pos (by omega), R_Number (by rw [List.length_take, List.length_drop]; omega) ((hb.drop _).take _), bnd_mk, gd_pos (by omega), gd_pos (by omega), R_fill (by omega) hl, bnd_mk]
            dsimp only
            rw [hln, gd_pos (by omega), bnd_mk, gd_pos (by omega), ← range_snoc, show 8 + 37 * j + 37 = 8 + 37 * (j + 1) by omega]
            have e4 : n4 ((l.drop (8 + 37 * j)).take (8 + 37 * j + 4 - (8 + 37 * j))) 0 = n4 l (8 + 37 * j) := by
              unfold n4
              rw [show 8 + 37 * j + 4 - (8 + 37 * j) = 4 by omega, getD_dt _ _ _ _ (by decide), getD_dt _ _ _ _ (by decide), getD_dt _ _ _ _ (by decide), getD_dt _ _ _ _ (by decide)]
              rfl
            rw [e4]
            rfl
          · unfold F_casemateref21_Parse_l1
            dsimp only
            rw [if_neg (by omega)]
            unfold pm; rw [hmin]
        rw [e, bnd_mk, R_may (by omega), bnd_mk]
        by_cases hm : mayR (pm l)
        · rw [decide_eq_true hm, if_pos rfl, R_Bytes (pm_ok hb) hm, bnd_mk]
          by_cases r3 : ringB (pm l) = l
          · rw [if_pos r3, if_pos ⟨by omega, hm, r3⟩]
          · rw [if_neg r3, if_neg (fun h => r3 h.2.2)]
        · rw [decide_eq_false hm, if_neg (by decide), if_neg (fun h => hm h.2.1)]
    · rw [if_neg r, if_neg (fun h => by have := hlen h; omega)]
theorem L_KeysParse {l : List Nat} (hb : LB 256 l) : F_casematelaw21_KeysParse l = some true := by
  unfold F_casematelaw21_KeysParse
  by_cases q : 1000 < l.length
  · rw [if_pos q]
  · rw [if_neg q, P_Parse hb (by omega), bnd_mk, R_Parse hb (by omega)]
    have hp := pm_le l
    by_cases r : fitR l
    · rw [if_pos r, if_pos r]
      dsimp only
      rw [bnd_mk]
      dsimp only
      rw [if_pos rfl, L_awake, bnd_mk, if_pos rfl, if_pos rfl, R_Same (by omega), bnd_mk, decide_eq_true rfl]
    · rw [if_neg r, if_neg r]
      dsimp only
      rw [bnd_mk]
      dsimp only
      rw [if_neg (by decide), L_awake, bnd_mk, if_pos rfl, if_pos rfl]
      rfl
/-! ### There and back -/
theorem ck_app {l : List Nat} {p : Nat} {k : Key} {t : List Nat} (h : l.drop p = keyB k ++ t) (h32 : k.2.1.length = 32) (h0 : 0 ≤ k.1) (h1 : k.1 ≤ 2147483647) : ck l p = k := by
  have g : ∀ i, l.getD (p + i) 0 = (keyB k ++ t).getD i 0 := fun i => by
    rw [← h, List.getD_eq_getElem?_getD, List.getD_eq_getElem?_getD, List.getElem?_drop]
  unfold ck n4
  have e0 : l.getD p 0 = k.1.toNat % 256 := g 0
  have e1 : l.getD (p + 1) 0 = k.1.toNat / 256 % 256 := g 1
  have e2 : l.getD (p + 2) 0 = k.1.toNat / 65536 % 256 := g 2
  have e3 : l.getD (p + 3) 0 = k.1.toNat / 16777216 % 256 := g 3
  have e36 : l.getD (p + 36) 0 = if k.2.2 = true then 1 else 0 := by
    rw [g 36]
    show (b4 k.1.toNat ++ k.2.1 ++ [if k.2.2 = true then 1 else 0] ++ t).getD 36 0 = _
    have hl : (b4 k.1.toNat ++ k.2.1).length = 36 := by rw [List.length_append, h32]; rfl
    rw [List.append_assoc, List.getD_eq_getElem?_getD, List.getElem?_append_right (by omega), hl]; rfl
  have ed : (l.drop (p + 4)).take 32 = k.2.1 := by
    rw [← List.drop_drop, h]
    show ((b4 k.1.toNat ++ k.2.1 ++ [if k.2.2 = true then 1 else 0] ++ t).drop 4).take 32 = _
    rw [List.append_assoc, List.append_assoc]
    have : ∀ x : List Nat, (b4 k.1.toNat ++ x).drop 4 = x := fun x => rfl
    rw [this, List.take_left' h32]
  rw [e0, e1, e2, e3, e36, ed]
  refine Prod.ext ?_ (Prod.ext rfl ?_)
  · dsimp only
    omega
  · dsimp only
    cases k.2.2 <;> rfl
theorem flat_drop : ∀ {m : List Key} {j : Nat}, okK m → j < m.length → (m.flatMap keyB).drop (37 * j) = keyB (m.getD j kd) ++ (m.drop (j + 1)).flatMap keyB
  | [], _, _, h => by simp at h
  | k :: r, 0, _, _ => rfl
  | k :: r, j + 1, hk, h => by
    have hl := keyB_len (hk k (List.mem_cons_self ..)).1
    rw [List.flatMap_cons, show 37 * (j + 1) = (keyB k).length + 37 * j by omega, ← List.drop_drop, List.drop_left]
    exact flat_drop (m := r) (fun x hx => hk x (List.mem_cons_of_mem _ hx)) (by simpa using h)
theorem pm_ring {m : List Key} (hk : okK m) (hm : mayR m) : pm (ringB m) = m := by
  have hl := hm.2
  have hlen := ringB_len hk
  have hmin : Nat.min 8 (((ringB m).length - 8) / 37) = m.length := by
    rw [hlen, show (8 + 37 * m.length - 8) / 37 = m.length by omega]; exact Nat.min_eq_right hl
  apply key_ext (by rw [pm_len, hmin])
  intro j hj
  rw [pm_len, hmin] at hj
  have hkm : m.getD j kd ∈ m := by rw [List.getD_eq_getElem?_getD, List.getElem?_eq_getElem hj]; exact List.getElem_mem hj
  have e : (pm (ringB m)).getD j kd = ck (ringB m) (8 + 37 * j) := by
    unfold pm
    rw [hmin, List.getD_eq_getElem?_getD, List.getElem?_map, List.getElem?_range hj]; rfl
  rw [e]
  have hi := incr_get hm.1 j hj
  refine ck_app (t := (m.drop (j + 1)).flatMap keyB) ?_ (hk _ hkm).1 (by have := hi.1; unfold num at this; omega) hi.2.1
  rw [← List.drop_drop]
  exact flat_drop hk hj
theorem LB_b4 (n : Nat) : LB 256 (b4 n) := by
  intro x hx
  unfold b4 at hx
  simp only [List.mem_cons, List.not_mem_nil, or_false] at hx
  omega
theorem ringB_lb {m : List Key} (hk : okK m) : LB 256 (ringB m) := by
  intro x hx
  unfold ringB at hx
  rcases List.mem_append.1 hx with h | h
  · rcases List.mem_append.1 h with h | h
    · simp only [List.mem_cons, List.not_mem_nil, or_false] at h; omega
    · exact LB_b4 _ _ h
  · obtain ⟨k, h1, h2⟩ := List.mem_flatMap.1 h
    unfold keyB at h2
    rcases List.mem_append.1 h2 with h | h
    · rcases List.mem_append.1 h with h | h
      · exact LB_b4 _ _ h
      · exact (hk k h1).2 x h
    · rw [List.mem_singleton] at h
      split at h <;> omega
theorem L_KeysBack {m : List Key} {l : List Nat} (hk : okK m) (hb : LB 256 l) : F_casematelaw21_KeysBack m l = some true := by
  unfold F_casematelaw21_KeysBack
  by_cases q : 100 < m.length
  · rw [if_pos q]
  · rw [if_neg q]
    by_cases q2 : 1000 < l.length
    · rw [if_pos q2]
    · rw [if_neg q2, P_Bytes hk (by omega), bnd_mk]
      have hp := pm_le l
      have rest : bnd (F_keys_Parse l) (fun (m8, z9) => if z9 = ((0 : Nat) : Int) then (bnd (F_keys_Bytes m8) (fun (l11, z12) => bnd (F_casematelaw21_awake) (fun (b13 : Bool) => if b13 = true then (if z12 = ((0 : Nat) : Int) then (some (decide (l11 = l))) else (some false)) else (some false)))) else (bnd (F_casematelaw21_awake) (fun (b10 : Bool) => some b10))) = some true := by
        rw [P_Parse hb (by omega), bnd_mk]
        by_cases r : fitR l
        · rw [if_pos r]
          dsimp only
          rw [if_pos rfl, P_Bytes (pm_ok hb) (by omega), bnd_mk, if_pos r.2.1]
          dsimp only
          rw [L_awake, bnd_mk, if_pos rfl, if_pos rfl, r.2.2, decide_eq_true rfl]
        · rw [if_neg r]
          dsimp only
          rw [if_neg (by decide), L_awake, bnd_mk]
      by_cases hm : mayR m
      · rw [if_pos hm]
        dsimp only
        have hl8 := hm.2
        have hf : fitR (ringB m) := ⟨by rw [ringB_len hk]; omega, by rw [pm_ring hk hm]; exact hm, by rw [pm_ring hk hm]⟩
        rw [if_pos rfl, P_Parse (ringB_lb hk) (by rw [ringB_len hk]; omega), bnd_mk, if_pos hf, pm_ring hk hm]
        dsimp only
        rw [if_pos rfl, R_Same (by omega), bnd_mk, decide_eq_true rfl, if_pos rfl, bnd_mk, sel_inl]
        exact rest
      · rw [if_neg hm]
        dsimp only
        rw [if_neg (by decide), bnd_mk, sel_inl]
        exact rest
end Go.Proofs.Ytmlddodimpmogaa
