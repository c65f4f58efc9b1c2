/- What layer 21's program and reference compute, in plain law. Lemmas, no statement of the claim. -/
import Derived.Test.YtmlddodimpmogaaTa
set_option linter.unusedVariables false
set_option linter.unusedSimpArgs false
set_option maxRecDepth 10000
namespace Go.Proofs.Ytmlddodimpmogaa
abbrev Key := Int × List Nat × Bool
abbrev kd : Key := ((0 : Int), [], false)
def num (m : List Key) (i : Nat) : Int := (m.getD i kd).1
/-- numbers rise from here on -/
def incr : Int → List Key → Prop
  | _, [] => True
  | a, k :: r => a < k.1 ∧ k.1 ≤ 2147483647 ∧ incr k.1 r
instance incrD : ∀ (a : Int) (m : List Key), Decidable (incr a m)
  | _, [] => .isTrue trivial
  | a, k :: r => @instDecidableAnd _ _ _ (@instDecidableAnd _ _ _ (incrD k.1 r))
def mayR (m : List Key) : Prop := incr (-1) m ∧ m.length ≤ 8
instance (m : List Key) : Decidable (mayR m) := by unfold mayR; exact inferInstance
/-- bytes as they should be -/
def okK (m : List Key) : Prop := ∀ k, k ∈ m → k.2.1.length = 32 ∧ LB 256 k.2.1
theorem dropCk {α : Type} {m r : List α} {k : α} {n : Nat} (h : m.drop n = k :: r) (d : α) : n < m.length ∧ m.getD n d = k ∧ m.drop (n + 1) = r := by
  have hl : n < m.length := by
    rcases Nat.lt_or_ge n m.length with q | q
    · exact q
    · rw [List.drop_eq_nil_of_le q] at h; cases h
  rw [List.drop_eq_getElem_cons hl] at h
  injection h with h1 h2
  exact ⟨hl, by rw [List.getD_eq_getElem?_getD, List.getElem?_eq_getElem hl]; exact h1, h2⟩
theorem dropNk {α : Type} {m : List α} {n : Nat} (h : m.drop n = []) : m.length ≤ n := List.drop_eq_nil_iff.1 h
theorem P_may1 {m : List Key} (hl : m.length ≤ 1000000) : ∀ (r : List Key) (a : Int) (n : Nat), m.drop n = r → run (F_keys_may_l1 m) (a, n) = some (if incr a r then .inl () else .inr false) := by
  intro r
  induction r with
  | nil =>
    intro a n h
    have := dropNk h
    rw [if_pos (show incr a [] from trivial)]
    refine run_exit ?_
    unfold F_keys_may_l1
    dsimp only
    rw [if_neg (by omega)]
  | cons k r ih =>
    intro a n h
    obtain ⟨h1, h2, h3⟩ := dropCk h kd
    have e : F_keys_may_l1 m (a, n) = if k.1 ≤ a then some (.inr (.inr false)) else if (2147483647 : Int) < k.1 then some (.inr (.inr false)) else some (.inl (k.1, n + 1)) := by
      unfold F_keys_may_l1
      dsimp only
      rw [if_pos h1, gd_pos h1, h2, gd_pos (by omega)]
      rfl
    by_cases q1 : k.1 ≤ a
    · rw [if_pos q1] at e
      rw [run_exit e, if_neg (fun hh => by have := hh.1; omega)]
    · rw [if_neg q1] at e
      by_cases q2 : (2147483647 : Int) < k.1
      · rw [if_pos q2] at e
        rw [run_exit e, if_neg (fun hh => by have := hh.2.1; omega)]
      · rw [if_neg q2] at e
        rw [run_next e (ih k.1 (n + 1) h3)]
        by_cases q3 : incr k.1 r
        · rw [if_pos q3, if_pos ⟨by omega, by omega, q3⟩]
        · rw [if_neg q3, if_neg (fun hh => q3 hh.2.2)]
theorem P_may {m : List Key} (hl : m.length ≤ 1000000) : F_keys_may m = some (decide (mayR m)) := by
  unfold F_keys_may mayR
  rw [P_may1 hl m (-1) 0 rfl, bnd_mk]
  by_cases q : incr (-1) m
  · rw [if_pos q, sel_inl]
    exact congrArg some (decide_eq_decide.2 ⟨fun h => ⟨q, h⟩, fun h => h.2⟩)
  · rw [if_neg q, sel_inr]
    exact congrArg some (decide_eq_false (fun h => q h.1)).symm
theorem R_may1 {m : List Key} (hl : m.length ≤ 1000000) : ∀ (r : List Key) (a : Int) (n : Nat), m.drop n = r → -1 ≤ a → (n = 0 → a = -1) → (0 < n → a = num m (n - 1)) → run (F_casemateref21_May_l1 m) n = some (if incr a r then .inl () else .inr false) := by
  intro r
  induction r with
  | nil =>
    intro a n h _ _ _
    have := dropNk h
    rw [if_pos (show incr a [] from trivial)]
    refine run_exit ?_
    unfold F_casemateref21_May_l1
    rw [if_neg (by omega)]
  | cons k r ih =>
    intro a n h ha h0 hp
    obtain ⟨h1, h2, h3⟩ := dropCk h kd
    have e : F_casemateref21_May_l1 m n = if a < k.1 ∧ k.1 ≤ 2147483647 then some (.inl (n + 1)) else some (.inr (.inr false)) := by
      unfold F_casemateref21_May_l1
      rw [if_pos h1, gd_pos h1, h2]
      have c : (if k.1 < ((0 : Nat) : Int) then (some true) else (if ((2147483647 : Nat) : Int) < k.1 then (some true) else (if (0 : Nat) < n then (gd ((0 : Int) ≤ (((n : Nat) : Int) - ((1 : Nat) : Int))) (gd ((((n : Nat) : Int) - ((1 : Nat) : Int)) < ((m.length : Nat) : Int)) (some (decide (k.1 ≤ (m.getD (Int.toNat (((n : Nat) : Int) - ((1 : Nat) : Int))) ((0 : Int), [], false)).1))))) else (some false))) : Option Bool) = some (!decide (a < k.1 ∧ k.1 ≤ 2147483647)) := by
        by_cases q1 : k.1 < ((0 : Nat) : Int)
        · rw [if_pos q1, decide_eq_false (by omega)]; rfl
        · rw [if_neg q1]
          by_cases q2 : ((2147483647 : Nat) : Int) < k.1
          · rw [if_pos q2, decide_eq_false (by omega)]; rfl
          · rw [if_neg q2]
            by_cases q3 : 0 < n
            · have e1 : Int.toNat (((n : Nat) : Int) - ((1 : Nat) : Int)) = n - 1 := by omega
              have := hp q3
              unfold num at this
              rw [if_pos q3, gd_pos (by omega), gd_pos (by omega), e1, ← this]
              congr 1
              by_cases q4 : k.1 ≤ a
              · rw [decide_eq_true q4, decide_eq_false (by omega)]; rfl
              · rw [decide_eq_false q4, decide_eq_true (by omega)]; rfl
            · rw [if_neg q3, decide_eq_true (by have := h0 (by omega); omega)]; rfl
      rw [c, bnd_mk]
      by_cases q : a < k.1 ∧ k.1 ≤ 2147483647
      · rw [decide_eq_true q, if_neg (by decide), if_pos q, gd_pos (by omega)]
      · rw [decide_eq_false q, if_pos (by decide), if_neg q]
    by_cases q : a < k.1 ∧ k.1 ≤ 2147483647
    · rw [if_pos q] at e
      rw [run_next e (ih k.1 (n + 1) h3 (by omega) (by omega) (fun _ => by unfold num; rw [Nat.add_sub_cancel, h2]))]
      by_cases q3 : incr k.1 r
      · rw [if_pos q3, if_pos ⟨q.1, q.2, q3⟩]
      · rw [if_neg q3, if_neg (fun hh => q3 hh.2.2)]
    · rw [if_neg q] at e
      rw [run_exit e, if_neg (fun hh => q ⟨hh.1, hh.2.1⟩)]
theorem R_may {m : List Key} (hl : m.length ≤ 1000000) : F_casemateref21_May m = some (decide (mayR m)) := by
  unfold F_casemateref21_May mayR
  rw [R_may1 hl m (-1) 0 rfl (by decide) (fun _ => rfl) (fun h => absurd h (by decide)), bnd_mk]
  by_cases q : incr (-1) m
  · rw [if_pos q, sel_inl]
    exact congrArg some (decide_eq_decide.2 ⟨fun h => ⟨q, h⟩, fun h => h.2⟩)
  · rw [if_neg q, sel_inr]
    exact congrArg some (decide_eq_false (fun h => q h.1)).symm
theorem incr_get : ∀ {m : List Key} {a : Int}, incr a m → ∀ i, i < m.length → a < num m i ∧ num m i ≤ 2147483647 ∧ ∀ j, i < j → j < m.length → num m i < num m j
  | [], _, _, i, hi => by simp at hi
  | k :: r, a, h, i, hi => by
    obtain ⟨h1, h2, h3⟩ := h
    cases i with
    | zero =>
      refine ⟨h1, h2, fun j hj hjl => ?_⟩
      cases j with
      | zero => omega
      | succ j => exact (incr_get h3 j (by simpa using hjl)).1
    | succ i =>
      obtain ⟨g1, g2, g3⟩ := incr_get h3 i (by simpa using hi)
      refine ⟨Int.lt_trans h1 g1, g2, fun j hj hjl => ?_⟩
      cases j with
      | zero => omega
      | succ j => exact g3 j (by omega) (by simpa using hjl)
/-- no two keys have one number -/
theorem num_inj {m : List Key} {a : Int} (h : incr a m) {i j : Nat} (hi : i < m.length) (hj : j < m.length) (e : num m i = num m j) : i = j := by
  rcases Nat.lt_trichotomy i j with q | q | q
  · have := (incr_get h i hi).2.2 j q hj; omega
  · exact q
  · have := (incr_get h j hj).2.2 i q hi; omega
/-! ### Bytes -/
def b4 (n : Nat) : List Nat := [n % 256, n / 256 % 256, n / 65536 % 256, n / 16777216 % 256]
def keyB (k : Key) : List Nat := b4 k.1.toNat ++ k.2.1 ++ [if k.2.2 = true then 1 else 0]
def ringB (m : List Key) : List Nat := [114, 105, 110, 103] ++ b4 m.length ++ m.flatMap keyB
theorem keyB_len {k : Key} (h : k.2.1.length = 32) : (keyB k).length = 37 := by unfold keyB b4; simp [h]
theorem b4_int {z : Int} (h : 0 ≤ z) : [(Int.toNat (z % ((256 : Nat) : Int))), (Int.toNat ((z / 2 ^ 8) % ((256 : Nat) : Int))), (Int.toNat ((z / 2 ^ 16) % ((256 : Nat) : Int))), (Int.toNat ((z / 2 ^ 24) % ((256 : Nat) : Int)))] = b4 z.toNat := by
  obtain ⟨n, rfl⟩ : ∃ n : Nat, z = (n : Int) := ⟨z.toNat, by omega⟩
  unfold b4
  rw [Int.toNat_natCast, show ((2 : Int) ^ 8) = 256 from rfl, show ((2 : Int) ^ 16) = 65536 from rfl, show ((2 : Int) ^ 24) = 16777216 from rfl]
  rfl
theorem P_Bytes1 {m : List Key} (hk : okK m) (h0 : ∀ i, i < m.length → 0 ≤ num m i) : ∀ (r : List Key) (acc : List Nat) (n : Nat), m.drop n = r → acc.length + 37 * r.length ≤ 1000000 → m.length ≤ 1000000 → run (F_keys_Bytes_l1 m) (acc, n) = some (acc ++ r.flatMap keyB) := by
  intro r
  induction r with
  | nil =>
    intro acc n h _ _
    have := dropNk h
    rw [List.flatMap_nil, List.append_nil]
    refine run_exit ?_
    unfold F_keys_Bytes_l1
    dsimp only
    rw [if_neg (by omega)]
  | cons k r ih =>
    intro acc n h hb hm
    obtain ⟨h1, h2, h3⟩ := dropCk h kd
    have hkm : k ∈ m := by rw [← h2, List.getD_eq_getElem?_getD, List.getElem?_eq_getElem h1]; exact List.getElem_mem h1
    have hk32 := (hk k hkm).1
    have hnn : 0 ≤ k.1 := by have := h0 n h1; unfold num at this; rw [h2] at this; exact this
    rw [List.length_cons] at hb
    have e : F_keys_Bytes_l1 m (acc, n) = some (.inl (acc ++ keyB k, n + 1)) := by
      unfold F_keys_Bytes_l1
      dsimp only
      rw [if_pos h1, gd_pos h1, gd_pos (by omega), gd_pos (by omega), h2, b4_int hnn, gd_pos (by omega), gd_pos (by omega), gd_pos (by omega)]
      unfold keyB
      by_cases q : k.2.2 = true
      · rw [if_pos q, if_pos q]; simp only [List.append_assoc]
      · rw [if_neg q, if_neg q, gd_pos (by omega)]; simp only [List.append_assoc]
    rw [run_next e (ih (acc ++ keyB k) (n + 1) h3 (by rw [List.length_append, keyB_len hk32]; omega) hm), List.flatMap_cons, List.append_assoc]
theorem P_Bytes {m : List Key} (hk : okK m) (hl : m.length ≤ 1000) : F_keys_Bytes m = some (if mayR m then (ringB m, ((0 : Nat) : Int)) else ([], ((1 : Nat) : Int))) := by
  unfold F_keys_Bytes
  rw [P_may (by omega), bnd_mk]
  by_cases q : mayR m
  · rw [decide_eq_true q, if_pos rfl, if_pos q, P_Bytes1 hk (fun i hi => by have := (incr_get q.1 i hi).1; omega) m _ 0 rfl (by simp; omega) (by omega), bnd_mk]
    rfl
  · rw [decide_eq_false q, if_neg (by decide), if_neg q]
theorem R_Four (n : Nat) : F_casemateref09_Four ((n : Nat) : Int) = some (b4 n) := by
  unfold F_casemateref09_Four
  have st : ∀ (m k : Nat) (l : List Nat), k < 4 → l.length ≤ 100 → F_casemateref09_Four_l1 (l, ((m : Nat) : Int), k) = some (.inl (l ++ [m % 256], ((m / 256 : Nat) : Int), k + 1)) := by
    intro m k l hk hl
    unfold F_casemateref09_Four_l1
    dsimp only
    rw [if_pos hk, gd_pos (by omega), gd_pos (by omega), gd_pos (by omega), gd_pos (by omega), gd_pos (by omega), gd_pos (by omega)]
    congr 5
    omega
  have hx : run F_casemateref09_Four_l1 ([], ((n : Nat) : Int), 0) = some (((([] ++ [n % 256]) ++ [n / 256 % 256]) ++ [n / 256 / 256 % 256]) ++ [n / 256 / 256 / 256 % 256]) := by
    refine run_next (st _ _ _ (by decide) (by simp)) (run_next (st _ _ _ (by decide) (by simp)) (run_next (st _ _ _ (by decide) (by simp)) (run_next (st _ _ _ (by decide) (by simp)) (run_exit ?_))))
    unfold F_casemateref09_Four_l1
    dsimp only
    rw [if_neg (by decide)]
  rw [hx, bnd_mk]
  unfold b4
  rw [Nat.div_div_eq_div_mul, Nat.div_div_eq_div_mul]
  rfl
theorem R_Bytes1 {m : List Key} (hk : okK m) (h0 : ∀ i, i < m.length → 0 ≤ num m i) : ∀ (r : List Key) (acc : List Nat) (n : Nat), m.drop n = r → acc.length + 37 * r.length ≤ 1000000 → m.length ≤ 1000000 → run (F_casemateref21_Bytes_l1 m) (acc, n) = some (acc ++ r.flatMap keyB) := by
  intro r
  induction r with
  | nil =>
    intro acc n h _ _
    have := dropNk h
    rw [List.flatMap_nil, List.append_nil]
    refine run_exit ?_
    unfold F_casemateref21_Bytes_l1
    dsimp only
    rw [if_neg (by omega)]
  | cons k r ih =>
    intro acc n h hb hm
    obtain ⟨h1, h2, h3⟩ := dropCk h kd
    have hkm : k ∈ m := by rw [← h2, List.getD_eq_getElem?_getD, List.getElem?_eq_getElem h1]; exact List.getElem_mem h1
    have hk32 := (hk k hkm).1
    have hnn : 0 ≤ k.1 := by have := h0 n h1; unfold num at this; rw [h2] at this; exact this
    rw [List.length_cons] at hb
    have hz : k.1 = ((k.1.toNat : Nat) : Int) := by omega
    have e : F_casemateref21_Bytes_l1 m (acc, n) = some (.inl (acc ++ keyB k, n + 1)) := by
      unfold F_casemateref21_Bytes_l1
      dsimp only
      rw [if_pos h1, gd_pos h1, h2, hz, R_Four, bnd_mk]
      have hb4 : (b4 k.1.toNat).length = 4 := rfl
      rw [hb4, gd_pos (by omega), gd_pos h1, gd_pos (by omega), gd_pos h1, gd_pos (by omega), gd_pos (by omega), gd_pos (by omega)]
      unfold keyB
      by_cases q : k.2.2 = true
      · rw [if_pos q, if_pos q]; simp only [List.append_assoc]
      · rw [if_neg q, if_neg q, gd_pos (by omega)]; simp only [List.append_assoc]
    rw [run_next e (ih (acc ++ keyB k) (n + 1) h3 (by rw [List.length_append, keyB_len hk32]; omega) hm), List.flatMap_cons, List.append_assoc]
theorem R_Bytes {m : List Key} (hk : okK m) (hm : mayR m) : F_casemateref21_Bytes m = some (ringB m) := by
  have hl := hm.2
  unfold F_casemateref21_Bytes
  have hb4 : (b4 m.length).length = 4 := rfl
  rw [R_Four, bnd_mk, hb4, gd_pos (by omega), R_Bytes1 hk (fun i hi => by have := (incr_get hm.1 i hi).1; omega) m _ 0 rfl (by simp [hb4]; omega) (by omega), bnd_mk]
  rfl
/-! ### Places -/
theorem P_cmp (a b : Int) : F_cmp_Compare_int_ a b = some (if a < b then (-1 : Int) else if b < a then ((1 : Nat) : Int) else ((0 : Nat) : Int)) := by
  unfold F_cmp_Compare_int_ F_cmp_isNaN_int_
  rw [bnd_mk, bnd_mk, decide_eq_true (rfl : a = a), decide_eq_true (rfl : b = b), if_neg (by decide), if_neg (by decide)]
  by_cases q : a < b
  · rw [if_pos q, if_pos q]
  · rw [if_neg q, if_neg q]
    by_cases q2 : b < a
    · rw [if_pos q2, if_pos q2]
    · rw [if_neg q2, if_neg q2]
theorem P_place1 {m : List Key} {a : Int} (hm : incr a m) (hl : m.length ≤ 1000000) (z : Int) : ∃ i, run (F_keys_place_l1 m z) (0, m.length) = some i ∧ i ≤ m.length ∧ (∀ j, j < i → num m j < z) ∧ (∀ j, i ≤ j → j < m.length → z ≤ num m j) := by
  refine run_inv (f := F_keys_place_l1 m z) (fun s : Nat × Nat => s.1 ≤ s.2 ∧ s.2 ≤ m.length ∧ (∀ j, j < s.1 → num m j < z) ∧ (∀ j, s.2 ≤ j → j < m.length → z ≤ num m j)) (fun s => s.2 - s.1) (fun i => i ≤ m.length ∧ (∀ j, j < i → num m j < z) ∧ (∀ j, i ≤ j → j < m.length → z ≤ num m j)) ?_ (0, m.length) ⟨Nat.zero_le _, Nat.le_refl _, fun j h => absurd h (Nat.not_lt_zero j), fun j h1 h2 => by dsimp only at h1; omega⟩
  rintro ⟨lo, hi⟩ ⟨h1, h2, h3, h4⟩
  dsimp only at h1 h2 h3 h4
  unfold F_keys_place_l1
  dsimp only
  by_cases q : lo < hi
  · left
    have e : (2 : Nat) ^ 1 = 2 := rfl
    rw [e, if_pos q, gd_pos (by omega), gd_pos (by omega), gd_pos (by omega), P_cmp, bnd_mk]
    have hmid : (m.getD ((lo + hi) / 2) ((0 : Int), [], false)).1 = num m ((lo + hi) / 2) := rfl
    rw [hmid]
    by_cases q2 : num m ((lo + hi) / 2) < z
    · rw [if_pos q2, if_pos (by decide), gd_pos (by omega)]
      refine ⟨_, rfl, ⟨by dsimp only; omega, h2, fun j hj => ?_, h4⟩, by dsimp only; omega⟩
      dsimp only at hj
      rcases Nat.lt_or_ge j ((lo + hi) / 2) with r | r
      · have := (incr_get hm j (by omega)).2.2 ((lo + hi) / 2) r (by omega); omega
      · rw [show j = (lo + hi) / 2 by omega]; exact q2
    · have hc : ¬ ((if num m ((lo + hi) / 2) < z then (-1 : Int) else if z < num m ((lo + hi) / 2) then ((1 : Nat) : Int) else ((0 : Nat) : Int)) < ((0 : Nat) : Int)) := by
        rw [if_neg q2]; split <;> decide
      rw [if_neg hc]
      refine ⟨_, rfl, ⟨by dsimp only; omega, by dsimp only; omega, h3, fun j hj hjl => ?_⟩, by dsimp only; omega⟩
      dsimp only at hj
      rcases Nat.lt_or_ge ((lo + hi) / 2) j with r | r
      · have := (incr_get hm ((lo + hi) / 2) (by omega)).2.2 j r hjl; omega
      · rw [show j = (lo + hi) / 2 by omega]; omega
  · right
    rw [if_neg q]
    have : lo = hi := by omega
    subst this
    exact ⟨_, rfl, h2, h3, h4⟩
theorem P_place {m : List Key} (hm : mayR m) (z : Int) : (∃ i, i < m.length ∧ num m i = z ∧ F_keys_place m z = some (((i : Nat) : Int), ((0 : Nat) : Int))) ∨ ((∀ i, i < m.length → num m i ≠ z) ∧ F_keys_place m z = some (((0 : Nat) : Int), ((190 : Nat) : Int))) := by
  have hl := hm.2
  obtain ⟨i, h1, h2, h3, h4⟩ := P_place1 hm.1 (by omega) z
  unfold F_keys_place
  rw [P_may (by omega), bnd_mk, decide_eq_true hm, if_pos rfl, h1, bnd_mk]
  by_cases q : i < m.length
  · have hmid : (m.getD i ((0 : Int), [], false)).1 = num m i := rfl
    rw [if_pos q, gd_pos q, P_cmp, bnd_mk, bnd_mk, hmid]
    have hz := h4 i (Nat.le_refl _) q
    by_cases q2 : z < num m i
    · right
      refine ⟨fun j hj e => ?_, ?_⟩
      · rcases Nat.lt_or_ge j i with r | r
        · have := h3 j r; omega
        · rcases Nat.lt_or_ge i j with r2 | r2
          · have := (incr_get hm.1 i q).2.2 j r2 hj; omega
          · rw [show j = i by omega] at e; omega
      · rw [if_neg (by omega), if_pos q2]; rfl
    · left
      refine ⟨i, q, by omega, ?_⟩
      rw [if_neg (by omega), if_neg q2]; rfl
  · right
    refine ⟨fun j hj e => ?_, ?_⟩
    · have := h3 j (by omega); omega
    · rw [if_neg q, bnd_mk]; rfl
theorem P_place_no {m : List Key} (hl : m.length ≤ 1000000) (hm : ¬ mayR m) (z : Int) : F_keys_place m z = some (((0 : Nat) : Int), ((1 : Nat) : Int)) := by
  unfold F_keys_place
  rw [P_may hl, bnd_mk, decide_eq_false hm, if_neg (by decide)]
theorem P_Find_at {m : List Key} {z : Int} {i : Nat} (hi : i < m.length) (h : F_keys_place m z = some (((i : Nat) : Int), ((0 : Nat) : Int))) : F_keys_Find m z = some (if (m.getD i kd).2.2 = true then (List.replicate 32 0, ((190 : Nat) : Int)) else ((m.getD i kd).2.1, ((0 : Nat) : Int))) := by
  unfold F_keys_Find
  rw [h, bnd_mk]
  dsimp only
  rw [if_pos rfl, gd_pos (by omega), gd_pos (by omega), Int.toNat_natCast]
  by_cases q : (m.getD i kd).2.2 = true
  · rw [if_pos q, if_pos q]
  · rw [if_neg q, if_neg q, gd_pos (by omega), gd_pos (by omega)]
theorem P_Find_no {m : List Key} {z e i : Int} (he : e ≠ ((0 : Nat) : Int)) (h : F_keys_place m z = some (i, e)) : F_keys_Find m z = some (List.replicate 32 0, e) := by
  unfold F_keys_Find
  rw [h, bnd_mk]
  dsimp only
  rw [if_neg he]
theorem P_Revoke_at {m : List Key} {z : Int} {i : Nat} (hi : i < m.length) (hl : m.length ≤ 1000) (h : F_keys_place m z = some (((i : Nat) : Int), ((0 : Nat) : Int))) : F_keys_Revoke m z = some (m.set i ((m.getD i kd).1, (m.getD i kd).2.1, true), ((0 : Nat) : Int)) := by
  unfold F_keys_Revoke F_clone
  rw [h, bnd_mk]
  dsimp only
  rw [if_pos rfl, gd_pos (by omega), bnd_mk, gd_pos (by omega), gd_pos (by omega), Int.toNat_natCast]
theorem P_Revoke_no {m : List Key} {z e i : Int} (he : e ≠ ((0 : Nat) : Int)) (h : F_keys_place m z = some (i, e)) : F_keys_Revoke m z = some ([], e) := by
  unfold F_keys_Revoke
  rw [h, bnd_mk]
  dsimp only
  rw [if_neg he]
theorem key_ext {a b : List Key} (hl : a.length = b.length) (h : ∀ i, i < a.length → a.getD i kd = b.getD i kd) : a = b := by
  apply List.ext_getElem hl
  intro i h1 h2
  have := h i h1
  rwa [List.getD_eq_getElem?_getD, List.getD_eq_getElem?_getD, List.getElem?_eq_getElem h1, List.getElem?_eq_getElem h2] at this
theorem R_Same1 {a b : List Key} (hl : a.length = b.length) (ha : a.length ≤ 1000000) : ∀ d n, a.length = n + d → ((∀ i, n ≤ i → i < a.length → a.getD i kd = b.getD i kd) ∧ run (F_casemateref21_Same_l1 a b) n = some (.inl ())) ∨ ((¬ ∀ i, n ≤ i → i < a.length → a.getD i kd = b.getD i kd) ∧ run (F_casemateref21_Same_l1 a b) n = some (.inr false)) := by
  intro d
  induction d with
  | zero =>
    intro n h
    refine .inl ⟨fun i h1 h2 => by omega, run_exit ?_⟩
    unfold F_casemateref21_Same_l1
    rw [if_neg (by omega)]
  | succ d ih =>
    intro n h
    have e : F_casemateref21_Same_l1 a b n = if a.getD n kd = b.getD n kd then some (.inl (n + 1)) else some (.inr (.inr false)) := by
      unfold F_casemateref21_Same_l1
      rw [if_pos (by omega), gd_pos (by omega), gd_pos (by omega), gd_pos (by omega)]
      by_cases q : a.getD n kd = b.getD n kd
      · rw [if_pos q, if_pos ⟨by rw [q], by rw [q], by rw [q]⟩]
      · rw [if_neg q, if_neg (fun hh => q (Prod.ext hh.1 (Prod.ext hh.2.1 hh.2.2)))]
    by_cases q : a.getD n kd = b.getD n kd
    · rw [if_pos q] at e
      rcases ih (n + 1) (by omega) with ⟨r, g⟩ | ⟨r, g⟩
      · refine .inl ⟨fun i h1 h2 => ?_, run_next e g⟩
        rcases Nat.eq_or_lt_of_le h1 with s | s
        · rw [← s]; exact q
        · exact r i s h2
      · exact .inr ⟨fun hh => r (fun i h1 h2 => hh i (by omega) h2), run_next e g⟩
    · rw [if_neg q] at e
      exact .inr ⟨fun hh => q (hh n (Nat.le_refl _) (by omega)), run_exit e⟩
theorem R_Same {a b : List Key} (ha : a.length ≤ 1000000) : F_casemateref21_Same a b = some (decide (a = b)) := by
  unfold F_casemateref21_Same
  by_cases q : a.length = b.length
  · rw [if_pos q]
    rcases R_Same1 q ha a.length 0 (by omega) with ⟨r, g⟩ | ⟨r, g⟩
    · rw [g, bnd_mk, sel_inl, decide_eq_true (key_ext q (fun i hi => r i (Nat.zero_le _) hi))]
    · rw [g, bnd_mk, sel_inr, decide_eq_false (fun e => r (fun i _ _ => by rw [e]))]
  · rw [if_neg q, decide_eq_false (fun e => q (by rw [e]))]
theorem R_Place1 {m : List Key} (hl : m.length ≤ 1000000) (z : Int) : ∀ d n, m.length = n + d → (∃ i, n ≤ i ∧ i < m.length ∧ num m i = z ∧ run (F_casemateref21_Place_l1 m z) n = some (.inr ((i : Nat) : Int))) ∨ ((∀ i, n ≤ i → i < m.length → num m i ≠ z) ∧ run (F_casemateref21_Place_l1 m z) n = some (.inl ())) := by
  intro d
  induction d with
  | zero =>
    intro n h
    refine .inr ⟨fun i h1 h2 => by omega, run_exit ?_⟩
    unfold F_casemateref21_Place_l1
    rw [if_neg (by omega)]
  | succ d ih =>
    intro n h
    have e : F_casemateref21_Place_l1 m z n = if num m n = z then some (.inr (.inr ((n : Nat) : Int))) else some (.inl (n + 1)) := by
      unfold F_casemateref21_Place_l1 num
      rw [if_pos (by omega), gd_pos (by omega), gd_pos (by omega)]
    by_cases q : num m n = z
    · rw [if_pos q] at e
      exact .inl ⟨n, Nat.le_refl _, by omega, q, run_exit e⟩
    · rw [if_neg q] at e
      rcases ih (n + 1) (by omega) with ⟨i, h1, h2, h3, h4⟩ | ⟨h1, h2⟩
      · exact .inl ⟨i, by omega, h2, h3, run_next e h4⟩
      · refine .inr ⟨fun i h3 h4 => ?_, run_next e h2⟩
        rcases Nat.eq_or_lt_of_le h3 with s | s
        · rw [← s]; exact q
        · exact h1 i s h4
theorem R_Place {m : List Key} (hl : m.length ≤ 1000000) (z : Int) : (∃ i, i < m.length ∧ num m i = z ∧ F_casemateref21_Place m z = some ((i : Nat) : Int)) ∨ ((∀ i, i < m.length → num m i ≠ z) ∧ F_casemateref21_Place m z = some (-1 : Int)) := by
  unfold F_casemateref21_Place
  rcases R_Place1 hl z m.length 0 (by omega) with ⟨i, _, h2, h3, h4⟩ | ⟨h1, h2⟩
  · left; exact ⟨i, h2, h3, by rw [h4, bnd_mk, sel_inr]⟩
  · right; exact ⟨fun i hi => h1 i (Nat.zero_le _) hi, by rw [h2, bnd_mk, sel_inl]⟩
end Go.Proofs.Ytmlddodimpmogaa
