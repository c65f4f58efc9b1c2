/- What the plain functions of the reference of layer 15 tell: bytes as numbers. -/
import Derived.Test.YtmlmbolcblafmaaTa
import Derived.Test.YtmlmbolcblafmaaNc
set_option linter.unusedVariables false
set_option linter.unusedSimpArgs false
set_option maxRecDepth 10000
namespace Go.Proofs.Ytmlmbolcblafmaa
/-! ### Digits of a given number -/
def leb (b : Nat) : Nat → Nat → List Nat
  | 0, _ => []
  | k + 1, n => n % b :: leb b k (n / b)
theorem leb_len (b : Nat) : ∀ k n, (leb b k n).length = k
  | 0, _ => rfl
  | k + 1, n => congrArg (· + 1) (leb_len b k (n / b))
theorem leb_lt {b : Nat} (hb : 0 < b) : ∀ k n, LB b (leb b k n)
  | 0, _ => LB.nil
  | k + 1, n => LB.cons (Nat.mod_lt _ hb) (leb_lt hb k (n / b))
theorem nv_leb {b : Nat} (hb : 0 < b) : ∀ k n, nv b (leb b k n) = n % b ^ k
  | 0, n => by rw [Nat.pow_zero, Nat.mod_one]; rfl
  | k + 1, n => by
    show n % b + b * nv b (leb b k (n / b)) = _
    rw [nv_leb hb k, Nat.pow_succ, Nat.mul_comm (b ^ k) b, Nat.mod_mul]
theorem leb_nv {b : Nat} (hb : 0 < b) : ∀ {k : Nat} {l : List Nat}, l.length = k → LB b l → leb b k (nv b l) = l
  | 0, l, h, _ => (List.eq_nil_of_length_eq_zero h).symm
  | k + 1, [], h, _ => by cases h
  | k + 1, x :: r, h, hl => by
    have hx : x < b := hl x (List.mem_cons_self ..)
    show (x + b * nv b r) % b :: leb b k ((x + b * nv b r) / b) = _
    rw [Nat.add_mul_mod_self_left, Nat.mod_eq_of_lt hx, Nat.add_mul_div_left _ _ hb, Nat.div_eq_of_lt hx, Nat.zero_add,
      leb_nv hb (Nat.succ.inj h) (fun y hy => hl y (List.mem_cons_of_mem _ hy))]
theorem leb_of {b k n : Nat} {l : List Nat} (hb : 0 < b) (hl : l.length = k) (h : LB b l) (hn : nv b l = n) : l = leb b k n := by rw [← hn, leb_nv hb hl h]
theorem leb_inj {b k x y : Nat} (hb : 0 < b) (hx : x < b ^ k) (hy : y < b ^ k) (h : leb b k x = leb b k y) : x = y := by
  have := congrArg (nv b) h
  rwa [nv_leb hb, nv_leb hb, Nat.mod_eq_of_lt hx, Nat.mod_eq_of_lt hy] at this
theorem leb_eq {b k x y : Nat} (hb : 0 < b) (hx : x < b ^ k) (hy : y < b ^ k) : leb b k x = leb b k y ↔ x = y := ⟨leb_inj hb hx hy, fun h => h ▸ rfl⟩
theorem leb_zero (b : Nat) : ∀ k, leb b k 0 = List.replicate k 0
  | 0 => rfl
  | k + 1 => by
    show 0 % b :: leb b k (0 / b) = _
    rw [Nat.zero_mod, Nat.zero_div, leb_zero b k]; rfl
theorem leb_get {b : Nat} : ∀ k n i, i < k → (leb b k n).getD i 0 = n / b ^ i % b
  | 0, _, i, h => absurd h (Nat.not_lt_zero _)
  | k + 1, n, 0, _ => by show n % b = _; rw [Nat.pow_zero, Nat.div_one]
  | k + 1, n, i + 1, h => by
    show (leb b k (n / b)).getD i 0 = _
    rw [leb_get k _ i (Nat.lt_of_succ_lt_succ h), Nat.div_div_eq_div_mul, Nat.pow_succ, Nat.mul_comm b]
theorem P_at {l : List Nat} (i : Nat) : F_casemateref15_at l (i : Int) = some ((l.getD i 0 : Nat) : Int) := by
  unfold F_casemateref15_at
  by_cases h : i < l.length
  · rw [if_pos (by omega), gd_pos (by omega), gd_pos (by omega)]; rfl
  · rw [if_neg (by omega), getD_ge (by omega)]
theorem toNat_pred {k : Nat} : (((k + 1 : Nat) : Int) - 1) = (k : Int) := by omega
theorem P_Cmp {xs ys : List Nat} (hx : LB 256 xs) (hy : LB 256 ys) (hl : xs.length ≤ 100000) (hl' : ys.length ≤ 100000) : F_casemateref15_Cmp xs ys = some (cmpI (nv 256 xs) (nv 256 ys)) := by
  unfold F_casemateref15_Cmp
  have key := run_inv (f := F_casemateref15_Cmp_l1 xs ys) (fun z : Int => -1 ≤ z ∧ z < 100001 ∧ ∀ j : Nat, z < j → xs.getD j 0 = ys.getD j 0) (fun z => (z + 1).toNat)
    (fun r => sel (fun _ => some ((0 : Nat) : Int)) r = some (cmpI (nv 256 xs) (nv 256 ys))) ?_ ((((max xs.length ys.length) : Nat) : Int) - ((1 : Nat) : Int)) ⟨by omega, by omega, fun j hj => ?_⟩
  · obtain ⟨r, hr, h⟩ := key
    rw [hr, bnd_mk]; exact h
  · rintro z ⟨h1, h2, h3⟩
    unfold F_casemateref15_Cmp_l1
    by_cases q : 0 ≤ z
    · obtain ⟨k, rfl⟩ : ∃ k : Nat, z = (k : Int) := ⟨z.toNat, by omega⟩
      have h4 : ∀ j, k < j → xs.getD j 0 = ys.getD j 0 := fun j hj => h3 j (by omega)
      rw [if_pos (by omega), P_at, bnd_mk, P_at, bnd_mk]
      by_cases a1 : xs.getD k 0 < ys.getD k 0
      · right
        refine ⟨_, if_pos (by omega), ?_⟩
        rw [sel_inr, cmpI_lt (nv_cmp hx hy h4 a1)]
      · rw [if_neg (by omega), bnd_mk, bnd_mk]
        by_cases a2 : ys.getD k 0 < xs.getD k 0
        · right
          refine ⟨_, if_pos (by omega), ?_⟩
          rw [sel_inr, cmpI_gt (nv_cmp hy hx (fun j hj => (h4 j hj).symm) a2)]; rfl
        · left
          rw [if_neg (by omega), gd_pos (by omega), gd_pos (by omega)]
          refine ⟨_, rfl, ⟨by omega, by omega, fun j hj => ?_⟩, by omega⟩
          rcases Nat.lt_or_ge k j with r | r
          · exact h4 j r
          · have : j = k := by omega
            subst this; omega
    · right
      refine ⟨_, if_neg (by omega), ?_⟩
      rw [sel_inl, cmpI_eq (nv_ext fun j => h3 j (by omega))]; rfl
  · rw [getD_ge (by omega), getD_ge (by omega)]
theorem P_Norm {xs : List Nat} (hx : LB 256 xs) (hl : xs.length ≤ 100000) : F_casemateref15_Norm xs = some (dig 256 (nv 256 xs)) := by
  unfold F_casemateref15_Norm
  have key := run_inv (f := F_casemateref15_Norm_l1 xs) (fun z : Int => 0 ≤ z ∧ z ≤ xs.length ∧ ∀ j : Nat, z ≤ j → xs.getD j 0 = 0) (fun z => z.toNat)
    (fun z => z = (tlen xs : Int)) ?_ ((xs.length : Nat) : Int) ⟨by omega, by omega, fun j hj => getD_ge (by omega)⟩
  · obtain ⟨r, hr, rfl⟩ := key
    have h1 := tlen_le xs
    rw [hr, bnd_mk, gd_pos (by omega), gd_pos (by omega), gd_pos (by omega), ← trimL_dig (by decide) hx]
    rfl
  · rintro z ⟨h1, h2, h3⟩
    unfold F_casemateref15_Norm_l1
    obtain ⟨k, rfl⟩ : ∃ k : Nat, z = (k : Int) := ⟨z.toNat, by omega⟩
    by_cases q : 0 < k
    · have e : Int.toNat ((k : Int) - ((1 : Nat) : Int)) = k - 1 := by omega
      rw [if_pos (by omega), gd_pos (by omega), gd_pos (by omega), gd_pos (by omega), gd_pos (by omega), e]
      by_cases a : xs.getD (k - 1) 0 = 0
      · left
        rw [if_pos a, gd_pos (by omega), gd_pos (by omega)]
        refine ⟨_, rfl, ⟨by omega, by omega, fun j hj => ?_⟩, by omega⟩
        exact trim_step (fun j hj => h3 j (by omega)) a j (by omega)
      · right
        rw [if_neg a]
        exact ⟨_, rfl, by rw [tlen_spec xs k (by omega) (fun j hj => h3 j (by omega)) (.inr a)]⟩
    · right
      rw [if_neg (by omega)]
      exact ⟨_, rfl, by rw [tlen_spec xs k (by omega) (fun j hj => h3 j (by omega)) (.inl (by omega))]⟩
theorem add_step' {a b r z c c' n A B : Nat} (h : z + c * n = A + B) (hr : r + 256 * c' = a + b + c) : z + n * r + c' * (n * 256) = (A + n * a) + (B + n * b) := by
  have e : n * r + c' * (n * 256) = n * (r + 256 * c') := by rw [Nat.mul_add, Nat.mul_left_comm, Nat.mul_comm 256 c']
  rw [Nat.add_assoc, e, hr, Nat.mul_add, Nat.mul_add, Nat.mul_comm n c]
  omega
theorem P_Add15 {xs ys : List Nat} (hx : LB 256 xs) (hy : LB 256 ys) (hl : xs.length ≤ 10000) (hl' : ys.length ≤ 10000) : F_casemateref15_Add xs ys = some (dig 256 (nv 256 xs + nv 256 ys)) := by
  unfold F_casemateref15_Add
  have key := run_inv (f := F_casemateref15_Add_l1 xs ys) (fun s : List Nat × Int × Nat => s.1.length = s.2.2 ∧ s.2.2 ≤ 10001 ∧ LB 256 s.1 ∧ (s.2.1 = 0 ∨ s.2.1 = 1) ∧ (s.2.2 = max xs.length ys.length + 1 → s.2.1 = 0) ∧ s.2.2 ≤ max xs.length ys.length + 1 ∧
      nv 256 s.1 + s.2.1.toNat * 256 ^ s.2.2 = nv 256 (xs.take s.2.2) + nv 256 (ys.take s.2.2)) (fun s => max xs.length ys.length + 1 - s.2.2)
    (fun r => LB 256 r ∧ r.length ≤ 10001 ∧ nv 256 r = nv 256 xs + nv 256 ys) ?_ ([], ((0 : Nat) : Int), 0) ⟨rfl, by decide, LB.nil, .inl rfl, fun _ => rfl, Nat.zero_le _, rfl⟩
  · obtain ⟨r, hr, h1, h2, h3⟩ := key
    rw [hr, bnd_mk, P_Norm h1 (by omega), bnd_mk, h3]
  · rintro ⟨z, c, n⟩ ⟨h1, h2, h3, h4, h5, h6, h7⟩
    dsimp only at h1 h2 h3 h4 h5 h6 h7
    unfold F_casemateref15_Add_l1
    dsimp only
    have a1 := hx.get (by decide) n
    have a2 := hy.get (by decide) n
    obtain ⟨c0, hc0, hc1⟩ : ∃ c0 : Nat, c = (c0 : Int) ∧ c0 ≤ 1 := by
      rcases h4 with e | e
      · exact ⟨0, e, by decide⟩
      · exact ⟨1, e, by decide⟩
    subst hc0
    rw [Int.toNat_natCast] at h7
    by_cases q : n < xs.length ∨ n < ys.length ∨ 0 < c0
    · have e : (if n < xs.length then (some (.inl ())) else (if n < ys.length then (some (.inl ())) else (if ((0 : Nat) : Int) < (c0 : Int) then (some (.inl ())) else (some (.inr (.inr z))))) : Option (Unit ⊕ (((List Nat) × Int × Nat) ⊕ (List Nat)))) = some (.inl ()) := by
        by_cases q1 : n < xs.length
        · rw [if_pos q1]
        · by_cases q2 : n < ys.length
          · rw [if_neg q1, if_pos q2]
          · rw [if_neg q1, if_neg q2, if_pos (by omega)]
      have hn : n ≤ max xs.length ys.length := by
        apply Classical.byContradiction
        intro hh
        have := h5 (by omega)
        omega
      rw [e, bnd_mk, sel_inl, P_at, bnd_mk, P_at, bnd_mk]
      have e2 : (((xs.getD n 0 : Nat) : Int) + ((ys.getD n 0 : Nat) : Int) + (c0 : Int)) = ((xs.getD n 0 + ys.getD n 0 + c0 : Nat) : Int) := by omega
      rw [gd_pos (by omega), gd_pos (by omega), e2, gd_pos (by omega), gd_pos (by omega), gd_pos (by omega), gd_pos (by omega), gd_pos (by omega), gd_pos (by omega), gd_pos (by omega), gd_pos (by omega)]
      generalize hs : xs.getD n 0 + ys.getD n 0 + c0 = s
      have e3 : Int.toNat (((s : Int) % ((256 : Nat) : Int)) % ((256 : Nat) : Int)) = s % 256 := by omega
      have e4 : (s : Int) / ((256 : Nat) : Int) = ((s / 256 : Nat) : Int) := by omega
      rw [e3, e4]
      left
      refine ⟨_, rfl, ⟨by simp [h1], by dsimp only; omega, LB.app h3 (LB.cons (Nat.mod_lt _ (by decide)) LB.nil), by dsimp only; omega, fun e5 => ?_, by dsimp only; omega, ?_⟩, by dsimp only; omega⟩
      · dsimp only at e5 ⊢
        rw [getD_ge (xs := xs) (by omega), getD_ge (xs := ys) (by omega)] at hs
        omega
      · dsimp only
        rw [nv_append, h1, nv_at', nv_at', Int.toNat_natCast, Nat.pow_succ]
        show nv 256 z + 256 ^ n * (s % 256 + 256 * 0) + _ = _
        rw [Nat.mul_zero, Nat.add_zero]
        exact add_step' h7 (by omega)
    · have e : (if n < xs.length then (some (.inl ())) else (if n < ys.length then (some (.inl ())) else (if ((0 : Nat) : Int) < (c0 : Int) then (some (.inl ())) else (some (.inr (.inr z))))) : Option (Unit ⊕ (((List Nat) × Int × Nat) ⊕ (List Nat)))) = some (.inr (.inr z)) := by
        rw [if_neg (by omega), if_neg (by omega), if_neg (by omega)]
      rw [e, bnd_mk, sel_inr]
      right
      refine ⟨_, rfl, h3, by omega, ?_⟩
      have : c0 = 0 := by omega
      subst this
      rw [List.take_of_length_le (by omega), List.take_of_length_le (by omega)] at h7
      omega
theorem sub_step' {a b r z c c' n A B : Nat} (h : z + B = A + c * n) (hr : r + b + c = a + 256 * c') : z + n * r + (B + n * b) = (A + n * a) + c' * (n * 256) := by
  have e := congrArg (n * ·) hr
  simp only [Nat.mul_add] at e
  rw [show c' * (n * 256) = n * (256 * c') by rw [Nat.mul_left_comm, Nat.mul_comm 256, Nat.mul_left_comm]]
  rw [Nat.mul_comm c n] at h
  omega
theorem P_Sub15 {xs ys : List Nat} (hx : LB 256 xs) (hy : LB 256 ys) (hl : xs.length ≤ 10000) (hl' : ys.length ≤ 10000) : F_casemateref15_Sub xs ys = some (dig 256 (nv 256 xs - nv 256 ys)) := by
  unfold F_casemateref15_Sub
  rw [P_Cmp hx hy (by omega) (by omega), bnd_mk]
  by_cases q : nv 256 xs < nv 256 ys
  · rw [cmpI_lt q, if_pos (by decide), show nv 256 xs - nv 256 ys = 0 by omega]; rfl
  · have hc : ¬ cmpI (nv 256 xs) (nv 256 ys) < ((0 : Nat) : Int) := by unfold cmpI; rw [if_neg q]; split <;> decide
    rw [if_neg hc]
    have key := run_inv (f := F_casemateref15_Sub_l1 xs ys) (fun s : Nat × List Nat × Nat => s.2.1.length = s.2.2 ∧ s.2.2 ≤ xs.length ∧ LB 256 s.2.1 ∧ s.1 ≤ 1 ∧ nv 256 s.2.1 + nv 256 (ys.take s.2.2) = nv 256 (xs.take s.2.2) + s.1 * 256 ^ s.2.2)
      (fun s => xs.length - s.2.2) (fun r => LB 256 r ∧ r.length = xs.length ∧ nv 256 r = nv 256 xs - nv 256 ys) ?_ (0, [], 0) ⟨rfl, Nat.zero_le _, LB.nil, by decide, rfl⟩
    · obtain ⟨r, hr, h1, h2, h3⟩ := key
      rw [hr, bnd_mk, P_Norm h1 (by omega), bnd_mk, h3]
    · rintro ⟨c, z, n⟩ ⟨h1, h2, h3, h4, h5⟩
      dsimp only at h1 h2 h3 h4 h5
      unfold F_casemateref15_Sub_l1
      dsimp only
      have a1 := hx.get (by decide) n
      have a2 := hy.get (by decide) n
      by_cases q1 : n < xs.length
      · left
        rw [if_pos q1, P_at, bnd_mk, P_at, bnd_mk, gd_pos (by omega), gd_pos (by omega), gd_pos (by omega), gd_pos (by omega)]
        by_cases q2 : xs.getD n 0 < ys.getD n 0 + c
        · rw [if_pos (by omega), gd_pos (by omega), gd_pos (by omega), bnd_mk, gd_pos (by omega), gd_pos (by omega)]
          have e3 : Int.toNat ((((xs.getD n 0 : Nat) : Int) - ((ys.getD n 0 : Nat) : Int) - (c : Int) + ((256 : Nat) : Int)) % ((256 : Nat) : Int)) = xs.getD n 0 + 256 - ys.getD n 0 - c := by omega
          rw [e3]
          refine ⟨_, rfl, ⟨by simp [h1], by dsimp only; omega, LB.app h3 (LB.cons (by omega) LB.nil), by dsimp only; omega, ?_⟩, by dsimp only; omega⟩
          dsimp only
          rw [nv_append, h1, nv_at', nv_at', Nat.pow_succ]
          show nv 256 z + 256 ^ n * (_ + 256 * 0) + _ = _
          rw [Nat.mul_zero, Nat.add_zero]
          exact sub_step' h5 (by omega)
        · rw [if_neg (by omega), bnd_mk, gd_pos (by omega), gd_pos (by omega)]
          have e3 : Int.toNat ((((xs.getD n 0 : Nat) : Int) - ((ys.getD n 0 : Nat) : Int) - (c : Int)) % ((256 : Nat) : Int)) = xs.getD n 0 - ys.getD n 0 - c := by omega
          rw [e3]
          refine ⟨_, rfl, ⟨by simp [h1], by dsimp only; omega, LB.app h3 (LB.cons (by omega) LB.nil), by dsimp only; omega, ?_⟩, by dsimp only; omega⟩
          dsimp only
          rw [nv_append, h1, nv_at', nv_at', Nat.pow_succ]
          show nv 256 z + 256 ^ n * (_ + 256 * 0) + _ = _
          rw [Nat.mul_zero, Nat.add_zero]
          exact sub_step' h5 (by omega)
      · right
        rw [if_neg q1]
        refine ⟨_, rfl, h3, by omega, ?_⟩
        have hn : n = xs.length := by omega
        subst hn
        rw [List.take_length] at h5
        have h6 := nv_lt z h3
        have h7 := nv_lt xs hx
        rw [h1] at h6
        have h8 : nv 256 ys = nv 256 (ys.take xs.length) ∨ 256 ^ xs.length ≤ nv 256 ys := by
          rcases Nat.lt_or_ge xs.length ys.length with r | r
          · have h9 := nv_split 256 ys xs.length (by omega)
            rcases Nat.eq_zero_or_pos (nv 256 (ys.drop xs.length)) with r2 | r2
            · rw [r2] at h9; exact .inl (by omega)
            · exact .inr (by rw [h9]; exact Nat.le_trans (Nat.le_mul_of_pos_right _ r2) (Nat.le_add_left ..))
          · rw [List.take_of_length_le r]; exact .inl rfl
        have : c = 0 ∨ c = 1 := by omega
        rcases this with rfl | rfl <;> omega
/-- how far a row of products has come -/
def MI (b : Nat) (xs ys z : List Nat) (i c k : Nat) : Prop := nv b z + c * b ^ (i + k) = nv b (xs.take i) * nv b ys + b ^ i * (xs.getD i 0 * nv b (ys.take k))
def MO (b : Nat) (xs ys z : List Nat) (i : Nat) : Prop := nv b z = nv b (xs.take i) * nv b ys
theorem MI.start {b : Nat} {xs ys z : List Nat} {i : Nat} (h : MO b xs ys z i) : MI b xs ys z i 0 0 := by
  unfold MI
  rw [Nat.zero_mul, List.take_zero]
  show _ = _ + _ * (_ * 0)
  rw [Nat.mul_zero, Nat.mul_zero]
  exact h
theorem MI.step {b : Nat} {xs ys z : List Nat} {i k c v d : Nat} (hk : i + k < z.length) (h : MI b xs ys z i c k) (hv : v = (xs.getD i 0 * ys.getD k 0 + z.getD (i + k) 0 + c) % b) (hd : d = (xs.getD i 0 * ys.getD k 0 + z.getD (i + k) 0 + c) / b) :
    MI b xs ys (z.set (i + k) v) i d (k + 1) := by subst hv hd; exact mul_step hk h
theorem MI.stop {b : Nat} {xs ys z : List Nat} {i c m : Nat} (hm : ys.length = m) (hk : i + m < z.length) (h0 : z.getD (i + m) 0 = 0) (h : MI b xs ys z i c m) : MO b xs ys (z.set (i + m) c) (i + 1) := mul_row hm hk h0 h
theorem MI.stop0 {b : Nat} {xs ys z : List Nat} {i m : Nat} (hm : ys.length ≤ m) (h : MI b xs ys z i 0 m) : MO b xs ys z (i + 1) := by
  unfold MI at h
  unfold MO
  rw [Nat.zero_mul, Nat.add_zero, List.take_of_length_le hm] at h
  rw [h, nv_at', Nat.add_mul, Nat.mul_assoc]
theorem MO.start {b : Nat} {xs ys : List Nat} (n : Nat) : MO b xs ys (List.replicate n 0) 0 := by
  unfold MO
  rw [nv_replicate, List.take_zero]
  show 0 = 0 * _
  rw [Nat.zero_mul]
theorem MO.stop {b : Nat} {xs ys z : List Nat} {i : Nat} (hi : i = xs.length) (h : MO b xs ys z i) : nv b z = nv b xs * nv b ys := by
  subst hi
  unfold MO at h
  rwa [List.take_length] at h
theorem set_get {xs : List Nat} {i j v : Nat} (h : i ≠ j) : (xs.set i v).getD j 0 = xs.getD j 0 := by
  rcases Nat.lt_or_ge i xs.length with q | q
  · rw [getD_set _ _ _ _ q, if_neg h]
  · rw [List.set_eq_of_length_le q]
end Go.Proofs.Ytmlmbolcblafmaa
