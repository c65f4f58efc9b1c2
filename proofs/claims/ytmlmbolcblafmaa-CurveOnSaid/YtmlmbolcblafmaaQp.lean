/- What layer 15's program computes: rows of words, sums, products. Lemmas, no statement of the claim. -/
import Derived.Test.YtmlmbolcblafmaaQf
import Derived.Test.YtmlmbolcblafmaaTb
set_option linter.unusedVariables false
set_option maxRecDepth 10000
namespace Go.Proofs.Ytmlmbolcblafmaa
theorem run_trim {f : Nat → Option (Nat ⊕ Nat)} (l : List Nat) (hl : l.length ≤ 9223372036854775807)
    (hf : ∀ n, f n = if (0 : Nat) < n then (gd ((0 : Int) ≤ (((n : Nat) : Int) - ((1 : Nat) : Int))) (gd ((((n : Nat) : Int) - ((1 : Nat) : Int)) < ((n : Nat) : Int)) (if (l.getD (Int.toNat (((n : Nat) : Int) - ((1 : Nat) : Int))) 0) = 0 then (gd ((0 : Int) ≤ (((n : Nat) : Int) - ((1 : Nat) : Int))) (gd ((Int.toNat (((n : Nat) : Int) - ((1 : Nat) : Int))) ≤ n) (some (.inl (Int.toNat (((n : Nat) : Int) - ((1 : Nat) : Int))))))) else (some (.inr n))))) else (some (.inr n))) :
    run f l.length = some (tlen l) := by
  have key := run_inv (f := f) (fun k : Nat => k ≤ l.length ∧ ∀ j : Nat, k ≤ j → l.getD j 0 = 0) (fun k => k) (fun k => k = tlen l) ?_ l.length ⟨Nat.le_refl _, fun j hj => getD_ge hj⟩
  · obtain ⟨r, hr, rfl⟩ := key
    exact hr
  · rintro k ⟨h2, h3⟩
    rw [hf]
    by_cases q : 0 < k
    · have e : Int.toNat ((k : Int) - ((1 : Nat) : Int)) = k - 1 := by omega
      rw [if_pos q, gd_pos (by omega), gd_pos (by omega), e]
      by_cases a : l.getD (k - 1) 0 = 0
      · left
        rw [if_pos a, gd_pos (by omega), gd_pos (by omega)]
        exact ⟨_, rfl, ⟨by omega, fun j hj => trim_step (fun j hj => h3 j (by omega)) a j (by omega)⟩, by omega⟩
      · right
        rw [if_neg a]
        exact ⟨_, rfl, (tlen_spec l k (by omega) (fun j hj => h3 j (by omega)) (.inr a)).symm⟩
    · right
      rw [if_neg q]
      exact ⟨_, rfl, (tlen_spec l k (by omega) (fun j hj => h3 j (by omega)) (.inl (by omega))).symm⟩
theorem P_nread {l : List Nat} (hb : LB 256 l) (hl : l.length ≤ 1000000000) : F_nums_read l = some (dig 18446744073709551616 (nv 256 l)) := by
  unfold F_nums_read
  rw [gd_pos (by omega), gd_pos (by omega)]
  have key := run_inv (f := F_nums_read_l1 l) (fun s : Nat × List Nat => s.1 ≤ l.length ∧ s.2.length = (l.length + 7) / 8 ∧ LB 18446744073709551616 s.2 ∧ nv 18446744073709551616 s.2 = nv 256 (l.take s.1)) (fun s => l.length - s.1)
    (fun r => r.length = (l.length + 7) / 8 ∧ LB 18446744073709551616 r ∧ nv 18446744073709551616 r = nv 256 l) ?_ (0, List.replicate ((l.length + 7) / 8) 0) ⟨Nat.zero_le _, by simp, LB.rep (by decide) _, by dsimp only; rw [nv_replicate]; rfl⟩
  · obtain ⟨r, hr, h1, h2, h3⟩ := key
    rw [hr, bnd_mk]
    have ht := run_trim (f := F_nums_read_l2 r) r (by omega) (fun n => by unfold F_nums_read_l2; rfl)
    rw [h1] at ht
    rw [ht, bnd_mk, ← h3, ← trimL_dig (by decide) h2]
    rfl
  · rintro ⟨n, z⟩ ⟨h1, h2, h3, h4⟩
    dsimp only at h1 h2 h3 h4
    unfold F_nums_read_l1
    dsimp only
    by_cases q : n < l.length
    · left
      obtain ⟨g1, g2, g3⟩ := read_step q hb h2 h4 (h3.get (by decide) _)
      rw [if_pos q, gd_pos q, gd_pos (by omega), gd_pos (by omega), gd_pos (by omega), gd_pos (by omega)]
      exact ⟨_, rfl, ⟨by dsimp only; omega, g1, h3.set g3 _, g2⟩, by dsimp only; omega⟩
    · right
      rw [if_neg q]
      refine ⟨_, rfl, h2, h3, ?_⟩
      rw [List.take_of_length_le (by omega)] at h4
      exact h4
theorem P_nat {l : List Nat} (i : Nat) : F_nums_row_at l ((i : Nat) : Int) = some (l.getD i 0) := by
  unfold F_nums_row_at
  by_cases q : i < l.length
  · rw [if_pos (by omega), gd_pos (by omega), gd_pos (by omega)]
    congr 2
  · rw [if_neg (by omega), getD_ge (by omega)]
theorem leb_app {b j k x y : Nat} (hb : 0 < b) (hx : x < b ^ j) : leb b j x ++ leb b k y = leb b (j + k) (x + b ^ j * y) := by
  have h1 : (leb b j x ++ leb b k y).length = j + k := by rw [List.length_append, leb_len, leb_len]
  have h2 : LB b (leb b j x ++ leb b k y) := LB.app (leb_lt hb j x) (leb_lt hb k y)
  refine (leb_of hb h1 h2 rfl).trans (leb_of hb (leb_len ..) (leb_lt hb _ _) ?_).symm
  rw [nv_leb hb, nv_append, nv_leb hb, nv_leb hb, leb_len, Nat.mod_eq_of_lt hx, Nat.pow_add, Nat.mod_mul, Nat.add_mul_mod_self_left, Nat.mod_eq_of_lt hx, Nat.add_mul_div_left _ _ (Nat.pow_pos hb), Nat.div_eq_of_lt hx, Nat.zero_add]
theorem bytes_one {w j : Nat} (hj : j < 8) : w / 2 ^ (8 * j) % 256 = w / 256 ^ j % 256 := by
  rw [Nat.pow_mul]
theorem P_word {l acc : List Nat} (hb : LB 18446744073709551616 l) (hl : l.length ≤ 1000000000) (n k : Nat) (ha : acc.length ≤ 10000000000) : run (F_nums_row_bytes_l3 l k) (acc, 0) = some (acc ++ leb 256 8 (l.getD k 0)) := by
  have h := run_for (f := F_nums_row_bytes_l3 l k) (x := acc ++ leb 256 8 (l.getD k 0)) (fun j => (acc ++ (leb 256 8 (l.getD k 0)).take j, j)) 8 (fun j hj => ?_) ?_
  · simpa using h
  · have hlen : (acc ++ (leb 256 8 (l.getD k 0)).take j).length = acc.length + j := by rw [List.length_append, List.length_take, leb_len]; omega
    unfold F_nums_row_bytes_l3
    dsimp only
    rw [if_pos hj, gd_pos (by omega), gd_pos (by rw [hlen]; omega), gd_pos (by omega)]
    congr 3
    rw [List.append_assoc, List.take_add_one, List.getElem?_eq_getElem (by rw [leb_len]; exact hj)]
    congr 2
    have e := leb_get (b := 256) 8 (l.getD k 0) j hj
    rw [List.getD_eq_getElem?_getD, List.getElem?_eq_getElem (by rw [leb_len]; exact hj)] at e
    have e2 : (leb 256 8 (l.getD k 0))[j]'(by rw [leb_len]; exact hj) = l.getD k 0 / 256 ^ j % 256 := e
    rw [e2, bytes_one hj]
    rfl
  · unfold F_nums_row_bytes_l3
    dsimp only
    rw [if_neg (by decide), List.take_of_length_le (by rw [leb_len]; decide)]
theorem P_nbytes {l : List Nat} (hb : LB 18446744073709551616 l) (hl : l.length ≤ 1000000000) : F_nums_row_bytes l = some (dig 256 (nv 18446744073709551616 l)) := by
  unfold F_nums_row_bytes
  have ht := run_trim (f := F_nums_row_bytes_l1 l) l (by omega) (fun n => by unfold F_nums_row_bytes_l1; rfl)
  have hle := tlen_le l
  rw [ht, bnd_mk]
  have h := run_for (f := F_nums_row_bytes_l2 l (tlen l)) (x := leb 256 (8 * tlen l) (nv 18446744073709551616 (l.take (tlen l)))) (fun k => (leb 256 (8 * k) (nv 18446744073709551616 (l.take k)), k)) (tlen l) (fun k hk => ?_) ?_
  · have e : (leb 256 (8 * 0) (nv 18446744073709551616 (l.take 0)), 0) = (([] : List Nat), 0) := rfl
    rw [e] at h
    rw [h, bnd_mk]
    generalize hr : leb 256 (8 * tlen l) (nv 18446744073709551616 (l.take (tlen l))) = r
    have h2 : LB 256 r := by rw [← hr]; exact leb_lt (by decide) _ _
    have h1 : r.length = 8 * tlen l := by rw [← hr, leb_len]
    have h3 : nv 256 r = nv 18446744073709551616 l := by
      rw [← hr, nv_leb (by decide), ← nv_trim _ l, Nat.mod_eq_of_lt]
      · rfl
      · rw [← bp]
        have := nv_lt (l.take (tlen l)) (LB.take hb _)
        rwa [List.length_take, Nat.min_eq_left hle] at this
    have ht2 := run_trim (f := F_nums_row_bytes_l4 r) r (by omega) (fun n => by unfold F_nums_row_bytes_l4; rfl)
    rw [ht2, bnd_mk, ← h3, ← trimL_dig (by decide) h2]
    rfl
  · unfold F_nums_row_bytes_l2
    dsimp only
    rw [if_pos hk, gd_pos hk, P_word hb hl 0 k (by rw [leb_len]; omega), bnd_mk, gd_pos (by omega)]
    congr 3
    have h1 := nv_lt (l.take k) (LB.take hb _)
    rw [List.length_take, Nat.min_eq_left (by omega), bp] at h1
    rw [leb_app (by decide) h1, nv_take_succ _ _ _ (by omega), bp]
    congr 1
  · unfold F_nums_row_bytes_l2
    dsimp only
    rw [if_neg (Nat.lt_irrefl _)]
theorem dig_LB {b : Nat} (hb : 2 ≤ b) (n : Nat) : LB b (dig b n) := (dig_spec hb n).2.2.1
theorem P_nAdd {xs ys : List Nat} (hx : LB 256 xs) (hy : LB 256 ys) (hl : xs.length ≤ 1000000) (hl' : ys.length ≤ 1000000) : F_nums_Add xs ys = some (dig 256 (nv 256 xs + nv 256 ys)) := by
  unfold F_nums_Add
  rw [P_nread hx (by omega), bnd_mk, P_nread hy (by omega), bnd_mk]
  have hX := dig_LB (b := 18446744073709551616) (by decide) (nv 256 xs)
  have hY := dig_LB (b := 18446744073709551616) (by decide) (nv 256 ys)
  have l1 := read_len (M := 1000000) hx rfl hl
  have l2 := read_len (M := 1000000) hy rfl hl'
  have v1 := nv_dig (b := 18446744073709551616) (by decide) (nv 256 xs)
  have v2 := nv_dig (b := 18446744073709551616) (by decide) (nv 256 ys)
  generalize dig 18446744073709551616 (nv 256 xs) = X at *
  generalize dig 18446744073709551616 (nv 256 ys) = Y at *
  rw [gd_pos (by omega), gd_pos (by omega)]
  have key := run_inv (f := F_nums_Add_l1 X Y) (fun s : Nat × Nat × List Nat => s.1 ≤ 1 ∧ s.2.1 ≤ max X.length Y.length + 1 ∧ s.2.2.length = max X.length Y.length + 1 ∧ LB 18446744073709551616 s.2.2 ∧ nv 18446744073709551616 (s.2.2.take s.2.1) + s.1 * 18446744073709551616 ^ s.2.1 = nv 18446744073709551616 (X.take s.2.1) + nv 18446744073709551616 (Y.take s.2.1))
    (fun s => max X.length Y.length + 1 - s.2.1) (fun r => r.length = max X.length Y.length + 1 ∧ LB 18446744073709551616 r ∧ nv 18446744073709551616 r = nv 18446744073709551616 X + nv 18446744073709551616 Y) ?_ (0, 0, List.replicate (max X.length Y.length + 1) 0) ⟨Nat.zero_le _, Nat.zero_le _, by simp, LB.rep (by decide) _, by simp⟩
  · obtain ⟨r, hr, h1, h2, h3⟩ := key
    rw [hr, bnd_mk, P_nbytes h2 (by omega), bnd_mk, h3, v1, v2]
  · rintro ⟨c, n, z⟩ ⟨h1, h2, h3, h4, h5⟩
    dsimp only at h1 h2 h3 h4 h5
    unfold F_nums_Add_l1
    dsimp only
    by_cases q : n < max X.length Y.length + 1
    · left
      have a1 := hX.get (by decide) n
      have a2 := hY.get (by decide) n
      rw [if_pos q, P_nat, bnd_mk, P_nat, bnd_mk, A64 h1, bnd_mk]
      dsimp only
      rw [gd_pos q, gd_pos (by omega)]
      have e := add_step (b := 18446744073709551616) (xs := X) (ys := Y) (zs := z) (k := n) (c := c) (by omega) h5
      refine ⟨_, rfl, ⟨by dsimp only; omega, by dsimp only; omega, by simpa using h3, h4.set (Nat.mod_lt _ (by decide)) _, e⟩, by dsimp only; omega⟩
    · right
      rw [if_neg q]
      exact ⟨_, rfl, h3, h4, add_done h3 (by omega) (by omega) hX hY (by omega) h5⟩
theorem P_nmul_in {xs ys zs : List Nat} {i M : Nat} (hX : LB 18446744073709551616 xs) (hY : LB 18446744073709551616 ys) (hM : M = xs.length + ys.length) (hM2 : M ≤ 10000000) (hi : i < xs.length) (hz : zs.length = M) (hZ : LB 18446744073709551616 zs) (h0 : ∀ j, i + ys.length ≤ j → zs.getD j 0 = 0) (hv : MO 18446744073709551616 xs ys zs i) :
    ∃ c z, run (F_nums_Mul_l2 xs ys i) (0, 0, zs) = some (c, z) ∧ z.length = M ∧ LB 18446744073709551616 z ∧ c < 18446744073709551616 ∧ (∀ j, i + ys.length ≤ j → z.getD j 0 = 0) ∧ MI 18446744073709551616 xs ys z i c ys.length := by
  have key := run_inv (f := F_nums_Mul_l2 xs ys i) (fun s : Nat × Nat × List Nat => s.2.1 ≤ ys.length ∧ s.2.2.length = M ∧ LB 18446744073709551616 s.2.2 ∧ s.1 < 18446744073709551616 ∧ (∀ j, i + ys.length ≤ j → s.2.2.getD j 0 = 0) ∧ MI 18446744073709551616 xs ys s.2.2 i s.1 s.2.1)
    (fun s => ys.length - s.2.1) (fun r => r.2.length = M ∧ LB 18446744073709551616 r.2 ∧ r.1 < 18446744073709551616 ∧ (∀ j, i + ys.length ≤ j → r.2.getD j 0 = 0) ∧ MI 18446744073709551616 xs ys r.2 i r.1 ys.length) ?_ (0, 0, zs) ⟨Nat.zero_le _, hz, hZ, Nat.zero_lt_succ _, h0, MI.start hv⟩
  · obtain ⟨⟨b, z⟩, hr, h⟩ := key
    exact ⟨b, z, hr, h⟩
  · rintro ⟨c, k, z⟩ ⟨h1, h2, h3, h4, h5, h6⟩
    dsimp only at h1 h2 h3 h4 h5 h6
    unfold F_nums_Mul_l2
    dsimp only
    by_cases q : k < ys.length
    · left
      have hx := hX.get (by decide) i
      have hy := hY.get (by decide) k
      have ho := h3.get (by decide) (i + k)
      obtain ⟨e1, e2⟩ := mul_words hx hy ho h4
      rw [if_pos q, gd_pos q, P_Mul64 hx hy, bnd_mk]
      dsimp only
      rw [gd_pos (by clear e1 e2; omega), gd_pos (by clear e1 e2; omega), A64 (by decide), bnd_mk]
      dsimp only
      rw [A64 (by decide), bnd_mk]
      dsimp only
      rw [gd_pos (by clear e1 e2; omega), gd_pos (by clear e1 e2; omega), gd_pos (by clear e1 e2; omega)]
      refine ⟨_, rfl, ⟨by clear e1 e2; dsimp only; omega, by simpa using h2, h3.set (Nat.mod_lt _ (by decide)) _, Nat.mod_lt _ (by decide), fun j hj => ?_, ?_⟩, by clear e1 e2; dsimp only; omega⟩
      · dsimp only
        rw [set_get (by clear e1 e2; omega)]; exact h5 j hj
      · exact MI.step (by clear e1 e2; omega) h6 e1 e2
    · right
      have : k = ys.length := by omega
      subst this
      rw [if_neg q]
      exact ⟨_, rfl, h2, h3, h4, h5, h6⟩
theorem P_nMul {xs ys : List Nat} (hx : LB 256 xs) (hy : LB 256 ys) (hl : xs.length ≤ 1000000) (hl' : ys.length ≤ 1000000) : F_nums_Mul xs ys = some (dig 256 (nv 256 xs * nv 256 ys)) := by
  unfold F_nums_Mul
  rw [P_nread hx (by omega), bnd_mk, P_nread hy (by omega), bnd_mk]
  have hX := dig_LB (b := 18446744073709551616) (by decide) (nv 256 xs)
  have hY := dig_LB (b := 18446744073709551616) (by decide) (nv 256 ys)
  have l1 := read_len (M := 1000000) hx rfl hl
  have l2 := read_len (M := 1000000) hy rfl hl'
  have v1 := nv_dig (b := 18446744073709551616) (by decide) (nv 256 xs)
  have v2 := nv_dig (b := 18446744073709551616) (by decide) (nv 256 ys)
  generalize dig 18446744073709551616 (nv 256 xs) = X at *
  generalize dig 18446744073709551616 (nv 256 ys) = Y at *
  rw [gd_pos (by omega), gd_pos (by omega)]
  have key := run_inv (f := F_nums_Mul_l1 X Y) (fun s : Nat × List Nat => s.1 ≤ X.length ∧ s.2.length = X.length + Y.length ∧ LB 18446744073709551616 s.2 ∧ (∀ j, s.1 + Y.length ≤ j → s.2.getD j 0 = 0) ∧ MO 18446744073709551616 X Y s.2 s.1)
    (fun s => X.length - s.1) (fun r => r.length = X.length + Y.length ∧ LB 18446744073709551616 r ∧ nv 18446744073709551616 r = nv 18446744073709551616 X * nv 18446744073709551616 Y) ?_ (0, List.replicate (X.length + Y.length) 0) ⟨Nat.zero_le _, by simp, LB.rep (by decide) _, fun j _ => rep_getD _ _, MO.start _⟩
  · obtain ⟨r, hr, h1, h2, h3⟩ := key
    rw [hr, bnd_mk, P_nbytes h2 (by omega), bnd_mk, h3, v1, v2]
  · rintro ⟨i, z⟩ ⟨h1, h2, h3, h4, h5⟩
    dsimp only at h1 h2 h3 h4 h5
    unfold F_nums_Mul_l1
    dsimp only
    by_cases q : i < X.length
    · left
      obtain ⟨c, w, g1, g2, g3, g4, g5, g6⟩ := P_nmul_in hX hY rfl (by omega) q h2 h3 h4 h5
      rw [if_pos q, gd_pos q, g1, bnd_mk]
      dsimp only
      by_cases q0 : 0 < Y.length
      · rw [if_pos q0, gd_pos (by omega), gd_pos (by omega), bnd_mk, gd_pos (by omega)]
        refine ⟨_, rfl, ⟨by dsimp only; omega, by simpa using g2, g3.set g4 _, fun j hj => ?_, MI.stop rfl (by omega) (g5 _ (by omega)) g6⟩, by dsimp only; omega⟩
        dsimp only at hj ⊢
        rw [set_get (by omega)]; exact g5 j (by omega)
      · rw [if_neg q0, bnd_mk, gd_pos (by omega)]
        have hY0 : Y.length = 0 := by omega
        refine ⟨_, rfl, ⟨by dsimp only; omega, g2, g3, fun j hj => g5 j (by dsimp only at hj; omega), ?_⟩, by dsimp only; omega⟩
        exact mul_none hY0 g6
    · right
      rw [if_neg q]
      exact ⟨_, rfl, h2, h3, MO.stop (by omega) h5⟩
end Go.Proofs.Ytmlmbolcblafmaa
