/- Laws of layer 20 in plain law: manifests out of their bytes, there and back. Lemmas, no statement of the claim. -/
import Derived.Test.YtmlddodimpmogaaVd
set_option linter.unusedVariables false
set_option linter.unusedSimpArgs false
set_option maxRecDepth 10000
namespace Go.Proofs.Ytmlddodimpmogaa
def psg (l : List Nat) (p : Nat) : Seg := (((n4 l p : Nat) : Int), ((n4 l (p + 4) : Nat) : Int), (l.drop (p + 8)).take 32)
def psm (l : List Nat) (k : Nat) : List Seg := (List.range k).map (fun j => psg l (24 + 40 * j))
def mayL (l : List Nat) : Prop := mayM ((n4 l 4 : Nat) : Int) ((n4 l 8 : Nat) : Int) ((n4 l 12 : Nat) : Int) ((n4 l 16 : Nat) : Int) (psm l (n4 l 20))
instance (l : List Nat) : Decidable (mayL l) := by unfold mayL; exact inferInstance
def fitM (l : List Nat) : Prop := 24 ≤ l.length ∧ l.take 4 = [109, 97, 110, 105] ∧ n4 l 20 ≤ 8 ∧ l.length = 24 + 40 * n4 l 20 ∧ mayL l
instance (l : List Nat) : Decidable (fitM l) := by unfold fitM; exact inferInstance
theorem psm_len (l : List Nat) (k : Nat) : (psm l k).length = k := by unfold psm; rw [List.length_map, List.length_range]
theorem psm_ok {l : List Nat} (hb : LB 256 l) {k : Nat} (hk : 24 + 40 * k ≤ l.length) : okG (psm l k) := by
  intro s hs
  obtain ⟨j, h1, rfl⟩ := List.mem_map.1 hs
  have h3 := List.mem_range.1 h1
  refine ⟨?_, (hb.drop _).take _⟩
  show ((l.drop (24 + 40 * j + 8)).take 32).length = 32
  rw [List.length_take, List.length_drop]; omega
theorem psm_snoc (l : List Nat) (k : Nat) : psm l k ++ [psg l (24 + 40 * k)] = psm l (k + 1) := range_snoc _ _
/-! ### The program reads -/
section
variable {l : List Nat} (hb : LB 256 l) (hl : l.length ≤ 10000)
include hb hl
abbrev PSt := Nat × Nat × Nat × Nat × Nat × (List Seg) × Nat × Nat
theorem P_loop (hn : n4 l 20 ≤ 8) (v s k e : Nat) (h24 : 24 ≤ l.length) : ∃ r, run (F_manifest_Parse_l1 l 20) (0, v, s, k, e, [], 24, l.length - 24) = some r ∧
    ((24 + 40 * n4 l 20 ≤ l.length ∧ r = .inl (v, s, k, e, psm l (n4 l 20), 24 + 40 * n4 l 20, l.length - (24 + 40 * n4 l 20))) ∨ (l.length < 24 + 40 * n4 l 20 ∧ ∃ x, r = .inr (false, x))) := by
  have hsh : ∀ i k, k ≤ 24 → (l.getD i 0) <<< k ≤ 9223372036854775807 := fun i k hk => sh_le (hb.get (by decide) i) hk
  have e20 : (((l.getD 20 0) ||| ((l.getD (20 + 1) 0) <<< 8)) ||| ((l.getD (20 + 2) 0) <<< 16)) ||| ((l.getD (20 + 3) 0) <<< 24) = n4 l 20 := n4_or hb 20
  refine run_inv (f := F_manifest_Parse_l1 l 20) (fun s' : PSt => ∃ j, j ≤ n4 l 20 ∧ 24 + 40 * j ≤ l.length ∧ s' = (j, v, s, k, e, psm l j, 24 + 40 * j, l.length - (24 + 40 * j))) (fun s' => n4 l 20 - s'.1) _ ?_ _ ⟨0, Nat.zero_le _, h24, rfl⟩
  rintro _ ⟨j, hj, hj2, rfl⟩
  by_cases q : j < n4 l 20
  · have e1 := n4_or hb (24 + 40 * j)
    have e2 := n4_or hb (24 + 40 * j + 4)
    unfold F_manifest_Parse_l1
    try dsimp only
    rw [e20, if_pos q]
    by_cases q1 : 4 ≤ l.length - (24 + 40 * j)
    · rw [if_pos q1, gd_pos q1, gd_pos q1, gd_pos (hsh _ _ (by decide)), gd_pos (hsh _ _ (by decide)), gd_pos (hsh _ _ (by decide))]
      by_cases q2 : 4 ≤ l.length - (24 + 40 * j) - 4
      · rw [if_pos q2, gd_pos q2, gd_pos q2, gd_pos (hsh _ _ (by decide)), gd_pos (hsh _ _ (by decide)), gd_pos (hsh _ _ (by decide))]
        by_cases q3 : 32 ≤ l.length - (24 + 40 * j) - 4 - 4
        · left
          rw [if_pos q3, gd_pos q3, gd_pos q3, gd_pos (by rw [psm_len]; omega), gd_pos (by omega), e1, e2]
          refine ⟨_, rfl, ⟨j + 1, by omega, by omega, ?_⟩, by dsimp only; omega⟩
          rw [← psm_snoc, show 24 + 40 * (j + 1) = 24 + 40 * j + 4 + 4 + 32 by omega, show l.length - (24 + 40 * j + 4 + 4 + 32) = l.length - (24 + 40 * j) - 4 - 4 - 32 by omega]
          rfl
        · right
          rw [if_neg q3, if_neg q3]
          exact ⟨_, rfl, .inr ⟨by omega, _, rfl⟩⟩
      · right
        rw [if_neg q2]
        exact ⟨_, rfl, .inr ⟨by omega, _, rfl⟩⟩
    · right
      rw [if_neg q1]
      exact ⟨_, rfl, .inr ⟨by omega, _, rfl⟩⟩
  · right
    have : j = n4 l 20 := by omega
    subst this
    unfold F_manifest_Parse_l1
    try dsimp only
    rw [e20, if_neg q]
    exact ⟨_, rfl, .inl ⟨hj2, rfl⟩⟩
omit hb hl in
theorem P_seg2 {m : List Seg} {n : Nat} {s : Seg} (hs : m.getD n ((0 : Int), (0 : Int), []) = s) (hn : n < m.length) (hn2 : n ≤ 1000000) (v w k e : Nat) (a : Int) : F_manifest_Parse_l2 v w k e m (a, n) = some (if segOk a s then .inl (s.1 + s.2.1, n + 1) else .inr (false, v, w, k, e, m)) := by
  unfold F_manifest_Parse_l2
  try dsimp only
  rw [if_pos hn, gd_pos hn, hs, show ([s.1, s.2.1].getD 0 (0 : Int)) = s.1 from rfl, show ([s.1, s.2.1].getD 1 (0 : Int)) = s.2.1 from rfl]
  by_cases q1 : 0 ≤ s.1
  · rw [if_pos (show ((0 : Nat) : Int) ≤ s.1 from q1)]
    by_cases q2 : s.1 ≤ 2147483647
    · rw [if_pos (show s.1 ≤ ((2147483647 : Nat) : Int) from q2)]
      by_cases q3 : 0 ≤ s.2.1
      · rw [if_pos (show ((0 : Nat) : Int) ≤ s.2.1 from q3)]
        by_cases q4 : s.2.1 ≤ 2147483647
        · rw [if_pos (show s.2.1 ≤ ((2147483647 : Nat) : Int) from q4)]
          by_cases q5 : s.2.1 ≤ 1048576
          · rw [if_pos (show s.2.1 ≤ ((1048576 : Nat) : Int) from q5)]
            by_cases q6 : a ≤ s.1
            · rw [if_pos q6, gd_pos (by omega), gd_pos (by omega)]
              by_cases q7 : s.1 + s.2.1 ≤ 2147483647
              · rw [if_pos (show s.1 + s.2.1 ≤ ((2147483647 : Nat) : Int) from q7), gd_pos (by omega), gd_pos (by omega), gd_pos (by omega), if_pos ⟨q1, q2, q3, q5, q7, q6⟩]
              · rw [if_neg (show ¬ s.1 + s.2.1 ≤ ((2147483647 : Nat) : Int) from q7), if_neg (fun h => q7 h.2.2.2.2.1)]
            · rw [if_neg q6, if_neg (fun h => q6 h.2.2.2.2.2)]
          · rw [if_neg (show ¬ s.2.1 ≤ ((1048576 : Nat) : Int) from q5), if_neg (fun h => q5 h.2.2.2.1)]
        · rw [if_neg (show ¬ s.2.1 ≤ ((2147483647 : Nat) : Int) from q4), if_neg (fun h => q4 (by have := h.2.2.2.1; omega))]
      · rw [if_neg (show ¬ ((0 : Nat) : Int) ≤ s.2.1 from q3), if_neg (fun h => q3 h.2.2.1)]
    · rw [if_neg (show ¬ s.1 ≤ ((2147483647 : Nat) : Int) from q2), if_neg (fun h => q2 h.2.1)]
  · rw [if_neg (show ¬ ((0 : Nat) : Int) ≤ s.1 from q1), if_neg (fun h => q1 h.1)]
omit hb hl in
theorem P_segs2 {m : List Seg} (hl : m.length ≤ 1000000) (v w k e : Nat) : ∀ (r : List Seg) (a : Int) (n : Nat), m.drop n = r → run (F_manifest_Parse_l2 v w k e m) (a, n) = some (decide (segs a r), v, w, k, e, m) := by
  intro r
  induction r with
  | nil =>
    intro a n h
    have := dropNk h
    rw [decide_eq_true (show segs a [] from trivial)]
    refine run_exit ?_
    unfold F_manifest_Parse_l2
    try dsimp only
    rw [if_neg (by omega)]
  | cons s r ih =>
    intro a n h
    obtain ⟨h1, h2, h3⟩ := dropCk h sd
    have e := P_seg2 h2 h1 (by omega) v w k e a
    by_cases q : segOk a s
    · rw [if_pos q] at e
      rw [run_next e (ih _ _ h3)]
      by_cases q2 : segs (s.1 + s.2.1) r
      · rw [decide_eq_true q2, decide_eq_true (show segs a (s :: r) from ⟨q, q2⟩)]
      · rw [decide_eq_false q2, decide_eq_false (show ¬ segs a (s :: r) from fun h => q2 h.2)]
    · rw [if_neg q] at e
      rw [run_exit e, decide_eq_false (show ¬ segs a (s :: r) from fun h => q h.1)]
theorem P_ParseM : F_manifest_Parse l = some (if fitM l then (((n4 l 4 : Nat) : Int), ((n4 l 8 : Nat) : Int), ((n4 l 12 : Nat) : Int), ((n4 l 16 : Nat) : Int), psm l (n4 l 20), ((0 : Nat) : Int)) else (((0 : Nat) : Int), ((0 : Nat) : Int), ((0 : Nat) : Int), ((0 : Nat) : Int), [], ((4 : Nat) : Int))) := by
  have hsh : ∀ i k, k ≤ 24 → (l.getD i 0) <<< k ≤ 9223372036854775807 := fun i k hk => sh_le (hb.get (by decide) i) hk
  have e4 : ((((l.getD 4 0) ||| ((l.getD 5 0) <<< 8)) ||| ((l.getD 6 0) <<< 16)) ||| ((l.getD 7 0) <<< 24)) = n4 l 4 := n4_or hb 4
  have e8 : ((((l.getD 8 0) ||| ((l.getD 9 0) <<< 8)) ||| ((l.getD 10 0) <<< 16)) ||| ((l.getD 11 0) <<< 24)) = n4 l 8 := n4_or hb 8
  have e12 : ((((l.getD 12 0) ||| ((l.getD 13 0) <<< 8)) ||| ((l.getD 14 0) <<< 16)) ||| ((l.getD 15 0) <<< 24)) = n4 l 12 := n4_or hb 12
  have e16 : ((((l.getD 16 0) ||| ((l.getD 17 0) <<< 8)) ||| ((l.getD 18 0) <<< 16)) ||| ((l.getD 19 0) <<< 24)) = n4 l 16 := n4_or hb 16
  have e20 : (((l.getD 20 0) ||| ((l.getD (20 + 1) 0) <<< 8)) ||| ((l.getD (20 + 2) 0) <<< 16)) ||| ((l.getD (20 + 3) 0) <<< 24) = n4 l 20 := n4_or hb 20
  unfold F_manifest_Parse
  rw [e4, e8, e12, e16]
  have fin : ∀ (X : Option (Bool × Nat × Nat × Nat × Nat × List Seg)), (∃ x, X = some (false, x)) → ¬ fitM l → bnd X (fun (b2, n3, n4, n5, n6, m7) => if b2 = true then (some (((n3 : Nat) : Int), ((n4 : Nat) : Int), ((n5 : Nat) : Int), ((n6 : Nat) : Int), m7, ((0 : Nat) : Int))) else (some (((0 : Nat) : Int), ((0 : Nat) : Int), ((0 : Nat) : Int), ((0 : Nat) : Int), [], ((4 : Nat) : Int)))) =
      some (if fitM l then (((n4 l 4 : Nat) : Int), ((n4 l 8 : Nat) : Int), ((n4 l 12 : Nat) : Int), ((n4 l 16 : Nat) : Int), psm l (n4 l 20), ((0 : Nat) : Int)) else (((0 : Nat) : Int), ((0 : Nat) : Int), ((0 : Nat) : Int), ((0 : Nat) : Int), [], ((4 : Nat) : Int))) := by
    rintro X ⟨x, rfl⟩ h
    rw [bnd_mk, if_neg h]
    rfl
  by_cases q0 : 4 ≤ l.length
  case neg => exact fin _ ⟨_, if_neg q0⟩ (fun h => by have := h.1; omega)
  rw [if_pos q0, gd_pos q0, gd_pos q0]
  by_cases qm : l.take 4 = [109, 97, 110, 105]
  case neg => exact fin _ ⟨_, if_neg qm⟩ (fun h => qm h.2.1)
  rw [if_pos qm]
  by_cases q1 : 4 ≤ l.length - 4
  case neg =>
    rw [if_neg q1, bnd_mk, sel_inr]
    exact fin _ ⟨_, rfl⟩ (fun h => by have := h.1; omega)
  rw [if_pos q1, gd_pos q1, gd_pos q1, gd_pos (hsh _ _ (by decide)), gd_pos (hsh _ _ (by decide)), gd_pos (hsh _ _ (by decide))]
  by_cases q2 : 4 ≤ l.length - 4 - 4
  case neg =>
    rw [if_neg q2, bnd_mk, sel_inr]
    exact fin _ ⟨_, rfl⟩ (fun h => by have := h.1; omega)
  rw [if_pos q2, gd_pos q2, gd_pos q2, gd_pos (hsh _ _ (by decide)), gd_pos (hsh _ _ (by decide)), gd_pos (hsh _ _ (by decide))]
  by_cases q3 : 4 ≤ l.length - 4 - 4 - 4
  case neg =>
    rw [if_neg q3, bnd_mk, sel_inr]
    exact fin _ ⟨_, rfl⟩ (fun h => by have := h.1; omega)
  rw [if_pos q3, gd_pos q3, gd_pos q3, gd_pos (hsh _ _ (by decide)), gd_pos (hsh _ _ (by decide)), gd_pos (hsh _ _ (by decide))]
  by_cases q4 : 4 ≤ l.length - 4 - 4 - 4 - 4
  case neg =>
    rw [if_neg q4, bnd_mk, sel_inr]
    exact fin _ ⟨_, rfl⟩ (fun h => by have := h.1; omega)
  rw [if_pos q4, gd_pos q4, gd_pos q4, gd_pos (hsh _ _ (by decide)), gd_pos (hsh _ _ (by decide)), gd_pos (hsh _ _ (by decide)), bnd_mk, sel_inl]
  try dsimp only
  by_cases q5 : 4 ≤ l.length - 4 - 4 - 4 - 4 - 4
  case neg => exact fin _ ⟨_, if_neg q5⟩ (fun h => by have := h.1; omega)
  rw [if_pos q5, gd_pos q5, gd_pos q5, gd_pos (hsh _ _ (by decide)), gd_pos (hsh _ _ (by decide)), gd_pos (hsh _ _ (by decide)), e20]
  by_cases q6 : n4 l 20 ≤ 8
  case neg => exact fin _ ⟨_, if_neg q6⟩ (fun h => q6 h.2.2.1)
  rw [if_pos q6]
  obtain ⟨r, hr, hc⟩ := P_loop hb hl q6 (n4 l 4) (n4 l 8) (n4 l 12) (n4 l 16) (by omega)
  have hr : run (F_manifest_Parse_l1 l 20) (0, n4 l 4, n4 l 8, n4 l 12, n4 l 16, [], 20 + 4, l.length - 4 - 4 - 4 - 4 - 4 - 4) = some r := by
    rw [show l.length - 4 - 4 - 4 - 4 - 4 - 4 = l.length - 24 by omega]; exact hr
  rw [hr, bnd_mk]
  rcases hc with ⟨h1, rfl⟩ | ⟨h1, x, rfl⟩
  case inr =>
    rw [sel_inr]
    exact fin _ ⟨_, rfl⟩ (fun h => by have := h.2.2.2.1; omega)
  rw [sel_inl]
  try dsimp only
  by_cases q7 : l.length - (24 + 40 * n4 l 20) = 0
  case neg => exact fin _ ⟨_, if_neg q7⟩ (fun h => by have := h.2.2.2.1; omega)
  rw [if_pos q7]
  have g : ∀ i, i < 4 → True := fun _ _ => trivial
  rw [show ([((n4 l 4 : Nat) : Int), ((n4 l 8 : Nat) : Int), ((n4 l 12 : Nat) : Int), ((n4 l 16 : Nat) : Int)].getD 0 (0 : Int)) = ((n4 l 4 : Nat) : Int) from rfl, show ([((n4 l 4 : Nat) : Int), ((n4 l 8 : Nat) : Int), ((n4 l 12 : Nat) : Int), ((n4 l 16 : Nat) : Int)].getD 1 (0 : Int)) = ((n4 l 8 : Nat) : Int) from rfl, show ([((n4 l 4 : Nat) : Int), ((n4 l 8 : Nat) : Int), ((n4 l 12 : Nat) : Int), ((n4 l 16 : Nat) : Int)].getD 2 (0 : Int)) = ((n4 l 12 : Nat) : Int) from rfl, show ([((n4 l 4 : Nat) : Int), ((n4 l 8 : Nat) : Int), ((n4 l 12 : Nat) : Int), ((n4 l 16 : Nat) : Int)].getD 3 (0 : Int)) = ((n4 l 16 : Nat) : Int) from rfl]
  rw [if_pos (show ((0 : Nat) : Int) ≤ ((n4 l 4 : Nat) : Int) by omega), if_pos (show ((0 : Nat) : Int) ≤ ((n4 l 8 : Nat) : Int) by omega), if_pos (show ((0 : Nat) : Int) ≤ ((n4 l 12 : Nat) : Int) by omega), if_pos (show ((0 : Nat) : Int) ≤ ((n4 l 16 : Nat) : Int) by omega)]
  by_cases p1 : ((n4 l 4 : Nat) : Int) ≤ ((2147483647 : Nat) : Int)
  case neg => exact fin _ ⟨_, if_neg p1⟩ (fun h => p1 h.2.2.2.2.1.1.2)
  rw [if_pos p1]
  by_cases p2 : ((n4 l 8 : Nat) : Int) ≤ ((2147483647 : Nat) : Int)
  case neg => exact fin _ ⟨_, if_neg p2⟩ (fun h => p2 h.2.2.2.2.1.2.1.2)
  rw [if_pos p2]
  by_cases p3 : ((n4 l 12 : Nat) : Int) ≤ ((2147483647 : Nat) : Int)
  case neg => exact fin _ ⟨_, if_neg p3⟩ (fun h => p3 h.2.2.2.2.1.2.2.1.2)
  rw [if_pos p3]
  by_cases p4 : ((n4 l 16 : Nat) : Int) ≤ ((2147483647 : Nat) : Int)
  case neg => exact fin _ ⟨_, if_neg p4⟩ (fun h => p4 h.2.2.2.2.1.2.2.2.1.2)
  rw [if_pos p4, if_pos (show (psm l (n4 l 20)).length ≤ 8 by rw [psm_len]; exact q6), P_segs2 (m := psm l (n4 l 20)) (by rw [psm_len]; omega) (n4 l 4) (n4 l 8) (n4 l 12) (n4 l 16) (psm l (n4 l 20)) ((0 : Nat) : Int) 0 List.drop_zero]
  by_cases qs : segs ((0 : Nat) : Int) (psm l (n4 l 20))
  · have hf : fitM l := ⟨by omega, qm, q6, by omega, ⟨⟨by omega, p1⟩, ⟨by omega, p2⟩, ⟨by omega, p3⟩, ⟨by omega, p4⟩, by rw [psm_len]; exact q6⟩, qs⟩
    rw [decide_eq_true qs, bnd_mk, if_pos rfl, if_pos hf]
  · exact fin _ ⟨_, by rw [decide_eq_false qs]⟩ (fun h => qs h.2.2.2.2.2)
/-! ### What is read, laid down -/
omit hl in
theorem b4_n4 {p : Nat} (hp : p + 4 ≤ l.length) : b4 (n4 l p) = (l.drop p).take 4 := by
  have h0 := LB.get hb (by decide) p
  have h1 := LB.get hb (by decide) (p + 1)
  have h2 := LB.get hb (by decide) (p + 2)
  have h3 := LB.get hb (by decide) (p + 3)
  have e : (l.drop p).take 4 = [l.getD p 0, l.getD (p + 1) 0, l.getD (p + 2) 0, l.getD (p + 3) 0] := by
    apply List.ext_getElem
    · rw [List.length_take, List.length_drop]; simp; omega
    · intro i g1 g2
      have hi : i < 4 := by simpa using g2
      have ea : ((l.drop p).take 4)[i] = l.getD (p + i) 0 := by
        rw [List.getElem_take, List.getElem_drop, List.getD_eq_getElem?_getD, List.getElem?_eq_getElem (by omega)]; rfl
      rw [ea]
      rcases i with _ | _ | _ | _ | i
      · rfl
      · rfl
      · rfl
      · rfl
      · omega
  rw [e]
  unfold b4 n4
  congr 1
  · omega
  · congr 1
    · omega
    · congr 1
      · omega
      · congr 1
        omega
omit hb hl in
theorem drop_split (p k : Nat) : (l.drop p).take k ++ l.drop (p + k) = l.drop p := by
  rw [← List.drop_drop, List.take_append_drop]
omit hl in
theorem psm_flat : ∀ k, 24 + 40 * k ≤ l.length → (psm l k).flatMap segB = (l.drop 24).take (40 * k)
  | 0, _ => rfl
  | k + 1, h => by
    have ih := psm_flat k (by omega)
    rw [← psm_snoc, List.flatMap_append, ih, List.flatMap_cons, List.flatMap_nil, List.append_nil, show 40 * (k + 1) = 40 * k + 40 by omega, List.take_add, List.drop_drop]
    congr 1
    unfold segB psg
    rw [Int.toNat_natCast, Int.toNat_natCast, b4_n4 hb (by omega), b4_n4 hb (by omega)]
    have hx : ∀ p, (l.drop p).take 40 = (l.drop p).take 4 ++ (l.drop (p + 4)).take 4 ++ (l.drop (p + 8)).take 32 := by
      intro p
      rw [show (40 : Nat) = 4 + (4 + 32) from rfl, List.take_add, List.take_add, List.drop_drop, List.drop_drop, List.append_assoc]
    rw [hx]
omit hl in
theorem manB_l {n : Nat} (hn : n4 l 20 = n) (hlen : l.length = 24 + 40 * n) : manB ((n4 l 4 : Nat) : Int) ((n4 l 8 : Nat) : Int) ((n4 l 12 : Nat) : Int) ((n4 l 16 : Nat) : Int) (psm l n) = [109, 97, 110, 105] ++ l.drop 4 := by
  unfold manB manH
  rw [psm_len, psm_flat hb n (by omega), Int.toNat_natCast, Int.toNat_natCast, Int.toNat_natCast, Int.toNat_natCast, b4_n4 hb (by omega), b4_n4 hb (by omega), b4_n4 hb (by omega), b4_n4 hb (by omega), ← hn, b4_n4 hb (by omega), hn,
    List.take_of_length_le (l := l.drop 24) (by rw [List.length_drop]; omega)]
  have s20 : (l.drop 20).take 4 ++ l.drop 24 = l.drop 20 := drop_split 20 4
  have s16 : (l.drop 16).take 4 ++ l.drop 20 = l.drop 16 := drop_split 16 4
  have s12 : (l.drop 12).take 4 ++ l.drop 16 = l.drop 12 := drop_split 12 4
  have s8 : (l.drop 8).take 4 ++ l.drop 12 = l.drop 8 := drop_split 8 4
  have s4 : (l.drop 4).take 4 ++ l.drop 8 = l.drop 4 := drop_split 4 4
  simp only [List.append_assoc]
  rw [s20, s16, s12, s8, s4]
end
theorem fit_back {l : List Nat} (hb : LB 256 l) (h : fitM l) : manB ((n4 l 4 : Nat) : Int) ((n4 l 8 : Nat) : Int) ((n4 l 12 : Nat) : Int) ((n4 l 16 : Nat) : Int) (psm l (n4 l 20)) = l := by
  rw [manB_l hb rfl h.2.2.2.1, ← h.2.1, List.take_append_drop]
/-! ### The reference reads -/
theorem R_Num {l : List Nat} (hb : LB 256 l) {p : Nat} (hp : p + 4 ≤ l.length) : F_casemateref09_Number ((l.drop p).take 4) = some ((n4 l p : Nat) : Int) := by
  rw [R_Number (by rw [List.length_take, List.length_drop]; omega) ((hb.drop _).take _)]
  have e : n4 ((l.drop p).take 4) 0 = n4 l p := by
    unfold n4
    rw [getD_dt l p 4 0 (by decide), getD_dt l p 4 (0 + 1) (by decide), getD_dt l p 4 (0 + 2) (by decide), getD_dt l p 4 (0 + 3) (by decide)]
    rfl
  rw [e]
theorem R_dig {l : List Nat} {j : Nat} (h : 64 + 40 * j ≤ l.length) (hl : l.length ≤ 10000) (x y : Int) : run (F_casemateref20_Parse_l2 l j) (0, x, y, List.replicate 32 0) = some (x, y, (l.drop (24 + 40 * j + 8)).take 32) := by
  generalize hP : 24 + 40 * j + 8 = P
  have h0 : (0, x, y, List.replicate 32 0) = (fun i : Nat => ((i, x, y, (l.drop P).take i ++ List.replicate (32 - i) 0) : Nat × Int × Int × List Nat)) 0 := by
    dsimp only; rw [List.take_zero]; rfl
  rw [h0]
  refine run_for (fun i : Nat => ((i, x, y, (l.drop P).take i ++ List.replicate (32 - i) 0) : Nat × Int × Int × List Nat)) 32 (fun i hi => ?_) ?_
  · unfold F_casemateref20_Parse_l2
    dsimp only
    rw [if_pos hi, gd_pos (by omega), gd_pos (by omega), gd_pos hi, gd_pos (by omega)]
    have e : ((l.drop P).take i ++ List.replicate (32 - i) 0).set i (l.getD (24 + 40 * j + (8 + i)) 0) = (l.drop P).take (i + 1) ++ List.replicate (32 - (i + 1)) 0 := by
      have hi2 : i < (l.drop P).length := by rw [List.length_drop]; omega
      have hlt : ((l.drop P).take i).length = i := by rw [List.length_take, List.length_drop]; omega
      rw [show 24 + 40 * j + (8 + i) = P + i by omega, List.set_append_right _ _ (by omega), hlt, Nat.sub_self, show 32 - i = (32 - (i + 1)) + 1 by omega, List.replicate_succ, List.set_cons_zero, List.take_add_one, List.getElem?_eq_getElem hi2, List.append_assoc]
      congr 1
      rw [List.getElem_drop, List.getD_eq_getElem?_getD, List.getElem?_eq_getElem (by omega)]
      rfl
    rw [e]
  · unfold F_casemateref20_Parse_l2
    dsimp only
    rw [if_neg (by decide), Nat.sub_self, List.replicate_zero, List.append_nil]
theorem R_segsP {l : List Nat} (hb : LB 256 l) (hl : l.length ≤ 10000) {n : Nat} (hn : 24 + 40 * n ≤ l.length) (x1 x2 x3 x4 : Int) : run (F_casemateref20_Parse_l1 l ((n : Nat) : Int)) (0, x1, x2, x3, x4, []) = some (x1, x2, x3, x4, psm l n) := by
  refine run_for (fun i : Nat => ((i, x1, x2, x3, x4, psm l i) : Nat × Int × Int × Int × Int × List Seg)) n (fun i hi => ?_) ?_
  · unfold F_casemateref20_Parse_l1
    dsimp only
    rw [if_pos (by omega), gd_pos (by omega), gd_pos (by omega), gd_pos (by omega), gd_pos (by omega), gd_pos (by omega), gd_pos (by omega), gd_pos (by omega), R_Num hb (by omega), bnd_mk, gd_pos (by omega), R_Num hb (by omega), bnd_mk, R_dig (by omega) hl, bnd_mk]
    try dsimp only
    rw [gd_pos (by rw [psm_len]; omega), bnd_mk, gd_pos (by omega), ← psm_snoc]
    rfl
  · unfold F_casemateref20_Parse_l1
    dsimp only
    rw [if_neg (by omega)]
theorem R_ParseM {l : List Nat} (hb : LB 256 l) (hl : l.length ≤ 1000) : F_casemateref20_Parse l = some (if fitM l then (((n4 l 4 : Nat) : Int), ((n4 l 8 : Nat) : Int), ((n4 l 12 : Nat) : Int), ((n4 l 16 : Nat) : Int), psm l (n4 l 20), true) else (((0 : Nat) : Int), ((0 : Nat) : Int), ((0 : Nat) : Int), ((0 : Nat) : Int), [], false)) := by
  unfold F_casemateref20_Parse
  by_cases q : l.length < 24
  · rw [if_pos q, if_neg (fun h => by have := h.1; omega)]
  rw [if_neg q, gd_pos (by omega), R_Num hb (by omega), bnd_mk, gd_pos (by omega), R_Num hb (by omega), bnd_mk, gd_pos (by omega), R_Num hb (by omega), bnd_mk, gd_pos (by omega), R_Num hb (by omega), bnd_mk, gd_pos (by omega), R_Num hb (by omega), bnd_mk]
  by_cases q1 : 8 < n4 l 20
  · rw [if_pos (show ((8 : Nat) : Int) < ((n4 l 20 : Nat) : Int) by omega), if_neg (fun h => by have := h.2.2.1; omega)]
  rw [if_neg (show ¬ ((8 : Nat) : Int) < ((n4 l 20 : Nat) : Int) by omega), gd_pos (by omega), gd_pos (by omega), gd_pos (by omega), gd_pos (by omega)]
  by_cases q2 : l.length = 24 + 40 * n4 l 20
  · rw [if_pos (by omega), R_segsP hb (by omega) (by omega), bnd_mk]
    try dsimp only
    rw [R_mayM (by rw [psm_len]; omega), bnd_mk]
    by_cases q3 : mayL l
    · rw [decide_eq_true (show mayM _ _ _ _ _ from q3), if_pos rfl, R_manB (psm_ok hb (by omega)) q3, bnd_mk]
      have hB := manB_l hb rfl q2
      rw [hB]
      by_cases q4 : l.take 4 = [109, 97, 110, 105]
      · rw [← q4, List.take_append_drop, if_pos rfl, if_pos ⟨by omega, q4, by omega, q2, q3⟩]
      · rw [if_neg (fun h => q4 (by rw [← h]; rfl)), if_neg (fun h => q4 h.2.1)]
    · rw [decide_eq_false (show ¬ mayM _ _ _ _ _ from q3), if_neg (by decide), if_neg (fun h => q3 h.2.2.2.2)]
  · rw [if_neg (by omega), if_neg (fun h => q2 h.2.2.2.1)]
end Go.Proofs.Ytmlddodimpmogaa
