/- What layer 20's program and reference compute: manifests' bytes, in plain law. Lemmas, no statement of the claim. -/
import Derived.Test.YtmlddodimpmogaaTm
import Derived.Test.YtmlddodimpmogaaVc
set_option linter.unusedVariables false
set_option linter.unusedSimpArgs false
set_option maxRecDepth 10000
namespace Go.Proofs.Ytmlddodimpmogaa
abbrev Seg := Int × Int × List Nat
abbrev sd : Seg := ((0 : Int), (0 : Int), [])
def segOk (a : Int) (s : Seg) : Prop := 0 ≤ s.1 ∧ s.1 ≤ 2147483647 ∧ 0 ≤ s.2.1 ∧ s.2.1 ≤ 1048576 ∧ s.1 + s.2.1 ≤ 2147483647 ∧ a ≤ s.1
instance (a : Int) (s : Seg) : Decidable (segOk a s) := by unfold segOk; exact inferInstance
/-- segments rise from here on -/
def segs : Int → List Seg → Prop
  | _, [] => True
  | a, s :: r => segOk a s ∧ segs (s.1 + s.2.1) r
instance segsD : ∀ (a : Int) (m : List Seg), Decidable (segs a m)
  | _, [] => .isTrue trivial
  | a, s :: r => @instDecidableAnd _ _ _ (segsD (s.1 + s.2.1) r)
def inR (z : Int) : Prop := 0 ≤ z ∧ z ≤ 2147483647
instance (z : Int) : Decidable (inR z) := by unfold inR; exact inferInstance
def mayM (z1 z2 z3 z4 : Int) (m : List Seg) : Prop := (inR z1 ∧ inR z2 ∧ inR z3 ∧ inR z4 ∧ m.length ≤ 8) ∧ segs 0 m
instance (z1 z2 z3 z4 : Int) (m : List Seg) : Decidable (mayM z1 z2 z3 z4 m) := by unfold mayM; exact inferInstance
/-- digests as they should be -/
def okG (m : List Seg) : Prop := ∀ s, s ∈ m → s.2.2.length = 32 ∧ LB 256 s.2.2
def segB (s : Seg) : List Nat := b4 s.1.toNat ++ b4 s.2.1.toNat ++ s.2.2
def manH (z1 z2 z3 z4 : Int) (n : Nat) : List Nat := [109, 97, 110, 105] ++ b4 z1.toNat ++ b4 z2.toNat ++ b4 z3.toNat ++ b4 z4.toNat ++ b4 n
def manB (z1 z2 z3 z4 : Int) (m : List Seg) : List Nat := manH z1 z2 z3 z4 m.length ++ m.flatMap segB
theorem segB_len {s : Seg} (h : s.2.2.length = 32) : (segB s).length = 40 := by unfold segB b4; simp [h]
/-! ### The program's check -/
theorem P_seg {m : List Seg} {n : Nat} {s : Seg} (hs : m.getD n ((0 : Int), (0 : Int), []) = s) (hn : n ≤ 1000000) (a : Int) : run (F_manifest_Bytes_l3 m a n) 0 = some (if segOk a s then .inl (s.1 + s.2.1, n + 1) else .inr true) := by
  have e0 : F_manifest_Bytes_l3 m a n 0 = if 0 ≤ s.1 ∧ s.1 ≤ 2147483647 then some (.inl 1) else some (.inr (.inr true)) := by
    unfold F_manifest_Bytes_l3
    try dsimp only
    rw [if_pos (by decide), gd_pos (by decide), hs, show ([s.1, s.2.1].getD 0 (0 : Int)) = s.1 from rfl]
    by_cases q1 : 0 ≤ s.1
    · rw [if_pos (show ((0 : Nat) : Int) ≤ s.1 from q1)]
      by_cases q2 : s.1 ≤ 2147483647
      · rw [if_pos (show s.1 ≤ ((2147483647 : Nat) : Int) from q2), gd_pos (by decide), if_pos ⟨q1, q2⟩]
      · rw [if_neg (show ¬ s.1 ≤ ((2147483647 : Nat) : Int) from q2), if_neg (fun h => q2 h.2)]
    · rw [if_neg (show ¬ ((0 : Nat) : Int) ≤ s.1 from q1), if_neg (fun h => q1 h.1)]
  have e1 : F_manifest_Bytes_l3 m a n 1 = if 0 ≤ s.2.1 ∧ s.2.1 ≤ 2147483647 then some (.inl 2) else some (.inr (.inr true)) := by
    unfold F_manifest_Bytes_l3
    try dsimp only
    rw [if_pos (by decide), gd_pos (by decide), hs, show ([s.1, s.2.1].getD 1 (0 : Int)) = s.2.1 from rfl]
    by_cases q1 : 0 ≤ s.2.1
    · rw [if_pos (show ((0 : Nat) : Int) ≤ s.2.1 from q1)]
      by_cases q2 : s.2.1 ≤ 2147483647
      · rw [if_pos (show s.2.1 ≤ ((2147483647 : Nat) : Int) from q2), gd_pos (by decide), if_pos ⟨q1, q2⟩]
      · rw [if_neg (show ¬ s.2.1 ≤ ((2147483647 : Nat) : Int) from q2), if_neg (fun h => q2 h.2)]
    · rw [if_neg (show ¬ ((0 : Nat) : Int) ≤ s.2.1 from q1), if_neg (fun h => q1 h.1)]
  by_cases p0 : 0 ≤ s.1 ∧ s.1 ≤ 2147483647
  · rw [if_pos p0] at e0
    refine run_next e0 ?_
    by_cases p1 : 0 ≤ s.2.1 ∧ s.2.1 ≤ 2147483647
    · rw [if_pos p1] at e1
      refine run_next e1 (run_exit ?_)
      unfold F_manifest_Bytes_l3 oin
      try dsimp only
      rw [if_neg (by decide), hs]
      by_cases q1 : s.2.1 ≤ 1048576
      · rw [if_pos (show s.2.1 ≤ ((1048576 : Nat) : Int) from q1)]
        by_cases q2 : a ≤ s.1
        · rw [if_pos q2, gd_pos (by omega), gd_pos (by omega)]
          by_cases q3 : s.1 + s.2.1 ≤ 2147483647
          · rw [if_pos (show s.1 + s.2.1 ≤ ((2147483647 : Nat) : Int) from q3), gd_pos (by omega), gd_pos (by omega), gd_pos (by omega), if_pos ⟨p0.1, p0.2, p1.1, q1, q3, q2⟩]
          · rw [if_neg (show ¬ s.1 + s.2.1 ≤ ((2147483647 : Nat) : Int) from q3), if_neg (fun h => q3 h.2.2.2.2.1)]
        · rw [if_neg q2, if_neg (fun h => q2 h.2.2.2.2.2)]
      · rw [if_neg (show ¬ s.2.1 ≤ ((1048576 : Nat) : Int) from q1), if_neg (fun h => q1 h.2.2.2.1)]
    · rw [if_neg p1] at e1
      rw [run_exit e1, if_neg (fun h => p1 ⟨h.2.2.1, by have := h.2.2.2.1; omega⟩)]
  · rw [if_neg p0] at e0
    rw [run_exit e0, if_neg (fun h => p0 ⟨h.1, h.2.1⟩)]
theorem P_segs {m : List Seg} (hl : m.length ≤ 1000000) : ∀ (r : List Seg) (a : Int) (n : Nat), m.drop n = r → run (F_manifest_Bytes_l2 m) (a, n) = some (!decide (segs a r)) := by
  intro r
  induction r with
  | nil =>
    intro a n h
    have := dropNk h
    rw [decide_eq_true (show segs a [] from trivial)]
    refine run_exit ?_
    unfold F_manifest_Bytes_l2
    try dsimp only
    rw [if_neg (by omega)]
    rfl
  | cons s r ih =>
    intro a n h
    obtain ⟨h1, h2, h3⟩ := dropCk h sd
    have e : F_manifest_Bytes_l2 m (a, n) = some (if segOk a s then .inl (s.1 + s.2.1, n + 1) else .inr true) := by
      unfold F_manifest_Bytes_l2
      try dsimp only
      rw [if_pos h1, gd_pos h1]
      exact P_seg h2 (by omega) a
    by_cases q : segOk a s
    · rw [if_pos q] at e
      rw [run_next e (ih _ _ h3)]
      by_cases q2 : segs (s.1 + s.2.1) r
      · rw [decide_eq_true q2, decide_eq_true (show segs a (s :: r) from ⟨q, q2⟩)]
      · rw [decide_eq_false q2, decide_eq_false (show ¬ segs a (s :: r) from fun h => q2 h.2)]
    · rw [if_neg q] at e
      rw [run_exit e, decide_eq_false (show ¬ segs a (s :: r) from fun h => q h.1)]
      rfl
theorem P_check {m : List Seg} (z1 z2 z3 z4 : Int) (hl : m.length ≤ 1000000) : run (F_manifest_Bytes_l1 z1 z2 z3 z4 m) 0 = some (!decide (mayM z1 z2 z3 z4 m)) := by
  have st : ∀ (i : Nat) (z : Int), i < 4 → [z1, z2, z3, z4].getD i (0 : Int) = z → F_manifest_Bytes_l1 z1 z2 z3 z4 m i = if inR z then some (.inl (i + 1)) else some (.inr true) := by
    intro i z hi hz
    unfold F_manifest_Bytes_l1
    rw [if_pos hi, gd_pos hi, hz]
    by_cases q1 : 0 ≤ z
    · rw [if_pos (show ((0 : Nat) : Int) ≤ z from q1)]
      by_cases q2 : z ≤ 2147483647
      · rw [if_pos (show z ≤ ((2147483647 : Nat) : Int) from q2), gd_pos (by omega), if_pos ⟨q1, q2⟩]
      · rw [if_neg (show ¬ z ≤ ((2147483647 : Nat) : Int) from q2), if_neg (fun h => q2 h.2)]
    · rw [if_neg (show ¬ ((0 : Nat) : Int) ≤ z from q1), if_neg (fun h => q1 h.1)]
  have s0 := st 0 z1 (by decide) rfl
  have s1 := st 1 z2 (by decide) rfl
  have s2 := st 2 z3 (by decide) rfl
  have s3 := st 3 z4 (by decide) rfl
  by_cases q1 : inR z1
  · rw [if_pos q1] at s0
    refine run_next s0 ?_
    by_cases q2 : inR z2
    · rw [if_pos q2] at s1
      refine run_next s1 ?_
      by_cases q3 : inR z3
      · rw [if_pos q3] at s2
        refine run_next s2 ?_
        by_cases q4 : inR z4
        · rw [if_pos q4] at s3
          refine run_next s3 (run_exit ?_)
          unfold F_manifest_Bytes_l1
          rw [if_neg (by decide)]
          by_cases q5 : m.length ≤ 8
          · rw [if_pos q5, P_segs hl m _ 0 rfl]
            unfold oin
            try dsimp only
            by_cases q6 : segs 0 m
            · rw [decide_eq_true (show segs ((0 : Nat) : Int) m from q6), decide_eq_true (show mayM z1 z2 z3 z4 m from ⟨⟨q1, q2, q3, q4, q5⟩, q6⟩)]
            · rw [decide_eq_false (show ¬ segs ((0 : Nat) : Int) m from q6), decide_eq_false (show ¬ mayM z1 z2 z3 z4 m from fun h => q6 h.2)]
          · rw [if_neg q5, decide_eq_false (show ¬ mayM z1 z2 z3 z4 m from fun h => q5 h.1.2.2.2.2)]
            rfl
        · rw [if_neg q4] at s3
          rw [run_exit s3, decide_eq_false (show ¬ mayM z1 z2 z3 z4 m from fun h => q4 h.1.2.2.2.1)]
          rfl
      · rw [if_neg q3] at s2
        rw [run_exit s2, decide_eq_false (show ¬ mayM z1 z2 z3 z4 m from fun h => q3 h.1.2.2.1)]
        rfl
    · rw [if_neg q2] at s1
      rw [run_exit s1, decide_eq_false (show ¬ mayM z1 z2 z3 z4 m from fun h => q2 h.1.2.1)]
      rfl
  · rw [if_neg q1] at s0
    rw [run_exit s0, decide_eq_false (show ¬ mayM z1 z2 z3 z4 m from fun h => q1 h.1.1)]
    rfl
/-! ### Bytes -/
theorem segs_pos : ∀ {m : List Seg} {a : Int}, segs a m → ∀ s, s ∈ m → 0 ≤ s.1 ∧ 0 ≤ s.2.1
  | t :: r, a, h, s, hs => by
    rcases List.mem_cons.1 hs with rfl | hs
    · exact ⟨h.1.1, h.1.2.2.1⟩
    · exact segs_pos h.2 s hs
theorem P_head {m : List Seg} {z1 z2 z3 z4 : Int} (h1 : 0 ≤ z1) (h2 : 0 ≤ z2) (h3 : 0 ≤ z3) (h4 : 0 ≤ z4) : run (F_manifest_Bytes_l4 z1 z2 z3 z4 m) ([109, 97, 110, 105], 0) = some (manH z1 z2 z3 z4 m.length) := by
  have st : ∀ (i : Nat) (acc : List Nat) (z : Int), i < 5 → acc.length ≤ 100 → 0 ≤ z → [z1, z2, z3, z4, ((m.length : Nat) : Int)].getD i (0 : Int) = z → F_manifest_Bytes_l4 z1 z2 z3 z4 m (acc, i) = some (.inl (acc ++ b4 z.toNat, i + 1)) := by
    intro i acc z hi ha h0 hz
    unfold F_manifest_Bytes_l4
    try dsimp only
    rw [if_pos hi, gd_pos hi, gd_pos (by omega), gd_pos (by omega), hz, b4_int h0]
  refine run_next (st 0 _ z1 (by decide) (by decide) h1 rfl) ?_
  refine run_next (st 1 _ z2 (by decide) (by simp [b4]) h2 rfl) ?_
  refine run_next (st 2 _ z3 (by decide) (by simp [b4]) h3 rfl) ?_
  refine run_next (st 3 _ z4 (by decide) (by simp [b4]) h4 rfl) ?_
  refine run_next (st 4 _ ((m.length : Nat) : Int) (by decide) (by simp [b4]) (by omega) rfl) ?_
  refine run_exit ?_
  unfold F_manifest_Bytes_l4
  try dsimp only
  rw [if_neg (by decide)]
  rfl
theorem P_body {m : List Seg} (hk : okG m) (h0 : ∀ s, s ∈ m → 0 ≤ s.1 ∧ 0 ≤ s.2.1) : ∀ (r : List Seg) (acc : List Nat) (n : Nat), m.drop n = r → acc.length + 40 * r.length ≤ 1000000 → m.length ≤ 1000000 → run (F_manifest_Bytes_l5 m) (acc, n) = some (acc ++ r.flatMap segB) := by
  intro r
  induction r with
  | nil =>
    intro acc n h _ _
    have := dropNk h
    rw [List.flatMap_nil, List.append_nil]
    refine run_exit ?_
    unfold F_manifest_Bytes_l5
    try dsimp only
    rw [if_neg (by omega)]
  | cons s r ih =>
    intro acc n h hb hm
    obtain ⟨h1, h2, h3⟩ := dropCk h sd
    have hsm : s ∈ m := by rw [← h2, List.getD_eq_getElem?_getD, List.getElem?_eq_getElem h1]; exact List.getElem_mem h1
    have h32 := (hk s hsm).1
    obtain ⟨p1, p2⟩ := h0 s hsm
    have h2 : m.getD n ((0 : Int), (0 : Int), []) = s := h2
    rw [List.length_cons] at hb
    have st : ∀ (i : Nat) (acc : List Nat) (z : Int), i < 2 → acc.length ≤ 2000000 → 0 ≤ z → [s.1, s.2.1].getD i (0 : Int) = z → F_manifest_Bytes_l6 m n (acc, i) = some (.inl (acc ++ b4 z.toNat, i + 1)) := by
      intro i acc z hi ha h0 hz
      unfold F_manifest_Bytes_l6
      try dsimp only
      rw [if_pos hi, gd_pos hi, gd_pos (by omega), gd_pos (by omega), h2, hz, b4_int h0]
    have e6 : run (F_manifest_Bytes_l6 m n) (acc, 0) = some (acc ++ b4 s.1.toNat ++ b4 s.2.1.toNat) := by
      refine run_next (st 0 acc s.1 (by decide) (by omega) p1 rfl) ?_
      refine run_next (st 1 _ s.2.1 (by decide) (by simp [b4]; omega) p2 rfl) (run_exit ?_)
      unfold F_manifest_Bytes_l6
      try dsimp only
      rw [if_neg (by decide)]
    have e : F_manifest_Bytes_l5 m (acc, n) = some (.inl (acc ++ segB s, n + 1)) := by
      unfold F_manifest_Bytes_l5
      try dsimp only
      rw [if_pos h1, gd_pos h1, e6, bnd_mk, gd_pos (by simp [b4]; omega), gd_pos (by omega), h2]
      unfold segB
      simp only [List.append_assoc]
    rw [run_next e (ih (acc ++ segB s) (n + 1) h3 (by rw [List.length_append, segB_len h32]; omega) hm), List.flatMap_cons, List.append_assoc]
theorem manH_len (z1 z2 z3 z4 : Int) (n : Nat) : (manH z1 z2 z3 z4 n).length = 24 := rfl
theorem P_manB {m : List Seg} (hk : okG m) (hl : m.length ≤ 1000) (z1 z2 z3 z4 : Int) : F_manifest_Bytes z1 z2 z3 z4 m = some (if mayM z1 z2 z3 z4 m then (manB z1 z2 z3 z4 m, ((0 : Nat) : Int)) else ([], ((1 : Nat) : Int))) := by
  unfold F_manifest_Bytes
  rw [P_check z1 z2 z3 z4 (by omega), bnd_mk]
  by_cases q : mayM z1 z2 z3 z4 m
  · rw [decide_eq_true q, if_neg (by decide), if_pos q, P_head q.1.1.1 q.1.2.1.1 q.1.2.2.1.1 q.1.2.2.2.1.1, bnd_mk, P_body hk (segs_pos q.2) m _ 0 rfl (by rw [manH_len]; omega) (by omega), bnd_mk]
    rfl
  · rw [decide_eq_false q, if_pos (by decide), if_neg q]
/-! ### The reference -/
theorem R_in (z : Int) : F_casemateref20_in z = some (decide (inR z)) := by
  unfold F_casemateref20_in
  by_cases q : 0 ≤ z
  · rw [if_pos (show ((0 : Nat) : Int) ≤ z from q)]
    exact congrArg some (decide_eq_decide.2 ⟨fun h => ⟨q, h⟩, fun h => h.2⟩)
  · rw [if_neg (show ¬ ((0 : Nat) : Int) ≤ z from q), decide_eq_false (show ¬ inR z from fun h => q h.1)]
theorem R_segs {m : List Seg} (hl : m.length ≤ 1000000) : ∀ (r : List Seg) (a : Int) (n : Nat), m.drop n = r → run (F_casemateref20_May_l1 m) (a, n) = some (if segs a r then .inl () else .inr false) := by
  intro r
  induction r with
  | nil =>
    intro a n h
    have := dropNk h
    rw [if_pos (show segs a [] from trivial)]
    refine run_exit ?_
    unfold F_casemateref20_May_l1
    try dsimp only
    rw [if_neg (by omega)]
  | cons s r ih =>
    intro a n h
    obtain ⟨h1, h2, h3⟩ := dropCk h sd
    have h2 : m.getD n ((0 : Int), (0 : Int), []) = s := h2
    have e : F_casemateref20_May_l1 m (a, n) = if segOk a s then some (.inl (s.1 + s.2.1, n + 1)) else some (.inr (.inr false)) := by
      unfold F_casemateref20_May_l1
      try dsimp only
      rw [if_pos h1, gd_pos h1, h2, R_in, bnd_mk]
      by_cases q1 : inR s.1
      · rw [decide_eq_true q1, if_pos rfl]
        have hq1 := q1
        unfold inR at hq1
        by_cases q2 : s.2.1 < 0
        · rw [if_pos (show s.2.1 < ((0 : Nat) : Int) from q2), bnd_mk, if_pos rfl, if_neg (fun h => by have := h.2.2.1; omega)]
        · rw [if_neg (show ¬ s.2.1 < ((0 : Nat) : Int) from q2)]
          by_cases q3 : 1048576 < s.2.1
          · rw [if_pos (show ((1048576 : Nat) : Int) < s.2.1 from q3), bnd_mk, if_pos rfl, if_neg (fun h => by have := h.2.2.2.1; omega)]
          · rw [if_neg (show ¬ ((1048576 : Nat) : Int) < s.2.1 from q3), gd_pos (by omega), gd_pos (by omega)]
            by_cases q4 : 2147483647 < s.1 + s.2.1
            · rw [if_pos (show ((2147483647 : Nat) : Int) < s.1 + s.2.1 from q4), bnd_mk, if_pos rfl, if_neg (fun h => by have := h.2.2.2.2.1; omega)]
            · rw [if_neg (show ¬ ((2147483647 : Nat) : Int) < s.1 + s.2.1 from q4), bnd_mk]
              by_cases q5 : s.1 < a
              · rw [decide_eq_true q5, if_pos rfl, if_neg (fun h => by have := h.2.2.2.2.2; omega)]
              · rw [decide_eq_false q5, if_neg (by decide), gd_pos (by omega), gd_pos (by omega), gd_pos (by omega), if_pos ⟨q1.1, q1.2, by omega, by omega, by omega, by omega⟩]
      · rw [decide_eq_false q1, if_neg (by decide), bnd_mk, if_pos rfl, if_neg (fun h => q1 ⟨h.1, h.2.1⟩)]
    by_cases q : segOk a s
    · rw [if_pos q] at e
      rw [run_next e (ih _ _ h3)]
      by_cases q2 : segs (s.1 + s.2.1) r
      · rw [if_pos q2, if_pos (show segs a (s :: r) from ⟨q, q2⟩)]
      · rw [if_neg q2, if_neg (show ¬ segs a (s :: r) from fun h => q2 h.2)]
    · rw [if_neg q] at e
      rw [run_exit e, if_neg (show ¬ segs a (s :: r) from fun h => q h.1)]
theorem R_mayM {m : List Seg} (hl : m.length ≤ 1000000) (z1 z2 z3 z4 : Int) : F_casemateref20_May z1 z2 z3 z4 m = some (decide (mayM z1 z2 z3 z4 m)) := by
  unfold F_casemateref20_May
  rw [R_in, R_in, R_in, R_in, bnd_mk]
  by_cases q1 : inR z1
  · rw [decide_eq_true q1, if_pos rfl, bnd_mk]
    by_cases q2 : inR z2
    · rw [decide_eq_true q2, if_pos rfl, bnd_mk]
      by_cases q3 : inR z3
      · rw [decide_eq_true q3, if_pos rfl, bnd_mk]
        by_cases q4 : inR z4
        · rw [decide_eq_true q4, if_pos rfl, bnd_mk]
          by_cases q5 : 8 < m.length
          · rw [decide_eq_true q5, if_pos rfl, decide_eq_false (show ¬ mayM z1 z2 z3 z4 m from fun h => by have := h.1.2.2.2.2; omega)]
          · rw [decide_eq_false q5, if_neg (by decide), R_segs hl m _ 0 rfl, bnd_mk]
            by_cases q6 : segs 0 m
            · rw [if_pos (show segs ((0 : Nat) : Int) m from q6), sel_inl, decide_eq_true (show mayM z1 z2 z3 z4 m from ⟨⟨q1, q2, q3, q4, by omega⟩, q6⟩)]
            · rw [if_neg (show ¬ segs ((0 : Nat) : Int) m from q6), sel_inr, decide_eq_false (show ¬ mayM z1 z2 z3 z4 m from fun h => q6 h.2)]
        · rw [decide_eq_false q4, if_neg (by decide), bnd_mk, if_pos rfl, decide_eq_false (show ¬ mayM z1 z2 z3 z4 m from fun h => q4 h.1.2.2.2.1)]
      · rw [decide_eq_false q3, if_neg (by decide), bnd_mk, if_pos rfl, decide_eq_false (show ¬ mayM z1 z2 z3 z4 m from fun h => q3 h.1.2.2.1)]
    · rw [decide_eq_false q2, if_neg (by decide), bnd_mk, if_pos rfl, decide_eq_false (show ¬ mayM z1 z2 z3 z4 m from fun h => q2 h.1.2.1)]
  · rw [decide_eq_false q1, if_neg (by decide), bnd_mk, if_pos rfl, decide_eq_false (show ¬ mayM z1 z2 z3 z4 m from fun h => q1 h.1.1)]
theorem R_FourI {z : Int} (h : 0 ≤ z) : F_casemateref09_Four z = some (b4 z.toNat) := by
  have e : z = ((z.toNat : Nat) : Int) := by omega
  have := R_Four z.toNat
  rwa [← e] at this
theorem R_headM {m : List Seg} {z1 z2 z3 z4 : Int} (h1 : 0 ≤ z1) (h2 : 0 ≤ z2) (h3 : 0 ≤ z3) (h4 : 0 ≤ z4) : run (F_casemateref20_Bytes_l1 z1 z2 z3 z4 m) ([109, 97, 110, 105], 0) = some (manH z1 z2 z3 z4 m.length) := by
  have st : ∀ (i : Nat) (acc : List Nat) (z : Int), i < 5 → acc.length ≤ 100 → 0 ≤ z → [z1, z2, z3, z4, ((m.length : Nat) : Int)].getD i (0 : Int) = z → F_casemateref20_Bytes_l1 z1 z2 z3 z4 m (acc, i) = some (.inl (acc ++ b4 z.toNat, i + 1)) := by
    intro i acc z hi ha h0 hz
    have hb4 : (b4 z.toNat).length = 4 := rfl
    unfold F_casemateref20_Bytes_l1
    try dsimp only
    rw [if_pos hi, gd_pos hi, hz, R_FourI h0, bnd_mk, hb4, gd_pos (by omega), gd_pos (by omega)]
  refine run_next (st 0 _ z1 (by decide) (by decide) h1 rfl) ?_
  refine run_next (st 1 _ z2 (by decide) (by simp [b4]) h2 rfl) ?_
  refine run_next (st 2 _ z3 (by decide) (by simp [b4]) h3 rfl) ?_
  refine run_next (st 3 _ z4 (by decide) (by simp [b4]) h4 rfl) ?_
  refine run_next (st 4 _ ((m.length : Nat) : Int) (by decide) (by simp [b4]) (by omega) rfl) ?_
  refine run_exit ?_
  unfold F_casemateref20_Bytes_l1
  try dsimp only
  rw [if_neg (by decide)]
  rfl
theorem R_bodyM {m : List Seg} (hk : okG m) (h0 : ∀ s, s ∈ m → 0 ≤ s.1 ∧ 0 ≤ s.2.1) : ∀ (r : List Seg) (acc : List Nat) (n : Nat), m.drop n = r → acc.length + 40 * r.length ≤ 1000000 → m.length ≤ 1000000 → run (F_casemateref20_Bytes_l2 m) (acc, n) = some (acc ++ r.flatMap segB) := by
  intro r
  induction r with
  | nil =>
    intro acc n h _ _
    have := dropNk h
    rw [List.flatMap_nil, List.append_nil]
    refine run_exit ?_
    unfold F_casemateref20_Bytes_l2
    try dsimp only
    rw [if_neg (by omega)]
  | cons s r ih =>
    intro acc n h hb hm
    obtain ⟨h1, h2, h3⟩ := dropCk h sd
    have hsm : s ∈ m := by rw [← h2, List.getD_eq_getElem?_getD, List.getElem?_eq_getElem h1]; exact List.getElem_mem h1
    have h32 := (hk s hsm).1
    obtain ⟨p1, p2⟩ := h0 s hsm
    have h2 : m.getD n ((0 : Int), (0 : Int), []) = s := h2
    rw [List.length_cons] at hb
    have hb4 : ∀ n, (b4 n).length = 4 := fun _ => rfl
    have e : F_casemateref20_Bytes_l2 m (acc, n) = some (.inl (acc ++ segB s, n + 1)) := by
      unfold F_casemateref20_Bytes_l2
      try dsimp only
      rw [if_pos h1, gd_pos h1, h2, R_FourI p1, bnd_mk, hb4, gd_pos (by omega), R_FourI p2, bnd_mk, hb4, gd_pos (by omega), gd_pos (by omega), gd_pos (by omega)]
      unfold segB
      simp only [List.append_assoc]
    rw [run_next e (ih (acc ++ segB s) (n + 1) h3 (by rw [List.length_append, segB_len h32]; omega) hm), List.flatMap_cons, List.append_assoc]
theorem R_manB {m : List Seg} {z1 z2 z3 z4 : Int} (hk : okG m) (q : mayM z1 z2 z3 z4 m) : F_casemateref20_Bytes z1 z2 z3 z4 m = some (manB z1 z2 z3 z4 m) := by
  have hl := q.1.2.2.2.2
  unfold F_casemateref20_Bytes
  rw [R_headM q.1.1.1 q.1.2.1.1 q.1.2.2.1.1 q.1.2.2.2.1.1, bnd_mk, R_bodyM hk (segs_pos q.2) m _ 0 rfl (by rw [manH_len]; omega) (by omega), bnd_mk]
  rfl
theorem seg_ext {a b : List Seg} (hl : a.length = b.length) (h : ∀ i, i < a.length → a.getD i sd = b.getD i sd) : a = b := by
  apply List.ext_getElem hl
  intro i h1 h2
  have := h i h1
  rwa [List.getD_eq_getElem?_getD, List.getD_eq_getElem?_getD, List.getElem?_eq_getElem h1, List.getElem?_eq_getElem h2] at this
theorem R_SameS {a b : List Seg} (hl : a.length = b.length) (ha : a.length ≤ 1000000) : ∀ d n, a.length = n + d → ((∀ i, n ≤ i → i < a.length → a.getD i sd = b.getD i sd) ∧ run (F_casemateref20_Same_l1 a b) n = some (.inl ())) ∨ ((¬ ∀ i, n ≤ i → i < a.length → a.getD i sd = b.getD i sd) ∧ run (F_casemateref20_Same_l1 a b) n = some (.inr false)) := by
  intro d
  induction d with
  | zero =>
    intro n h
    refine .inl ⟨fun i h1 h2 => by omega, run_exit ?_⟩
    unfold F_casemateref20_Same_l1
    rw [if_neg (by omega)]
  | succ d ih =>
    intro n h
    have e : F_casemateref20_Same_l1 a b n = if a.getD n sd = b.getD n sd then some (.inl (n + 1)) else some (.inr (.inr false)) := by
      unfold F_casemateref20_Same_l1
      rw [if_pos (by omega), gd_pos (by omega), gd_pos (by omega), gd_pos (by omega)]
      by_cases q : a.getD n sd = b.getD n sd
      · rw [if_pos q, if_pos ⟨by rw [q], by rw [q], by rw [q]⟩]
      · rw [if_neg q, if_neg (fun hh => q (Prod.ext hh.1 (Prod.ext hh.2.1 hh.2.2)))]
    by_cases q : a.getD n sd = b.getD n sd
    · rw [if_pos q] at e
      rcases ih (n + 1) (by omega) with ⟨r, g⟩ | ⟨r, g⟩
      · refine .inl ⟨fun i h1 h2 => ?_, run_next e g⟩
        rcases Nat.eq_or_lt_of_le h1 with s | s
        · rw [← s]; exact q
        · exact r i s h2
      · exact .inr ⟨fun hh => r (fun i h1 h2 => hh i (by omega) h2), run_next e g⟩
    · rw [if_neg q] at e
      exact .inr ⟨fun hh => q (hh n (Nat.le_refl _) (by omega)), run_exit e⟩
theorem R_SameM {a b : List Seg} (ha : a.length ≤ 1000000) (x1 x2 x3 x4 y1 y2 y3 y4 : Int) : F_casemateref20_Same x1 x2 x3 x4 a y1 y2 y3 y4 b = some (decide (x1 = y1 ∧ x2 = y2 ∧ x3 = y3 ∧ x4 = y4 ∧ a = b)) := by
  unfold F_casemateref20_Same
  by_cases q1 : x1 = y1
  · rw [if_pos q1]
    by_cases q2 : x2 = y2
    · rw [if_pos q2]
      by_cases q3 : x3 = y3
      · rw [if_pos q3]
        by_cases q4 : x4 = y4
        · rw [if_pos q4, bnd_mk]
          by_cases q : a.length = b.length
          · rw [decide_eq_true q, if_neg (by decide)]
            rcases R_SameS q ha a.length 0 (by omega) with ⟨r, g⟩ | ⟨r, g⟩
            · rw [g, bnd_mk, sel_inl, decide_eq_true ⟨q1, q2, q3, q4, seg_ext q (fun i hi => r i (Nat.zero_le _) hi)⟩]
            · rw [g, bnd_mk, sel_inr, decide_eq_false (fun e => r (fun i _ _ => by rw [e.2.2.2.2]))]
          · rw [decide_eq_false q, if_pos (by decide), decide_eq_false (fun e => q (by rw [e.2.2.2.2]))]
        · rw [if_neg q4, bnd_mk, if_pos rfl, decide_eq_false (fun e => q4 e.2.2.2.1)]
      · rw [if_neg q3, bnd_mk, if_pos rfl, decide_eq_false (fun e => q3 e.2.2.1)]
    · rw [if_neg q2, bnd_mk, if_pos rfl, decide_eq_false (fun e => q2 e.2.1)]
  · rw [if_neg q1, bnd_mk, if_pos rfl, decide_eq_false (fun e => q1 e.1)]
end Go.Proofs.Ytmlddodimpmogaa
