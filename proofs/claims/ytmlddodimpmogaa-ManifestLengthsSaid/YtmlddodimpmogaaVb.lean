/- Laws of layer 21: KeysLay, KeysEach, KeysRevoked, in plain law. Lemmas, no statement of the claim. -/
import Derived.Test.YtmlddodimpmogaaVa
set_option linter.unusedVariables false
set_option linter.unusedSimpArgs false
set_option maxRecDepth 10000
namespace Go.Proofs.Ytmlddodimpmogaa
theorem P_at {m : List Key} (hm : mayR m) {i : Nat} (hi : i < m.length) {z : Int} (hz : num m i = z) : F_keys_place m z = some (((i : Nat) : Int), ((0 : Nat) : Int)) := by
  rcases P_place hm z with ⟨j, h1, h2, h3⟩ | ⟨h1, h2⟩
  · rw [num_inj hm.1 hi h1 (by rw [hz, h2])]; exact h3
  · exact absurd hz (h1 i hi)
theorem P_no {m : List Key} (hm : mayR m) {z : Int} (h : ∀ i, i < m.length → num m i ≠ z) : F_keys_place m z = some (((0 : Nat) : Int), ((190 : Nat) : Int)) := by
  rcases P_place hm z with ⟨j, h1, h2, h3⟩ | ⟨h1, h2⟩
  · exact absurd h2 (h j h1)
  · exact h2
def ring1 : List Key := [(((3 : Nat) : Int), ((List.replicate 32 0).set 0 7), false)]
theorem ring1_ok : mayR ring1 := by decide
theorem ring1_ok' : mayR (ring1.set 0 ((ring1.getD 0 kd).1, (ring1.getD 0 kd).2.1, true)) := by decide
theorem L_awake : F_casematelaw21_awake = some true := by
  unfold F_casematelaw21_awake
  have e1 : F_keys_Bytes [] = some ([114, 105, 110, 103, 0, 0, 0, 0], ((0 : Nat) : Int)) := by
    rw [P_Bytes (fun k hk => absurd hk (by simp)) (by decide), if_pos (by decide)]; rfl
  have e2 : F_keys_Find ring1 ((3 : Nat) : Int) = some ((List.replicate 32 0).set 0 7, ((0 : Nat) : Int)) := by
    rw [P_Find_at (m := ring1) (i := 0) (by decide) (P_at ring1_ok (by decide) (show num ring1 0 = ((3 : Nat) : Int) from rfl))]; rfl
  have e3 : F_keys_Find ring1 ((4 : Nat) : Int) = some (List.replicate 32 0, ((190 : Nat) : Int)) :=
    P_Find_no (by decide) (P_no ring1_ok (fun i hi => by
      have : i = 0 := by have : ring1.length = 1 := rfl
                         omega
      subst this; decide))
  have e4 : F_keys_Revoke ring1 ((3 : Nat) : Int) = some (ring1.set 0 ((ring1.getD 0 kd).1, (ring1.getD 0 kd).2.1, true), ((0 : Nat) : Int)) := P_Revoke_at (m := ring1) (i := 0) (by decide) (by decide) (P_at ring1_ok (by decide) rfl)
  have e5 : F_keys_Find (ring1.set 0 ((ring1.getD 0 kd).1, (ring1.getD 0 kd).2.1, true)) ((3 : Nat) : Int) = some (List.replicate 32 0, ((190 : Nat) : Int)) := by
    rw [P_Find_at (i := 0) (by decide) (P_at ring1_ok' (by decide) (show num _ 0 = ((3 : Nat) : Int) from rfl))]; rfl
  show bnd (F_keys_Bytes []) _ = _
  rw [e1, bnd_mk]
  try dsimp only
  show bnd (F_keys_Find ring1 ((3 : Nat) : Int)) _ = _
  rw [e2, bnd_mk]
  try dsimp only
  show bnd (F_keys_Find ring1 ((4 : Nat) : Int)) _ = _
  rw [e3, bnd_mk]
  try dsimp only
  show bnd (F_keys_Revoke ring1 ((3 : Nat) : Int)) _ = _
  rw [e4, bnd_mk]
  try dsimp only
  rw [e5, bnd_mk]
  try dsimp only
  rw [if_pos rfl, if_pos rfl, if_pos (by decide), if_pos rfl, if_pos rfl, if_pos rfl, bnd_mk]
  rfl
theorem L_KeysLay {m : List Key} {z : Int} (hk : okK m) : F_casematelaw21_KeysLay m z = some true := by
  unfold F_casematelaw21_KeysLay
  by_cases q : 100 < m.length
  · rw [if_pos q]
  · rw [if_neg q]
    unfold F_casematelaw21_own
    rw [gd_pos (by omega), bnd_mk, P_Bytes hk (by omega), bnd_mk]
    by_cases hm : mayR m
    · rw [if_pos hm]
      try dsimp only
      rcases P_place hm z with ⟨i, h1, h2, h3⟩ | ⟨h1, h2⟩
      · rw [P_Find_at h1 h3, bnd_mk]
        try dsimp only
        rw [P_Revoke_at h1 (by omega) h3, bnd_mk]
        try dsimp only
        rw [R_Same (by omega), bnd_mk, decide_eq_true rfl, if_pos rfl, R_may (by omega), bnd_mk, decide_eq_true hm, if_pos rfl, if_pos rfl, R_Bytes hk hm, bnd_mk, if_pos rfl]
        have e : F_casemateref21_Place m z = some ((i : Nat) : Int) := by
          rcases R_Place (m := m) (by omega) z with ⟨j, g1, g2, g3⟩ | ⟨g1, g2⟩
          · rw [num_inj hm.1 h1 g1 (by rw [h2, g2])]; exact g3
          · exact absurd h2 (g1 i h1)
        rw [e, bnd_mk, if_neg (by omega), gd_pos (by omega), gd_pos (by omega), Int.toNat_natCast]
        have hkd : m.getD i ((0 : Int), [], false) = m.getD i kd := rfl
        rw [hkd]
        by_cases r : (m.getD i kd).2.2 = true
        · rw [if_pos r, r]
          try dsimp only
          rw [if_pos (by decide), if_neg (by decide), if_pos rfl, if_neg (by decide), bnd_mk, if_neg (by decide), bnd_mk, gd_pos (by omega), gd_pos (by omega), L_awake, bnd_mk, if_pos rfl, if_pos rfl, R_Same (by rw [List.length_set]; omega), bnd_mk, hkd]
          rw [decide_eq_true rfl]
        · have r' : (m.getD i kd).2.2 = false := by simpa using r
          rw [if_neg r, r']
          try dsimp only
          rw [if_pos (show false = decide (((0 : Nat) : Int) = ((190 : Nat) : Int)) from rfl), if_pos rfl, if_pos rfl, gd_pos (by omega), gd_pos (by omega), decide_eq_true rfl, bnd_mk, if_neg (by decide), bnd_mk, gd_pos (by omega), gd_pos (by omega), L_awake, bnd_mk, if_pos rfl, if_pos rfl, R_Same (by rw [List.length_set]; omega), bnd_mk]
          rw [decide_eq_true rfl]
      · rw [P_Find_no (by decide) h2, bnd_mk]
        try dsimp only
        rw [P_Revoke_no (by decide) h2, bnd_mk]
        try dsimp only
        rw [R_Same (by omega), bnd_mk, decide_eq_true rfl, if_pos rfl, R_may (by omega), bnd_mk, decide_eq_true hm, if_pos rfl, if_pos rfl, R_Bytes hk hm, bnd_mk, if_pos rfl]
        have e : F_casemateref21_Place m z = some (-1 : Int) := by
          rcases R_Place (m := m) (by omega) z with ⟨j, g1, g2, g3⟩ | ⟨g1, g2⟩
          · exact absurd g2 (h1 j g1)
          · exact g2
        rw [e, bnd_mk, if_pos (by decide), L_awake, bnd_mk, if_pos rfl, if_pos rfl, if_pos rfl, if_pos rfl, bnd_mk]
        rfl
    · rw [if_neg hm]
      try dsimp only
      have h2 := P_place_no (m := m) (by omega) hm z
      rw [P_Find_no (by decide) h2, bnd_mk]
      try dsimp only
      rw [P_Revoke_no (by decide) h2, bnd_mk]
      try dsimp only
      rw [R_Same (by omega), bnd_mk, decide_eq_true rfl, if_pos rfl, R_may (by omega), bnd_mk, decide_eq_false hm, if_neg (by decide), L_awake, bnd_mk, if_pos rfl, if_pos rfl, if_pos rfl, if_pos rfl, gd_pos (by decide), if_pos (by decide), decide_eq_true rfl]
      rfl
/-! ### Each key -/
theorem each2 {m : List Key} {n : Nat} (hn : n < m.length) (hl : m.length ≤ 100) (b : Bool) : run (F_casematelaw21_KeysEach_l2 m n b (m.set n ((m.getD n kd).1, (m.getD n kd).2.1, true))) 0 = some (.inl (b, m.set n ((m.getD n kd).1, (m.getD n kd).2.1, true), m.length, m.length, m.length, false)) := by
  refine run_for (fun i => i) m.length (fun i hi => ?_) ?_
  · unfold F_casematelaw21_KeysEach_l2
    rw [if_pos (by rw [List.length_set]; exact hi), gd_pos hi]
    have hkd : m.getD i ((0 : Int), [], false) = m.getD i kd := rfl
    have hs : (m.set n ((m.getD n kd).1, (m.getD n kd).2.1, true)).getD i ((0 : Int), [], false) = if n = i then ((m.getD n kd).1, (m.getD n kd).2.1, true) else m.getD i kd := by
      rw [List.getD_eq_getElem?_getD, List.getElem?_set]
      by_cases q : n = i
      · subst q; rw [if_pos rfl, if_pos rfl, if_pos hi]; rfl
      · rw [if_neg q, if_neg q]; rfl
    rw [hkd, hs]
    have e : (if (m.getD i kd).2.2 = true then (some ((m.getD i kd).1, (m.getD i kd).2.1, true)) else (some ((m.getD i kd).1, (m.getD i kd).2.1, (decide (i = n)))) : Option (Int × (List Nat) × Bool)) = some (if n = i then ((m.getD n kd).1, (m.getD n kd).2.1, true) else m.getD i kd) := by
      by_cases q : n = i
      · subst q
        rw [if_pos rfl, decide_eq_true rfl]; split <;> rfl
      · rw [if_neg q, decide_eq_false (fun h => q h.symm)]
        by_cases r : (m.getD i kd).2.2 = true
        · rw [if_pos r, ← r]
        · rw [if_neg r]
          have r' : (m.getD i kd).2.2 = false := by simpa using r
          rw [← r']
    rw [e, bnd_mk]
    try dsimp only
    rw [gd_pos (by rw [List.length_set]; exact hi), if_pos ⟨rfl, rfl, rfl⟩, gd_pos (by omega)]
  · unfold F_casematelaw21_KeysEach_l2
    try dsimp only
    rw [if_neg (by rw [List.length_set]; omega), List.length_set, decide_eq_true rfl]
    rfl
theorem each1 {m : List Key} (hm : mayR m) (hl : m.length ≤ 100) (z : Int) : ∀ d b n, m.length = n + d → ∃ b', run (F_casematelaw21_KeysEach_l1 m z) (b, n) = some (.inl b') ∧ (b' = false → b = false ∧ ∀ j, n ≤ j → j < m.length → num m j ≠ z) := by
  intro d
  induction d with
  | zero =>
    intro b n h
    refine ⟨b, run_exit ?_, fun hb => ⟨hb, fun j h1 h2 => by omega⟩⟩
    unfold F_casematelaw21_KeysEach_l1
    try dsimp only
    rw [if_neg (by omega)]
  | succ d ih =>
    intro b n h
    have hn : n < m.length := by omega
    have hp := P_at hm hn rfl
    have e : F_casematelaw21_KeysEach_l1 m z (b, n) = some (.inl (b || decide (num m n = z), n + 1)) := by
      unfold F_casematelaw21_KeysEach_l1
      try dsimp only
      have hkd : m.getD n ((0 : Int), [], false) = m.getD n kd := rfl
      have hnum : (m.getD n kd).1 = num m n := rfl
      rw [if_pos hn, gd_pos hn, hkd, hnum, P_Find_at hn hp, bnd_mk]
      have fin : ∀ c : Bool, c = (b || decide (num m n = z)) → bnd (bnd (if b = true then (some true) else (gd (n < m.length) (some (decide (num m n = z)))) : Option Bool) (fun (b18 : Bool) => gd (n < m.length) (bnd (F_keys_Revoke m (num m n)) (fun (m19, z20) => if z20 = ((0 : Nat) : Int) then (if m19.length = m.length then (run (F_casematelaw21_KeysEach_l2 m n b18 m19) 0) else (some (.inr (.inr (.inr false))))) else (some (.inr (.inr (.inr false)))))))) (sel (fun (b9, m10, n11, n12, n13, b14) => gd ((n + 1) ≤ 9223372036854775807) (some (.inl (b9, (n + 1)))))) = (some (.inl (c, n + 1)) : Option ((Bool × Nat) ⊕ (Bool ⊕ Bool))) := by
        intro c hc
        have e1 : (if b = true then (some true) else (gd (n < m.length) (some (decide (num m n = z)))) : Option Bool) = some c := by
          rw [hc]
          by_cases r : b = true
          · rw [if_pos r, r]; rfl
          · rw [if_neg r, gd_pos hn]
            have r' : b = false := by simpa using r
            rw [r']; rfl
        rw [e1, bnd_mk, gd_pos hn, P_Revoke_at hn (by omega) hp, bnd_mk]
        try dsimp only
        rw [if_pos rfl, if_pos (List.length_set ..), each2 hn hl, bnd_mk, sel_inl]
        try dsimp only
        rw [gd_pos (by omega)]
      by_cases r : (m.getD n kd).2.2 = true
      · rw [if_pos r, if_pos r]
        try dsimp only
        rw [gd_pos hn, if_pos rfl, gd_pos hn, if_pos r, bnd_mk, if_neg (by decide)]
        exact fin _ rfl
      · rw [if_neg r, if_neg r]
        try dsimp only
        rw [gd_pos hn, gd_pos hn, if_neg r, if_pos rfl, gd_pos hn, decide_eq_true rfl, bnd_mk, if_neg (by decide)]
        exact fin _ rfl
    obtain ⟨b', g1, g2⟩ := ih (b || decide (num m n = z)) (n + 1) (by omega)
    refine ⟨b', run_next e g1, fun hb => ?_⟩
    obtain ⟨g3, g4⟩ := g2 hb
    have : b = false ∧ ¬ num m n = z := by simpa using g3
    refine ⟨this.1, fun j h1 h2 => ?_⟩
    rcases Nat.eq_or_lt_of_le h1 with s | s
    · rw [← s]; exact this.2
    · exact g4 j s h2
theorem L_KeysEach {m : List Key} {z : Int} (hk : okK m) : F_casematelaw21_KeysEach m z = some true := by
  unfold F_casematelaw21_KeysEach
  by_cases q : 100 < m.length
  · rw [if_pos q]
  · rw [if_neg q, P_Bytes hk (by omega), bnd_mk]
    by_cases hm : mayR m
    · rw [if_pos hm]
      try dsimp only
      obtain ⟨b', g1, g2⟩ := each1 hm (by omega) z m.length false 0 (by omega)
      rw [if_pos rfl, g1, bnd_mk, sel_inl]
      cases b' with
      | true =>
        rcases P_place hm z with ⟨i, h1, h2, h3⟩ | ⟨h1, h2⟩
        · rw [P_Find_at h1 h3, bnd_mk]
          try dsimp only
          rw [L_awake, bnd_mk, if_pos rfl, if_pos rfl]
        · rw [P_Find_no (by decide) h2, bnd_mk]
          try dsimp only
          rw [L_awake, bnd_mk, if_pos rfl, if_pos rfl]
      | false =>
        rw [P_Find_no (by decide) (P_no hm (fun i hi => (g2 rfl).2 i (Nat.zero_le _) hi)), bnd_mk]
        try dsimp only
        rw [L_awake, bnd_mk, if_pos rfl, if_neg (by decide), decide_eq_true rfl]
    · rw [if_neg hm]
      try dsimp only
      rw [if_neg (by decide), L_awake, bnd_mk]
/-! ### What was revoked -/
def rv (S : List Int) (m : List Key) : List Key := m.map (fun k => (k.1, k.2.1, k.2.2 || S.contains k.1))
theorem rv_len (S : List Int) (m : List Key) : (rv S m).length = m.length := List.length_map ..
theorem rv_get {S : List Int} {m : List Key} {i : Nat} (hi : i < m.length) : (rv S m).getD i kd = ((m.getD i kd).1, (m.getD i kd).2.1, (m.getD i kd).2.2 || S.contains (num m i)) := by
  unfold rv num
  rw [List.getD_eq_getElem?_getD, List.getElem?_map, List.getD_eq_getElem?_getD, List.getElem?_eq_getElem hi]; rfl
theorem rv_num {S : List Int} {m : List Key} {i : Nat} (hi : i < m.length) : num (rv S m) i = num m i := by
  unfold num; rw [rv_get hi]
theorem rv_incr {S : List Int} : ∀ {m : List Key} {a : Int}, incr a m → incr a (rv S m)
  | [], _, _ => trivial
  | k :: r, _, h => ⟨h.1, h.2.1, rv_incr (m := r) h.2.2⟩
theorem rv_may {S : List Int} {m : List Key} (h : mayR m) : mayR (rv S m) := ⟨rv_incr h.1, by rw [rv_len]; exact h.2⟩
theorem rv_nil (m : List Key) : rv [] m = m := by
  apply key_ext (rv_len _ _)
  intro i hi
  rw [rv_len] at hi
  rw [rv_get hi]
  simp [kd]
theorem rv_step {S : List Int} {m : List Key} {z : Int} {l : List Key} (hl : l.length = m.length) (h : ∀ j, j < m.length → l.getD j kd = ((m.getD j kd).1, (m.getD j kd).2.1, ((m.getD j kd).2.2 || S.contains (num m j)) || decide (num m j = z))) : l = rv (S ++ [z]) m := by
  apply key_ext (by rw [rv_len, hl])
  intro j hj
  rw [hl] at hj
  rw [h j hj, rv_get hj]
  have : (S ++ [z]).contains (num m j) = (S.contains (num m j) || decide (num m j = z)) := by
    rw [Bool.eq_iff_iff]; simp
  rw [this, Bool.or_assoc]
theorem Find_rv_at {S : List Int} {m : List Key} {z : Int} (hm : mayR m) {i : Nat} (hi : i < m.length) (hz : num m i = z) : F_keys_Find (rv S m) z = some (if ((m.getD i kd).2.2 || S.contains z) = true then (List.replicate 32 0, ((190 : Nat) : Int)) else ((m.getD i kd).2.1, ((0 : Nat) : Int))) := by
  have hi' : i < (rv S m).length := by rw [rv_len]; exact hi
  rw [P_Find_at hi' (P_at (rv_may hm) hi' (by rw [rv_num hi, hz])), rv_get hi, hz]
theorem Find_rv_no {S : List Int} {m : List Key} {z : Int} (hm : mayR m) (h : ∀ i, i < m.length → num m i ≠ z) : F_keys_Find (rv S m) z = some (List.replicate 32 0, ((190 : Nat) : Int)) :=
  P_Find_no (by decide) (P_no (rv_may hm) (fun i hi => by rw [rv_len] at hi; rw [rv_num hi]; exact h i hi))
theorem Find_rv_in {S : List Int} {m : List Key} {z : Int} (hm : mayR m) (h : S.contains z = true) : F_keys_Find (rv S m) z = some (List.replicate 32 0, ((190 : Nat) : Int)) := by
  rcases P_place hm z with ⟨i, h1, h2, h3⟩ | ⟨h1, h2⟩
  · rw [Find_rv_at hm h1 h2, h, Bool.or_true, if_pos rfl]
  · exact Find_rv_no hm h1
theorem Find_rv_out {S : List Int} {m : List Key} {z : Int} (hm : mayR m) (h : S.contains z = false) : F_keys_Find (rv S m) z = F_keys_Find m z := by
  rcases P_place hm z with ⟨i, h1, h2, h3⟩ | ⟨h1, h2⟩
  · rw [Find_rv_at hm h1 h2, h, Bool.or_false, P_Find_at h1 h3]
  · rw [Find_rv_no hm h1, P_Find_no (by decide) h2]
theorem Rev_rv {S : List Int} {m : List Key} {z : Int} (hm : mayR m) : F_keys_Revoke (rv S m) z = some (rv (S ++ [z]) m, ((0 : Nat) : Int)) ∨ (F_keys_Revoke (rv S m) z = some ([], ((190 : Nat) : Int)) ∧ rv S m = rv (S ++ [z]) m) := by
  rcases P_place hm z with ⟨i, h1, h2, h3⟩ | ⟨h1, h2⟩
  · left
    have hi' : i < (rv S m).length := by rw [rv_len]; exact h1
    have hl : m.length ≤ 8 := hm.2
    rw [P_Revoke_at hi' (by rw [rv_len]; omega) (P_at (rv_may hm) hi' (by rw [rv_num h1, h2]))]
    congr 2
    apply rv_step (by rw [List.length_set, rv_len])
    intro j hj
    rw [List.getD_eq_getElem?_getD, List.getElem?_set]
    by_cases q : i = j
    · subst q
      rw [if_pos rfl, if_pos hi', rv_get h1, h2, decide_eq_true rfl, Bool.or_true]; rfl
    · have hne : num m j ≠ z := fun e => q (num_inj hm.1 h1 hj (by rw [h2, e]))
      rw [if_neg q, ← List.getD_eq_getElem?_getD, rv_get hj, decide_eq_false hne, Bool.or_false]
  · right
    refine ⟨P_Revoke_no (by decide) (P_no (rv_may hm) (fun i hi => by rw [rv_len] at hi; rw [rv_num hi]; exact h1 i hi)), ?_⟩
    apply rv_step (rv_len _ _)
    intro j hj
    rw [rv_get hj, decide_eq_false (h1 j hj), Bool.or_false]
theorem rev2 {m : List Key} {T : List Int} {n : Nat} (hm : mayR m) (hn : n < T.length) (hl : T.length ≤ 30) (b : Bool) : run (F_casematelaw21_KeysRevoked_l2 T n (rv (T.take n ++ [T.getD n 0]) m) b) 0 = some (.inl (rv (T.take n ++ [T.getD n 0]) m, b)) := by
  refine run_for (fun i => i) (n + 1) (fun i hi => ?_) ?_
  · unfold F_casematelaw21_KeysRevoked_l2
    have hin : (T.take n ++ [T.getD n 0]).contains (T.getD i 0) = true := by
      rw [List.contains_iff_mem, List.mem_append]
      rcases Nat.lt_or_ge i n with q | q
      · left
        rw [List.getD_eq_getElem?_getD, List.getElem?_eq_getElem (by omega : i < T.length)]
        refine List.mem_iff_getElem.2 ⟨i, by rw [List.length_take]; omega, ?_⟩
        rw [List.getElem_take]; rfl
      · right
        rw [show i = n by omega]; exact List.mem_singleton.2 rfl
    rw [if_pos (by omega), gd_pos (by omega), Find_rv_in hm hin, bnd_mk]
    try dsimp only
    rw [if_pos rfl, gd_pos (by omega)]
  · unfold F_casematelaw21_KeysRevoked_l2
    try dsimp only
    rw [if_neg (by omega)]
theorem take_snoc {T : List Int} {n : Nat} (h : n < T.length) : T.take (n + 1) = T.take n ++ [T.getD n 0] := by
  rw [List.take_add_one, List.getElem?_eq_getElem h, List.getD_eq_getElem?_getD, List.getElem?_eq_getElem h]; rfl
theorem rev1 {m : List Key} {T : List Int} (hm : mayR m) (hl : T.length ≤ 30) (z : Int) : run (F_casematelaw21_KeysRevoked_l1 T z) (m, false, 0) = some (.inl (rv T m, T.contains z)) := by
  have h0 : (m, false, 0) = (fun n : Nat => ((rv (T.take n) m, (T.take n).contains z, n) : List Key × Bool × Nat)) 0 := by
    try dsimp only
    rw [List.take_zero, rv_nil]; rfl
  rw [h0]
  refine run_for (fun n : Nat => ((rv (T.take n) m, (T.take n).contains z, n) : List Key × Bool × Nat)) T.length (fun n hn => ?_) ?_
  · unfold F_casematelaw21_KeysRevoked_l1
    try dsimp only
    rw [if_pos hn, gd_pos hn, take_snoc hn]
    have hb : (if (T.take n).contains z = true then (some true) else (gd (n < T.length) (some (decide ((T.getD n (0 : Int)) = z)))) : Option Bool) = some ((T.take n ++ [T.getD n 0]).contains z) := by
      by_cases r : (T.take n).contains z = true
      · rw [if_pos r]; congr 1; symm; rw [List.contains_iff_mem] at r ⊢; exact List.mem_append.2 (.inl r)
      · rw [if_neg r, gd_pos hn]; congr 1; rw [Bool.eq_iff_iff]
        rw [List.contains_iff_mem] at r ⊢
        rw [List.mem_append, List.mem_singleton, decide_eq_true_iff]
        exact ⟨fun h => .inr h.symm, fun h => h.elim (fun q => absurd q r) (fun q => q.symm)⟩
    rcases Rev_rv (S := T.take n) (z := T.getD n 0) hm with e | ⟨e, e'⟩
    · rw [e, bnd_mk]
      try dsimp only
      rw [if_pos rfl, bnd_mk, sel_inl, hb, bnd_mk, rev2 hm hn hl, bnd_mk, sel_inl]
      try dsimp only
      rw [gd_pos (by omega)]
    · rw [e, bnd_mk]
      try dsimp only
      rw [if_neg (by decide), if_pos rfl, if_pos (by decide), bnd_mk, sel_inl, hb, bnd_mk, e', rev2 hm hn hl, bnd_mk, sel_inl]
      try dsimp only
      rw [gd_pos (by omega)]
  · unfold F_casematelaw21_KeysRevoked_l1
    try dsimp only
    rw [if_neg (by omega), List.take_length]
theorem L_KeysRevoked {m : List Key} {T : List Int} {z : Int} (hk : okK m) : F_casematelaw21_KeysRevoked m T z = some true := by
  unfold F_casematelaw21_KeysRevoked
  by_cases q : 100 < m.length
  · rw [if_pos q]
  · rw [if_neg q]
    by_cases q2 : 30 < T.length
    · rw [if_pos q2]
    · rw [if_neg q2, R_may (by omega), bnd_mk]
      by_cases hm : mayR m
      · rw [decide_eq_true hm, if_pos rfl]
        have hF : ∃ l e, F_keys_Find m z = some (l, e) := by
          rcases P_place hm z with ⟨i, h1, h2, h3⟩ | ⟨h1, h2⟩
          · rw [P_Find_at h1 h3]; exact ⟨_, _, rfl⟩
          · rw [P_Find_no (by decide) h2]; exact ⟨_, _, rfl⟩
        obtain ⟨l, e, hF⟩ := hF
        unfold F_casematelaw21_own
        rw [hF, bnd_mk]
        try dsimp only
        rw [gd_pos (by omega), bnd_mk, rev1 hm (by omega), bnd_mk, sel_inl]
        try dsimp only
        by_cases r : T.contains z = true
        · rw [Find_rv_in hm r, bnd_mk]
          try dsimp only
          rw [L_awake, bnd_mk, if_pos rfl, if_pos r, if_pos rfl, bnd_mk]
        · have r' : T.contains z = false := by simpa using r
          rw [Find_rv_out hm r', hF, bnd_mk]
          try dsimp only
          rw [L_awake, bnd_mk, if_pos rfl, if_neg r, if_neg r, if_pos rfl, decide_eq_true rfl, bnd_mk]
      · rw [decide_eq_false hm, if_neg (by decide), L_awake, bnd_mk]
end Go.Proofs.Ytmlddodimpmogaa
