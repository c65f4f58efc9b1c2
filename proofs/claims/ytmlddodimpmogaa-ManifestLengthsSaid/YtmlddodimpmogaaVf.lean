/- Laws of layer 20 in plain law. Lemmas, no statement of the claim. -/
import Derived.Test.YtmlddodimpmogaaVe
set_option linter.unusedVariables false
set_option linter.unusedSimpArgs false
set_option maxRecDepth 10000
namespace Go.Proofs.Ytmlddodimpmogaa
/-! ### What is laid down, read -/
theorem getD_takeM {l : List Nat} {k i : Nat} (h : i < k) : (l.take k).getD i 0 = l.getD i 0 := by
  rw [List.getD_eq_getElem?_getD, List.getElem?_take, if_pos h, List.getD_eq_getElem?_getD]
theorem n4_take {l : List Nat} {k p : Nat} (h : p + 4 ≤ k) : n4 (l.take k) p = n4 l p := by
  unfold n4
  rw [getD_takeM (by omega), getD_takeM (by omega), getD_takeM (by omega), getD_takeM (by omega)]
theorem getD_appL {l x : List Nat} {i : Nat} (h : i < l.length) : (l ++ x).getD i 0 = l.getD i 0 := by
  rw [List.getD_eq_getElem?_getD, List.getElem?_append_left h, List.getD_eq_getElem?_getD]
theorem n4_appL {l x : List Nat} {p : Nat} (h : p + 4 ≤ l.length) : n4 (l ++ x) p = n4 l p := by
  unfold n4
  rw [getD_appL (by omega), getD_appL (by omega), getD_appL (by omega), getD_appL (by omega)]
theorem n4_b4 {l t : List Nat} {p n : Nat} (h : l.drop p = b4 n ++ t) (hn : n < 4294967296) : n4 l p = n := by
  have g : ∀ i, l.getD (p + i) 0 = (b4 n ++ t).getD i 0 := fun i => by
    rw [← h, List.getD_eq_getElem?_getD, List.getD_eq_getElem?_getD, List.getElem?_drop]
  have e0 : l.getD p 0 = n % 256 := g 0
  have e1 : l.getD (p + 1) 0 = n / 256 % 256 := g 1
  have e2 : l.getD (p + 2) 0 = n / 65536 % 256 := g 2
  have e3 : l.getD (p + 3) 0 = n / 16777216 % 256 := g 3
  unfold n4
  rw [e0, e1, e2, e3]
  omega
theorem flatS_len : ∀ {m : List Seg}, okG m → (m.flatMap segB).length = 40 * m.length
  | [], _ => rfl
  | s :: r, h => by
    rw [List.flatMap_cons, List.length_append, segB_len (h s (List.mem_cons_self ..)).1, flatS_len (fun x hx => h x (List.mem_cons_of_mem _ hx)), List.length_cons]; omega
theorem manB_len {m : List Seg} (hk : okG m) (z1 z2 z3 z4 : Int) : (manB z1 z2 z3 z4 m).length = 24 + 40 * m.length := by
  unfold manB
  rw [List.length_append, flatS_len hk, manH_len]
theorem flatS_drop : ∀ {m : List Seg} {j : Nat}, okG m → j < m.length → (m.flatMap segB).drop (40 * j) = segB (m.getD j sd) ++ (m.drop (j + 1)).flatMap segB
  | [], _, _, h => by simp at h
  | s :: r, 0, _, _ => rfl
  | s :: r, j + 1, hk, h => by
    have hl := segB_len (hk s (List.mem_cons_self ..)).1
    rw [List.flatMap_cons, show 40 * (j + 1) = (segB s).length + 40 * j by omega, ← List.drop_drop, List.drop_left]
    exact flatS_drop (m := r) (fun x hx => hk x (List.mem_cons_of_mem _ hx)) (by simpa using h)
theorem psg_app {l : List Nat} {p : Nat} {s : Seg} {t : List Nat} (h : l.drop p = segB s ++ t) (h32 : s.2.2.length = 32) (h0 : inR s.1) (h1 : inR s.2.1) : psg l p = s := by
  unfold inR at h0 h1
  have e0 : n4 l p = s.1.toNat := n4_b4 (t := b4 s.2.1.toNat ++ s.2.2 ++ t) (by rw [h]; unfold segB; simp only [List.append_assoc]) (by omega)
  have d4 : l.drop (p + 4) = b4 s.2.1.toNat ++ (s.2.2 ++ t) := by
    rw [← List.drop_drop, h]
    unfold segB
    rw [List.append_assoc, List.append_assoc]
    rfl
  have e1 : n4 l (p + 4) = s.2.1.toNat := n4_b4 d4 (by omega)
  have e2 : (l.drop (p + 8)).take 32 = s.2.2 := by
    rw [show p + 8 = p + 4 + 4 by omega, ← List.drop_drop, d4]
    have : ∀ x : List Nat, (b4 s.2.1.toNat ++ x).drop 4 = x := fun x => rfl
    rw [this, List.take_left' h32]
  unfold psg
  rw [e0, e1, e2]
  refine Prod.ext ?_ (Prod.ext ?_ rfl)
  · dsimp only; omega
  · dsimp only; omega
theorem segs_in : ∀ {m : List Seg} {a : Int}, segs a m → ∀ s, s ∈ m → inR s.1 ∧ inR s.2.1
  | t :: r, a, h, s, hs => by
    rcases List.mem_cons.1 hs with rfl | hs
    · exact ⟨⟨h.1.1, h.1.2.1⟩, h.1.2.2.1, by have := h.1.2.2.2.1; omega⟩
    · exact segs_in h.2 s hs
section
variable {m : List Seg} {z1 z2 z3 z4 : Int} (hk : okG m) (hm : mayM z1 z2 z3 z4 m)
include hk hm
omit hk in
theorem n4_manB : n4 (manB z1 z2 z3 z4 m) 4 = z1.toNat ∧ n4 (manB z1 z2 z3 z4 m) 8 = z2.toNat ∧ n4 (manB z1 z2 z3 z4 m) 12 = z3.toNat ∧ n4 (manB z1 z2 z3 z4 m) 16 = z4.toNat ∧ n4 (manB z1 z2 z3 z4 m) 20 = m.length := by
  have h1 := hm.1.1
  have h2 := hm.1.2.1
  have h3 := hm.1.2.2.1
  have h4 := hm.1.2.2.2.1
  have h5 := hm.1.2.2.2.2
  unfold inR at h1 h2 h3 h4
  refine ⟨n4_b4 (t := b4 z2.toNat ++ b4 z3.toNat ++ b4 z4.toNat ++ b4 m.length ++ m.flatMap segB) ?_ (by omega), n4_b4 (t := b4 z3.toNat ++ b4 z4.toNat ++ b4 m.length ++ m.flatMap segB) ?_ (by omega), n4_b4 (t := b4 z4.toNat ++ b4 m.length ++ m.flatMap segB) ?_ (by omega), n4_b4 (t := b4 m.length ++ m.flatMap segB) ?_ (by omega), n4_b4 (t := m.flatMap segB) ?_ (by omega)⟩ <;> rfl
theorem psm_manB : psm (manB z1 z2 z3 z4 m) m.length = m := by
  apply seg_ext (psm_len _ _)
  intro j hj
  rw [psm_len] at hj
  have hjm : m.getD j sd ∈ m := by rw [List.getD_eq_getElem?_getD, List.getElem?_eq_getElem hj]; exact List.getElem_mem hj
  have e : (psm (manB z1 z2 z3 z4 m) m.length).getD j sd = psg (manB z1 z2 z3 z4 m) (24 + 40 * j) := by
    unfold psm
    rw [List.getD_eq_getElem?_getD, List.getElem?_map, List.getElem?_range hj]; rfl
  rw [e]
  obtain ⟨g1, g2⟩ := segs_in hm.2 _ hjm
  refine psg_app (t := (m.drop (j + 1)).flatMap segB) ?_ (hk _ hjm).1 g1 g2
  rw [← List.drop_drop]
  exact flatS_drop hk hj
theorem fit_manB : fitM (manB z1 z2 z3 z4 m) := by
  obtain ⟨e1, e2, e3, e4, e5⟩ := n4_manB hm
  have h1 := hm.1.1.1
  have h2 := hm.1.2.1.1
  have h3 := hm.1.2.2.1.1
  have h4 := hm.1.2.2.2.1.1
  refine ⟨by rw [manB_len hk]; omega, rfl, by rw [e5]; exact hm.1.2.2.2.2, by rw [manB_len hk, e5], ?_⟩
  unfold mayL
  rw [e1, e2, e3, e4, e5, psm_manB hk hm, Int.toNat_of_nonneg h1, Int.toNat_of_nonneg h2, Int.toNat_of_nonneg h3, Int.toNat_of_nonneg h4]
  exact hm
omit hm in
theorem manB_lb : LB 256 (manB z1 z2 z3 z4 m) := by
  unfold manB manH
  refine LB.app (LB.app (LB.app (LB.app (LB.app (LB.app ?_ (LB_b4 _)) (LB_b4 _)) (LB_b4 _)) (LB_b4 _)) (LB_b4 _)) ?_
  · intro x hx
    simp only [List.mem_cons, List.not_mem_nil, or_false] at hx
    omega
  · intro x hx
    obtain ⟨s, h1, h2⟩ := List.mem_flatMap.1 hx
    exact LB.app (LB.app (LB_b4 _) (LB_b4 _)) (hk s h1).2 x h2
theorem P_Back : F_manifest_Parse (manB z1 z2 z3 z4 m) = some (z1, z2, z3, z4, m, ((0 : Nat) : Int)) := by
  obtain ⟨e1, e2, e3, e4, e5⟩ := n4_manB hm
  have h1 := hm.1.1.1
  have h2 := hm.1.2.1.1
  have h3 := hm.1.2.2.1.1
  have h4 := hm.1.2.2.2.1.1
  have h5 := hm.1.2.2.2.2
  rw [P_ParseM (manB_lb hk) (by rw [manB_len hk]; omega), if_pos (fit_manB hk hm), e1, e2, e3, e4, e5, psm_manB hk hm, Int.toNat_of_nonneg h1, Int.toNat_of_nonneg h2, Int.toNat_of_nonneg h3, Int.toNat_of_nonneg h4]
end
theorem P_Split {l : List Nat} (hl : l.length ≤ 1000000) : F_manifest_Split l = some (if l.length < 64 then ([], [], ((4 : Nat) : Int)) else (l.take (l.length - 64), l.drop (l.length - 64), ((0 : Nat) : Int))) := by
  unfold F_manifest_Split F_clone
  by_cases q : l.length < 64
  · rw [if_pos (by omega), if_pos q]
  · have e : Int.toNat (((l.length : Nat) : Int) - ((64 : Nat) : Int)) = l.length - 64 := by omega
    rw [if_neg (by omega), if_neg q, e, gd_pos (by omega), gd_pos (by omega), gd_pos (by rw [List.length_take]; omega), bnd_mk, gd_pos (by omega), gd_pos (by omega), gd_pos (by rw [List.length_drop]; omega), bnd_mk]
theorem L_awakeM : F_casematelaw20_awake = some true := by
  have hm : mayM ((1 : Nat) : Int) ((0 : Nat) : Int) ((0 : Nat) : Int) ((0 : Nat) : Int) [] := by decide
  have hk : okG [] := fun s hs => by cases hs
  have hs : F_manifest_Split (List.replicate 63 0) = some ([], [], ((4 : Nat) : Int)) := by
    rw [P_Split (by decide)]; rfl
  unfold F_casematelaw20_awake
  rw [P_manB hk (by decide), bnd_mk, if_pos hm]
  try dsimp only
  rw [P_Back hk hm, bnd_mk]
  try dsimp only
  rw [hs, bnd_mk]
  try dsimp only
  rw [if_pos (by rw [manB_len hk]; rfl), gd_pos (by rw [manB_len hk]; decide), if_pos (by decide), if_pos rfl, R_SameM (by decide), bnd_mk, decide_eq_true ⟨rfl, rfl, rfl, rfl, rfl⟩, if_pos rfl, if_pos rfl, bnd_mk]
  rfl
/-! ### The laws -/
theorem L_ManifestLays {z1 z2 z3 z4 : Int} {m : List Seg} (hk : okG m) : F_casematelaw20_ManifestLays z1 z2 z3 z4 m = some true := by
  unfold F_casematelaw20_ManifestLays
  by_cases q : 100 < m.length
  · rw [if_pos q]
  · rw [if_neg q, P_manB hk (by omega), bnd_mk]
    by_cases hm : mayM z1 z2 z3 z4 m
    · rw [if_pos hm]
      try dsimp only
      rw [R_mayM (by omega), bnd_mk, decide_eq_true hm, if_pos rfl, L_awakeM, bnd_mk, if_pos rfl, if_pos rfl, R_manB hk hm, bnd_mk, decide_eq_true rfl]
    · rw [if_neg hm]
      try dsimp only
      rw [R_mayM (by omega), bnd_mk, decide_eq_false hm, if_neg (by decide), L_awakeM, bnd_mk, if_pos rfl, if_pos rfl]
      rfl
theorem L_ManifestParses {l : List Nat} (hb : LB 256 l) : F_casematelaw20_ManifestParses l = some true := by
  unfold F_casematelaw20_ManifestParses
  by_cases q : 1000 < l.length
  · rw [if_pos q]
  · rw [if_neg q, gd_pos (by omega), List.nil_append, P_ParseM hb (by omega), bnd_mk]
    by_cases r : fitM l
    · rw [if_pos r]
      try dsimp only
      rw [R_ParseM hb (by omega), bnd_mk, if_pos r]
      try dsimp only
      rw [if_pos rfl, if_pos rfl, L_awakeM, bnd_mk, if_pos rfl, if_pos rfl, R_SameM (by rw [psm_len]; have := r.2.2.1; omega), bnd_mk, decide_eq_true ⟨rfl, rfl, rfl, rfl, rfl⟩]
    · rw [if_neg r]
      try dsimp only
      rw [R_ParseM hb (by omega), bnd_mk, if_neg r]
      try dsimp only
      rw [if_pos rfl, if_neg (by decide), L_awakeM, bnd_mk, if_pos rfl, if_pos rfl, R_SameM (by decide), bnd_mk, decide_eq_true ⟨rfl, rfl, rfl, rfl, rfl⟩]
theorem L_ManifestBack {z1 z2 z3 z4 : Int} {m : List Seg} {l : List Nat} (hk : okG m) (hb : LB 256 l) : F_casematelaw20_ManifestBack z1 z2 z3 z4 m l = some true := by
  unfold F_casematelaw20_ManifestBack
  by_cases q : 100 < m.length
  · rw [if_pos q]
  rw [if_neg q]
  by_cases q2 : 1000 < l.length
  · rw [if_pos q2]
  rw [if_neg q2, P_manB hk (by omega), bnd_mk]
  have rest : bnd (F_manifest_Parse l) (fun (z16, z17, z18, z19, m20, z21) => if z21 = ((0 : Nat) : Int) then (bnd (F_manifest_Bytes z16 z17 z18 z19 m20) (fun (l23, z24) => bnd (F_casematelaw20_awake) (fun (b25 : Bool) => if b25 = true then (if z24 = ((0 : Nat) : Int) then (some (decide (l23 = l))) else (some false)) else (some false)))) else (bnd (F_casematelaw20_awake) (fun (b22 : Bool) => some b22))) = some true := by
    rw [P_ParseM hb (by omega), bnd_mk]
    by_cases r : fitM l
    · rw [if_pos r]
      try dsimp only
      rw [if_pos rfl, P_manB (psm_ok hb (by have := r.2.2.2.1; omega)) (by rw [psm_len]; have := r.2.2.1; omega), bnd_mk, if_pos (show mayM _ _ _ _ _ from r.2.2.2.2), fit_back hb r]
      try dsimp only
      rw [L_awakeM, bnd_mk, if_pos rfl, if_pos rfl, decide_eq_true rfl]
    · rw [if_neg r]
      try dsimp only
      rw [if_neg (by decide), L_awakeM, bnd_mk]
  by_cases hm : mayM z1 z2 z3 z4 m
  · rw [if_pos hm]
    try dsimp only
    rw [if_pos rfl, P_Back hk hm, bnd_mk]
    try dsimp only
    rw [if_pos rfl, R_SameM (by omega), bnd_mk, decide_eq_true ⟨rfl, rfl, rfl, rfl, rfl⟩, if_pos rfl, bnd_mk, sel_inl]
    exact rest
  · rw [if_neg hm]
    try dsimp only
    rw [if_neg (by decide), bnd_mk, sel_inl]
    exact rest
theorem splits_loop {l : List Nat} (hl : l.length ≤ 1000000) : ∃ x, run (F_casematelaw20_ManifestSplits_l1 l) (0, l) = some x := by
  obtain ⟨x, h, _⟩ := run_inv (f := F_casematelaw20_ManifestSplits_l1 l) (fun s : Nat × List Nat => s.1 ≤ l.length) (fun s => l.length - s.1) (fun _ => True) (by
    rintro ⟨n, k⟩ h
    try dsimp only at h
    unfold F_casematelaw20_ManifestSplits_l1
    try dsimp only
    by_cases q : n < l.length
    · left
      rw [if_pos q, gd_pos q, gd_pos (by omega)]
      exact ⟨_, rfl, by dsimp only; omega, by dsimp only; omega⟩
    · right
      rw [if_neg q]
      exact ⟨_, rfl, trivial⟩) (0, l) (Nat.zero_le _)
  exact ⟨x, h⟩
theorem L_ManifestSplits {l : List Nat} : F_casematelaw20_ManifestSplits l = some true := by
  unfold F_casematelaw20_ManifestSplits
  by_cases q : 2000 < l.length
  · rw [if_pos q]
  rw [if_neg q, gd_pos (by omega), List.nil_append, P_Split (by omega), bnd_mk]
  by_cases q2 : l.length < 64
  · rw [if_pos q2]
    try dsimp only
    rw [if_pos q2, L_awakeM, bnd_mk, if_pos rfl, if_pos rfl, gd_pos (by decide)]
    rfl
  · rw [if_neg q2]
    try dsimp only
    obtain ⟨x, hx⟩ := splits_loop (l := l.take (l.length - 64)) (by rw [List.length_take]; omega)
    rw [if_neg q2, gd_pos (by rw [List.length_take, List.length_drop]; omega), hx, bnd_mk, L_awakeM, bnd_mk, if_pos rfl, if_pos rfl, if_pos (by rw [List.length_drop]; omega), List.take_append_drop, if_pos rfl, decide_eq_true rfl, bnd_mk]
theorem L_ManifestLengths {z1 z2 z3 z4 : Int} {m : List Seg} {n : Nat} (hk : okG m) (hn : n < 256) : F_casematelaw20_ManifestLengths z1 z2 z3 z4 m n = some true := by
  unfold F_casematelaw20_ManifestLengths
  by_cases q : 100 < m.length
  · rw [if_pos q]
  rw [if_neg q, P_manB hk (by omega), bnd_mk]
  by_cases hm : mayM z1 z2 z3 z4 m
  · have hlen := manB_len hk z1 z2 z3 z4
    have h8 := hm.1.2.2.2.2
    obtain ⟨_, _, _, _, e5⟩ := n4_manB hm
    have hlb := manB_lb (z1 := z1) (z2 := z2) (z3 := z3) (z4 := z4) hk
    rw [if_pos hm]
    try dsimp only
    generalize manB z1 z2 z3 z4 m = b at hlen e5 hlb
    have e : Int.toNat (((b.length : Nat) : Int) - ((1 : Nat) : Int)) = b.length - 1 := by omega
    have f1 : ¬ fitM (b.take (b.length - 1)) := by
      intro h
      have g1 := h.1
      have g2 := h.2.2.2.1
      rw [List.length_take] at g1 g2
      rw [n4_take (by omega), e5] at g2
      omega
    have f2 : ¬ fitM (b ++ [n]) := by
      intro h
      have g2 := h.2.2.2.1
      rw [List.length_append, n4_appL (by omega), e5] at g2
      have : [n].length = 1 := rfl
      omega
    rw [if_pos rfl, gd_pos (by omega), gd_pos (by omega), if_pos hlen, gd_pos (by omega), e, gd_pos (by omega), P_ParseM (hlb.take _) (by rw [List.length_take]; omega), bnd_mk, if_neg f1]
    try dsimp only
    rw [gd_pos (by omega), gd_pos (by omega), List.nil_append, P_ParseM (hlb.app (LB.cons hn LB.nil)) (by rw [List.length_append]; have : [n].length = 1 := rfl; omega), bnd_mk, if_neg f2]
    try dsimp only
    have hl2 : (b ++ List.replicate 64 0).length = b.length + 64 := by rw [List.length_append, List.length_replicate]
    have hs : F_manifest_Split (b ++ List.replicate 64 0) = some (b, List.replicate 64 0, ((0 : Nat) : Int)) := by
      rw [P_Split (by omega), if_neg (by omega), hl2, Nat.add_sub_cancel, List.take_left, List.drop_left]
    rw [gd_pos (by omega), gd_pos (by omega), hs, bnd_mk]
    try dsimp only
    rw [L_awakeM, bnd_mk, if_pos rfl, if_pos rfl, if_pos rfl, if_pos rfl, if_pos rfl, decide_eq_true rfl, bnd_mk]
  · rw [if_neg hm]
    try dsimp only
    rw [if_neg (by decide), L_awakeM, bnd_mk, if_pos rfl]
    rfl
end Go.Proofs.Ytmlddodimpmogaa
