/- Plain functions with guards and loops: definitions and lemmas, no statement of the claim. -/
import Derived.KernelRfl
set_option linter.unusedVariables false
namespace Go.Proofs.Ytnagkhofkjjajaa

/-! ### Guards, names for values, calls -/
def gd {α : Type} (c : Prop) [Decidable c] (x : Option α) : Option α := if c then x else none
theorem gd_some {α : Type} {c : Prop} [Decidable c] {x : Option α} {r : α} (h : gd c x = some r) : c ∧ x = some r := by
  unfold gd at h
  split at h
  · rename_i q; exact ⟨q, h⟩
  · cases h
theorem gd_pos {α : Type} {c : Prop} [Decidable c] {x : Option α} (h : c) : gd c x = x := if_pos h
def ltb {β α : Type} (e : β) (k : β → Option α) : Option α := k e
theorem ltb_some {β α : Type} {e : β} {k : β → Option α} {r : α} (h : ltb e k = some r) : ∃ t, t = e ∧ k t = some r := ⟨e, rfl, h⟩
theorem ltb_eq {β α : Type} (e : β) (k : β → Option α) : ltb e k = k e := by unfold ltb; exact Eq.trans rfl rfl
def bnd {β α : Type} (x : Option β) (k : β → Option α) : Option α := match x with
  | none => none
  | some t => k t
theorem bnd_some {β α : Type} {x : Option β} {k : β → Option α} {r : α} (h : bnd x k = some r) : ∃ t, x = some t ∧ k t = some r := by
  cases x with
  | none => cases h
  | some t => exact ⟨t, rfl, h⟩
theorem bnd_eq {β α : Type} {x : Option β} {t : β} (h : x = some t) (k : β → Option α) : bnd x k = k t := by rw [h]; rfl
theorem bnd_mk {β α : Type} (t : β) (k : β → Option α) : bnd (some t) k = k t := bnd_eq rfl k
theorem bnd_none {β α : Type} (k : β → Option α) : bnd none k = none := by unfold bnd; exact Eq.trans rfl rfl
/-- what comes behind a part of a function that may leave it -/
def sel {β ρ : Type} (k : β → Option ρ) : β ⊕ ρ → Option ρ
  | .inl t => k t
  | .inr r => some r
theorem sel_inl {β ρ : Type} (k : β → Option ρ) (t : β) : sel k (.inl t) = k t := by unfold sel; exact Eq.trans rfl rfl
theorem sel_inr {β ρ : Type} (k : β → Option ρ) (r : ρ) : sel k (.inr r) = some r := by unfold sel; exact Eq.trans rfl rfl

/-! ### Loops -/
section
variable {σ ρ : Type}
def iter (f : σ → Option (σ ⊕ ρ)) : Nat → σ → Option ρ
  | 0, _ => none
  | k + 1, s => match f s with
    | none => none
    | some (.inl t) => iter f k t
    | some (.inr r) => some r
def nxt (f : σ → Option (σ ⊕ ρ)) (k : Nat) (x : ρ) : σ ⊕ ρ → Prop
  | .inl t => iter f k t = some x
  | .inr r => r = x
theorem iter_zero {f : σ → Option (σ ⊕ ρ)} {s : σ} {x : ρ} (h : iter f 0 s = some x) : False := by cases h
theorem iter_succ {f : σ → Option (σ ⊕ ρ)} {k : Nat} {s : σ} {x : ρ} (h : iter f (k + 1) s = some x) : ∃ y, f s = some y ∧ nxt f k x y := by
  unfold iter at h
  split at h
  · cases h
  · rename_i t e; exact ⟨_, e, h⟩
  · rename_i r e; exact ⟨_, e, Option.some.inj h⟩
theorem iter_more {f : σ → Option (σ ⊕ ρ)} : ∀ {k : Nat} {s : σ} {x : ρ}, iter f k s = some x → ∀ j, iter f (k + j) s = some x := by
  intro k
  induction k with
  | zero => intro s x h; cases h
  | succ k ih =>
    intro s x h j
    rw [show k + 1 + j = (k + j) + 1 by omega]
    unfold iter at h ⊢
    split at h
    · cases h
    · rename_i t e; exact ih h j
    · exact h
theorem iter_same {f : σ → Option (σ ⊕ ρ)} {k j : Nat} {s : σ} {x y : ρ} (h : iter f k s = some x) (g : iter f j s = some y) : x = y := by
  have h1 := iter_more h j
  have h2 := iter_more g k
  rw [Nat.add_comm j k] at h2
  rw [h1] at h2
  exact Option.some.inj h2
open Classical in
noncomputable def run (f : σ → Option (σ ⊕ ρ)) (s : σ) : Option ρ := if h : ∃ k x, iter f k s = some x then iter f h.choose s else none
theorem run_some {f : σ → Option (σ ⊕ ρ)} {s : σ} {x : ρ} (h : run f s = some x) : ∃ k, iter f k s = some x := by
  unfold run at h
  split at h
  · exact ⟨_, h⟩
  · cases h
theorem run_of {f : σ → Option (σ ⊕ ρ)} {k : Nat} {s : σ} {x : ρ} (h : iter f k s = some x) : run f s = some x := by
  have hex : ∃ k x, iter f k s = some x := ⟨k, x, h⟩
  unfold run
  rw [dif_pos hex]
  obtain ⟨y, hy⟩ := hex.choose_spec
  rw [hy, iter_same hy h]
theorem run_exit {f : σ → Option (σ ⊕ ρ)} {s : σ} {x : ρ} (h : f s = some (.inr x)) : run f s = some x := run_of (k := 1) (by unfold iter; rw [h])
theorem run_next {f : σ → Option (σ ⊕ ρ)} {s t : σ} {x : ρ} (h : f s = some (.inl t)) (g : run f t = some x) : run f s = some x := by
  obtain ⟨k, hk⟩ := run_some g
  exact run_of (k := k + 1) (by unfold iter; rw [h]; exact hk)
/-- A loop whose state is told by the number of its rounds. -/
theorem run_for {f : σ → Option (σ ⊕ ρ)} {x : ρ} (st : Nat → σ) (n : Nat) (h : ∀ i, i < n → f (st i) = some (.inl (st (i + 1)))) (hx : f (st n) = some (.inr x)) : run f (st 0) = some x := by
  have : ∀ d i, i + d = n → run f (st i) = some x := by
    intro d
    induction d with
    | zero => intro i hi; rw [show i = n by omega]; exact run_exit hx
    | succ d ih => intro i hi; exact run_next (h i (by omega)) (ih (i + 1) (by omega))
  exact this n 0 (by omega)
/-- the same, from a later round on -/
theorem run_from {f : σ → Option (σ ⊕ ρ)} {x : ρ} (st : Nat → σ) (m n : Nat) (hm : m ≤ n) (h : ∀ i, m ≤ i → i < n → f (st i) = some (.inl (st (i + 1)))) (hx : f (st n) = some (.inr x)) : run f (st m) = some x := by
  have := run_for (f := f) (x := x) (fun i => st (m + i)) (n - m) (fun i hi => by have := h (m + i) (by omega) (by omega); rwa [Nat.add_assoc] at this) (by simpa [show m + (n - m) = n by omega] using hx)
  simpa using this
/-- A loop with an invariant and a measure. -/
theorem run_inv {f : σ → Option (σ ⊕ ρ)} (I : σ → Prop) (m : σ → Nat) (Q : ρ → Prop) (h : ∀ s, I s → (∃ t, f s = some (.inl t) ∧ I t ∧ m t < m s) ∨ (∃ x, f s = some (.inr x) ∧ Q x)) (s : σ) (h0 : I s) : ∃ x, run f s = some x ∧ Q x := by
  have : ∀ d s, m s ≤ d → I s → ∃ x, run f s = some x ∧ Q x := by
    intro d
    induction d with
    | zero =>
      intro s hs hI
      rcases h s hI with ⟨t, e, _, hl⟩ | ⟨x, e, hq⟩
      · omega
      · exact ⟨x, run_exit e, hq⟩
    | succ d ih =>
      intro s hs hI
      rcases h s hI with ⟨t, e, hI', hl⟩ | ⟨x, e, hq⟩
      · obtain ⟨x, hx, hq⟩ := ih t (by omega) hI'
        exact ⟨x, run_next e hx, hq⟩
      · exact ⟨x, run_exit e, hq⟩
  exact this (m s) s (Nat.le_refl _) h0
end

/-! ### Bounds of a list's numbers, lengths -/
abbrev LB (m : Nat) (xs : List Nat) : Prop := ∀ x, x ∈ xs → x < m
theorem LB.nil {m : Nat} : LB m [] := fun x h => absurd h (by simp)
theorem LB.cons {m x : Nat} {xs : List Nat} (hx : x < m) (h : LB m xs) : LB m (x :: xs) := fun y hy => by
  rcases List.mem_cons.1 hy with rfl | q
  · exact hx
  · exact h y q
theorem LB.get {m : Nat} {xs : List Nat} (h : LB m xs) (h0 : 0 < m) (i : Nat) : xs.getD i 0 < m := by
  rw [List.getD_eq_getElem?_getD]
  cases e : xs[i]? with
  | none => simpa using h0
  | some x => simpa using h x (List.mem_of_getElem? e)
theorem LB.set {m : Nat} {xs : List Nat} (h : LB m xs) {x : Nat} (hx : x < m) (i : Nat) : LB m (xs.set i x) := fun y hy => by
  rcases List.mem_or_eq_of_mem_set hy with q | rfl
  · exact h y q
  · exact hx
theorem LB.app {m : Nat} {xs ys : List Nat} (h : LB m xs) (g : LB m ys) : LB m (xs ++ ys) := fun y hy => by
  rcases List.mem_append.1 hy with q | q
  · exact h y q
  · exact g y q
theorem LB.take {m : Nat} {xs : List Nat} (h : LB m xs) (i : Nat) : LB m (xs.take i) := fun y hy => h y (List.mem_of_mem_take hy)
theorem LB.drop {m : Nat} {xs : List Nat} (h : LB m xs) (i : Nat) : LB m (xs.drop i) := fun y hy => h y (List.mem_of_mem_drop hy)
theorem LB.rep {m x : Nat} (hx : x < m) (n : Nat) : LB m (List.replicate n x) := fun y hy => by rw [List.eq_of_mem_replicate hy]; exact hx
theorem len_set {α : Type} {xs : List α} {n : Nat} (h : xs.length = n) (i : Nat) (x : α) : (xs.set i x).length = n := by simpa using h
theorem len_app {α : Type} {xs ys : List α} {n m : Nat} (h : xs.length = n) (g : ys.length = m) : (xs ++ ys).length = n + m := by simp [h, g]
theorem len_take {α : Type} {xs : List α} {n i : Nat} (h : xs.length = n) (hi : i ≤ n) : (xs.take i).length = i := by simp [h]; omega
theorem len_drop {α : Type} {xs : List α} {n : Nat} (h : xs.length = n) (i : Nat) : (xs.drop i).length = n - i := by simp [h]
theorem len_rep {α : Type} (n : Nat) (x : α) : (List.replicate n x).length = n := by simp
theorem lt_and {m x y : Nat} (h : x < m) : x &&& y < m := Nat.lt_of_le_of_lt Nat.and_le_left h
theorem lt_or {n x y : Nat} (h : x < 2 ^ n) (g : y < 2 ^ n) : x ||| y < 2 ^ n := Nat.or_lt_two_pow h g
theorem lt_xor {n x y : Nat} (h : x < 2 ^ n) (g : y < 2 ^ n) : x ^^^ y < 2 ^ n := Nat.xor_lt_two_pow h g
theorem lt_div {m x : Nat} (h : x < m) (y : Nat) : x / y < m := Nat.lt_of_le_of_lt (Nat.div_le_self _ _) h
theorem lt_modl {m x : Nat} (h : x < m) (y : Nat) : x % y < m := Nat.lt_of_le_of_lt (Nat.mod_le _ _) h
theorem lt_compl {m x : Nat} (h : 0 < m) : m - 1 - x < m := by omega
theorem lt_toNat {x : Int} {m : Nat} (h : 0 < m) : (x % (m : Int)).toNat < m := by
  have h1 : x % (m : Int) < m := Int.emod_lt_of_pos _ (by omega)
  omega
end Go.Proofs.Ytnagkhofkjjajaa
