/- The contract of a copy of a slice. Lemmas, no statement of the claim. -/
import Derived.Test.YtmlddodimpmogaaZg
set_option linter.unusedVariables false
namespace Go.Proofs.Ytmlddodimpmogaa
open Go.RowKit
def F_clone {α : Type} (b : Nat) (xs : List α) : Option (List α) := gd (xs.length * b ≤ 140737488355328) (some xs)
section
variable {P : Program} {D : List (Nat × TD)}
theorem clone_ct {g e : Nat} {a : Sh} {d : TD} (hs : d.n = a.lay.sz) (hb : 0 < d.b) (hcall : callable P g)
    (h : ∀ (A : Option Addr) (n c : Nat) (l : List Value) (w : World), Rd w A l → l.length = n * d.n → (∀ u ∈ l, u.oneCell' = true) → n * d.b ≤ 140737488355328 → n ≤ maxLen → (A = none → n = 0 ∧ c = 0) →
      Calls P g #[.slice A n c] w fun r w' => ∃ A' c', r = .returned (.slice A' n c') ∧ Own w' w.heap.size e d.n A' n c' l ∧ Ex w w') :
    CtOk P g ⟨[.ro a], [.rw e a], fun xs => F_clone (α := a.T) d.b xs⟩ := by
  intro args q H x r hx hr ν w0 X w ha M
  cases args with
  | nil => cases hx
  | cons v vs =>
    obtain ⟨p, y, h1, h2, h3⟩ := extA_some hx
    cases vs with
    | cons u us => cases h2
    | nil =>
      have hp : x = p := h3
      subst hp
      have hv := ha v (List.mem_singleton.2 rfl)
      obtain ⟨A, m, c, e1, e2, e3, e4, e5, e6, e7, _⟩ := cont_ok M (show cont a H v = some x from h1) hv
      obtain ⟨hroom, hr⟩ := gd_some (show gd (List.length (α := a.T) x * d.b ≤ 140737488355328) (some x) = some r from hr)
      have hr : x = r := by cases hr; rfl
      subst hr
      subst e3
      have hlen := rowC_len a x e4
      refine .inl ⟨hcall, ?_⟩
      have hcl := h A (List.length (α := a.T) x) c (rowC a x) w e2 (by rw [hlen, hs]) (rowC_one a x e4) hroom (Nat.le_trans e5 e6) (fun hA => ?_)
      · have e1' : ([v].map (cv ν)).toArray = #[.slice A (List.length (α := a.T) x) c] := by rw [List.map_cons, e1]; rfl
        rw [e1']
        refine hcl.mono fun en w' he => ?_
        obtain ⟨A', c', rfl, hO, hE⟩ := he
        refine ⟨_, rfl, ?_⟩
        have hO' : Own w' 0 e a.lay.sz A' (List.length (α := a.T) x) c' (rowC a x) := by rw [← hs]; exact Own.rebase hO (Nat.zero_le _)
        obtain ⟨ν', g1, g2, g3, g4⟩ := own_new (T := e) (n := ⟨false, List.length (α := a.T) x⟩) (M.growN hE.g) rfl e4 hO' (fun b hb => by
          have := (hO.base b hb).1
          exact ⟨.inl (Nat.le_trans M.keep.size this), fun d' y' hd hb2 => by have := M.lt d' y' hd b hb2; omega⟩)
        exact ⟨ν', g1, g4.symm, ok_mono (q := q + 1) (by show q + 1 ≤ q + (1 + 0) + 1; omega) _ g3, g2.mono (by show q + 1 ≤ q + (1 + 0) + 1; omega)⟩
      · rcases Nat.eq_zero_or_pos c with q0 | q0
        · exact ⟨by omega, q0⟩
        · have := e7 q0
          unfold flat at this
          rw [hA] at this; cases this
end
end Go.Proofs.Ytmlddodimpmogaa
