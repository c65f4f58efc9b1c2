/- Contracts of copies of slices. -/
import Derived.Test.YtmlddodimpmogaaSe
import Derived.Test.YtmlddodimpmogaaZj
import Derived.WalkKit
import Derived.Lib.SliceRun
set_option linter.unusedVariables false
set_option linter.unusedSimpArgs false
namespace Go.Proofs.Ytmlddodimpmogaa
open Go.Proofs Go.RowKit
set_option maxHeartbeats 4000000 in
set_option maxRecDepth 100000 in
theorem clone43 (A : Option Addr) (n c : Nat) (l : List Value) (w : World) (hR : Rd w A l) (hl : l.length = n * 1) (h1 : ∀ u ∈ l, u.oneCell' = true) (hbig : n * 1 ≤ 140737488355328) (hm : n ≤ maxLen) (hz : A = none → n = 0 ∧ c = 0) :
    Calls Try.prog 43 #[.slice A n c] w fun r w' => ∃ A' c', r = .returned (.slice A' n c') ∧ Own w' w.heap.size 5 1 A' n c' l ∧ Ex w w' := by
  have q0 : ∀ (w : World) (a : Option Addr) (n c n' c' : Nat), (binOp .eql 25 (.slice a n c) (.slice none n' c')).run Try.prog w = .ok (.bool a.isNone) w := fun w a n c n' c' => Lib.run_eql_slice_nil w _ _ a n c n' c' Try.underlying25
  obtain ⟨i0, z0, hi, hz0, hs0, hb0, hzc, _⟩ := td0.row (t := 5) (d := ⟨.i .u8, 1, 1, false⟩) (by rfl) (z := (zsv TD0 9 5).getD .ud) (by rfl)
  have hzs : z0.cells.size = 1 := by rw [hzc]; rfl
  have u0 : ∀ w, Sem.run Try.prog (underlying 25) w = .ok (TypeDesc.slice 5) w := run_underlying Try.underlying25
  cases A with
  | none =>
    obtain ⟨rfl, rfl⟩ := hz rfl
    have hl0 : l = [] := List.eq_nil_of_length_eq_zero (by simpa using hl)
    subst hl0
    go_enter Try.func43, Try.ntmps43
    go_wp2
    go_ret
    exact ⟨none, 0, rfl, Own.nil _ _ _ _, Below.refl _ _⟩
  | some ad =>
    have hnews : Hid (∀ j u, l[j]? = some u → (w.alloc (.cells #[] 5)).cell? (ad.add j) = some u) := by
      intro j u hu
      have hne : l ≠ [] := fun h => by subst h; simp at hu
      have ea := hR.some_ hne
      have hc := hR.cells j u hu
      have e2 : ad = ⟨ablk (some ad), aoff (some ad), none⟩ := Option.some.inj ea
      rw [e2, add_flat]
      exact Lib.cell?_alloc_some _ hc
    clear hR
    go_enter Try.func43, Try.ntmps43
    go_wp2_with (at_builtin; refine wpList_append_own _ rfl _ _ 25 rfl w.heap.size 5 i0 z0 1 1 Try.underlying25 hi hz0 hs0 hb0 hzs (by decide) _ _ _ rfl (World.ownsRow_made w #[] 0 (Nat.le_refl _) (Nat.zero_le _) (by simp)) ad n c l rfl hl hnews.out h1 (by rw [Nat.zero_add]; exact hm) (by rw [Nat.zero_add]; exact hbig) (by simp) ?_)
    intro v' w1 hown hgrow hnil
    go_wp2
    go_ret
    have hown2 := Own.of hown
    have hform : ∃ A' c', v' = .slice A' n c' := by
      rcases hown2.2 with ⟨q, q2⟩ | ⟨g, cap, cur, q, _⟩
      · exact ⟨none, 0, by rw [q, q2]⟩
      · exact ⟨_, _, q⟩
    obtain ⟨A', c', rfl⟩ := hform
    exact ⟨A', c', rfl, hown2, ((Below.refl _ w).alloc (Nat.le_refl _) _).grown hgrow (by simp) (by intro k hk; simp [Value.ownBlock] at hk; omega)⟩
def C_slices_Clone___byte_byte_ : Ct := ⟨[(.ro (.N .u8))], [(.rw 5 (.N .u8))], fun xs => F_clone (α := Sh.T (.N .u8)) 1 xs⟩
theorem ok_slices_Clone___byte_byte_ : CtOk Try.prog 43 C_slices_Clone___byte_byte_ := clone_ct (a := (.N .u8)) (d := ⟨.i .u8, 1, 1, false⟩) rfl (by decide) (callable.mk Try.func43 (by kernel_rfl) (by kernel_rfl)) (fun A n c l w hR hl h1 hb hm hz => clone43 A n c l w hR hl h1 hb hm hz)
set_option maxHeartbeats 4000000 in
set_option maxRecDepth 100000 in
theorem clone47 (A : Option Addr) (n c : Nat) (l : List Value) (w : World) (hR : Rd w A l) (hl : l.length = n * 34) (h1 : ∀ u ∈ l, u.oneCell' = true) (hbig : n * 48 ≤ 140737488355328) (hm : n ≤ maxLen) (hz : A = none → n = 0 ∧ c = 0) :
    Calls Try.prog 47 #[.slice A n c] w fun r w' => ∃ A' c', r = .returned (.slice A' n c') ∧ Own w' w.heap.size 55 34 A' n c' l ∧ Ex w w' := by
  have q0 : ∀ (w : World) (a : Option Addr) (n c n' c' : Nat), (binOp .eql 42 (.slice a n c) (.slice none n' c')).run Try.prog w = .ok (.bool a.isNone) w := fun w a n c n' c' => Lib.run_eql_slice_nil w _ _ a n c n' c' Try.underlying42
  obtain ⟨i0, z0, hi, hz0, hs0, hb0, hzc, _⟩ := td0.row (t := 55) (d := ⟨.st [(3, 0), (45, 1), (4, 33)], 34, 48, true⟩) (by rfl) (z := (zsv TD0 9 55).getD .ud) (by rfl)
  have hzs : z0.cells.size = 34 := by rw [hzc]; rfl
  have u0 : ∀ w, Sem.run Try.prog (underlying 42) w = .ok (TypeDesc.slice 55) w := run_underlying Try.underlying42
  cases A with
  | none =>
    obtain ⟨rfl, rfl⟩ := hz rfl
    have hl0 : l = [] := List.eq_nil_of_length_eq_zero (by simpa using hl)
    subst hl0
    go_enter Try.func47, Try.ntmps47
    go_wp2
    go_ret
    exact ⟨none, 0, rfl, Own.nil _ _ _ _, Below.refl _ _⟩
  | some ad =>
    have hnews : Hid (∀ j u, l[j]? = some u → (w.alloc (.cells #[] 55)).cell? (ad.add j) = some u) := by
      intro j u hu
      have hne : l ≠ [] := fun h => by subst h; simp at hu
      have ea := hR.some_ hne
      have hc := hR.cells j u hu
      have e2 : ad = ⟨ablk (some ad), aoff (some ad), none⟩ := Option.some.inj ea
      rw [e2, add_flat]
      exact Lib.cell?_alloc_some _ hc
    clear hR
    go_enter Try.func47, Try.ntmps47
    go_wp2_with (at_builtin; refine wpList_append_own _ rfl _ _ 42 rfl w.heap.size 55 i0 z0 34 48 Try.underlying42 hi hz0 hs0 hb0 hzs (by decide) _ _ _ rfl (World.ownsRow_made w #[] 0 (Nat.le_refl _) (Nat.zero_le _) (by simp)) ad n c l rfl hl hnews.out h1 (by rw [Nat.zero_add]; exact hm) (by rw [Nat.zero_add]; exact hbig) (by simp) ?_)
    intro v' w1 hown hgrow hnil
    go_wp2
    go_ret
    have hown2 := Own.of hown
    have hform : ∃ A' c', v' = .slice A' n c' := by
      rcases hown2.2 with ⟨q, q2⟩ | ⟨g, cap, cur, q, _⟩
      · exact ⟨none, 0, by rw [q, q2]⟩
      · exact ⟨_, _, q⟩
    obtain ⟨A', c', rfl⟩ := hform
    exact ⟨A', c', rfl, hown2, ((Below.refl _ w).alloc (Nat.le_refl _) _).grown hgrow (by simp) (by intro k hk; simp [Value.ownBlock] at hk; omega)⟩
def C_slices_Clone___casemate_api_Key_casemate_api_Key_ : Ct := ⟨[(.ro (.pr .Z (.pr (.an .u8 32) (.one .B))))], [(.rw 55 (.pr .Z (.pr (.an .u8 32) (.one .B))))], fun xs => F_clone (α := Sh.T (.pr .Z (.pr (.an .u8 32) (.one .B)))) 48 xs⟩
theorem ok_slices_Clone___casemate_api_Key_casemate_api_Key_ : CtOk Try.prog 47 C_slices_Clone___casemate_api_Key_casemate_api_Key_ := clone_ct (a := (.pr .Z (.pr (.an .u8 32) (.one .B)))) (d := ⟨.st [(3, 0), (45, 1), (4, 33)], 34, 48, true⟩) rfl (by decide) (callable.mk Try.func47 (by kernel_rfl) (by kernel_rfl)) (fun A n c l w hR hl h1 hb hm hz => clone47 A n c l w hR hl h1 hb hm hz)
end Go.Proofs.Ytmlddodimpmogaa
