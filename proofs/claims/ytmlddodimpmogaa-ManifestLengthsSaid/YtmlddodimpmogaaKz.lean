/- The function that runs another and tells whether it went through (defer, recover). Lemmas, no statement of the claim. -/
import Derived.Test.YtmlddodimpmogaaZh
import Derived.Test.YtmlddodimpmogaaSe
import Derived.Recover
import Derived.WalkKit
set_option linter.unusedVariables false
set_option linter.unusedSimpArgs false
namespace Go.Proofs.Ytmlddodimpmogaa
open Go.RowKit
theorem cat_yes (w : World) : (Instr.typeAssert (Value.iface 85 (.agg ⟨[]⟩)) 20 85 true).run Try.prog w = .ok (.tuple #[.agg ⟨[]⟩, .bool true]) w := by kernel_rfl
theorem cat_no (w : World) : (Instr.typeAssert Value.nilIface 20 85 true).run Try.prog w = .ok (.tuple #[.agg ⟨[]⟩, .bool false]) w := by kernel_rfl
theorem cell_alloc {w : World} {b : Nat} (o : Obj) (hp : b < w.heap.size) : (w.alloc o).cell? ⟨b, 0, none⟩ = w.cell? ⟨b, 0, none⟩ := World.cell?_alloc_past _ _ _ hp
theorem frz_alloc {w : World} {b : Nat} (o : Obj) (hp : b < w.heap.size) : (w.alloc o).frozen? ⟨b, 0, none⟩ = w.frozen? ⟨b, 0, none⟩ := World.frozen?_alloc_old w _ _ (by show b ≠ _; omega)
set_option maxHeartbeats 2000000 in
theorem cat_panicking (b : Nat) (x : Bool) (older : List PanicEntry) (w : World) (hc : w.cell? ⟨b, 0, none⟩ = some (.bool x)) (hz : w.frozen? ⟨b, 0, none⟩ = false) (hp : b < w.heap.size) :
    CallsD Try.prog 49 #[.pointer (some ⟨b, 0, none⟩)] (.panicking ({ v := .iface 85 (.agg ⟨[]⟩), recovered := false } :: older)) w fun e u' w' =>
      e = .returned (.tuple #[]) ∧ u' = .panicking ({ v := .iface 85 (.agg ⟨[]⟩), recovered := true } :: older) ∧ w' = (w.alloc (.cells #[] 85)).setCell ⟨b, 0, none⟩ (.bool false) := by
  refine callsD_of_wpS Try.func49 rfl fun c₀ cs hu => ?_
  apply wpS_seq
  apply wpS_region
  simp [wpOpsS, go_sem, recoverD, hu, Try.ntmps49, Exit.thenS, cat_yes]
  apply wpS_seq
  apply wpS_region
  simp [wpOpsS, go_sem, Exit.thenS]
  refine wpS_cond (t := true) (by simp [Act.eval, Array.replicate]) ?_
  simp only [if_true]
  apply wpS_region
  simp [wpOpsS, go_sem, cell_alloc, frz_alloc, hp, hc, hz, bodyPostS, results, Try.results49]
set_option maxHeartbeats 2000000 in
theorem cat_idle (b : Nat) (w : World) :
    CallsD Try.prog 49 #[.pointer (some ⟨b, 0, none⟩)] .returning w fun e u' w' => e = .returned (.tuple #[]) ∧ u' = .returning ∧ w' = w.alloc (.cells #[] 85) := by
  refine callsD_of_wpS Try.func49 rfl fun c₀ cs hu => ?_
  apply wpS_seq
  apply wpS_region
  simp [wpOpsS, go_sem, recoverD, hu, Try.ntmps49, Exit.thenS, cat_no]
  apply wpS_seq
  apply wpS_region
  simp [wpOpsS, go_sem, Exit.thenS]
  refine wpS_cond (t := false) (by simp [Act.eval, Array.replicate]) ?_
  simp only [Bool.false_eq_true, if_false]
  refine wpS_of_wp (wp_skip ?_)
  cases c₀
  simp_all [bodyPostS, results, Try.results49]
theorem ca0 : 0 < CA0 → CaOk Try.prog PT0 CA0 := fun _ => by
  show CaOk Try.prog 85 32
  refine ⟨callable.mk Try.func32 (by kernel_rfl) (by kernel_rfl), 4, fun f fi cap w R hf h => ?_⟩
  have hmf : ∀ (fn : Fn) (first cap : Array Value) (w : World), (Instr.makeFunc fn first cap).run Try.prog w = .ok (.func fn first cap) w := fun _ _ _ _ => rfl
  have hcf : ∀ (args : Array Value) (w : World), (callFunc f args).run Try.prog w = .ok (.enter f args) w := hf
  go_enter_defers Try.func32, Try.ntmps32
  go_wp2
  rename_i K1 a1 K0 a0
  refine h.mono ?_
  rintro e w' ⟨h1, h2, h3, ⟨v, rfl, hR⟩ | ⟨rfl, hR⟩⟩
  · show K0 _ _
    apply a0
    go_wp2
    refine leaves_cons (f := 49) (args := #[.pointer (some ⟨w.heap.size, 0, none⟩)]) (by simp) (by simp [go_sem]) ?_
    refine (cat_idle w.heap.size _).mono ?_
    rintro e u' w'' ⟨rfl, rfl, rfl⟩
    have hs : ((w'.setCell ⟨w.heap.size, 0, none⟩ (.bool true)).alloc (Obj.cells #[] 85)).cell? ⟨w.heap.size, 0, none⟩ = some (.bool true) := by
      rw [cell_alloc _ (by rw [World.size_setCell]; exact h3)]
      exact World.cell?_setCell_same _ _ _ h1
    simp [Leaves, settle, results, Try.results32, go_sem, hs, hR]
  · show bodyPostD _ _ _ _ _ _
    refine leaves_cons (f := 49) (args := #[.pointer (some ⟨w.heap.size, 0, none⟩)]) (by simp) (by simp [go_sem]) ?_
    refine (cat_panicking w.heap.size false [] _ h1 h2 h3).mono ?_
    rintro e u' w'' ⟨rfl, rfl, rfl⟩
    have hs : ((w'.alloc (Obj.cells #[] 85)).setCell ⟨w.heap.size, 0, none⟩ (.bool false)).cell? ⟨w.heap.size, 0, none⟩ = some (.bool false) :=
      World.cell?_setCell_same _ _ _ ((cell_alloc _ h3).trans h1)
    simp [Leaves, settle, results, Try.results32, go_sem, hs, hR]
end Go.Proofs.Ytmlddodimpmogaa
