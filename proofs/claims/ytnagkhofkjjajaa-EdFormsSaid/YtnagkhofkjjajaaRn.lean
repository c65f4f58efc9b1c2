/- Layer 19: forms. -/
import Derived.Test.YtnagkhofkjjajaaRows
import Derived.Test.YtnagkhofkjjajaaEk
import Derived.Test.YtnagkhofkjjajaaZi
import Derived.WalkKit
import Derived.ProofKit
import Derived.OpenShut
import Derived.ChangeOld
import Derived.Below
namespace Go.Proofs.Ytnagkhofkjjajaa
open Go.ChangeShapes Go.WideShapes Go.ChangeAt Go.RowKit
set_option linter.unusedVariables false
namespace edFormsDone
theorem parOk : parL TD0 [23, 22] = some C_casematelaw19_EdForms.ps := by kernel_rfl
theorem stayOk : ([23, 22] : List Nat).all (fun t => Try.prog.readableRec t && Nat.blt t Try.prog.types.size) = true := by kernel_rfl
theorem cf (x : Tup (lvs C_casematelaw19_EdForms.ps)) : C_casematelaw19_EdForms.F x = F_casematelaw19_EdForms x.1 x.2 := by unfold C_casematelaw19_EdForms; rfl
theorem own : ownKnob Try.prog.godebug = none := by kernel_rfl
theorem laidOut : laidOutB Try.prog = true := by kernel_rfl
set_option maxRecDepth 100000 in
theorem lifted (os : Os) (started : os.Started) (H : Type) (enc : TypeId × Value → H) :
    ReturnsInHanded {} Try.checked os 6 .any (Rows.edFormsSpec.pre6 enc Try.prog Try.f6 Rows.edFormsRow.domain false) (Rows.edFormsSpec.post enc Try.prog Try.f6 false true false false) := by
  refine returnsInHanded_of_change (C := Try.checked) own started (by kernel_rfl) Try.func6
    (ChangeSpec.witness6 (enc := enc) (C := Try.checked) false ⟨#[], #[.agg #[.int .u8 0, .int .u8 0, .int .u8 0, .int .u8 0, .int .u8 0, .int .u8 0, .int .u8 0, .int .u8 0, .int .u8 0, .int .u8 0, .int .u8 0, .int .u8 0, .int .u8 0, .int .u8 0, .int .u8 0, .int .u8 0, .int .u8 0, .int .u8 0, .int .u8 0, .int .u8 0, .int .u8 0, .int .u8 0, .int .u8 0, .int .u8 0, .int .u8 0, .int .u8 0, .int .u8 0, .int .u8 0, .int .u8 0, .int .u8 0, .int .u8 0, .int .u8 0], .slice none 0 0], []⟩ 8 (by kernel_rfl) (by kernel_rfl) (by kernel_rfl) (by kernel_rfl)) ?_
  intro W base args ds gs before hval0 hW hcnd _
  have hval : ∀ (j : Nat) t v, Try.f6.params[j]? = some t → args[j]? = some v → Value.okWide Try.prog W .any base t v := hval0
  have hW' := hW
  obtain ⟨p, q, hA0, hV, rfl, hfz, hnd⟩ := hW
  have hA : DataW.TrodAll enc Try.prog W 0 (fun _ => true) true Try.f6.params.toList args.toList ds p := hA0
  rw [Try.params6] at hA hval
  obtain ⟨rfl, rfl⟩ := trodVars_none hV
  obtain ⟨vs⟩ := args
  clear hA0 hval0
  have hA : DataW.TrodAll enc Try.prog W 0 (fun _ => true) true [23, 22] vs ds p := hA
  have hA2 := hA
  obtain ⟨v0, vs0, d0, ds0, p0, q0, rfl, rfl, rfl, h0, r0⟩ := trodAll_cons hA2
  obtain ⟨v1, vs1, d1, ds1, p1, q1, rfl, rfl, rfl, h1, r1⟩ := trodAll_cons r0
  obtain ⟨rfl, rfl, rfl⟩ := trodAll_nil r1
  refine (law_row td0 (ps := C_casematelaw19_EdForms.ps) (F := C_casematelaw19_EdForms.F) ok_casematelaw19_EdForms (callable.mk Try.func6 (by kernel_rfl) (by kernel_rfl)) (fun y h => (cf y).trans (L_EdForms h.1.2 h.1.1 h.2.1.1)) (ts := [23, 22]) parOk hA (fun j t v ht hv => hval j t v (by simpa using ht) (by simpa using hv))).mono fun e W' he => ?_
  obtain ⟨v, he, hv, bel⟩ := he
  subst he hv
  have bel : Below W.heap.size W W' := bel
  exact ⟨_, rfl, _, _, _, [], _, [], hW', trodAll_mk1 (shut_bool Try.underlying4 _), all_stays laidOut [23, 22] stayOk _ _ _ W' hA bel, rfl, bel.frame _, fun h => by cases h⟩
theorem over : Rows.edFormsRow.holds Try.pinned (OpenSpec.ofChange Rows.edFormsSpec) :=
  OpenClaim.holds_of_wide 6 Try.f6 rfl rfl rfl rfl rfl rfl rfl ⟨rfl, rfl, rfl, rfl, rfl⟩ rfl rfl rfl rfl rfl (by kernel_rfl) Try.func6 (by kernel_rfl)
    (of_decide_eq_true (by kernel_rfl)) (by unfold Func.isWrapper; first | (rw [if_pos (by decide +kernel)]; kernel_rfl) | (rw [if_neg (by decide +kernel)]; exact ⟨rfl, rfl⟩))
    (fun os started H enc _ => lifted os started H enc)
end edFormsDone
/-- The statement. -/
theorem edForms_proved : Rows.EdFormsSaid := edFormsDone.over
#print axioms edForms_proved
end Go.Proofs.Ytnagkhofkjjajaa
