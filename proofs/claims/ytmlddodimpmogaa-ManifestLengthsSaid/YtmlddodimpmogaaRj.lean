/- Layer 20: how long manifests are. -/
import Derived.Test.YtmlddodimpmogaaRows
import Derived.Test.YtmlddodimpmogaaVf
import Derived.Test.YtmlddodimpmogaaZi
import Derived.WalkKit
import Derived.ProofKit
import Derived.OpenShut
import Derived.ChangeOld
import Derived.Below
namespace Go.Proofs.Ytmlddodimpmogaa
open Go.ChangeShapes Go.WideShapes Go.ChangeAt Go.RowKit
set_option linter.unusedVariables false
namespace manifestLengthsDone
theorem parOk : parL TD0 [24, 5] = some C_casematelaw20_ManifestLengths.ps := by kernel_rfl
theorem stayOk : ([24, 5] : List Nat).all (fun t => Try.prog.readableRec t && Nat.blt t Try.prog.types.size) = true := by kernel_rfl
theorem cf (x : Tup (lvs C_casematelaw20_ManifestLengths.ps)) : C_casematelaw20_ManifestLengths.F x = F_casematelaw20_ManifestLengths x.1 x.2.1 x.2.2.1 x.2.2.2.1 x.2.2.2.2.1 x.2.2.2.2.2 := by unfold C_casematelaw20_ManifestLengths; rfl
theorem own : ownKnob Try.prog.godebug = none := by kernel_rfl
theorem laidOut : laidOutB Try.prog = true := by kernel_rfl
set_option maxRecDepth 100000 in
theorem lifted (os : Os) (started : os.Started) (H : Type) (enc : TypeId × Value → H) :
    ReturnsInHanded {} Try.checked os 7 .any (Rows.manifestLengthsSpec.pre6 enc Try.prog Try.f7 Rows.manifestLengthsRow.domain false) (Rows.manifestLengthsSpec.post enc Try.prog Try.f7 false true false false) := by
  refine returnsInHanded_of_change (C := Try.checked) own started (by kernel_rfl) Try.func7
    (ChangeSpec.witness6 (enc := enc) (C := Try.checked) false ⟨#[], #[.agg #[.int .i64 0, .int .i64 0, .int .i64 0, .int .i64 0, .slice none 0 0], .int .u8 0], []⟩ 8 (by kernel_rfl) (by kernel_rfl) (by kernel_rfl) (by kernel_rfl)) ?_
  intro W base args ds gs before hval0 hW hcnd _
  have hval : ∀ (j : Nat) t v, Try.f7.params[j]? = some t → args[j]? = some v → Value.okWide Try.prog W .any base t v := hval0
  have hW' := hW
  obtain ⟨p, q, hA0, hV, rfl, hfz, hnd⟩ := hW
  have hA : DataW.TrodAll enc Try.prog W 0 (fun _ => true) true Try.f7.params.toList args.toList ds p := hA0
  rw [Try.params7] at hA hval
  obtain ⟨rfl, rfl⟩ := trodVars_none hV
  obtain ⟨vs⟩ := args
  clear hA0 hval0
  have hA : DataW.TrodAll enc Try.prog W 0 (fun _ => true) true [24, 5] vs ds p := hA
  have hA2 := hA
  obtain ⟨v0, vs0, d0, ds0, p0, q0, rfl, rfl, rfl, h0, r0⟩ := trodAll_cons hA2
  obtain ⟨v1, vs1, d1, ds1, p1, q1, rfl, rfl, rfl, h1, r1⟩ := trodAll_cons r0
  obtain ⟨rfl, rfl, rfl⟩ := trodAll_nil r1
  refine (law_row td0 (ps := C_casematelaw20_ManifestLengths.ps) (F := C_casematelaw20_ManifestLengths.F) ok_casematelaw20_ManifestLengths (callable.mk Try.func7 (by kernel_rfl) (by kernel_rfl)) (fun y h => (cf y).trans (L_ManifestLengths (fun s hs => (h.1.2.2.2.2.1 s hs).2.2) h.2.1)) (ts := [24, 5]) parOk hA (fun j t v ht hv => hval j t v (by simpa using ht) (by simpa using hv))).mono fun e W' he => ?_
  obtain ⟨v, he, hv, bel⟩ := he
  subst he hv
  have bel : Below W.heap.size W W' := bel
  exact ⟨_, rfl, _, _, _, [], _, [], hW', trodAll_mk1 (shut_bool Try.underlying4 _), all_stays laidOut [24, 5] stayOk _ _ _ W' hA bel, rfl, bel.frame _, fun h => by cases h⟩
theorem over : Rows.manifestLengthsRow.holds Try.pinned (OpenSpec.ofChange Rows.manifestLengthsSpec) :=
  OpenClaim.holds_of_wide 7 Try.f7 rfl rfl rfl rfl rfl rfl rfl ⟨rfl, rfl, rfl, rfl, rfl⟩ rfl rfl rfl rfl rfl (by kernel_rfl) Try.func7 (by kernel_rfl)
    (of_decide_eq_true (by kernel_rfl)) (by unfold Func.isWrapper; first | (rw [if_pos (by decide +kernel)]; kernel_rfl) | (rw [if_neg (by decide +kernel)]; exact ⟨rfl, rfl⟩))
    (fun os started H enc _ => lifted os started H enc)
end manifestLengthsDone
/-- The statement. -/
theorem manifestLengths_proved : Rows.ManifestLengthsSaid := manifestLengthsDone.over
#print axioms manifestLengths_proved
end Go.Proofs.Ytmlddodimpmogaa
