/- More steps: equal Booleans, strings put together, equal arrays: lemmas for walks. -/
import Derived.Test.YtnagkhofkjjajaaKe
import Derived.Laws.StructEq
set_option linter.unusedVariables false
set_option linter.unusedSimpArgs false
namespace Go.Proofs.Ytnagkhofkjjajaa
open Go.RowKit
section
variable {P : Program} {TI : List (Nat × T1)} {ops : Array Oper} {Q : Exit → Act → World → Prop} {o : Oper} {n : Nat} {F : List (Nat × Value)} {KK : Act → World → Prop} {a : Act} {w : World}
/-- two Booleans compared -/
def oBeq (TI : List (Nat × T1)) (n : Nat) (F : List (Nat × Value)) (o : Oper) : Option (Nat × Bool) :=
  match dstOf n o, o.op with
  | some d, .binOp op t x y _ => match lookT TI t, opnd F x, opnd F y with
    | some ⟨.bool, _, _, _⟩, some (.bool p), some (.bool q) => match op with
      | .eql => some (d, p == q)
      | .neq => some (d, !(p == q))
      | _ => none
    | _, _, _ => none
  | _, _ => none
theorem s_beq (hT : TIok P TI) {d : Nat} {b : Bool} (h : oBeq TI n F o = some (d, b)) (hF : Fr n a F)
    (K : ∀ a', a' = a.put (some d) (.bool b) → Fr n a' ((d, .bool b) :: F) → KK a' w) : One P ops Q o KK a w := by
  unfold oBeq at h
  split at h
  · rename_i d' op t x y t2 hd hop
    split at h
    · rename_i _ _ _ p q ht hx hy
      split at h
      · simp only [Option.some.injEq, Prod.mk.injEq] at h
        obtain ⟨rfl, rfl⟩ := h
        refine s_val hd hF ?_ K
        simp only [execOp, hop, hF.eval hx, hF.eval hy, Sem.run_bind]
        have e1 : (eqGuard .eql t x y (.bool p) (.bool q)).run P w = .ok () w := by unfold eqGuard; rfl
        rw [e1]
        simp only [Result.andThen_ok, binOp, Sem.run_bind, Op.equal]
        rw [show Op.maxDepth = (Op.maxDepth - 1) + 1 from rfl, run_equalIn_bool' w _ t p q (hT.ty _ _ ht)]
        rfl
      · simp only [Option.some.injEq, Prod.mk.injEq] at h
        obtain ⟨rfl, rfl⟩ := h
        refine s_val hd hF ?_ K
        simp only [execOp, hop, hF.eval hx, hF.eval hy, Sem.run_bind]
        have e1 : (eqGuard .neq t x y (.bool p) (.bool q)).run P w = .ok () w := by unfold eqGuard; rfl
        rw [e1]
        simp only [Result.andThen_ok, binOp, Sem.run_bind, Op.equal]
        rw [show Op.maxDepth = (Op.maxDepth - 1) + 1 from rfl, run_equalIn_bool' w _ t p q (hT.ty _ _ ht)]
        rfl
      · cases h
    · cases h
  · cases h
theorem str_size (xs : List Nat) : (str xs).size = xs.length := by simp [str, ByteArray.size]
theorem str_append (xs ys : List Nat) : str xs ++ str ys = str (xs ++ ys) := by
  apply ByteArray.ext
  simp [str, ByteArray.data_append]
/-- a string put behind another -/
def oCat (n : Nat) (F : List (Nat × Value)) (o : Oper) : Option (Nat × Value × Value) :=
  match dstOf n o, o.op with
  | some d, .binOp .add _ x y _ => match opnd F x, opnd F y with
    | some p, some q => some (d, p, q)
    | _, _ => none
  | _, _ => none
theorem s_cat {d : Nat} {xs ys : List Nat} (h : oCat n F o = some (d, .string (str xs), .string (str ys))) (hF : Fr n a F) (hl : xs.length + ys.length ≤ 1152921504606846976)
    (K : ∀ a', a' = a.put (some d) (.string (str (xs ++ ys))) → Fr n a' ((d, .string (str (xs ++ ys))) :: F) → KK a' w) : One P ops Q o KK a w := by
  unfold oCat at h
  split at h
  · rename_i d' t x y t2 hd hop
    split at h
    · rename_i p q hx hy
      simp only [Option.some.injEq, Prod.mk.injEq] at h
      obtain ⟨rfl, rfl, rfl⟩ := h
      refine s_val hd hF ?_ K
      simp only [execOp, hop, hF.eval hx, hF.eval hy, Sem.run_bind]
      have e1 : (eqGuard .add t x y (.string (str xs)) (.string (str ys))).run P w = .ok () w := by unfold eqGuard; rfl
      rw [e1]
      simp only [Result.andThen_ok, binOp, Op.stringOp]
      rw [if_neg (by rw [str_size, str_size]; simp only [IntKind.max, IntKind.signed, IntKind.bits]; omega), str_append]
      rfl
    · cases h
  · cases h
end
end Go.Proofs.Ytnagkhofkjjajaa
