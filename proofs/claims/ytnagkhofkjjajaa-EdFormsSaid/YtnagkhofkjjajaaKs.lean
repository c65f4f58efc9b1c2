/- A law's row: an array of bytes that came in: lemmas. -/
import Derived.Test.YtnagkhofkjjajaaKr
import Derived.Test.YtnagkhofkjjajaaUa
import Derived.WideKeyArr2
set_option linter.unusedVariables false
namespace Go.Proofs.Ytnagkhofkjjajaa
open Go.RowKit Go.ChangeShapes Go.WideShapes
section
variable {H : Type} {enc : TypeId × Value → H} {P : Program} {k e : TypeId} {n : Nat} {W : World} {base : Nat} {sp : Nat → Bool} {held : Bool}
theorem mapM_some {α β : Type} {f : α → Option β} : ∀ {l : List α} {r : List β}, l.mapM f = some r → ∀ x, x ∈ l → ∃ y, f x = some y
  | [], _, _, x, hx => by cases hx
  | a :: l, r, h, x, hx => by
    rw [List.mapM_cons] at h
    simp only [bind, Option.bind_eq_some_iff] at h
    obtain ⟨y, hy, ys, hys, _⟩ := h
    rcases List.mem_cons.1 hx with q | q
    · subst q; exact ⟨y, hy⟩
    · exact mapM_some hys x q
theorem open_bytes (hu : P.underlying k = some (.array n e)) (he : P.underlying e = some (.int .u8)) (hc : P.cellsOf k = n) (hce : P.cellsOf e = 1) {r : Reach} {b0 : Nat} {v : Value} {d : DataW H} {ps : List MemPlace}
    (hval : Value.okWide P W r b0 k v) (hd : DataW.Trod enc P W base sp held k v d ps) : ∃ xs : List Nat, xs.length = n ∧ By xs ∧ v = .agg (vs .u8 xs).toArray := by
  simp only [Value.okWide, hu] at hval
  obtain ⟨cs, rfl, h2, _⟩ := hval
  rw [hc] at h2
  obtain ⟨fuel, hf⟩ := hd
  cases fuel with
  | zero => simp [DataW.trod] at hf
  | succ m =>
    rw [DataW.trod_step] at hf
    unfold DataW.trodStep at hf
    simp only [hu, Value.cells] at hf
    rw [if_pos (by rw [hc]; simpa using h2)] at hf
    simp only [Option.map_eq_some_iff] at hf
    obtain ⟨ys, hy, _⟩ := hf
    rw [hce] at hy
    have key : ∀ i, i < n → ∃ a : Int, cs.toList[i]? = some (.int .u8 a) ∧ (Lit.int .u8 a).wf = true := fun i hi => by
      obtain ⟨y, hy'⟩ := mapM_some hy i (by simpa using hi)
      obtain ⟨a, ea, _, wa⟩ := DataW.trod_int he hy'
      refine ⟨a, ?_, wa⟩
      have := congrArg (fun l => l[0]?) ea
      simpa [List.getElem?_take, List.getElem?_drop] using this
    have wf : ∀ a : Int, (Lit.int .u8 a).wf = true → 0 ≤ a ∧ a < 256 := fun a h => by
      simp [Lit.wf, IntKind.min, IntKind.max, IntKind.signed, IntKind.bits] at h
      omega
    refine ⟨(List.range n).map (fun i => match (cs.toList[i]? : Option Value) with | some (Value.int IntKind.u8 a) => a.toNat | _ => 0), by simp, ?_, ?_⟩
    · intro x hx
      simp only [List.mem_map, List.mem_range] at hx
      obtain ⟨i, hi, rfl⟩ := hx
      obtain ⟨a, ha, hw⟩ := key i hi
      rw [ha]
      have := wf a hw
      show a.toNat < 256
      omega
    · congr 1
      apply Array.ext'
      apply List.ext_getElem?
      intro i
      simp only [vs, List.map_map]
      by_cases hi : i < n
      · obtain ⟨a, ha, hw⟩ := key i hi
        have hw' := wf a hw
        rw [ha]
        simp only [List.getElem?_map, List.getElem?_range hi, Option.map_some, Function.comp, ha]
        congr 2
        omega
      · rw [List.getElem?_eq_none (by simp; omega), List.getElem?_eq_none (by simp; omega)]
theorem wf_u64 (a : Int) (h : (Lit.int .u64 a).wf = true) : 0 ≤ a ∧ a < (18446744073709551616 : Nat) := by
  simp [Lit.wf, IntKind.min, IntKind.max, IntKind.signed, IntKind.bits] at h
  omega
theorem wf_u32 (a : Int) (h : (Lit.int .u32 a).wf = true) : 0 ≤ a ∧ a < (4294967296 : Nat) := by
  simp [Lit.wf, IntKind.min, IntKind.max, IntKind.signed, IntKind.bits] at h
  omega
theorem wf_u8 (a : Int) (h : (Lit.int .u8 a).wf = true) : 0 ≤ a ∧ a < (256 : Nat) := by
  simp [Lit.wf, IntKind.min, IntKind.max, IntKind.signed, IntKind.bits] at h
  omega
theorem open_words {κ : IntKind} {M : Nat} (wf : ∀ a : Int, (Lit.int κ a).wf = true → 0 ≤ a ∧ a < M) (hu : P.underlying k = some (.array n e)) (he : P.underlying e = some (.int κ)) (hc : P.cellsOf k = n) (hce : P.cellsOf e = 1) {r : Reach} {b0 : Nat} {v : Value} {d : DataW H} {ps : List MemPlace}
    (hval : Value.okWide P W r b0 k v) (hd : DataW.Trod enc P W base sp held k v d ps) : ∃ xs : List Nat, xs.length = n ∧ LB M xs ∧ v = .agg (vs κ xs).toArray := by
  simp only [Value.okWide, hu] at hval
  obtain ⟨cs, rfl, h2, _⟩ := hval
  rw [hc] at h2
  obtain ⟨fuel, hf⟩ := hd
  cases fuel with
  | zero => simp [DataW.trod] at hf
  | succ m =>
    rw [DataW.trod_step] at hf
    unfold DataW.trodStep at hf
    simp only [hu, Value.cells] at hf
    rw [if_pos (by rw [hc]; simpa using h2)] at hf
    simp only [Option.map_eq_some_iff] at hf
    obtain ⟨ys, hy, _⟩ := hf
    rw [hce] at hy
    have key : ∀ i, i < n → ∃ a : Int, cs.toList[i]? = some (.int κ a) ∧ (Lit.int κ a).wf = true := fun i hi => by
      obtain ⟨y, hy'⟩ := mapM_some hy i (by simpa using hi)
      obtain ⟨a, ea, _, wa⟩ := DataW.trod_int he hy'
      refine ⟨a, ?_, wa⟩
      have := congrArg (fun l => l[0]?) ea
      simpa [List.getElem?_take, List.getElem?_drop] using this
    refine ⟨(List.range n).map (fun i => match (cs.toList[i]? : Option Value) with | some (Value.int _ a) => a.toNat | _ => 0), by simp, ?_, ?_⟩
    · intro x hx
      simp only [List.mem_map, List.mem_range] at hx
      obtain ⟨i, hi, rfl⟩ := hx
      obtain ⟨a, ha, hw⟩ := key i hi
      rw [ha]
      have := wf a hw
      show a.toNat < M
      omega
    · congr 1
      apply Array.ext'
      apply List.ext_getElem?
      intro i
      simp only [vs, List.map_map]
      by_cases hi : i < n
      · obtain ⟨a, ha, hw⟩ := key i hi
        have hw' := wf a hw
        rw [ha]
        simp only [List.getElem?_map, List.getElem?_range hi, Option.map_some, Function.comp, ha]
        congr 2
        omega
      · rw [List.getElem?_eq_none (by simp; omega), List.getElem?_eq_none (by simp; omega)]
end
end Go.Proofs.Ytnagkhofkjjajaa
