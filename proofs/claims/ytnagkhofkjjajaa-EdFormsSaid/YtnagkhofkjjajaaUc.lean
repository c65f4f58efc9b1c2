/- Rows of rows of bytes; a string's bytes as a row: lemmas for walks, no statement of the claim. -/
import Derived.Test.YtnagkhofkjjajaaUb
import Derived.Laws.IdiomStrings
set_option linter.unusedVariables false
set_option linter.unusedSimpArgs false
namespace Go.Proofs.Ytnagkhofkjjajaa
open Go.RowKit

/-- The heads of slices, as a row of slices holds them. -/
def hds (ps : List (Option Addr × Nat)) (xss : List (List Nat)) : List Value := List.zipWith (fun p x => .slice p.1 x.length p.2) ps xss
/-- Each of them can be read. -/
def Each (w : World) (k : IntKind) : List (Option Addr × Nat) → List (List Nat) → Prop
  | [], [] => True
  | p :: ps, x :: xss => (Rd w p.1 (vs k x) ∧ LB (mo k) x ∧ x.length ≤ p.2) ∧ Each w k ps xss
  | _, _ => False
theorem Each.ex {w w' : World} {k : IntKind} (e : Ex w w') : ∀ {ps : List (Option Addr × Nat)} {xss : List (List Nat)}, Each w k ps xss → Each w' k ps xss
  | [], [], _ => trivial
  | p :: ps, x :: xss, h => ⟨⟨h.1.1.ex e, h.1.2⟩, Each.ex e h.2⟩
  | [], _ :: _, h => h
  | _ :: _, [], h => h
theorem Each.len {w : World} {k : IntKind} : ∀ {ps : List (Option Addr × Nat)} {xss : List (List Nat)}, Each w k ps xss → ps.length = xss.length
  | [], [], _ => rfl
  | p :: ps, x :: xss, h => by simp [Each.len h.2]
  | [], _ :: _, h => h.elim
  | _ :: _, [], h => h.elim
theorem Each.get {w : World} {k : IntKind} : ∀ {ps : List (Option Addr × Nat)} {xss : List (List Nat)}, Each w k ps xss → ∀ {j : Nat}, j < xss.length →
    Rd w (ps.getD j (none, 0)).1 (vs k (xss.getD j [])) ∧ LB (mo k) (xss.getD j []) ∧ (xss.getD j []).length ≤ (ps.getD j (none, 0)).2
  | [], [], _, j, hj => absurd hj (by simp)
  | p :: ps, x :: xss, h, 0, _ => h.1
  | p :: ps, x :: xss, h, j + 1, hj => by
    have := Each.get h.2 (j := j) (by simpa using hj)
    simpa using this
  | [], _ :: _, h, _, _ => h.elim
  | _ :: _, [], h, _, _ => h.elim
theorem hds_length {w : World} {k : IntKind} {ps : List (Option Addr × Nat)} {xss : List (List Nat)} (h : Each w k ps xss) : (hds ps xss).length = xss.length := by
  simp [hds, Each.len h]
theorem hds_get {w : World} {k : IntKind} : ∀ {ps : List (Option Addr × Nat)} {xss : List (List Nat)}, Each w k ps xss → ∀ {j : Nat}, j < xss.length →
    (hds ps xss)[j]? = some (.slice (ps.getD j (none, 0)).1 (xss.getD j []).length (ps.getD j (none, 0)).2)
  | [], [], _, j, hj => absurd hj (by simp)
  | p :: ps, x :: xss, h, 0, _ => rfl
  | p :: ps, x :: xss, h, j + 1, hj => by
    have := hds_get h.2 (j := j) (by simpa using hj)
    simpa [hds] using this
  | [], _ :: _, h, _, _ => h.elim
  | _ :: _, [], h, _, _ => h.elim

section
variable {P : Program} {TI : List (Nat × T1)} {ops : Array Oper} {Q : Exit → Act → World → Prop} {o : Oper} {n : Nat} {F : List (Nat × Value)} {KK : Act → World → Prop} {a : Act} {w : World}
theorem grown_drew (w : World) (ob : Obj) : w.grownBy (w.drew.alloc ob) none := by
  have h := World.grownBy_alloc w.drew ob none
  exact ⟨h.os, h.tape, h.output, h.size, h.block⟩
/-- []byte(s) -/
def oBytes (TI : List (Nat × T1)) (n : Nat) (F : List (Nat × Value)) (o : Oper) : Option (Nat × ByteArray) :=
  match dstOf n o, o.op with
  | some d, .convert src dst x => match lookT TI src, lookT TI dst, opnd F x with
    | some ⟨.string, _, _, _⟩, some ⟨.slice e, _, _, _⟩, some (.string s) => match lookT TI e with
      | some ⟨.int .u8, _, _, _⟩ => some (d, s)
      | _ => none
    | _, _, _ => none
  | _, _ => none
theorem str_data {xs : List Nat} (h : LB 256 xs) : (str xs).data.toList.map (fun b => Value.int .u8 b.toNat) = vs .u8 xs := by
  simp only [str, List.toList_toArray, List.map_map, vs]
  refine List.map_congr_left fun x hx => ?_
  have := h x hx
  simp only [Function.comp]
  congr 1
  have : x % 256 = x := Nat.mod_eq_of_lt this
  simp [UInt8.toNat_ofNat, this]
theorem h_bytes (hT : TIok P TI) {w0 : World} {S : List Nat} {cs : List Ch} {d n' : Nat} {xs : List Nat} (h : oBytes TI n F o = some (d, str xs)) (hF : Fr n a F) (hS : Heap w0 S w cs) (hb : LB 256 xs) (hn : xs.length = n')
    (K : ∀ a' w' A' c', Heap w0 S w' (.ro A' (vs .u8 xs) :: cs) → w.grownBy w' none → n' ≤ c' → a' = a.put (some d) (.slice A' n' c') → Fr n a' ((d, .slice A' n' c') :: F) → KK a' w') : One P ops Q o KK a w := by
  subst hn
  unfold oBytes at h
  split at h
  · rename_i d' src dst x hd ho
    split at h
    · rename_i e _ _ _ s hs1 hs2 hx
      split at h
      · rename_i he
        simp only [Option.some.injEq, Prod.mk.injEq] at h
        obtain ⟨rfl, rfl⟩ := h
        have hr := run_bytes_of_string (P := P) w src dst e (str xs) (hT.ty _ _ hs1) (hT.ty _ _ hs2) (hT.ty _ _ he)
        rw [str_size] at hr
        refine s_val hd hF (v := .slice (some ⟨w.heap.size, 0, none⟩) xs.length (grownCap w xs.length 0 e)) (w' := w.drew.alloc (.cells (bytesRow (str xs) (grownCap w xs.length 0 e)) e ((bytesRow (str xs) (grownCap w xs.length 0 e)).size, (bytesRow (str xs) (grownCap w xs.length 0 e)).size + 1))) ?_ (fun a' ha' hF' => K a' _ _ _ ?_ ?_ ?_ ha' hF')
        · simp only [execOp, ho, hF.eval hx, Sem.run_bind]
          rw [hr]
          rfl
        · have g : w.grownBy (w.drew.alloc (.cells (bytesRow (str xs) (grownCap w xs.length 0 e)) e ((bytesRow (str xs) (grownCap w xs.length 0 e)).size, (bytesRow (str xs) (grownCap w xs.length 0 e)).size + 1))) none := grown_drew w _
          refine hS.new g (c := .ro _ _) ⟨⟨fun _ => rfl, fun j v hj => ?_⟩, fun k hk => ?_⟩ (fun k hk => ?_)
          · have hrow := heap_alloc_new w.drew (.cells (bytesRow (str xs) (grownCap w xs.length 0 e)) e ((bytesRow (str xs) (grownCap w xs.length 0 e)).size, (bytesRow (str xs) (grownCap w xs.length 0 e)).size + 1))
            have hc := cell_of_row _ _ (0 + j) _ _ _ hrow
            refine hc.trans ?_
            rw [Nat.zero_add, ← Array.getElem?_toList]
            simp only [bytesRow, Array.toList_append, Array.toList_map]
            rw [str_data hb, List.getElem?_append_left (List.getElem?_eq_some_iff.1 hj).1]
            exact hj
          · cases hk
            show w.heap.size < (w.heap.push _).size
            simp
          · cases hk; exact Nat.le_refl _
        · exact grown_drew w _
        · exact grownCap_ge w _ 0 e
      · cases h
    · cases h
  · cases h
end
end Go.Proofs.Ytnagkhofkjjajaa
