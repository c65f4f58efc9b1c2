/- Memory as blocks and rows, and one step for each operation that touches it: lemmas for walks, no statement of the claim. -/
import Derived.Test.YtnagkhofkjjajaaKb
import Derived.Maps.AppendAt
set_option linter.unusedVariables false
set_option linter.unusedSimpArgs false
namespace Go.Proofs.Ytnagkhofkjjajaa
open Go.RowKit

/-! ### 7. Worlds -/
/-- Nothing of what was there has changed. -/
abbrev Ex (w w' : World) : Prop := Below w.heap.size w w'
theorem Ex.refl (w : World) : Ex w w := Below.refl _ w
theorem Ex.g {w w' : World} (h : Ex w w') : w.grownBy w' none := ⟨h.os, h.tape, h.output, h.size, fun k hk _ => h.block k hk⟩
theorem Ex.trans {a b c : World} (h : Ex a b) (k : Ex b c) : Ex a c := Below.trans h (k.mono h.size)
theorem Ex.thenN {a w w' : World} (h : Ex a w) (g : w.grownBy w' none) : Ex a w' := h.grown g h.size (by simp)
theorem Ex.thenS {a w w' : World} (h : Ex a w) {b : Nat} (g : w.grownBy w' (some b)) (hb : a.heap.size ≤ b) : Ex a w' := h.grown g h.size (by simpa using hb)
theorem Ex.thenR {a w w' : World} (h : Ex a w) {r : Option Nat} (g : w.grownBy w' r) (hb : ∀ k, r = some k → a.heap.size ≤ k) : Ex a w' := h.grown g h.size hb
theorem Ex.drew {a w : World} (h : Ex a w) : Ex a w.drew := Below.drew h
theorem grown_refl (w : World) (r : Option Nat) : w.grownBy w r := ⟨rfl, rfl, rfl, Nat.le_refl _, fun _ _ _ => rfl⟩

/-! ### 8. Cells, blocks, rows -/
def vs (k : IntKind) (xs : List Nat) : List Value := xs.map fun n : Nat => .int k (n : Int)
def vi (xs : List Int) : List Value := xs.map fun n => .int .i64 n
@[simp] theorem vs_length (k : IntKind) (xs : List Nat) : (vs k xs).length = xs.length := by simp [vs]
@[simp] theorem vi_length (xs : List Int) : (vi xs).length = xs.length := by simp [vi]
theorem vs_append (k : IntKind) (xs ys : List Nat) : vs k (xs ++ ys) = vs k xs ++ vs k ys := by simp [vs]
theorem vs_set (k : IntKind) (xs : List Nat) (i x : Nat) : (vs k xs).set i (.int k (x : Int)) = vs k (xs.set i x) := by simp [vs, List.map_set]
theorem vs_take (k : IntKind) (xs : List Nat) (i : Nat) : (vs k xs).take i = vs k (xs.take i) := by simp [vs]
theorem vs_drop (k : IntKind) (xs : List Nat) (i : Nat) : (vs k xs).drop i = vs k (xs.drop i) := by simp [vs]
theorem vs_get (k : IntKind) (xs : List Nat) {i : Nat} (h : i < xs.length) : (vs k xs)[i]? = some (.int k ((xs.getD i 0 : Nat) : Int)) := by
  simp [vs, h, List.getD_eq_getElem?_getD]
theorem vi_get (xs : List Int) {i : Nat} (h : i < xs.length) : (vi xs)[i]? = some (.int .i64 (xs.getD i 0)) := by
  simp [vi, h, List.getD_eq_getElem?_getD]
theorem vs_one {k : IntKind} {xs : List Nat} : ∀ u, u ∈ vs k xs → u.oneCell' = true := by
  intro u hu
  simp only [vs, List.mem_map] at hu
  obtain ⟨q, _, rfl⟩ := hu
  rfl
theorem vi_one {xs : List Int} : ∀ u, u ∈ vi xs → u.oneCell' = true := by
  intro u hu
  simp only [vi, List.mem_map] at hu
  obtain ⟨q, _, rfl⟩ := hu
  rfl

def Cells (w : World) (b o : Nat) (l : List Value) : Prop := ∀ j v, l[j]? = some v → w.cell? ⟨b, o + j, none⟩ = some v
theorem Cells.ex {w w' : World} {b o : Nat} {l : List Value} (h : Cells w b o l) (e : Ex w w') : Cells w' b o l := fun j v hj => by
  have h1 := h j v hj
  have := World.block_lt_of_cell? w _ h1
  rw [← h1]
  exact e.cell (p := ⟨b, o + j, none⟩) this
theorem Cells.grow {w w' : World} {b o : Nat} {l : List Value} (h : Cells w b o l) {r : Option Nat} (g : w.grownBy w' r) (hne : r ≠ some b) : Cells w' b o l := fun j v hj =>
  g.cell (h j v hj) (fun q => hne q.symm)
theorem Cells.sub {w : World} {b o : Nat} {l : List Value} (h : Cells w b o l) (i n : Nat) : Cells w b (o + i) ((l.drop i).take n) := fun j v hj => by
  have : l[i + j]? = some v := by
    rw [List.getElem?_take] at hj
    split at hj
    · rwa [List.getElem?_drop] at hj
    · cases hj
  have := h _ _ this
  rwa [show o + i + j = o + (i + j) by omega]
theorem Cells.drop {w : World} {b o : Nat} {l : List Value} (h : Cells w b o l) (i : Nat) : Cells w b (o + i) (l.drop i) := fun j v hj => by
  rw [List.getElem?_drop] at hj
  have := h _ _ hj
  rwa [show o + i + j = o + (i + j) by omega]
theorem Cells.take {w : World} {b o : Nat} {l : List Value} (h : Cells w b o l) (i : Nat) : Cells w b o (l.take i) := fun j v hj => by
  rw [List.getElem?_take] at hj
  split at hj
  · exact h _ _ hj
  · cases hj
theorem Cells.at {w : World} {b o : Nat} {l : List Value} (h : Cells w b o l) {j : Nat} {v : Value} (hj : l[j]? = some v) {o' : Nat} (e : o' = o + j) : w.cell? ⟨b, o', none⟩ = some v := by
  subst e
  exact h j v hj

/-- A block of the call's own: a variable, an array. -/
def Blk (w : World) (b T : Nat) (l : List Value) : Prop := w.heap[b]? = some (.cells l.toArray T (0, 0))
theorem Blk.lt {w : World} {b T : Nat} {l : List Value} (h : Blk w b T l) : b < w.heap.size := (Array.getElem?_eq_some_iff.1 h).1
theorem Blk.grow {w w' : World} {b T : Nat} {l : List Value} (h : Blk w b T l) {r : Option Nat} (g : w.grownBy w' r) (hne : r ≠ some b) : Blk w' b T l :=
  (g.block b h.lt (fun q => hne q.symm)).trans h
theorem Blk.growN {w w' : World} {b T : Nat} {l : List Value} (h : Blk w b T l) (g : w.grownBy w' none) : Blk w' b T l := h.grow g (by simp)
theorem Blk.ex {w w' : World} {b T : Nat} {l : List Value} (h : Blk w b T l) (g : Ex w w') : Blk w' b T l := h.growN g.g
theorem Blk.growS {w w' : World} {b b' T : Nat} {l : List Value} (h : Blk w b T l) (g : w.grownBy w' (some b')) (hne : b' ≠ b) : Blk w' b T l := h.grow g (by simpa using hne)
theorem Blk.cells {w : World} {b T : Nat} {l : List Value} (h : Blk w b T l) : Cells w b 0 l := fun j v hj => by
  rw [cell_of_row w b (0 + j) l.toArray T (0, 0) h]
  simpa using hj
theorem Blk.at {w : World} {b T : Nat} {l : List Value} (h : Blk w b T l) {j : Nat} {v : Value} (hj : l[j]? = some v) : w.cell? ⟨b, j, none⟩ = some v := h.cells.at hj (by omega)
theorem Blk.free {w : World} {b T : Nat} {l : List Value} (h : Blk w b T l) (j : Nat) : w.frozen? ⟨b, j, none⟩ = false := frozen_of_row w b j l.toArray T h
theorem Blk.drew {w : World} {b T : Nat} {l : List Value} (h : Blk w b T l) : Blk w.drew b T l := h

theorem grown_alloc (w : World) (o : Obj) : w.grownBy (w.alloc o) none := World.grownBy_alloc w o none
theorem Blk.new (w : World) (T : Nat) (l : List Value) : Blk (w.alloc (.cells l.toArray T)) w.heap.size T l := heap_alloc_new w _
theorem Blk.stored {w : World} {b T : Nat} {l : List Value} (h : Blk w b T l) (j : Nat) (v : Value) : Blk (w.setCell ⟨b, j, none⟩ v) b T (l.set j v) ∧ w.grownBy (w.setCell ⟨b, j, none⟩ v) (some b) := by
  refine ⟨?_, rfl, rfl, rfl, by simp, fun k hk hne => heap_setCell_other w _ k v (fun q => hne (by simp [q]))⟩
  have := heap_setCell_same w b j l.toArray T v h
  unfold Blk
  rw [this]
  simp

/-- A slice that is read: its cells, one behind the other. -/
structure Rd (w : World) (A : Option Addr) (l : List Value) : Prop where
  some_ : l ≠ [] → A = some ⟨ablk A, aoff A, none⟩
  cells : Cells w (ablk A) (aoff A) l
theorem Rd.ex {w w' : World} {A : Option Addr} {l : List Value} (h : Rd w A l) (e : Ex w w') : Rd w' A l := ⟨h.some_, h.cells.ex e⟩
theorem Rd.grow {w w' : World} {A : Option Addr} {l : List Value} (h : Rd w A l) {r : Option Nat} (g : w.grownBy w' r) (hne : r ≠ some (ablk A)) : Rd w' A l := ⟨h.some_, h.cells.grow g hne⟩
theorem Rd.nil (w : World) (A : Option Addr) : Rd w A [] := ⟨fun h => absurd rfl h, fun j v hj => by simp at hj⟩
theorem Rd.some' {w : World} {A : Option Addr} {l : List Value} (h : Rd w A l) (hl : 0 < l.length) : A = some ⟨ablk A, aoff A, none⟩ := h.some_ (fun q => by rw [q] at hl; exact absurd hl (by simp))
theorem Rd.num {w : World} {A : Option Addr} {k : IntKind} {xs : List Nat} (h : Rd w A (vs k xs)) {j : Nat} (hj : j < xs.length) {o : Nat} (e : o = aoff A + j) : w.cell? ⟨ablk A, o, none⟩ = some (.int k ((xs.getD j 0 : Nat) : Int)) :=
  h.cells.at (vs_get k xs hj) e
theorem Blk.rd {w : World} {b T : Nat} {l : List Value} (h : Blk w b T l) : Rd w (some ⟨b, 0, none⟩) l := ⟨fun _ => rfl, h.cells⟩
theorem Rd.take {w : World} {A : Option Addr} {l : List Value} (h : Rd w A l) (i : Nat) : Rd w A (l.take i) := ⟨fun hn => h.some_ (fun q => by subst q; simp at hn), h.cells.take i⟩
theorem Cells.rd {w : World} {b o : Nat} {l : List Value} (h : Cells w b o l) : Rd w (some ⟨b, o, none⟩) l := ⟨fun _ => rfl, h⟩

/-- a row whose cells may be written -/
def RowAt (w : World) (g : Nat) (cur : Array Value) (T : Nat) : Prop := ∃ fz : Nat × Nat, w.heap[g]? = some (.cells cur T fz) ∧ (fz = (0, 0) ∨ cur.size ≤ fz.1)
section
variable {w : World} {g T : Nat} {cur : Array Value}
theorem RowAt.of (h : w.heap[g]? = some (.cells cur T (0, 0))) : RowAt w g cur T := ⟨(0, 0), h, .inl rfl⟩
theorem RowAt.lt (h : RowAt w g cur T) : g < w.heap.size := by obtain ⟨_, h, _⟩ := h; exact (Array.getElem?_eq_some_iff.1 h).1
theorem RowAt.cell (h : RowAt w g cur T) (k : Nat) : w.cell? ⟨g, k, none⟩ = cur[k]? := by obtain ⟨fz, h, _⟩ := h; exact cell_of_row w g k cur T fz h
theorem RowAt.free (h : RowAt w g cur T) {k : Nat} (hk : k < cur.size) : w.frozen? ⟨g, k, none⟩ = false := by
  obtain ⟨fz, h, hf⟩ := h
  simp only [World.frozen?, h]
  rw [Bool.and_eq_false_iff, decide_eq_false_iff_not, decide_eq_false_iff_not]
  rcases hf with rfl | hf
  · right; exact Nat.not_lt_zero _
  · left; omega
theorem RowAt.block {w' : World} (h : RowAt w g cur T) (e : w'.heap[g]? = w.heap[g]?) : RowAt w' g cur T := by obtain ⟨fz, h, hf⟩ := h; exact ⟨fz, e.trans h, hf⟩
theorem RowAt.setRow (h : RowAt w g cur T) {cs : Array Value} (hs : cs.size = cur.size) : RowAt (w.setRow g cs) g cs T := by
  obtain ⟨fz, h, hf⟩ := h
  exact ⟨fz, setRow_heap w g cur cs T fz h, hf.imp_right (fun q => by omega)⟩
theorem RowAt.set (h : RowAt w g cur T) (j : Nat) (u : Value) : w.setCell ⟨g, j, none⟩ u = w.setRow g (cur.setIfInBounds j u) := by
  obtain ⟨fz, h, _⟩ := h
  exact setCell_eq_setRow w g j cur T fz u h
theorem RowAt.self (h : RowAt w g cur T) : w.setRow g cur = w := by obtain ⟨fz, h, _⟩ := h; exact setRow_self w g cur T fz h
end
theorem RowAt.freeze {w : World} {g T : Nat} {cur : Array Value} (h : RowAt w g cur T) : RowAt (w.freeze ⟨g, cur.size, none⟩ 1) g cur T := by
  obtain ⟨⟨lo, hi⟩, h, hf⟩ := h
  refine ⟨if lo == hi then (cur.size, cur.size + 1) else (min lo cur.size, max hi (cur.size + 1)), ?_, ?_⟩
  · unfold World.freeze
    rw [if_neg (by decide)]
    show (w.heap.modify g _)[g]? = _
    rw [Array.getElem?_modify, if_pos rfl, h]
    simp
  · right
    split
    · exact Nat.le_refl _
    · rename_i hne
      rcases hf with hf | hf
      · cases hf; exact absurd rfl hne
      · show cur.size ≤ min lo cur.size
        have hf : cur.size ≤ lo := hf
        omega
theorem seg_one (l : List Value) (i : Nat) (v : Value) (rest : List Value) (h : i + (rest.length + 1) ≤ l.length) : (l.set i v).take (i + 1) ++ rest ++ (l.set i v).drop (i + 1 + rest.length) = l.take i ++ (v :: rest) ++ l.drop (i + (rest.length + 1)) := by
  have h1 : (l.set i v).take (i + 1) = l.take i ++ [v] := by
    rw [List.take_add_one, List.take_set_of_le (Nat.le_refl i), List.getElem?_set_self (by omega)]
    rfl
  have h2 : (l.set i v).drop (i + 1 + rest.length) = l.drop (i + (rest.length + 1)) := by
    rw [List.drop_set_of_lt (by omega), show i + 1 + rest.length = i + (rest.length + 1) by omega]
  rw [h1, h2]; simp
theorem store_at {P : Program} (g o : Nat) (t : TypeId) : ∀ (vs : List Value) (i : Nat) (cur : Array Value) (w : World), RowAt w g cur t → o + i + vs.length ≤ cur.size → (∀ v ∈ vs, v.oneCell' = true) →
    (storeCells ⟨g, o, none⟩ vs i).run P w = .ok () (w.setRow g (cur.toList.take (o + i) ++ vs ++ cur.toList.drop (o + i + vs.length)).toArray)
  | [], i, cur, w, hg, _, _ => by
    simp only [storeCells, List.append_nil, List.length_nil, Nat.add_zero, List.take_append_drop, Array.toArray_toList]
    rw [hg.self]
    rfl
  | v :: rest, i, cur, w, hg, hl, h1 => by
    have hi : o + i < cur.size := by simp at hl; omega
    have hadd : (⟨g, o, none⟩ : Addr).add i = ⟨g, o + i, none⟩ := by unfold Addr.add; split <;> simp_all
    have hcell : w.cell? ⟨g, o + i, none⟩ = some cur[o + i] := by rw [hg.cell]; simp [hi]
    have hfro : w.frozen? ⟨g, o + i, none⟩ = false := hg.free hi
    have hst : (store ((⟨g, o, none⟩ : Addr).add i) v).run P w = .ok () (w.setRow g (cur.setIfInBounds (o + i) v)) := by
      rw [hadd, run_store P w _ v _ (h1 v (by simp)), hcell]
      simp [hfro, hg.set]
    have ih := store_at (P := P) g o t rest (i + 1) (cur.setIfInBounds (o + i) v) (w.setRow g (cur.setIfInBounds (o + i) v)) (hg.setRow (by simp)) (by simp at hl ⊢; omega) (fun x hx => h1 x (by simp [hx]))
    simp only [storeCells, Sem.run_bind, hst, Result.andThen_ok, ih, setRow_setRow]
    congr 3
    have e := seg_one cur.toList (o + i) v rest (by simp at hl ⊢; omega)
    simpa [Array.toList_setIfInBounds, Nat.add_assoc] using e
/-- what the call owns -/
def OwnR (w : World) (base : Nat) (e : TypeId) (size : Nat) (v : Value) (n : Nat) (xs : List Value) : Prop :=
  xs.length = n * size ∧
  ((v = .slice none 0 0 ∧ n = 0) ∨
   ∃ g cap cur, v = .slice (some ⟨g, 0, none⟩) n cap ∧ base ≤ g ∧ RowAt w g cur e ∧ n ≤ cap ∧ cap ≤ maxLen ∧ cur.size = cap * size ∧ cur.toList.take (n * size) = xs)
/-- A slice of the call's own: n elements of sz cells each; c: its capacity. -/
abbrev Own (w : World) (B T sz : Nat) (A : Option Addr) (n c : Nat) (l : List Value) : Prop := OwnR w B T sz (.slice A n c) n l
theorem Own.of {w : World} {B T sz : Nat} {v : Value} {n : Nat} {l : List Value} (h : w.ownsRow B T sz v n l) : OwnR w B T sz v n l := by
  refine ⟨h.1, ?_⟩
  rcases h.2 with q | ⟨g, cap, cur, h1, h2, h3, h4⟩
  · exact .inl q
  · exact .inr ⟨g, cap, cur, h1, h2, .of h3, h4⟩
def oblk (A : Option Addr) : Option Nat := A.map (·.block)
theorem ownBlock_eq (A : Option Addr) (n c : Nat) : (Value.slice A n c).ownBlock = oblk A := by cases A <;> rfl
theorem Own.nil (w : World) (B T sz : Nat) : Own w B T sz none 0 0 [] := .of (World.ownsRow_nil w B T sz)
theorem Own.grow {w w' : World} {B T sz : Nat} {A : Option Addr} {n c : Nat} {l : List Value} (h : Own w B T sz A n c l) {r : Option Nat} (g : w.grownBy w' r) (hne : oblk A = none ∨ oblk A ≠ r) : Own w' B T sz A n c l := by
  refine ⟨h.1, ?_⟩
  rcases h.2 with hn | ⟨k, cap, cur, q, hb, hgg, rest⟩
  · exact .inl hn
  · refine .inr ⟨k, cap, cur, q, hb, hgg.block (g.block k hgg.lt ?_), rest⟩
    injection q with a1 a2 a3
    subst a1
    simpa [oblk] using hne
theorem Own.growN {w w' : World} {B T sz : Nat} {A : Option Addr} {n c : Nat} {l : List Value} (h : Own w B T sz A n c l) (g : w.grownBy w' none) : Own w' B T sz A n c l :=
  Own.grow h g (by cases A <;> simp [oblk])
theorem Own.ex {w w' : World} {B T sz : Nat} {A : Option Addr} {n c : Nat} {l : List Value} (h : Own w B T sz A n c l) (g : Ex w w') : Own w' B T sz A n c l := h.growN g.g
theorem Own.form {w : World} {B T sz : Nat} {A : Option Addr} {n c : Nat} {l : List Value} (h : Own w B T sz A n c l) : (A = none ∧ n = 0 ∧ c = 0 ∧ l = []) ∨ (∃ b, A = some ⟨b, 0, none⟩ ∧ B ≤ b ∧ b < w.heap.size ∧ n ≤ c) := by
  rcases h.2 with ⟨h1, h2⟩ | ⟨g, cap, cur, h1, h2, h3, h4, _⟩
  · injection h1 with h1 h1' h1''
    refine .inl ⟨h1, h2, h1'', ?_⟩
    have := h.1
    rw [h2] at this
    exact List.eq_nil_of_length_eq_zero (by simpa using this)
  · injection h1 with h1 h1' h1''
    subst h1''
    exact .inr ⟨g, h1, h2, h3.lt, h4⟩
theorem Own.len {w : World} {B T sz : Nat} {A : Option Addr} {n c : Nat} {l : List Value} (h : Own w B T sz A n c l) : l.length = n * sz := h.1
theorem Own.cap {w : World} {B T sz : Nat} {A : Option Addr} {n c : Nat} {l : List Value} (h : Own w B T sz A n c l) : n ≤ c := by
  rcases h.form with ⟨_, h1, h2, _⟩ | ⟨_, _, _, _, h⟩
  · omega
  · exact h
theorem Own.base {w : World} {B T sz : Nat} {A : Option Addr} {n c : Nat} {l : List Value} (h : Own w B T sz A n c l) : ∀ k, oblk A = some k → B ≤ k ∧ k < w.heap.size := by
  intro k hk
  rcases h.form with ⟨rfl, _⟩ | ⟨b, rfl, h1, h2, _⟩
  · cases hk
  · cases hk; exact ⟨h1, h2⟩
theorem Own.rebase {w : World} {B B' T sz : Nat} {A : Option Addr} {n c : Nat} {l : List Value} (h : Own w B T sz A n c l) (hB : B' ≤ B) : Own w B' T sz A n c l := by
  refine ⟨h.1, ?_⟩
  rcases h.2 with h1 | ⟨g, cap, cur, h1, h2, h3⟩
  · exact .inl h1
  · exact .inr ⟨g, cap, cur, h1, Nat.le_trans hB h2, h3⟩
theorem Own.rd {w : World} {B T sz : Nat} {A : Option Addr} {n c : Nat} {l : List Value} (h : Own w B T sz A n c l) : Rd w A l := by
  rcases h.form with ⟨rfl, _, _, rfl⟩ | ⟨b, rfl, _, _, _⟩
  · exact Rd.nil _ _
  · refine ⟨fun _ => rfl, fun j v hj => ?_⟩
    have hjl : j < l.length := by
      rcases Nat.lt_or_ge j l.length with q | q
      · exact q
      · rw [List.getElem?_eq_none q] at hj; cases hj
    rcases h.2 with ⟨q, _⟩ | ⟨g, cap, cur, q, _, hg, _, _, _, htake⟩
    · cases q
    · injection q with a1 a2 a3
      injection a1 with a1
      injection a1 with a1
      subst a1
      show w.cell? ⟨b, 0 + j, none⟩ = some v
      rw [Nat.zero_add, hg.cell]
      rw [← htake, List.getElem?_take] at hj
      split at hj
      · rw [Array.getElem?_toList] at hj; exact hj
      · cases hj
theorem Own.frozen {w : World} {B T sz : Nat} {A : Option Addr} {n c : Nat} {l : List Value} (h : Own w B T sz A n c l) {o : Nat} (ho : o < l.length) : w.frozen? ⟨ablk A, aoff A + o, none⟩ = false := by
  rcases h.2 with ⟨_, q⟩ | ⟨g, cap, cur, q, _, hg, hnc, _, hcs, htake⟩
  · have := h.1; rw [q] at this; omega
  · injection q with a1 a2 a3
    subst a1
    have : o < cur.size := by
      rw [← htake, List.length_take, Array.length_toList] at ho
      omega
    have := hg.free this
    simpa [ablk, aoff] using this
theorem Own.stored {w : World} {B T sz : Nat} {A : Option Addr} {n c : Nat} {l : List Value} (h : Own w B T sz A n c l) (hl : 0 < n) (j : Nat) (u : Value) :
    Own (w.setCell ⟨ablk A, aoff A + j, none⟩ u) B T sz A n c (l.set j u) ∧ w.grownBy (w.setCell ⟨ablk A, aoff A + j, none⟩ u) (oblk A) := by
  rcases h.2 with ⟨_, q⟩ | ⟨g, cap, cur, q, hB, hg, hnc, hcm, hcs, htake⟩
  · omega
  · injection q with a1 a2 a3
    subst a1 a3
    have e : w.setCell ⟨ablk (some ⟨g, 0, none⟩), aoff (some ⟨g, 0, none⟩) + j, none⟩ u = w.setRow g (cur.setIfInBounds j u) := by
      rw [← hg.set]; simp [ablk, aoff]
    rw [e]
    refine ⟨⟨by rw [List.length_set]; exact h.1, .inr ⟨g, c, _, rfl, hB, hg.setRow (by simp), hnc, hcm, by simpa using hcs, ?_⟩⟩, ⟨rfl, rfl, rfl, by simp, fun k _ hk => setRow_other w g k _ (fun e => hk (by simp [oblk, e]))⟩⟩
    rw [Array.toList_setIfInBounds, List.take_set, htake]
/-- A shorter piece of one's own row. -/
theorem Own.cut {w : World} {B T sz : Nat} {A : Option Addr} {n c : Nat} {l : List Value} (h : Own w B T sz A n c l) {m : Nat} (hm : m ≤ n) : Own w B T sz A m c (l.take (m * sz)) := by
  refine ⟨?_, ?_⟩
  · rw [List.length_take, h.1, Nat.min_eq_left (Nat.mul_le_mul_right _ hm)]
  · rcases h.2 with ⟨h1, h2⟩ | ⟨g, cap, cur, h1, h2, h3, h4, h5, h6, h7⟩
    · injection h1 with a1 a2 a3
      exact .inl ⟨by rw [a1, a3, show m = 0 by omega], by omega⟩
    · injection h1 with a1 a2 a3
      refine .inr ⟨g, cap, cur, by rw [a1, a3], h2, h3, by omega, h5, h6, ?_⟩
      rw [← h7, List.take_take, Nat.min_eq_left (Nat.mul_le_mul_right _ hm)]
theorem Blk.own {w : World} {b T : Nat} {l : List Value} (h : Blk w b T l) {B : Nat} (hB : B ≤ b) (hm : l.length ≤ maxLen) : Own w B T 1 (some ⟨b, 0, none⟩) l.length l.length l :=
  ⟨by simp, .inr ⟨b, l.length, l.toArray, rfl, hB, .of h, Nat.le_refl _, hm, by simp, by simp⟩⟩

theorem copy_n {k m n : Nat} (h : k = m) (hle : m ≤ n) : k = Nat.min m n := by rw [h]; exact (Nat.min_eq_left hle).symm
theorem copy_n' {k m n : Nat} (h : k = n) (hle : n ≤ m) : k = Nat.min m n := by rw [h]; exact (Nat.min_eq_right hle).symm
/-! ### 9. One step an operation -/
section
variable {P : Program} {TI : List (Nat × T1)} {n : Nat} {a : Act} {F : List (Nat × Value)} {ops : Array Oper} {KK : Act → World → Prop} {o : Oper} {Q : Exit → Act → World → Prop} {w : World}

/-- The destination of an operation without a guard. -/
def dstOf (n : Nat) (o : Oper) : Option Nat :=
  match o.guard, o.dst with
  | none, some d => bif Nat.blt d n then some d else none
  | _, _ => none
theorem dstOf_spec {d : Nat} (h : dstOf n o = some d) : o.guard = none ∧ o.dst = some d ∧ d < n := by
  unfold dstOf at h
  split at h
  · rename_i e hg hd
    cases hb : Nat.blt e n with
    | false => simp [hb] at h
    | true =>
      simp [hb] at h
      subst h
      exact ⟨hg, hd, by simpa using hb⟩
  · cases h

theorem One.val {w' : World} {v : Value} (hg : o.guard = none) (h : (execOp a.eval o).run P w = .ok (.value v) w') (k : KK (a.put o.dst v) w') : One P ops Q o KK a w := One.res (by simp [Region.wanted, hg]) h k
theorem One.skip {w' : World} (hg : o.guard = none) (h : (execOp a.eval o).run P w = .ok .skip w') (k : KK (a.put o.dst undef) w') : One P ops Q o KK a w := by
  unfold One
  rw [if_pos (by simp [Region.wanted, hg])]
  refine .inl ?_
  unfold Oper.wp
  rw [h]
  exact k

/-- any operation that yields a value -/
theorem s_val {d : Nat} (hd : dstOf n o = some d) (hF : Fr n a F) {v : Value} {w' : World} (h : (execOp a.eval o).run P w = .ok (.value v) w')
    (K : ∀ a', a' = a.put (some d) v → Fr n a' ((d, v) :: F) → KK a' w') : One P ops Q o KK a w := by
  obtain ⟨hg, hd', hlt⟩ := dstOf_spec hd
  refine One.val hg h ?_
  rw [hd']
  exact K _ rfl (hF.put hlt v)
theorem s_none (hg : o.guard = none) (hd : o.dst = none) (hF : Fr n a F) {w' : World} (h : (execOp a.eval o).run P w = .ok .skip w')
    (K : ∀ a', a' = a → Fr n a' F → KK a' w') : One P ops Q o KK a w := by
  refine One.skip hg h ?_
  rw [hd]
  exact K _ rfl hF
theorem s_pure (hT : TIok P TI) {d : Nat} {v : Value} {cs : List Prop} (hd : dstOf n o = some d) (h : pOp TI F o.op = some (v, cs)) (hc : allP cs) (hF : Fr n a F)
    (K : ∀ a', a' = a.put (some d) v → Fr n a' ((d, v) :: F) → KK a' w) : One P ops Q o KK a w := s_val hd hF (pOp_sound hT hF h hc w) K

/-- a load of one cell -/
def oLoad (TI : List (Nat × T1)) (n : Nat) (F : List (Nat × Value)) (o : Oper) : Option (Nat × Addr) :=
  match dstOf n o, o.op with
  | some d, .load t x => match lookT TI t, opnd F x with
    | some i, some (.pointer (some A)) => bif aggD i.d then none else some (d, A)
    | _, _ => none
  | _, _ => none
theorem s_load (hT : TIok P TI) {d : Nat} {A : Addr} {v : Value} (h : oLoad TI n F o = some (d, A)) (hF : Fr n a F) (hc : w.cell? A = some v)
    (K : ∀ a', a' = a.put (some d) v → Fr n a' ((d, v) :: F) → KK a' w) : One P ops Q o KK a w := by
  unfold oLoad at h
  split at h
  · rename_i e t x hd hop
    split at h
    · rename_i i p hi hx
      cases hag : aggD i.d with
      | true => simp [hag] at h
      | false =>
        simp [hag] at h
        obtain ⟨rfl, rfl⟩ := h
        refine s_val hd hF ?_ K
        simp [execOp, hop, hF.eval hx, Instr.loadAt, Instr.sureAddr, loadVar, run_isAgg (hT.ty _ _ hi), hag, hc]
    · cases h
  · cases h

/-- a load of several cells -/
def oLoadA (TI : List (Nat × T1)) (n : Nat) (F : List (Nat × Value)) (o : Oper) : Option (Nat × Nat × Nat × Nat) :=
  match dstOf n o, o.op with
  | some d, .load t x => match lookT TI t, opnd F x with
    | some i, some (.pointer (some ⟨b, off, none⟩)) => bif aggD i.d then some (d, b, off, i.n) else none
    | _, _ => none
  | _, _ => none
theorem s_loadA (hT : TIok P TI) {d b off sz : Nat} {l : List Value} (h : oLoadA TI n F o = some (d, b, off, sz)) (hF : Fr n a F) (hc : Cells w b off l) (hl : l.length = sz)
    (K : ∀ a', a' = a.put (some d) (.agg l.toArray) → Fr n a' ((d, .agg l.toArray) :: F) → KK a' w) : One P ops Q o KK a w := by
  unfold oLoadA at h
  split at h
  · rename_i e t x hd hop
    split at h
    · rename_i i b' off' hi hx
      cases hag : aggD i.d with
      | false => simp [hag] at h
      | true =>
        simp [hag] at h
        obtain ⟨rfl, rfl, rfl, rfl⟩ := h
        refine s_val hd hF ?_ K
        have hl' := run_loadCells_list (P := P) w ⟨b', off', none⟩ l (fun j v hv => by rw [add_flat]; exact hc j v hv)
        rw [hl] at hl'
        simp [execOp, hop, hF.eval hx, Instr.loadAt, Instr.sureAddr, loadVar, run_isAgg (hT.ty _ _ hi), hag, hT.run_sizeOf hi, hl']
    · cases h
  · cases h

/-- a store of one cell -/
def oStore (TI : List (Nat × T1)) (F : List (Nat × Value)) (o : Oper) : Option (Addr × Value) :=
  match o.guard, o.dst, o.op with
  | none, none, .store t x y => match lookT TI t, opnd F x, opnd F y with
    | some i, some (.pointer (some A)), some v => bif (Nat.beq i.n 1 && v.oneCell') then some (A, v) else none
    | _, _, _ => none
  | _, _, _ => none
theorem cells_one {v : Value} (h : v.oneCell' = true) : v.cells = #[v] := by cases v <;> first | rfl | (simp [Value.oneCell'] at h)
theorem run_store1 (hT : TIok P TI) {A : Addr} {v : Value} (h : oStore TI F o = some (A, v)) (hF : Fr n a F) {u : Value} (hc : w.cell? A = some u) (hf : w.frozen? A = false) :
    o.guard = none ∧ o.dst = none ∧ (execOp a.eval o).run P w = .ok .skip (w.setCell A v) := by
  unfold oStore at h
  split at h
  · rename_i t x y hg hd hop
    split at h
    · rename_i i p q hi hx hy
      cases hag : (Nat.beq i.n 1 && q.oneCell') with
      | false => simp [hag] at h
      | true =>
        simp [hag] at h
        obtain ⟨rfl, rfl⟩ := h
        simp only [Bool.and_eq_true] at hag
        have h1 := Nat.eq_of_beq_eq_true hag.1
        refine ⟨hg, hd, ?_⟩
        have hst := run_store P w p q .plain hag.2
        simp only [hc, hf] at hst
        simp [execOp, hop, hF.eval hx, hF.eval hy, Instr.storeAt, Instr.sureAddr, storeVar, hT.run_sizeOf hi, h1, cells_one hag.2, storeCells, Addr.add_zero', hst]
    · cases h
  · cases h
theorem s_store (hT : TIok P TI) {b off T : Nat} {v : Value} {p : Addr} {l : List Value} (h : oStore TI F o = some (p, v)) (hF : Fr n a F) (hB : Blk w b T l) (hp : p = ⟨b, 0 + off, none⟩) (hlt : off < l.length)
    (K : ∀ a' w', a' = a → Fr n a' F → Blk w' b T (l.set off v) → w.grownBy w' (some b) → KK a' w') : One P ops Q o KK a w := by
  rw [Nat.zero_add] at hp
  subst hp
  obtain ⟨hg, hd, hr⟩ := run_store1 (w := w) hT h hF (hB.at (List.getElem?_eq_getElem hlt)) (hB.free off)
  obtain ⟨h1, h2⟩ := hB.stored off v
  exact s_none hg hd hF hr (fun a' ha' hF' => K a' _ ha' hF' h1 h2)
theorem s_storeO (hT : TIok P TI) {B T sz m c off : Nat} {A : Option Addr} {v : Value} {l : List Value} {p : Addr} (h : oStore TI F o = some (p, v)) (hF : Fr n a F) (hO : Own w B T sz A m c l) (hlt : off < l.length) (hp : p = ⟨ablk A, aoff A + off, none⟩)
    (K : ∀ a' w', a' = a → Fr n a' F → Own w' B T sz A m c (l.set off v) → w.grownBy w' (oblk A) → KK a' w') : One P ops Q o KK a w := by
  subst hp
  have hm : 0 < m := by
    rcases Nat.eq_zero_or_pos m with q | q
    · have := hO.1; rw [q] at this; simp at this; rw [this] at hlt; simp at hlt
    · exact q
  obtain ⟨hg, hd, hr⟩ := run_store1 (w := w) hT h hF (hO.rd.cells.at (List.getElem?_eq_getElem hlt) rfl) (hO.frozen hlt)
  obtain ⟨h1, h2⟩ := hO.stored hm off v
  exact s_none hg hd hF hr (fun a' ha' hF' => K a' _ ha' hF' h1 h2)

/-- a store of all cells of a variable -/
def oStoreA (TI : List (Nat × T1)) (F : List (Nat × Value)) (o : Oper) : Option (Nat × Array Value) :=
  match o.guard, o.dst, o.op with
  | none, none, .store t x y => match lookT TI t, opnd F x, opnd F y with
    | some i, some (.pointer (some ⟨b, 0, none⟩)), some (.agg cs) => bif Nat.beq i.n cs.size then some (b, cs) else none
    | _, _, _ => none
  | _, _, _ => none
theorem s_storeA (hT : TIok P TI) {b T : Nat} {cs : Array Value} {l : List Value} (h : oStoreA TI F o = some (b, cs)) (hF : Fr n a F) (hB : Blk w b T l) (hl : cs.size = l.length) (h1 : ∀ v, v ∈ cs.toList → v.oneCell' = true)
    (K : ∀ a' w', a' = a → Fr n a' F → Blk w' b T cs.toList → w.grownBy w' (some b) → KK a' w') : One P ops Q o KK a w := by
  unfold oStoreA at h
  split at h
  · rename_i t x y hg hd hop
    split at h
    · rename_i i b' q hi hx hy
      cases hag : Nat.beq i.n q.size with
      | false => simp [hag] at h
      | true =>
        simp [hag] at h
        obtain ⟨rfl, rfl⟩ := h
        have hn := Nat.eq_of_beq_eq_true hag
        have hst := run_storeVar_row (P := P) w b' T t l.toArray q hB (by rw [hT.size hi, hn]) (by simpa using hl.symm) (Array.all_eq_true_iff_forall_mem.2 (fun v hv => h1 v (by simpa using hv)))
        refine s_none hg hd hF (w' := w.setRow b' q) ?_ (fun a' ha' hF' => K a' _ ha' hF' ?_ ?_)
        · simp [execOp, hop, hF.eval hx, hF.eval hy, Instr.storeAt, Instr.sureAddr, hst]
        · have := setRow_heap w b' l.toArray q T (0, 0) hB
          simpa [Blk] using this
        · exact ⟨rfl, rfl, rfl, by simp, fun k _ hk => setRow_other w b' k _ (fun e => hk (by simp [e]))⟩
    · cases h
  · cases h

/-- new memory: a variable of noughts, a variable of a value, a literal slice -/
def oAlloc (TI : List (Nat × T1)) (n : Nat) (F : List (Nat × Value)) (o : Oper) : Option (Nat × Nat × List Value) :=
  match dstOf n o, o.op with
  | some d, .alloc t => match lookT TI t with
    | some i => some (d, t, i.z.cells.toList)
    | none => none
  | some d, .box t x => match opnd F x with
    | some v => some (d, t, v.cells.toList)
    | none => none
  | _, _ => none
theorem s_alloc (hT : TIok P TI) {d T : Nat} {l : List Value} (h : oAlloc TI n F o = some (d, T, l)) (hF : Fr n a F)
    (K : ∀ a' w' b, w.heap.size ≤ b → b < w'.heap.size → Blk w' b T l → w.grownBy w' none → a' = a.put (some d) (.pointer (some ⟨b, 0, none⟩)) → Fr n a' ((d, .pointer (some ⟨b, 0, none⟩)) :: F) → KK a' w') : One P ops Q o KK a w := by
  have key : ∃ d', dstOf n o = some d' ∧ d' = d ∧ (execOp a.eval o).run P w = .ok (.value (.pointer (some ⟨w.heap.size, 0, none⟩))) (w.alloc (.cells l.toArray T)) := by
    unfold oAlloc at h
    split at h
    · rename_i e t hd hop
      split at h
      · rename_i i hi
        simp only [Option.some.injEq, Prod.mk.injEq] at h
        obtain ⟨rfl, rfl, rfl⟩ := h
        exact ⟨_, hd, rfl, by simp [execOp, hop, Instr.alloc, hT.run_zero hi, newVar, newRow]⟩
      · cases h
    · rename_i e t x hd hop
      split at h
      · rename_i v hv
        simp only [Option.some.injEq, Prod.mk.injEq] at h
        obtain ⟨rfl, rfl, rfl⟩ := h
        exact ⟨_, hd, rfl, by simp [execOp, hop, hF.eval hv, Instr.box, newVar, newRow]⟩
      · cases h
    · cases h
  obtain ⟨d', hd, rfl, hr⟩ := key
  exact s_val hd hF hr (fun a' ha' hF' => K a' _ w.heap.size (Nat.le_refl _) (by simp) (Blk.new w T l) (grown_alloc w _) ha' hF')

/-- a literal slice of cells -/
def opnds (F : List (Nat × Value)) : Nat → List (Nat × Operand) → Option (List Value)
  | _, [] => some []
  | k, (i, x) :: r => bif Nat.beq i k then (match opnd F x, opnds F (k + 1) r with
    | some v, some l => bif v.oneCell' then some (v :: l) else none
    | _, _ => none) else none
def oLit (TI : List (Nat × T1)) (n : Nat) (F : List (Nat × Value)) (o : Oper) : Option (Nat × Nat × List Value) :=
  match dstOf n o, o.op with
  | some d, .buildSlice t len parts => match lookT TI t with
    | some ⟨.slice e, _, _, _⟩ => match lookT TI e, opnds F 0 parts.toList with
      | some i, some l => bif (Nat.beq i.n 1 && Nat.beq l.length len && Nat.ble len 1000) then some (d, e, l) else none
      | _, _ => none
    | _ => none
  | _, _ => none
theorem fill_lit (F : List (Nat × Value)) (hF : Fr n a F) : ∀ (parts : List (Nat × Operand)) (k : Nat) (l : List Value) (cs : Array Value), opnds F k parts = some l → k + l.length ≤ cs.size →
    Instr.fill (fun i => some (i * 1, 1)) cs (parts.map fun (i, x) => (i, a.eval x)) = some ((cs.toList.take k ++ l ++ cs.toList.drop (k + l.length)).toArray) := by
  intro parts
  induction parts with
  | nil =>
    intro k l cs h hk
    simp only [opnds, Option.some.injEq] at h
    subst h
    simp [Instr.fill]
  | cons p r ih =>
    intro k l cs h hk
    obtain ⟨i, x⟩ := p
    simp only [opnds] at h
    cases hb : Nat.beq i k with
    | false => simp [hb] at h
    | true =>
      have := Nat.eq_of_beq_eq_true hb
      subst this
      simp [hb] at h
      split at h
      · rename_i v l' hv hl'
        cases ho : v.oneCell' with
        | false => simp [ho] at h
        | true =>
          simp [ho] at h
          subst h
          simp only [List.length_cons] at hk
          have hc := cells_one ho
          simp only [List.map_cons, Instr.fill, hF.eval hv, hc]
          rw [if_neg (by simp; omega)]
          have e := ih (i + 1) l' (cs.setIfInBounds i v) hl' (by simp; omega)
          simp only [Nat.mul_one] at e ⊢
          have hfold : (Array.zipIdx #[v]).foldl (fun cs x => cs.setIfInBounds (i + x.2) x.1) cs = cs.setIfInBounds i v := rfl
          rw [hfold, e]
          congr 2
          simp only [Array.toList_setIfInBounds, List.length_cons]
          have hi : i < cs.toList.length := by simp; omega
          rw [show i + (l'.length + 1) = i + 1 + l'.length by omega]
          rw [List.drop_set_of_lt (by omega)]
          have : (cs.toList.set i v).take (i + 1) = cs.toList.take i ++ [v] := by
            rw [List.take_set, List.take_succ_eq_append_getElem hi, List.set_append]
            have : i ≤ cs.size := by omega
            simp [Nat.min_eq_left this]
          rw [this]
          simp
      · cases h
theorem s_lit (hT : TIok P TI) {d T : Nat} {l : List Value} (h : oLit TI n F o = some (d, T, l)) (hF : Fr n a F)
    (K : ∀ a' w' b, w.heap.size ≤ b → b < w'.heap.size → Blk w' b T l → w.grownBy w' none → a' = a.put (some d) (.slice (some ⟨b, 0, none⟩) l.length l.length) → Fr n a' ((d, .slice (some ⟨b, 0, none⟩) l.length l.length) :: F) → KK a' w') : One P ops Q o KK a w := by
  unfold oLit at h
  split at h
  · rename_i e t len parts hd hop
    split at h
    · rename_i el _ _ _ ht
      split at h
      · rename_i i l' hi hl'
        cases hq : (Nat.beq i.n 1 && Nat.beq l'.length len && Nat.ble len 1000) with
        | false => simp [hq] at h
        | true =>
          simp only [hq, cond_true, Option.some.injEq, Prod.mk.injEq] at h
          obtain ⟨rfl, rfl, rfl⟩ := h
          simp only [Bool.and_eq_true] at hq
          have h1 := Nat.eq_of_beq_eq_true hq.1.1
          have h2 := Nat.eq_of_beq_eq_true hq.1.2
          have h3 : len ≤ 1000 := Nat.le_of_ble_eq_true hq.2
          subst h2
          refine s_val hd hF (w' := w.alloc (.cells l'.toArray el)) ?_ (fun a' ha' hF' => K a' _ w.heap.size (Nat.le_refl _) (by simp) (Blk.new w el l') (grown_alloc w _) ha' hF')
          simp only [execOp, hop, Instr.buildSlice, Sem.run_bind, Sem.run_pure, Result.andThen_ok, run_underlying (hT.ty _ _ ht), hT.run_sizeOf hi, h1, Nat.mul_one]
          rw [if_neg (by omega)]
          have hfl : ∀ z : Array Value, Instr.fill (fun i => some (i, 1)) ((Array.range l'.length).map (z[· % z.size]!)) (parts.map fun (i, x) => (i, a.eval x)).toList = some l'.toArray := by
            intro z
            have := fill_lit (a := a) F hF parts.toList 0 l' ((Array.range l'.length).map (z[· % z.size]!)) hl' (by simp)
            simp only [Nat.mul_one] at this
            rw [Array.toList_map, this]
            simp
          split
          · simp only [Sem.run_bind, Sem.run_pure, Result.andThen_ok, hfl]
            simp [newRow]
          · simp only [Sem.run_bind, Sem.run_pure, Result.andThen_ok, hT.run_zero hi, hfl]
            simp [newRow]
      · cases h
    · cases h
  · cases h

/-- make([]T, m) -/
def oMake (TI : List (Nat × T1)) (n : Nat) (F : List (Nat × Value)) (o : Oper) : Option (Nat × Nat × T1 × Nat) :=
  match dstOf n o, o.op with
  | some d, .makeSlice t x y => match lookT TI t, opnd F x, opnd F y with
    | some ⟨.slice e, _, _, _⟩, some (.int .i64 (.ofNat m)), some (.int .i64 (.ofNat m')) => match lookT TI e with
      | some i => some (d, e, i, m)
      | _ => none
    | _, _, _ => none
  | _, _ => none
theorem s_make (hT : TIok P TI) {d T m : Nat} {i : T1} (h : oMake TI n F o = some (d, T, i, m)) (h2 : ∀ t x y, o.op = .makeSlice t x y → opnd F x = opnd F y) (hF : Fr n a F) (hb : m * i.b ≤ 281474976710656) (hm : m ≤ maxLen)
    (K : ∀ a' w' A, Own w' w.heap.size T i.n A m m (madeCells i.z.cells (m * i.n)).toList → w.grownBy w' none → a' = a.put (some d) (.slice A m m) → Fr n a' ((d, .slice A m m) :: F) → KK a' w') : One P ops Q o KK a w := by
  unfold oMake at h
  split at h
  · rename_i e t x y hd hop
    have hxy := h2 t x y hop
    split at h
    · rename_i el _ _ _ k k' ht hx hy
      split at h
      · rename_i i' hi
        simp only [Option.some.injEq, Prod.mk.injEq] at h
        obtain ⟨rfl, rfl, rfl, rfl⟩ := h
        rw [hx, hy] at hxy
        have hkk : k = k' := by simp at hxy; omega
        subst hkk
        obtain ⟨j, hj, hz, hs, hby⟩ := hT.row hi
        obtain ⟨w', hr, ho, hg⟩ := run_make_full (P := P) w w.heap.size t el j i'.z i'.n (hT.ty _ _ ht) hj hz hs .i64 .i64 k (by rw [hby, Nat.mul_comm]; exact hb) hm (Nat.le_refl _)
        refine s_val hd hF (w' := w') ?_ (fun a' ha' hF' => K a' _ _ (.of ho) hg ha' hF')
        simp only [execOp, hop, hF.eval hx, hF.eval hy]
        rw [show (Int.ofNat k) = (k : Int) from rfl, Sem.run_bind, hr]
        rfl
      · cases h
    · cases h
  · cases h

/-- append(v, x...) to a row of the call's own -/
def oApp (TI : List (Nat × T1)) (n : Nat) (F : List (Nat × Value)) (o : Oper) : Option (Nat × Nat × T1 × Value × Option Addr × Nat × Nat) :=
  match dstOf n o, o.op with
  | some d, .call ⟨.builtin .append, ⟨[s, x]⟩, ⟨[t, t']⟩⟩ => match lookT TI t, opnd F s, opnd F x with
    | some ⟨.slice e, _, _, _⟩, some v, some (.slice A m c) => match lookT TI e with
      | some i => bif Nat.beq t t' then some (d, e, i, v, A, m, c) else none
      | none => none
    | _, _, _ => none
  | _, _ => none
theorem run_app_own {P : Program} {w : World} (B : Nat) (t ty e : TypeId) (i : T1) (j : TypeInfo) (ht : P.underlying t = some (.slice e)) (hj : P.info? e = some j) (hz : j.zero = some i.z) (hs : j.size = i.n) (hby : j.bytes = i.b)
    (hzs : i.z.cells.size = i.n) (hsz : 0 < i.n) {A A2 : Option Addr} {m c m2 c2 : Nat} {l l2 : List Value} (hO : Own w B e i.n A m c l) (hR : Rd w A2 l2) (hl : l2.length = m2 * i.n) (h1 : ∀ u, u ∈ l2 → u.oneCell' = true)
    (h63 : m + m2 ≤ maxLen) (hbytes : (m + m2) * i.b ≤ 140737488355328) (hB : B ≤ w.heap.size) :
    ∃ A' c' w', (Builtin.append_ #[t, t] ty #[.slice A m c, .slice A2 m2 c2]).run P w = .ok (.slice A' (m + m2) c') w' ∧ Own w' B e i.n A' (m + m2) c' (l ++ l2) ∧ w.grownBy w' (oblk A) ∧ (oblk A' = oblk A ∨ ∃ k, oblk A' = some k ∧ w.heap.size ≤ k) := by
  by_cases h0 : l2 = []
  · subst h0
    have hm2 : m2 = 0 := by
      rcases Nat.eq_zero_or_pos m2 with q | q
      · exact q
      · have := Nat.mul_pos q hsz
        simp at hl
        omega
    subst hm2
    refine ⟨A, c, w, ?_, by simpa using hO, grown_refl w _, .inl rfl⟩
    have hcap := hO.cap
    cases A2 with
    | none =>
      have hc0 : (Builtin.firstCells i.n 0 (.slice none 0 c2)).run P w = .ok #[] w := by simp [Builtin.firstCells]
      cases A <;> simp [Builtin.append_, run_underlying ht, sizeOf, typeInfo, hj, hs, Builtin.lenOf, Builtin.firstCells, hcap, storeCells]
    | some ad => cases A <;> simp [Builtin.append_, run_underlying ht, sizeOf, typeInfo, hj, hs, Builtin.lenOf, Builtin.firstCells, hcap, storeCells, loadCells, loadCellsFrom]
  · have hA2 := hR.some_ h0
    have hm2 : 0 < m2 := by
      rcases Nat.eq_zero_or_pos m2 with q | q
      · subst q; exact absurd (List.eq_nil_of_length_eq_zero (by simpa using hl)) h0
      · exact q
    have hnews : ∀ k u, l2[k]? = some u → w.cell? ((⟨ablk A2, aoff A2, none⟩ : Addr).add k) = some u := fun k u hu => by rw [add_flat]; exact hR.cells k u hu
    have h63' : m + m2 ≤ 9223372036854775807 := by simp only [maxLen] at h63; omega
    have hlen : (l ++ l2).length = (m + m2) * i.n := by rw [List.length_append, hO.1, hl, Nat.add_mul]
    have grown : ∀ (old : Nat),
        Own (w.drew.alloc (.cells (l.toArray ++ l2.toArray ++ Builtin.zeroCells i.z.cells (grownCap w (m + m2) old e - (m + m2))) e)) B e i.n (some ⟨w.heap.size, 0, none⟩) (m + m2) (grownCap w (m + m2) old e) (l ++ l2) ∧
        ∀ row, w.grownBy (w.drew.alloc (.cells (l.toArray ++ l2.toArray ++ Builtin.zeroCells i.z.cells (grownCap w (m + m2) old e - (m + m2))) e)) row := by
      intro old
      have hge := grownCap_ge w (m + m2) old e
      have hcm : grownCap w (m + m2) old e ≤ maxLen := grownCap_le_maxLen w (m + m2) old e h63
      refine ⟨⟨hlen, .inr ⟨w.heap.size, _, _, rfl, hB, .of (heap_alloc_new w.drew _), hge, hcm, ?_, ?_⟩⟩, fun row => ⟨rfl, rfl, rfl, by simp, fun k hk _ => heap_alloc_old w.drew _ hk⟩⟩
      · simp only [Array.size_append, List.size_toArray, size_zeroCells, hzs, hO.1, hl, ← Nat.add_mul]
        congr 1
        omega
      · simp only [Array.toList_append, List.append_assoc]
        rw [← List.append_assoc, ← hlen]
        exact List.take_left
    rcases hO.2 with ⟨q, q2⟩ | ⟨g, cap, cur, q, hbg, hg, hnc, hcm, hcs, htake⟩
    · injection q with a1 a2 a3
      subst a1 a2 a3
      have hx : l = [] := List.eq_nil_of_length_eq_zero (by simpa using hO.1)
      subst hx
      have hr := run_append_nil (P := P) w t ty e j i.z ht hj hz ⟨ablk A2, aoff A2, none⟩ m2 c2 l2 (by rw [hs]; exact hl) hnews hm2 (by omega) (by rw [hby]; rw [Nat.zero_add] at hbytes; omega)
      have hgr := grown 0
      simp only [Nat.zero_add, List.nil_append, Array.empty_append] at hgr ⊢
      rw [hA2]
      exact ⟨_, _, _, hr, hgr.1, hgr.2 _, .inr ⟨_, rfl, Nat.le_refl _⟩⟩
    · injection q with a1 a2 a3
      subst a1 a3
      by_cases hroom : m + m2 ≤ c
      · have hfit : m * i.n + l2.length ≤ cur.size := by rw [hl, hcs, ← Nat.add_mul]; exact Nat.mul_le_mul_right _ hroom
        have hf := run_firstCells_some (P := P) w j.size m2 ⟨ablk A2, aoff A2, none⟩ m2 c2 l2 (by rw [hs]; exact hl) hnews
        have hst := store_at (P := P) g (m * i.n) e l2 0 cur w hg (by simpa using hfit) h1
        simp only [Nat.add_zero] at hst
        rw [hs] at hf
        have hr : (Builtin.append_ #[t, t] ty #[.slice (some ⟨g, 0, none⟩) m c, .slice (some ⟨ablk A2, aoff A2, none⟩) m2 c2]).run P w =
            .ok (.slice (some ⟨g, 0, none⟩) (m + m2) c) (w.setRow g (cur.toList.take (m * i.n) ++ l2 ++ cur.toList.drop (m * i.n + l2.length)).toArray) := by
          simp [Builtin.append_, run_underlying ht, sizeOf, typeInfo, hj, hs, Builtin.lenOf, hroom, hf, Addr.add_lit, hst]
        rw [hA2]
        have hsz2 : (cur.toList.take (m * i.n) ++ l2 ++ cur.toList.drop (m * i.n + l2.length)).toArray.size = cur.size := by
          simp only [List.size_toArray, List.length_append, List.length_take, List.length_drop, Array.length_toList]
          omega
        refine ⟨_, _, _, hr, ⟨hlen, .inr ⟨g, c, _, rfl, hbg, hg.setRow hsz2, hroom, hcm, hsz2.trans hcs, ?_⟩⟩, ⟨rfl, rfl, rfl, by simp, fun k _ hk => setRow_other w g k _ (fun e => hk (by simp [oblk, e]))⟩, .inl rfl⟩
        rw [htake, ← hlen]
        exact List.take_left
      · have holds : ∀ k u, l[k]? = some u → w.cell? ((⟨g, 0, none⟩ : Addr).add k) = some u := fun k u hu => by
          rw [add_flat]; exact hO.rd.cells k u hu
        have hr := run_append_grow (P := P) w t ty e j i.z ht hj hz ⟨g, 0, none⟩ m c l (by rw [hs]; exact hO.1) holds ⟨ablk A2, aoff A2, none⟩ m2 c2 l2 (by rw [hs]; exact hl) hnews (by omega) (by omega) (growslice_fits (by omega) (by rw [hby]; exact hbytes))
        have hgr := grown c
        rw [hA2]
        exact ⟨_, _, _, hr, hgr.1, hgr.2 _, .inr ⟨_, rfl, Nat.le_refl _⟩⟩
theorem s_app (hT : TIok P TI) {d T m c m2 c2 B : Nat} {i : T1} {A A2 : Option Addr} {l l2 : List Value} (h : oApp TI n F o = some (d, T, i, .slice A m c, A2, m2, c2)) (hF : Fr n a F) (hzs : i.z.cells.size = i.n) (hsz : 0 < i.n)
    (hO : Own w B T i.n A m c l) (hR : Rd w A2 l2) (hl : l2.length = m2 * i.n) (h1 : ∀ u, u ∈ l2 → u.oneCell' = true) (hbytes : (m + m2) * i.b ≤ 140737488355328) (hib : 0 < i.b) (hB : B ≤ w.heap.size)
    (K : ∀ a' w' A' c', Own w' B T i.n A' (m + m2) c' (l ++ l2) → w.grownBy w' (oblk A) → (oblk A' = oblk A ∨ ∃ k, oblk A' = some k ∧ w.heap.size ≤ k) → a' = a.put (some d) (.slice A' (m + m2) c') → Fr n a' ((d, .slice A' (m + m2) c') :: F) → KK a' w') : One P ops Q o KK a w := by
  have h63 : m + m2 ≤ maxLen := by
    have : m + m2 ≤ (m + m2) * i.b := Nat.le_mul_of_pos_right _ hib
    simp only [maxLen]; omega
  unfold oApp at h
  split at h
  · rename_i e s x t t' hd hop
    split at h
    · rename_i el _ _ _ v A3 m3 c3 ht hs hx
      split at h
      · rename_i i' hi
        cases hb : Nat.beq t t' with
        | false => simp [hb] at h
        | true =>
          simp only [hb, cond_true, Option.some.injEq, Prod.mk.injEq] at h
          obtain ⟨rfl, rfl, rfl, rfl, rfl, rfl, rfl⟩ := h
          have := Nat.eq_of_beq_eq_true hb
          subst this
          obtain ⟨j, hj, hz, hsz', hby⟩ := hT.row hi
          obtain ⟨A', c', w', hr, h2, h3, h4⟩ := run_app_own (P := P) (c2 := c3) B t o.type el i' j (hT.ty _ _ ht) hj hz hsz' hby hzs hsz hO hR hl h1 h63 hbytes hB
          refine s_val hd hF (w' := w') ?_ (fun a' ha' hF' => K a' _ _ _ h2 h3 h4 ha' hF')
          simp [execOp, hop, resolve, invoke, builtin, hF.eval hs, hF.eval hx, hr]
      · cases h
    · cases h
  · cases h
end
end Go.Proofs.Ytnagkhofkjjajaa
