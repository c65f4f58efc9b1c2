/- What lies in memory, as one list of pieces: lemmas for walks, no statement of the claim. -/
import Derived.Test.YtnagkhofkjjajaaKh
import Derived.Test.YtnagkhofkjjajaaUa
set_option linter.unusedVariables false
set_option linter.unusedSimpArgs false
namespace Go.Proofs.Ytnagkhofkjjajaa
open Go.RowKit

theorem zA {α : Type} {l1 l2 : List α} : (l1 ++ l2).length = l1.length + l2.length := List.length_append
theorem zS {α : Type} {l : List α} {i : Nat} {x : α} : (l.set i x).length = l.length := List.length_set
theorem zT {α : Type} {l : List α} {i : Nat} : (l.take i).length = min i l.length := List.length_take
theorem zD {α : Type} {l : List α} {i : Nat} : (l.drop i).length = l.length - i := List.length_drop
theorem zR {α : Type} {n : Nat} {x : α} : (List.replicate n x).length = n := List.length_replicate
theorem zC {α : Type} {x : α} {l : List α} : (x :: l).length = l.length + 1 := List.length_cons
theorem zN {α : Type} : ([] : List α).length = 0 := rfl
theorem zV (k : IntKind) (xs : List Nat) : (vs k xs).length = xs.length := vs_length k xs
theorem zI (xs : List Int) : (vi xs).length = xs.length := vi_length xs
section
variable {P : Program} {TI : List (Nat × T1)} {n : Nat} {a : Act} {F G : List (Nat × Value)} {ops : Array Oper} {Q : Exit → Act → World → Prop} {w : World}
/-- many operations without memory in one step, and what is kept of the frame -/
theorem pu (hT : TIok P TI) (k : Nat) (L : List Oper) {cs : List Prop} (hF : Fr n a F) (ts : List Nat)
    (h : (runP TI ops n k L F).map (fun p => (picks p.1 ts, p.2)) = some (G, cs)) (hc : allP cs) (K : ∀ a', Fr n a' G → wpList P ops Q (L.drop k) a' w) : wpList P ops Q L a w := by
  cases hr : runP TI ops n k L F with
  | none => rw [hr] at h; cases h
  | some p =>
    rw [hr] at h
    simp only [Option.map_some, Option.some.injEq, Prod.mk.injEq] at h
    obtain ⟨h1, h2⟩ := h
    subst h2
    exact pures hT k L hF hr hc (fun a' hF' => K a' (hF'.pick ts h1))
theorem pu_end (hT : TIok P TI) (k : Nat) (L : List Oper) {cs : List Prop} (hF : Fr n a F) (ts : List Nat)
    (h : (runP TI ops n k L F).map (fun p => (picks p.1 ts, p.2)) = some (G, cs)) (hk : L.drop k = []) (hc : allP cs) (K : ∀ a', Fr n a' G → Q .normal a' w) : wpList P ops Q L a w :=
  pu hT k L hF ts h hc (fun a' hF' => by rw [hk]; exact wpList_nil (K a' hF'))
end
/-- A piece of memory: which block it lies in, and what is said of it. -/
structure Ch where
  id : Option Nat
  w : Bool
  ok : World → Prop
  lt : ∀ w k, ok w → id = some k → k < w.heap.size
  grow : ∀ w w' r, ok w → w.grownBy w' r → (id = none ∨ id ≠ r) → ok w'
/-- A variable's block. -/
def Ch.blk (b T : Nat) (l : List Value) : Ch := ⟨some b, true, fun w => Blk w b T l, fun w k h hk => by cases hk; exact Blk.lt h, fun w w' r h g hne => Blk.grow h g (fun q => by
  rcases hne with e | e
  · cases e
  · exact e q.symm)⟩
/-- A slice's row. -/
def Ch.row (T sz : Nat) (A : Option Addr) (n c : Nat) (l : List Value) : Ch := ⟨oblk A, true, fun w => Own w 0 T sz A n c l, fun w k h hk => (Own.base h k hk).2, fun w w' r h g hne => Own.grow h g hne⟩
/-- A slice that is only read. -/
def Ch.ro (A : Option Addr) (l : List Value) : Ch := ⟨oblk A, false, fun w => Rd w A l ∧ ∀ k, oblk A = some k → k < w.heap.size, fun w k h hk => h.2 k hk, fun w w' r h g hne => ⟨Rd.grow' h.1 g (by
  rcases hne with e | e
  · cases A with
    | none =>
      cases r with
      | none => exact .inl rfl
      | some k => exact .inr (by show some k ≠ none; simp)
    | some x => cases e
  · exact .inr (fun q => e q.symm)), fun k hk => Nat.lt_of_lt_of_le (h.2 k hk) g.size⟩⟩
theorem Ch.ok_lt {w : World} {c : Ch} (h : c.ok w) {k : Nat} (hk : c.id = some k) : k < w.heap.size := c.lt w k h hk
theorem Ch.ok_grow {w w' : World} {c : Ch} (h : c.ok w) {r : Option Nat} (g : w.grownBy w' r) (hne : c.id = none ∨ c.id ≠ r) : c.ok w' := c.grow w w' r h g hne

/-- Nothing of what was there has changed, but the blocks of S. -/
structure Keep (S : List Nat) (w w' : World) : Prop where
  os : w'.os = w.os
  tape : w'.tape = w.tape
  output : w'.output = w.output
  size : w.heap.size ≤ w'.heap.size
  block : ∀ k, k < w.heap.size → k ∉ S → w'.heap[k]? = w.heap[k]?
theorem Keep.refl (S : List Nat) (w : World) : Keep S w w := ⟨rfl, rfl, rfl, Nat.le_refl _, fun _ _ _ => rfl⟩
theorem Keep.ex {w w' : World} (h : Keep [] w w') : Ex w w' := ⟨h.os, h.tape, h.output, h.size, fun k hk => h.block k hk (by simp)⟩
theorem Ex.keep {w w' : World} (h : Ex w w') : Keep [] w w' := ⟨h.os, h.tape, h.output, h.size, fun k hk _ => h.block k hk⟩
theorem Keep.grown {S : List Nat} {w0 w w' : World} (h : Keep S w0 w) {r : Option Nat} (g : w.grownBy w' r) (hr : ∀ k, r = some k → w0.heap.size ≤ k ∨ k ∈ S) : Keep S w0 w' :=
  ⟨g.os.trans h.os, g.tape.trans h.tape, g.output.trans h.output, Nat.le_trans h.size g.size, fun k hk hn => by
    rw [g.block k (Nat.lt_of_lt_of_le hk h.size) (fun q => by
      rcases hr k q.symm with e | e
      · omega
      · exact hn e)]
    exact h.block k hk hn⟩
theorem Keep.trans {S : List Nat} {a b c : World} (h : Keep S a b) {S' : List Nat} (k : Keep S' b c) (hS : ∀ x, x ∈ S' → a.heap.size ≤ x ∨ x ∈ S) : Keep S a c :=
  ⟨k.os.trans h.os, k.tape.trans h.tape, k.output.trans h.output, Nat.le_trans h.size k.size, fun x hx hn => by
    rw [k.block x (Nat.lt_of_lt_of_le hx h.size) (fun q => by
      rcases hS x q with e | e
      · omega
      · exact hn e)]
    exact h.block x hx hn⟩
theorem Keep.rd {S : List Nat} {w w' : World} (h : Keep S w w') {A : Option Addr} {l : List Value} (hR : Rd w A l) (hn : l = [] ∨ ablk A ∉ S) : Rd w' A l := by
  rcases hn with rfl | hn
  · exact Rd.nil _ _
  · refine ⟨hR.some_, fun j v hj => ?_⟩
    have h1 := hR.cells j v hj
    have h2 := World.block_lt_of_cell? w _ h1
    rw [← h1]
    exact World.cell?_of_block (h.block _ h2 hn)

structure Heap (w0 : World) (S : List Nat) (w : World) (cs : List Ch) : Prop where
  keep : Keep S w0 w
  ok : ∀ c, c ∈ cs → c.ok w
  mine : ∀ c, c ∈ cs → ∀ k, c.id = some k → w0.heap.size ≤ k ∨ k ∈ S
  ne : cs.Pairwise fun c d => (c.w = false ∧ d.w = false) ∨ c.id = none ∨ c.id ≠ d.id
section
variable {w0 : World} {S : List Nat} {w : World} {cs : List Ch}
theorem Heap.init (w : World) : Heap w [] w [] := ⟨Keep.refl _ _, fun c h => absurd h (by simp), fun c h => absurd h (by simp), List.Pairwise.nil⟩
theorem Heap.init1 {w : World} {b T : Nat} {l : List Value} (h : Blk w b T l) : Heap w [b] w [.blk b T l] :=
  ⟨Keep.refl _ _, fun c hc => by simp at hc; subst hc; exact h, fun c hc k hk => by simp at hc; subst hc; cases hk; exact .inr (by simp), by simp⟩
theorem Heap.ex (h : Heap w0 [] w cs) : Ex w0 w := h.keep.ex
theorem Heap.size (h : Heap w0 S w cs) : w0.heap.size ≤ w.heap.size := h.keep.size
theorem Heap.get (h : Heap w0 S w cs) (i : Nat) {c : Ch} (e : cs[i]? = some c) : c.ok w := h.ok c (List.mem_of_getElem? e)
theorem Heap.blk (h : Heap w0 S w cs) (i : Nat) {b T : Nat} {l : List Value} (e : cs[i]? = some (.blk b T l)) : Blk w b T l := h.get i e
theorem Heap.own (h : Heap w0 S w cs) (i : Nat) {T sz : Nat} {A : Option Addr} {n c : Nat} {l : List Value} (e : cs[i]? = some (.row T sz A n c l)) : Own w 0 T sz A n c l := h.get i e
theorem Heap.ro (h : Heap w0 S w cs) (i : Nat) {A : Option Addr} {l : List Value} (e : cs[i]? = some (.ro A l)) : Rd w A l := (h.get i e).1
theorem Heap.rd (h : Heap w0 S w cs) {A : Option Addr} {l : List Value} (hR : Rd w0 A l) (hn : l = [] ∨ ablk A ∉ S) : Rd w A l := h.keep.rd hR hn
theorem Heap.rd0 (h : Heap w0 [] w cs) {A : Option Addr} {l : List Value} (hR : Rd w0 A l) : Rd w A l := h.keep.rd hR (.inr (by simp))
theorem Heap.growN (h : Heap w0 S w cs) {w' : World} (g : w.grownBy w' none) : Heap w0 S w' cs :=
  ⟨h.keep.grown g (by simp), fun c hc => Ch.ok_grow (h.ok c hc) g (by cases c.id <;> simp), h.mine, h.ne⟩
theorem Heap.cons (h : Heap w0 S w cs) {c : Ch} (hc : c.ok w) (hm : ∀ k, c.id = some k → (w0.heap.size ≤ k ∨ k ∈ S) ∧ ∀ d, d ∈ cs → d.id ≠ some k) : Heap w0 S w (c :: cs) :=
  ⟨h.keep, fun d hd => by
    rcases List.mem_cons.1 hd with rfl | q
    · exact hc
    · exact h.ok d q, fun d hd k hk => by
    rcases List.mem_cons.1 hd with rfl | q
    · exact (hm k hk).1
    · exact h.mine d q k hk, List.Pairwise.cons (fun d hd => by
      cases e : c.id with
      | none => exact .inr (.inl rfl)
      | some k => exact .inr (.inr (fun q => (hm k e).2 d hd q.symm))) h.ne⟩
theorem Heap.new (h : Heap w0 S w cs) {w' : World} (g : w.grownBy w' none) {c : Ch} (hc : c.ok w') (hm : ∀ k, c.id = some k → w.heap.size ≤ k) : Heap w0 S w' (c :: cs) :=
  (h.growN g).cons hc (fun k hk => ⟨.inl (Nat.le_trans h.size (hm k hk)), fun d hd e => by
    have h1 := Ch.ok_lt (h.ok d hd) e
    have h2 := hm k hk
    omega⟩)
theorem Heap.alloc (h : Heap w0 S w cs) {w' : World} {b T : Nat} {l : List Value} (hb : w.heap.size ≤ b) (hB : Blk w' b T l) (g : w.grownBy w' none) : Heap w0 S w' (.blk b T l :: cs) :=
  h.new g hB (fun k hk => by cases hk; exact hb)
theorem Heap.made (h : Heap w0 S w cs) {w' : World} {T sz : Nat} {A : Option Addr} {n c : Nat} {l : List Value} (hO : Own w' w.heap.size T sz A n c l) (g : w.grownBy w' none) : Heap w0 S w' (.row T sz A n c l :: cs) :=
  h.new g (c := .row T sz A n c l) (Own.rebase hO (Nat.zero_le _)) (fun k hk => (hO.base k hk).1)
theorem Heap.row0 (h : Heap w0 S w cs) (T sz : Nat) : Heap w0 S w (.row T sz none 0 0 [] :: cs) := h.cons (c := .row T sz none 0 0 []) (Own.nil _ _ _ _) (fun k hk => by cases hk)
theorem set_mem {α : Type} : ∀ {cs : List α} {i : Nat} {c d : α}, d ∈ cs.set i c → d = c ∨ ∃ j, j ≠ i ∧ cs[j]? = some d := by
  intro cs i c d h
  obtain ⟨j, hj⟩ := List.getElem?_of_mem h
  rw [List.getElem?_set] at hj
  split at hj
  · split at hj
    · exact .inl (Option.some.inj hj).symm
    · cases hj
  · rename_i q; exact .inr ⟨j, fun e => q e.symm, hj⟩
theorem ne_any {cs : List Ch} (h : cs.Pairwise fun c d => (c.w = false ∧ d.w = false) ∨ c.id = none ∨ c.id ≠ d.id) {i j : Nat} {c d : Ch} (hi : cs[i]? = some c) (hj : cs[j]? = some d) (hne : i ≠ j) : (c.w = false ∧ d.w = false) ∨ c.id = none ∨ c.id ≠ d.id := by
  rw [List.pairwise_iff_getElem] at h
  obtain ⟨hi1, hi2⟩ := List.getElem?_eq_some_iff.1 hi
  obtain ⟨hj1, hj2⟩ := List.getElem?_eq_some_iff.1 hj
  rcases Nat.lt_or_gt_of_ne hne with q | q
  · have := h i j hi1 hj1 q
    rwa [hi2, hj2] at this
  · have := h j i hj1 hi1 q
    rw [hi2, hj2] at this
    rcases this with e | e | e
    · exact .inl ⟨e.2, e.1⟩
    · cases q2 : c.id with
      | none => exact .inr (.inl rfl)
      | some k => exact .inr (.inr (by rw [e]; simp))
    · exact .inr (.inr (fun q => e q.symm))
theorem ne_at {cs : List Ch} (h : cs.Pairwise fun c d => (c.w = false ∧ d.w = false) ∨ c.id = none ∨ c.id ≠ d.id) {i j : Nat} {c d : Ch} (hi : cs[i]? = some c) (hj : cs[j]? = some d) (hne : i ≠ j) (hw : c.w = true ∨ d.w = true) : c.id = none ∨ c.id ≠ d.id := by
  rcases ne_any h hi hj hne with e | e
  · rcases hw with q | q
    · rw [e.1] at q; cases q
    · rw [e.2] at q; cases q
  · exact e
/-- One piece was written, or made anew: the others stay. -/
theorem Heap.upd (h : Heap w0 S w cs) {w' : World} (i : Nat) {c c' : Ch} (e : cs[i]? = some c) (hw : c.w = true) (hc : c'.ok w') (g : w.grownBy w' c.id) (hid : c'.id = c.id ∨ c'.id = none ∨ ∃ k, c'.id = some k ∧ w.heap.size ≤ k) : Heap w0 S w' (cs.set i c') := by
  have hother : ∀ j d, j ≠ i → cs[j]? = some d → d.id = none ∨ d.id ≠ c.id := fun j d hj hd => ne_at h.ne hd e hj (.inr hw)
  refine ⟨h.keep.grown g (fun k hk => h.mine c (List.mem_of_getElem? e) k hk), fun d hd => ?_, fun d hd k hk => ?_, ?_⟩
  · rcases set_mem hd with rfl | ⟨j, hj, hd⟩
    · exact hc
    · exact Ch.ok_grow (h.ok d (List.mem_of_getElem? hd)) g (hother j d hj hd)
  · rcases set_mem hd with rfl | ⟨j, hj, hd⟩
    · rcases hid with q | q | ⟨k', q, hk'⟩
      · exact h.mine c (List.mem_of_getElem? e) k (q ▸ hk)
      · rw [q] at hk; cases hk
      · rw [q] at hk; cases hk; exact .inl (Nat.le_trans h.size hk')
    · exact h.mine d (List.mem_of_getElem? hd) k hk
  · rw [List.pairwise_iff_getElem]
    intro p q hp hq hpq
    have h1 := List.getElem?_eq_getElem hp
    have h2 := List.getElem?_eq_getElem hq
    rw [List.getElem?_set] at h1 h2
    have key : ∀ j d, j ≠ i → cs[j]? = some d → c'.id = none ∨ c'.id ≠ d.id := by
      intro j d hj hd
      have h3 := hother j d hj hd
      rcases hid with z | z | ⟨k', z, hk'⟩
      · rw [z]
        rcases h3 with h3 | h3
        · cases q4 : c.id with
          | none => exact .inl rfl
          | some k => exact .inr (by rw [h3]; simp)
        · exact .inr (fun q => h3 q.symm)
      · exact .inl z
      · refine .inr (fun q => ?_)
        have := Ch.ok_lt (h.ok d (List.mem_of_getElem? hd)) (q.symm.trans z)
        omega
    by_cases hip : i = p
    · have hiq : i ≠ q := by omega
      rw [if_neg hiq] at h2
      rw [if_pos hip] at h1
      split at h1
      · rw [← Option.some.inj h1]; exact .inr (key q _ (fun z => hiq z.symm) h2)
      · cases h1
    · rw [if_neg hip] at h1
      by_cases hiq : i = q
      · rw [if_pos hiq] at h2
        split at h2
        · rw [← Option.some.inj h2]
          have := key p _ (fun z => hip z.symm) h1
          rcases this with z | z
          · cases q5 : ((cs.set i c')[p]).id with
            | none => exact .inr (.inl rfl)
            | some k => exact .inr (.inr (by rw [z]; simp))
          · exact .inr (.inr (fun q => z q.symm))
        · cases h2
      · rw [if_neg hiq] at h2
        exact ne_any h.ne h1 h2 (by omega)
theorem Heap.store (h : Heap w0 S w cs) {w' : World} (i : Nat) {b T : Nat} {l l' : List Value} (e : cs[i]? = some (.blk b T l)) (hB : Blk w' b T l') (g : w.grownBy w' (some b)) : Heap w0 S w' (cs.set i (.blk b T l')) :=
  h.upd i e rfl hB g (.inl rfl)
theorem Heap.storeR (h : Heap w0 S w cs) {w' : World} (i : Nat) {T sz : Nat} {A : Option Addr} {n c : Nat} {l l' : List Value} (e : cs[i]? = some (.row T sz A n c l)) (hB : Own w' 0 T sz A n c l') (g : w.grownBy w' (oblk A)) : Heap w0 S w' (cs.set i (.row T sz A n c l')) :=
  h.upd i e rfl (c' := .row T sz A n c l') hB g (.inl rfl)
theorem Heap.app (h : Heap w0 S w cs) {w' : World} (i : Nat) {T sz T' sz' : Nat} {A A' : Option Addr} {n c n' c' : Nat} {l l' : List Value} (e : cs[i]? = some (.row T sz A n c l)) (hB : Own w' 0 T' sz' A' n' c' l') (g : w.grownBy w' (oblk A))
    (hid : oblk A' = oblk A ∨ ∃ k, oblk A' = some k ∧ w.heap.size ≤ k) : Heap w0 S w' (cs.set i (.row T' sz' A' n' c' l')) :=
  h.upd i e rfl (c' := .row T' sz' A' n' c' l') hB g (hid.elim .inl (fun q => .inr (.inr q)))
/-- a block becomes a row -/
theorem Heap.toRow (h : Heap w0 S w cs) (i : Nat) {b T : Nat} {l : List Value} (e : cs[i]? = some (.blk b T l)) (hm : l.length ≤ maxLen) : Heap w0 S w (cs.set i (.row T 1 (some ⟨b, 0, none⟩) l.length l.length l)) :=
  h.upd i e rfl (c' := .row T 1 (some ⟨b, 0, none⟩) l.length l.length l) (Blk.own (h.blk i e) (Nat.zero_le _) hm) (grown_refl _ _) (.inl rfl)
theorem Heap.cut (h : Heap w0 S w cs) (i : Nat) {T sz : Nat} {A : Option Addr} {n c m : Nat} {l : List Value} (e : cs[i]? = some (.row T sz A n c l)) (hm : m ≤ n) : Heap w0 S w (cs.set i (.row T sz A m c (l.take (m * sz)))) :=
  h.upd i e rfl (c' := .row T sz A m c (l.take (m * sz))) (Own.cut (h.own i e) hm) (grown_refl _ _) (.inl rfl)
/-- from here on a row is only read -/
theorem Heap.sealH (h : Heap w0 S w cs) (i : Nat) {T sz : Nat} {A : Option Addr} {n c : Nat} {l : List Value} (e : cs[i]? = some (.row T sz A n c l)) {A' : Option Addr} {l' : List Value} (hR : Rd w A' l') (hA : oblk A' = oblk A) : Heap w0 S w (cs.set i (.ro A' l')) :=
  h.upd i e rfl (c' := .ro A' l') ⟨hR, fun k hk => Ch.ok_lt (h.get i e) (k := k) (hA.symm.trans hk)⟩ (grown_refl _ _) (.inl hA)
theorem Heap.sealB (h : Heap w0 S w cs) (i : Nat) {b T : Nat} {l : List Value} (e : cs[i]? = some (.blk b T l)) {A' : Option Addr} {l' : List Value} (hR : Rd w A' l') (hA : oblk A' = some b) : Heap w0 S w (cs.set i (.ro A' l')) :=
  h.upd i e rfl (c' := .ro A' l') ⟨hR, fun k hk => Ch.ok_lt (h.get i e) (k := k) (hA.symm.trans hk)⟩ (grown_refl _ _) (.inl hA)
/-- Pieces told in another order, or let go. -/
theorem Heap.pick (h : Heap w0 S w cs) (is : List Nat) {ds : List Ch} (hd : is.Nodup) (e : is.map (fun i => cs[i]?) = ds.map some) : Heap w0 S w ds := by
  have hget : ∀ (p : Nat) (d : Ch), ds[p]? = some d → ∃ i, is[p]? = some i ∧ cs[i]? = some d := by
    intro p d hp
    have h1 : (ds.map some)[p]? = some (some d) := by simp [hp]
    rw [← e] at h1
    rw [List.getElem?_map] at h1
    cases hi : is[p]? with
    | none => rw [hi] at h1; cases h1
    | some i => rw [hi] at h1; exact ⟨i, rfl, Option.some.inj h1⟩
  refine ⟨h.keep, fun d hd => ?_, fun d hd => ?_, ?_⟩
  · obtain ⟨p, hp⟩ := List.getElem?_of_mem hd
    obtain ⟨i, _, hi⟩ := hget p d hp
    exact h.ok d (List.mem_of_getElem? hi)
  · obtain ⟨p, hp⟩ := List.getElem?_of_mem hd
    obtain ⟨i, _, hi⟩ := hget p d hp
    exact h.mine d (List.mem_of_getElem? hi)
  · rw [List.pairwise_iff_getElem]
    intro p q hp hq hpq
    obtain ⟨i, hi1, hi2⟩ := hget p _ (List.getElem?_eq_getElem hp)
    obtain ⟨j, hj1, hj2⟩ := hget q _ (List.getElem?_eq_getElem hq)
    refine ne_any h.ne hi2 hj2 (fun z => ?_)
    subst z
    obtain ⟨hp1, hp2⟩ := List.getElem?_eq_some_iff.1 hi1
    obtain ⟨hq1, hq2⟩ := List.getElem?_eq_some_iff.1 hj1
    have := (List.pairwise_iff_getElem.1 hd) p q hp1 hq1 hpq
    exact this (hp2.trans hq2.symm)
theorem fa_nil {cs : List Ch} : ∀ r, r ∈ ([] : List Nat) → (cs[r]?).map Ch.w = some false := fun r h => absurd h (by simp)
theorem fa_cons {cs : List Ch} {r : Nat} {rs : List Nat} (h : (cs[r]?).map Ch.w = some false) (g : ∀ r, r ∈ rs → (cs[r]?).map Ch.w = some false) : ∀ q, q ∈ r :: rs → (cs[q]?).map Ch.w = some false := fun q hq => by
  rcases List.mem_cons.1 hq with rfl | z
  · exact h
  · exact g q z
/-- Pieces told in another order, or let go, or those that are only read told twice. -/
theorem Heap.pick2 (h : Heap w0 S w cs) (is rs : List Nat) {ds : List Ch} (hd : is.Pairwise (fun i j => i ≠ j ∨ i ∈ rs)) (hrs : ∀ r, r ∈ rs → (cs[r]?).map Ch.w = some false) (e : is.map (fun i => cs[i]?) = ds.map some) : Heap w0 S w ds := by
  have hget : ∀ (p : Nat) (d : Ch), ds[p]? = some d → ∃ i, is[p]? = some i ∧ cs[i]? = some d := by
    intro p d hp
    have h1 : (ds.map some)[p]? = some (some d) := by simp [hp]
    rw [← e] at h1
    rw [List.getElem?_map] at h1
    cases hi : is[p]? with
    | none => rw [hi] at h1; cases h1
    | some i => rw [hi] at h1; exact ⟨i, rfl, Option.some.inj h1⟩
  refine ⟨h.keep, fun d hd => ?_, fun d hd => ?_, ?_⟩
  · obtain ⟨p, hp⟩ := List.getElem?_of_mem hd
    obtain ⟨i, _, hi⟩ := hget p d hp
    exact h.ok d (List.mem_of_getElem? hi)
  · obtain ⟨p, hp⟩ := List.getElem?_of_mem hd
    obtain ⟨i, _, hi⟩ := hget p d hp
    exact h.mine d (List.mem_of_getElem? hi)
  · rw [List.pairwise_iff_getElem]
    intro p q hp hq hpq
    obtain ⟨i, hi1, hi2⟩ := hget p _ (List.getElem?_eq_getElem hp)
    obtain ⟨j, hj1, hj2⟩ := hget q _ (List.getElem?_eq_getElem hq)
    obtain ⟨hp1, hp2⟩ := List.getElem?_eq_some_iff.1 hi1
    obtain ⟨hq1, hq2⟩ := List.getElem?_eq_some_iff.1 hj1
    have h3 := (List.pairwise_iff_getElem.1 hd) p q hp1 hq1 hpq
    rw [hp2, hq2] at h3
    by_cases z : i = j
    · subst z
      rcases h3 with h3 | h3
      · exact absurd rfl h3
      · have h4 := hrs i h3
        rw [hi2] at h4
        rw [hi2] at hj2
        have h5 := Option.some.inj hj2
        simp only [Option.map_some, Option.some.injEq] at h4
        exact .inl ⟨h4, h5 ▸ h4⟩
    · exact ne_any h.ne hi2 hj2 z
/-- What a call leaves. -/
theorem Heap.call (h : Heap w0 S w cs) {w' : World} {rs : List Ch} (g : Heap w [] w' rs) : Heap w0 S w' (rs ++ cs) := by
  have hg : w.grownBy w' none := g.ex.g
  have h' := h.growN hg
  refine ⟨h'.keep, fun d hd => ?_, fun d hd k hk => ?_, ?_⟩
  · rcases List.mem_append.1 hd with q | q
    · exact g.ok d q
    · exact h'.ok d q
  · rcases List.mem_append.1 hd with q | q
    · rcases g.mine d q k hk with z | z
      · exact .inl (Nat.le_trans h.size z)
      · cases z
    · exact h.mine d q k hk
  · refine List.pairwise_append.2 ⟨g.ne, h.ne, fun c hc d hd => ?_⟩
    cases e : c.id with
    | none => exact .inr (.inl rfl)
    | some k =>
      refine .inr (.inr (fun q => ?_))
      have h1 := Ch.ok_lt (h.ok d hd) q.symm
      rcases g.mine c hc k e with z | z
      · omega
      · cases z
theorem Heap.ids (h : Heap w0 S w cs) : ∀ c, c ∈ cs → ∀ k, c.id = some k → k < w.heap.size := fun c hc k hk => Ch.ok_lt (h.ok c hc) hk
theorem ids_of {cs cs' : List Ch} {X : Nat} (h : ∀ c, c ∈ cs → ∀ k, c.id = some k → k < X) (e : cs'.map Ch.id = cs.map Ch.id) : ∀ c, c ∈ cs' → ∀ k, c.id = some k → k < X := fun c hc k hk => by
  have : c.id ∈ cs'.map Ch.id := List.mem_map.2 ⟨c, hc, rfl⟩
  rw [e] at this
  obtain ⟨d, hd, e2⟩ := List.mem_map.1 this
  exact h d hd k (e2.trans hk)
theorem Heap.newge (g : Heap w0 [] w cs) (i : Nat) {c : Ch} (e : cs[i]? = some c) {k : Nat} (hk : c.id = some k) : w0.heap.size ≤ k := by
  rcases g.mine c (List.mem_of_getElem? e) k hk with z | z
  · exact z
  · cases z
theorem Heap.consX (h : Heap w0 S w cs) {X : Nat} (hlt : ∀ c, c ∈ cs → ∀ k, c.id = some k → k < X) {c : Ch} (hc : c.ok w) (hge : ∀ k, c.id = some k → X ≤ k) (h0 : w0.heap.size ≤ X) : Heap w0 S w (c :: cs) :=
  h.cons hc (fun k hk => ⟨.inl (Nat.le_trans h0 (hge k hk)), fun d hd e => by
    have h1 := hlt d hd k e
    have h2 := hge k hk
    omega⟩)
theorem Heap.growB (h : Heap w0 S w cs) {X : Nat} (hlt : ∀ c, c ∈ cs → ∀ k, c.id = some k → k < X) {w' : World} {b : Nat} (g : w.grownBy w' (some b)) (hge : X ≤ b) (h0 : w0.heap.size ≤ X) : Heap w0 S w' cs :=
  ⟨h.keep.grown g (fun k hk => by cases hk; exact .inl (Nat.le_trans h0 hge)), fun c hc => Ch.ok_grow (h.ok c hc) g (by
    cases e : c.id with
    | none => exact .inl rfl
    | some k => exact .inr (fun q => by cases q; have := hlt c hc _ e; omega)), h.mine, h.ne⟩
theorem ne_new {A : Option Addr} {X : Nat} (hlt : ∀ c, c ∈ cs → ∀ k, c.id = some k → k < X) (hge : ∀ k, oblk A = some k → X ≤ k) (i : Nat) {c : Ch} (e : cs[i]? = some c) : oblk A = none ∨ oblk A ≠ c.id := by
  cases q : oblk A with
  | none => exact .inl rfl
  | some k =>
    refine .inr (fun z => ?_)
    have h1 := hlt c (List.mem_of_getElem? e) k z.symm
    have h2 := hge k q
    omega
theorem Heap.grown (g : Heap w0 [] w cs) : w0.grownBy w none := g.ex.g
end

/-- A cut of a slice: what is read of it. -/
structure View (A : Option Addr) (c sz : Nat) (A' : Option Addr) (lo : Nat) : Prop where
  rd : ∀ (W : World) (l : List Value), l.length ≤ c * sz → Rd W A l → Rd W A' (l.drop (lo * sz))
  blk : oblk A' = oblk A
theorem View.refl (A : Option Addr) (c sz : Nat) : View A c sz A 0 := ⟨fun W l _ h => by simpa using h, rfl⟩
theorem View.trans {A A1 A2 : Option Addr} {c c1 sz lo lo2 : Nat} (h : View A c sz A1 lo) (g : View A1 c1 sz A2 lo2) (hc : c ≤ lo + c1) : View A c sz A2 (lo + lo2) :=
  ⟨fun W l hl hR => by
    have h1 := g.rd W _ (by
      rw [List.length_drop]
      have : (lo + c1) * sz = lo * sz + c1 * sz := Nat.add_mul _ _ _
      have : c * sz ≤ (lo + c1) * sz := Nat.mul_le_mul_right _ hc
      omega) (h.rd W l hl hR)
    rwa [List.drop_drop, ← Nat.add_mul] at h1, g.blk.trans h.blk⟩
theorem View.vs1 {A A' : Option Addr} {c lo : Nat} (h : View A c 1 A' lo) {w : World} {k : IntKind} {xs : List Nat} (hR : Rd w A (vs k xs)) (hl : xs.length ≤ c) : Rd w A' (vs k (xs.drop lo)) := by
  have := h.rd w _ (by simpa using hl) hR
  rwa [Nat.mul_one, vs_drop] at this
theorem View.vst {A A' : Option Addr} {c lo : Nat} (h : View A c 1 A' lo) {w : World} {k : IntKind} {xs : List Nat} (hR : Rd w A (vs k xs)) (hl : xs.length ≤ c) (m : Nat) : Rd w A' (vs k ((xs.drop lo).take m)) := by
  have := (h.vs1 hR hl).take m
  rwa [vs_take] at this
theorem View.mk' (A : Option Addr) (c lo sz : Nat) : View A c sz (if c = lo then A else A.map (·.add (lo * sz))) lo := by
  refine ⟨fun W l hl hR => (CutL.mk' A c lo sz l hl).rd W hR, (CutL.mk' A c lo sz [] (by simp)).blk⟩

theorem Blk.view {w : World} {b T : Nat} {k : IntKind} {xs : List Nat} (h : Blk w b T (vs k xs)) (lo : Nat) {A : Option Addr} (e : A = some ⟨b, lo, none⟩) : Rd w A (vs k (xs.drop lo)) := by
  subst e
  have := (h.cells.drop lo).rd
  rwa [Nat.zero_add, vs_drop] at this
theorem Blk.viewt {w : World} {b T : Nat} {k : IntKind} {xs : List Nat} (h : Blk w b T (vs k xs)) (lo m : Nat) {A : Option Addr} (e : A = some ⟨b, lo, none⟩) : Rd w A (vs k ((xs.drop lo).take m)) := by
  have := (h.view lo e).take m
  rwa [vs_take] at this
theorem Rd.vtake {w : World} {A : Option Addr} {k : IntKind} {xs : List Nat} (h : Rd w A (vs k xs)) (m : Nat) : Rd w A (vs k (xs.take m)) := by
  have := h.take m
  rwa [vs_take] at this
theorem vi_append (xs ys : List Int) : vi (xs ++ ys) = vi xs ++ vi ys := by simp [vi]
theorem vi_set (xs : List Int) (i : Nat) (x : Int) : (vi xs).set i (.int .i64 x) = vi (xs.set i x) := by simp [vi, List.map_set]
theorem vi_take (xs : List Int) (i : Nat) : (vi xs).take i = vi (xs.take i) := by simp [vi]
theorem rep_vs (k : IntKind) (m : Nat) : List.replicate m (.int k 0) = vs k (List.replicate m 0) := by simp [vs]
theorem getD_mod1 (v : Value) (x : Nat) : [v][x % 1]?.getD default = v := by rw [Nat.mod_one]; rfl
theorem made_list {z : Value} {k : IntKind} {m N : Nat} (hz : z = .int k 0) (hN : N = 1) : (madeCells z.cells (m * N)).toList = vs k (List.replicate m 0) := by
  subst hz hN
  simp [madeCells, Value.cells, vs, getD_mod1, List.map_const']
theorem made_vi {z : Value} {m N : Nat} (hz : z = .int .i64 0) (hN : N = 1) : (madeCells z.cells (m * N)).toList = vi (List.replicate m 0) := by
  subst hz hN
  simp [madeCells, Value.cells, vi, getD_mod1, List.map_const']
theorem get_app_l {α : Type} {l1 l2 : List α} {j : Nat} {v : α} (h : l1[j]? = some v) : (l1 ++ l2)[j]? = some v := by
  rw [List.getElem?_append_left (List.getElem?_eq_some_iff.1 h).1]; exact h
theorem get_app_r {α : Type} {l1 l2 : List α} {n j : Nat} {v : α} (hl : l1.length = n) (h : l2[j]? = some v) : (l1 ++ l2)[n + j]? = some v := by
  subst hl; rw [List.getElem?_append_right (by omega)]; simpa using h
theorem set_app_l {α : Type} {l1 l2 l1' : List α} {j : Nat} {v : α} (hj : j < l1.length) (h : l1.set j v = l1') : (l1 ++ l2).set j v = l1' ++ l2 := by
  rw [List.set_append_left _ _ hj, h]
theorem set_app_r {α : Type} {l1 l2 l2' : List α} {n j : Nat} {v : α} (hl : l1.length = n) (h : l2.set j v = l2') : (l1 ++ l2).set (n + j) v = l1 ++ l2' := by
  subst hl; rw [List.set_append_right _ _ (by omega)]; simp [h]
theorem lt_app_l {α : Type} {l1 l2 : List α} {j : Nat} (h : j < l1.length) : j < (l1 ++ l2).length := by simp; omega
theorem lt_app_r {α : Type} {l1 l2 : List α} {n j : Nat} (hl : l1.length = n) (h : j < l2.length) : n + j < (l1 ++ l2).length := by simp; omega
theorem one_nil : ∀ v, v ∈ ([] : List Value) → v.oneCell' = true := fun v h => absurd h (by simp)
theorem one_cons {x : Value} {l : List Value} (hx : x.oneCell' = true) (h : ∀ v, v ∈ l → v.oneCell' = true) : ∀ v, v ∈ x :: l → v.oneCell' = true := fun v hv => by
  rcases List.mem_cons.1 hv with rfl | q
  · exact hx
  · exact h v q
theorem one_app {l1 l2 : List Value} (h1 : ∀ v, v ∈ l1 → v.oneCell' = true) (h2 : ∀ v, v ∈ l2 → v.oneCell' = true) : ∀ v, v ∈ l1 ++ l2 → v.oneCell' = true := fun v hv => by
  rcases List.mem_append.1 hv with q | q
  · exact h1 v q
  · exact h2 v q

/-! ### Steps of a walk with a fact of the plain function -/
section
variable {P : Program} {TI : List (Nat × T1)} {ops : Array Oper} {Q : Exit → Act → World → Prop} {o : Oper} {n : Nat} {F : List (Nat × Value)} {KK : Act → World → Prop} {a : Act} {w : World}
theorem h_slice (hT : TIok P TI) {d m c sz lo hi : Nat} {A : Option Addr} (h : oSlice TI n F o = some (d, A, m, c, sz, lo, hi)) (hF : Fr n a F) (h1 : lo ≤ hi) (h2 : hi ≤ c) (h3 : m ≤ c)
    (K : ∀ a' A', View A c sz A' lo → a' = a.put (some d) (.slice A' (hi - lo) (c - lo)) → Fr n a' ((d, .slice A' (hi - lo) (c - lo)) :: F) → KK a' w) : One P ops Q o KK a w := by
  unfold oSlice at h
  split at h
  · rename_i e t x l0 h' hd hop
    split at h
    · rename_i el _ _ _ A' m' c' ht hx
      split at h
      · rename_i i l' hi' hi2 hl' hh'
        simp only [Option.some.injEq, Prod.mk.injEq] at h
        obtain ⟨rfl, rfl, rfl, rfl, rfl, rfl, rfl⟩ := h
        refine s_val hd hF ?_ (fun a' ha' hF' => K a' _ (View.mk' A' c' l' i.n) ha' hF')
        simp only [execOp, hop, hF.eval hx, Option.map_none, Sem.run_bind, Instr.sliceAt, run_underlying (hT.ty _ _ ht), Result.andThen_ok, Instr.slice]
        rw [run_bounds hF hl' hh' h1 h2 (fun _ => h3)]
        simp [hT.run_sizeOf hi2]
      · cases h
    · cases h
  · cases h
theorem h_app (hT : TIok P TI) {w0 : World} {S : List Nat} {cs : List Ch} {d T m c m2 c2 n' : Nat} {i : T1} {A A2 : Option Addr} {l l2 l' : List Value} (h : oApp TI n F o = some (d, T, i, .slice A m c, A2, m2, c2)) (hF : Fr n a F) (hS : Heap w0 S w cs) (j : Nat) (hj : cs[j]? = some (.row T i.n A m c l)) (hzs : i.z.cells.size = i.n) (hsz : 0 < i.n)
    (hR : Rd w A2 l2) (hl : l2.length = m2 * i.n) (h1 : ∀ u, u ∈ l2 → u.oneCell' = true) (hbytes : (m + m2) * i.b ≤ 140737488355328) (hib : 0 < i.b) (hn : m + m2 = n') (hl' : l ++ l2 = l')
    (K : ∀ a' w' A' c', Heap w0 S w' (cs.set j (.row T i.n A' n' c' l')) → w.grownBy w' (oblk A) → a' = a.put (some d) (.slice A' n' c') → Fr n a' ((d, .slice A' n' c') :: F) → KK a' w') : One P ops Q o KK a w := by
  subst hn hl'
  exact s_app hT h hF hzs hsz (hS.own j hj) hR hl h1 hbytes hib (Nat.zero_le _) (fun a' w' A' c' hO g hid ha hF' => K a' w' A' c' (hS.app j hj hO g hid) g ha hF')
theorem h_appZ (hT : TIok P TI) {w0 : World} {S : List Nat} {cs : List Ch} {d T m c m2 n' : Nat} {i : T1} {A : Option Addr} {l l' : List Value} (h : oAppZ TI n F o = some (d, T, i, .slice A m c, m2)) (hF : Fr n a F) (hS : Heap w0 S w cs) (j : Nat) (hj : cs[j]? = some (.row T i.n A m c l)) (hzc : i.z.cells = #[i.z]) (hs1 : i.n = 1) (hz1 : i.z.oneCell' = true) (hib : 0 < i.b)
    (h0 : 0 < m2) (hbytes : (m + m2) * i.b ≤ 140737488355328) (hn : m + m2 = n') (hl' : l ++ List.replicate m2 i.z = l')
    (K : ∀ a' w' A' c', Heap w0 S w' (cs.set j (.row T i.n A' n' c' l')) → w.grownBy w' (oblk A) → a' = a.put (some d) (.slice A' n' c') → Fr n a' ((d, .slice A' n' c') :: F) → KK a' w') : One P ops Q o KK a w := by
  subst hn hl'
  exact s_appZ hT h hF hzc hs1 hz1 hib (hS.own j hj) h0 hbytes (Nat.zero_le _) (fun a' w' A' c' hO g hid ha hF' => K a' w' A' c' (hS.app j hj hO g hid) g ha hF')
theorem h_make (hT : TIok P TI) {w0 : World} {S : List Nat} {cs : List Ch} {d T m n' : Nat} {i : T1} {l' : List Value} (h : oMake TI n F o = some (d, T, i, m)) (h2 : ∀ t x y, o.op = .makeSlice t x y → opnd F x = opnd F y) (hF : Fr n a F) (hS : Heap w0 S w cs) (hb : m * i.b ≤ 140737488355328) (hm : m ≤ maxLen) (hn : m = n') (hl' : (madeCells i.z.cells (m * i.n)).toList = l')
    (K : ∀ a' w' A, Heap w0 S w' (.row T i.n A n' n' l' :: cs) → w.grownBy w' none → a' = a.put (some d) (.slice A n' n') → Fr n a' ((d, .slice A n' n') :: F) → KK a' w') : One P ops Q o KK a w := by
  subst hn hl'
  exact s_make hT h h2 hF (by omega) hm (fun a' w' A hO g ha hF' => K a' w' A (hS.made hO g) g ha hF')
theorem h_alloc (hT : TIok P TI) {w0 : World} {S : List Nat} {cs : List Ch} {d T : Nat} {l : List Value} (h : oAlloc TI n F o = some (d, T, l)) (hF : Fr n a F) (hS : Heap w0 S w cs)
    (K : ∀ a' w' b, Heap w0 S w' (.blk b T l :: cs) → w.grownBy w' none → a' = a.put (some d) (.pointer (some ⟨b, 0, none⟩)) → Fr n a' ((d, .pointer (some ⟨b, 0, none⟩)) :: F) → KK a' w') : One P ops Q o KK a w :=
  s_alloc hT h hF (fun a' w' b hb _ hB g ha hF' => K a' w' b (hS.alloc hb hB g) g ha hF')
theorem h_lit (hT : TIok P TI) {w0 : World} {S : List Nat} {cs : List Ch} {d T : Nat} {l : List Value} (h : oLit TI n F o = some (d, T, l)) (hF : Fr n a F) (hS : Heap w0 S w cs) (hm : l.length ≤ maxLen)
    (K : ∀ a' w' A, Heap w0 S w' (.row T 1 A l.length l.length l :: cs) → w.grownBy w' none → a' = a.put (some d) (.slice A l.length l.length) → Fr n a' ((d, .slice A l.length l.length) :: F) → KK a' w') : One P ops Q o KK a w :=
  s_lit hT h hF (fun a' w' b hb _ hB g ha hF' => K a' w' (some ⟨b, 0, none⟩) (hS.made (Blk.own hB hb hm) g) g ha hF')
theorem h_store (hT : TIok P TI) {w0 : World} {S : List Nat} {cs : List Ch} {b off T : Nat} {v : Value} {p : Addr} {l l' : List Value} (h : oStore TI F o = some (p, v)) (hF : Fr n a F) (hS : Heap w0 S w cs) (j : Nat) (hj : cs[j]? = some (.blk b T l)) (hp : p = ⟨b, 0 + off, none⟩) (hlt : off < l.length) (hl' : l.set off v = l')
    (K : ∀ a' w', a' = a → Fr n a' F → Heap w0 S w' (cs.set j (.blk b T l')) → w.grownBy w' (some b) → KK a' w') : One P ops Q o KK a w := by
  subst hl'
  exact s_store hT h hF (hS.blk j hj) hp hlt (fun a' w' ha hF' hB g => K a' w' ha hF' (hS.store j hj hB g) g)
theorem h_storeR (hT : TIok P TI) {w0 : World} {S : List Nat} {cs : List Ch} {T sz m c off : Nat} {A : Option Addr} {v : Value} {l l' : List Value} {p : Addr} (h : oStore TI F o = some (p, v)) (hF : Fr n a F) (hS : Heap w0 S w cs) (j : Nat) (hj : cs[j]? = some (.row T sz A m c l)) (hlt : off < l.length) (hp : p = ⟨ablk A, aoff A + off, none⟩) (hl' : l.set off v = l')
    (K : ∀ a' w', a' = a → Fr n a' F → Heap w0 S w' (cs.set j (.row T sz A m c l')) → w.grownBy w' (oblk A) → KK a' w') : One P ops Q o KK a w := by
  subst hl'
  exact s_storeO hT h hF (hS.own j hj) hlt hp (fun a' w' ha hF' hB g => K a' w' ha hF' (hS.storeR j hj hB g) g)
theorem h_storeV (hT : TIok P TI) {w0 : World} {S : List Nat} {cs : List Ch} {b T sz : Nat} {l l2 : List Value} (h : oStoreV TI F o = some (b, l2.toArray, sz)) (hF : Fr n a F) (hS : Heap w0 S w cs) (j : Nat) (hj : cs[j]? = some (.blk b T l)) (hz : l2.length = sz) (hl : l2.length = l.length) (h1 : ∀ v, v ∈ l2 → v.oneCell' = true)
    (K : ∀ a' w', a' = a → Fr n a' F → Heap w0 S w' (cs.set j (.blk b T l2)) → w.grownBy w' (some b) → KK a' w') : One P ops Q o KK a w :=
  s_storeV hT h hF (hS.blk j hj) hz hl h1 (fun a' w' ha hF' hB g => K a' w' ha hF' (hS.store j hj hB g) g)
theorem h_copy (hT : TIok P TI) {w0 : World} {S : List Nat} {cs : List Ch} {d b off T m m2 k : Nat} {A2 : Option Addr} {l ds l' : List Value} (h : oCopy TI n F o = some (d, some ⟨b, off, none⟩, m, A2, m2)) (hF : Fr n a F) (hS : Heap w0 S w cs) (j : Nat) (hj : cs[j]? = some (.blk b T l)) (hR : Rd w A2 ds) (hn : ds.length = Nat.min m2 m) (hfit : off + ds.length ≤ l.length) (h1 : ∀ u, u ∈ ds → u.oneCell' = true) (hk : ds.length = k) (hl' : l.take off ++ ds ++ l.drop (off + ds.length) = l')
    (K : ∀ a' w', Heap w0 S w' (cs.set j (.blk b T l')) → w.grownBy w' (some b) → a' = a.put (some d) (.int .i64 (.ofNat k)) → Fr n a' ((d, .int .i64 (.ofNat k)) :: F) → KK a' w') : One P ops Q o KK a w := by
  subst hk hl'
  exact s_copy hT h hF (hS.blk j hj) hR hn hfit h1 (fun a' w' hB g ha hF' => K a' w' (hS.store j hj hB g) g ha hF')
/-- a shift by an int that is not below 0 -/
def oShift (n : Nat) (F : List (Nat × Value)) (o : Oper) : Option (Nat × BinOp × IntKind × Int × IntKind × Int) :=
  match dstOf n o, o.op with
  | some d, .binOp op t x y _ => match opnd F x, opnd F y with
    | some (.int k a), some (.int k' b) => some (d, op, k, a, k', b)
    | _, _ => none
  | _, _ => none
theorem s_shiftI (hT : TIok P TI) {d : Nat} {op : BinOp} {k k' : IntKind} {a' y : Int} {v : Value} {cs : List Prop} (h : oShift n F o = some (d, op, k, a', k', y)) (hF : Fr n a F) (h0 : 0 ≤ y) (hs : pShift op k a' y.toNat = some (v, cs)) (hop : op = .shl ∨ op = .shr) (hc : allP cs)
    (K : ∀ a2, a2 = a.put (some d) v → Fr n a2 ((d, v) :: F) → KK a2 w) : One P ops Q o KK a w := by
  unfold oShift at h
  split at h
  · rename_i d' op' t x y' e hd ho
    split at h
    · rename_i k1 a1 k2 b1 hx hy
      simp only [Option.some.injEq, Prod.mk.injEq] at h
      obtain ⟨rfl, rfl, rfl, rfl, rfl, rfl⟩ := h
      obtain ⟨m, rfl⟩ := Int.eq_ofNat_of_zero_le h0
      refine s_pure hT hd ?_ hc hF K
      rw [ho]
      simp only [pOp, hx, hy]
      rcases hop with rfl | rfl <;> exact hs
    · cases h
  · cases h
theorem ite_some {α : Type} {c : Prop} [Decidable c] {A B : Option α} {r : α} (h : (if c then A else B) = some r) : (c ∧ A = some r) ∨ (¬ c ∧ B = some r) := by
  split at h
  · rename_i q; exact .inl ⟨q, h⟩
  · rename_i q; exact .inr ⟨q, h⟩
end
section
variable {P : Program} {Q : Exit → Act → World → Prop} {a : Act} {w : World}
theorem thenA {α β γ : Type} (x : Result α) (f : α → World → Result β) (g : β → World → Result γ) : (x.andThen f).andThen g = x.andThen (fun a w => (f a w).andThen g) := by cases x <;> rfl
theorem retR2 {n : Nat} {fn : Func} {F : List (Nat × Value)} {r1 r2 : ResultVar} {v1 v2 : Value} {S : Value → World → Prop} {e : Exit} (he : e = .normal ∨ e = .ret) (hF : Fr n a F) (hr : fn.results = #[r1, r2]) (h1 : ResAt P F w r1 v1) (h2 : ResAt P F w r2 v2) (hS : S (.tuple #[v1, v2]) w) : bodyPost P fn (Ret S) e a w := by
  have : a.defers = [] ∧ ∃ v, (results fn a.tmps).run P w = .ok v w ∧ Ret S (.returned v) w := by
    refine ⟨hF.defers, _, ?_, _, rfl, hS⟩
    have e1 := resRun hF h1
    have e2 := resRun hF h2
    simp only [results, hr]
    cases r1 <;> cases r2 <;> (try simp at e1) <;> (try simp at e2) <;> (try simp) <;> (try simp only [← thenA]) <;> (try simp [e1, e2])
  rcases he with rfl | rfl <;> exact this
theorem retR3 {n : Nat} {fn : Func} {F : List (Nat × Value)} {r1 r2 r3 : ResultVar} {v1 v2 v3 : Value} {S : Value → World → Prop} {e : Exit} (he : e = .normal ∨ e = .ret) (hF : Fr n a F) (hr : fn.results = #[r1, r2, r3]) (h1 : ResAt P F w r1 v1) (h2 : ResAt P F w r2 v2) (h3 : ResAt P F w r3 v3) (hS : S (.tuple #[v1, v2, v3]) w) : bodyPost P fn (Ret S) e a w := by
  have : a.defers = [] ∧ ∃ v, (results fn a.tmps).run P w = .ok v w ∧ Ret S (.returned v) w := by
    refine ⟨hF.defers, _, ?_, _, rfl, hS⟩
    have e1 := resRun hF h1
    have e2 := resRun hF h2
    have e3 := resRun hF h3
    simp only [results, hr]
    cases r1 <;> cases r2 <;> cases r3 <;> (try simp at e1) <;> (try simp at e2) <;> (try simp at e3) <;> (try simp) <;> (try simp only [← thenA]) <;> (try simp [e1, e2, e3]) <;> (try simp only [← thenA]) <;> (try simp [e1, e2, e3])
  rcases he with rfl | rfl <;> exact this
/-- A join: what the first part comes to, told by I. -/
theorem seqJ {x y : Code} (I : Act → World → Prop) (hx : x.wp P (Exit.then I Q) a w) (hy : ∀ a w, I a w → y.wp P Q a w) : (Code.seq x y).wp P Q a w := by
  refine wp_seq (wp_mono hx ?_)
  intro e a w h
  cases e <;> first | exact hy a w h | exact h
/-- A loop along the rounds of a plain loop. -/
theorem loopR {σ ρ : Type} {c : Code} (f : σ → Option (σ ⊕ ρ)) (x : ρ) (s0 : σ) (hs : run f s0 = some x) (I : σ → Act → World → Prop) (h0 : I s0 a w)
    (round : ∀ k s a w, I s a w → iter f (k + 1) s = some x → ∀ K : Act → World → Prop, (∀ s' a' w', iter f k s' = some x → I s' a' w' → K a' w') → c.wp P (Exit.then K Q) a w) : (Code.loop c).wp P Q a w := by
  obtain ⟨k, hk⟩ := run_some hs
  refine loopK (fun m a w => ∃ s, iter f m s = some x ∧ I s a w) k ⟨s0, hk, h0⟩ ?_
  intro m a w ⟨s, hi, hI⟩ K hK
  cases m with
  | zero => cases hi
  | succ k => exact round k s a w hI hi K (fun s' a' w' h1 h2 => hK k a' w' (Nat.lt_succ_self k) ⟨s', h1, h2⟩)
end
end Go.Proofs.Ytnagkhofkjjajaa
