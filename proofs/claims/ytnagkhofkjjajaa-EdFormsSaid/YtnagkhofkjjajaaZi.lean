/- A law's row out of its contract: values of any shape that came in. Lemmas, no statement of the claim. -/
import Derived.Test.YtnagkhofkjjajaaZh
import Derived.OpenShut
import Derived.Below
import Derived.Carry
import Derived.ChangeOld
set_option linter.unusedVariables false
set_option linter.unusedSimpArgs false
namespace Go.Proofs.Ytnagkhofkjjajaa
open Go.RowKit Go.ChangeShapes Go.WideShapes
/-! ### Shapes of types -/
def vsL (f : Nat → Option VS) : List (Nat × Nat) → Option VS
  | [] => some (.v .U)
  | [x] => (match f x.1 with | some v => some (.one v) | none => none)
  | x :: y :: r => match f x.1, vsL f (y :: r) with | some a, some c => some (.pr a c) | _, _ => none
/-- how a type's values come in -/
def vsT (D : List (Nat × TD)) : Nat → Nat → Option VS
  | 0, _ => none
  | f + 1, t => match shT D 9 t with
    | some a => some (.v a)
    | none => match lookD D t with
      | some ⟨.sl e, _, _, _⟩ => (match shT D 9 e with
        | some a => some (.ro a)
        | none => match lookD D e with
          | some ⟨.sl e2, _, _, _⟩ => (match shT D 9 e2 with
            | some a => some (.rq a)
            | none => none)
          | _ => none)
      | some ⟨.st l, _, _, _⟩ => vsL (vsT D f) l
      | _ => none
def offL (D : List (Nat × TD)) : List (Nat × Nat) → Nat → Nat → Bool
  | [], o, n => Nat.beq o n
  | x :: r, o, n => Nat.beq x.2 o && (match lookD D x.1 with | some d => offL D r (o + d.n) n | none => false)
def szD (D : List (Nat × TD)) (t : Nat) : Nat := match lookD D t with | some d => d.n | none => 0
/-- sizes and places are as they should be -/
def okT (D : List (Nat × TD)) : Nat → Nat → Bool
  | 0, _ => false
  | f + 1, t => match lookD D t with
    | some ⟨.st l, n, _, _⟩ => Nat.blt 0 n && offL D l 0 n && l.all (fun x => okT D f x.1)
    | some ⟨.ar m e, n, _, _⟩ => Nat.blt 0 n && Nat.beq n m && okT D f e && (match lookD D e with | some ⟨.i _, _, _, _⟩ => true | _ => false)
    | some ⟨.sl e, n, _, _⟩ => Nat.beq n 1 && okT D f e
    | some ⟨.i k, n, _, _⟩ => Nat.beq n 1 && (kq k .i64 || !k.signed)
    | some d => Nat.beq d.n 1
    | none => false
/-- what is known of data that came in -/
def okV : (x : VS) → Tup x.lv → Prop
  | .v a, y => okS a y
  | .ro a, y => (∀ e, List.Mem (α := a.T) e y → okS a e) ∧ List.length (α := a.T) y ≤ 9223372036854775807
  | .rq a, y => (∀ l, List.Mem (α := List a.T) l y → (∀ e, e ∈ l → okS a e) ∧ l.length ≤ 9223372036854775807) ∧ List.length (α := List a.T) y ≤ 9223372036854775807
  | .pr a b, y => okV a (tfst a.lv b.lv y) ∧ okV b (tsnd a.lv b.lv y)
  | .one a, y => okV a y
  | _, _ => True
def okA : (l : List VS) → Tup (lvs l) → Prop
  | [], _ => True
  | a :: r, y => okV a (tfst a.lv (lvs r) y) ∧ okA r (tsnd a.lv (lvs r) y)
theorem tfst_cat : ∀ (l m : List Type) (x : Tup l) (y : Tup m), tfst l m (tcat l m x y) = x
  | [], _, _, _ => rfl
  | [_], [], _, _ => rfl
  | [_], _ :: _, _, _ => rfl
  | _ :: b :: l, m, x, y => Prod.ext rfl (tfst_cat (b :: l) m x.2 y)
theorem tsnd_cat : ∀ (l m : List Type) (x : Tup l) (y : Tup m), tsnd l m (tcat l m x y) = y
  | [], _, _, _ => rfl
  | [_], [], _, _ => rfl
  | [_], _ :: _, _, _ => rfl
  | _ :: b :: l, m, x, y => tsnd_cat (b :: l) m x.2 y

section
variable {Hy : Type} {enc : TypeId × Value → Hy} {P : Program} {D : List (Nat × TD)} {W : World} {base : Nat} {sp : Nat → Bool} {held : Bool}
theorem cellsOf_eq (hT : TDok P D) {t : Nat} {d : TD} (h : lookD D t = some d) : P.cellsOf t = d.n := by
  unfold Program.cellsOf; rw [hT.info h]; rfl
theorem wfN {k : IntKind} {n : Int} (hk : (kq k .i64 || !k.signed) = true) (h6 : k ≠ .i64) (h : (Lit.int k n).wf = true) : 0 ≤ n ∧ n.toNat < lim k := by
  cases k <;> simp [Lit.wf, IntKind.min, IntKind.max, IntKind.signed, IntKind.bits, kq, kix] at h hk h6 <;> unfold lim <;> dsimp only <;> omega
theorem wfZ {n : Int} (h : (Lit.int .i64 n).wf = true) : I63 n := by
  simp [Lit.wf, IntKind.min, IntKind.max, IntKind.signed, IntKind.bits] at h
  unfold I63; omega
/-- one number -/
theorem open_n (hT : TDok P D) {t : Nat} {k : IntKind} {n b : Nat} {e : Bool} (hl : lookD D t = some ⟨.i k, n, b, e⟩) {fuel : Nat} {cs : List Value} {x : DataW Hy × List MemPlace} (h : DataW.trod enc P W base sp held fuel t cs = some x) : ∃ z : Int, cs = [.int k z] ∧ (Lit.int k z).wf = true := by
  obtain ⟨z, h1, _, h2⟩ := DataW.trod_int (hT.un t _ hl) h
  exact ⟨z, h1, h2⟩
theorem open_row_n (hT : TDok P D) {e : Nat} {k : IntKind} {n b : Nat} {q : Bool} (hl : lookD D e = some ⟨.i k, n, b, q⟩) (hn : n = 1) {m : Nat} {cs : List Value} (hcs : cs.length = m)
    (h : ∀ i, i < m → ∃ (fuel : Nat) (x : DataW Hy × List MemPlace), DataW.trod enc P W base sp held fuel e ((cs.drop (i * P.cellsOf e)).take (P.cellsOf e)) = some x) : ∃ zs : List Int, zs.length = m ∧ cs = zs.map (Value.int k) ∧ ∀ z, z ∈ zs → (Lit.int k z).wf = true := by
  have hc := cellsOf_eq hT hl
  subst hcs
  have key : ∀ i (hi : i < cs.length), ∃ z, cs[i] = Value.int k z ∧ (Lit.int k z).wf = true := by
    intro i hi
    obtain ⟨fuel, x, hx⟩ := h i hi
    obtain ⟨z, h1, h2⟩ := open_n hT hl hx
    rw [hc, hn, Nat.mul_one] at h1
    have := congrArg (fun l => l[0]?) h1
    simp only [List.getElem?_take, List.getElem?_drop, Nat.add_zero, Nat.lt_one_iff, if_pos, List.getElem?_cons_zero, List.getElem?_eq_getElem hi, Option.some.injEq] at this
    exact ⟨z, this, h2⟩
  refine ⟨(List.range cs.length).map (fun i => match cs[i]? with | some (Value.int _ z) => z | _ => 0), by simp, ?_, ?_⟩
  · apply List.ext_getElem
    · simp
    · intro i h1 h2
      obtain ⟨z, hz, _⟩ := key i h1
      simp only [List.getElem_map, List.getElem_range, List.getElem?_eq_getElem h1, hz]
  · intro z hz
    obtain ⟨i, hi, rfl⟩ := List.mem_map.1 hz
    have hi : i < cs.length := List.mem_range.1 hi
    obtain ⟨z, hz, hw⟩ := key i hi
    rw [List.getElem?_eq_getElem hi, hz]
    exact hw
theorem ints_nat {k : IntKind} (hk : (kq k .i64 || !k.signed) = true) (h6 : k ≠ .i64) {zs : List Int} (h : ∀ z, z ∈ zs → (Lit.int k z).wf = true) : zs.map (Value.int k) = vs k (zs.map Int.toNat) ∧ LB (lim k) (zs.map Int.toNat) := by
  constructor
  · unfold vs
    rw [List.map_map]
    refine List.map_congr_left fun z hz => ?_
    have := wfN hk h6 (h z hz)
    show Value.int k z = Value.int k _
    congr 1
    omega
  · intro x hx
    obtain ⟨z, hz, rfl⟩ := List.mem_map.1 hx
    exact (wfN hk h6 (h z hz)).2
theorem lookD_all {l : List (Nat × Nat)} {f : Nat → Bool} (h : l.all (fun x => f x.1) = true) {x : Nat × Nat} (hx : x ∈ l) : f x.1 = true := List.all_eq_true.1 h x hx
/-- the fields of a struct of plain data -/
theorem open_fields (hT : TDok P D) {g : Nat → Option Sh} {n : Nat} {cs : List Value} (hcs : cs.length = n)
    (IH : ∀ (t : Nat) (a : Sh), g t = some a → (∃ d, lookD D t = some d) → ∀ (u : Nat × Nat), u.1 = t → (∃ (fuel : Nat) (x : DataW Hy × List MemPlace), DataW.trod enc P W base sp held fuel t ((cs.drop u.2).take (P.cellsOf t)) = some x) → ∃ y : a.T, okS a y ∧ (cs.drop u.2).take (P.cellsOf t) = clS a y) :
    ∀ (l : List (Nat × Nat)) (a : Sh) (o : Nat), shL g l = some a → offL D l o n = true → (∀ x, x ∈ l → ∃ (fuel : Nat) (d : DataW Hy × List MemPlace), DataW.trod enc P W base sp held fuel x.1 ((cs.drop x.2).take (P.cellsOf x.1)) = some d) →
      ∃ y : a.T, okS a y ∧ cs.drop o = clS a y := by
  have one : ∀ (x : Nat × Nat) (r : List (Nat × Nat)) (o : Nat) (a : Sh), offL D (x :: r) o n = true → g x.1 = some a → (∃ (fuel : Nat) (d : DataW Hy × List MemPlace), DataW.trod enc P W base sp held fuel x.1 ((cs.drop x.2).take (P.cellsOf x.1)) = some d) →
      ∃ (m : Nat) (y : a.T), offL D r (o + m) n = true ∧ okS a y ∧ (cs.drop o).take m = clS a y := by
    intro x r o a ho hg hx
    have ho : (Nat.beq x.2 o && (match lookD D x.1 with | some d => offL D r (o + d.n) n | none => false)) = true := ho
    rw [Bool.and_eq_true] at ho
    obtain ⟨h1, h2⟩ := ho
    have h1 := Nat.eq_of_beq_eq_true h1
    cases hd : lookD D x.1 with
    | none => rw [hd] at h2; cases h2
    | some d =>
      rw [hd] at h2
      obtain ⟨y, hy, he⟩ := IH x.1 a hg ⟨d, hd⟩ x rfl hx
      rw [cellsOf_eq hT hd, h1] at he
      exact ⟨d.n, y, h2, hy, he⟩
  intro l
  induction l with
  | nil =>
    intro a o hs ho _
    cases hs
    have ho : Nat.beq o n = true := ho
    have := Nat.eq_of_beq_eq_true ho
    exact ⟨(), trivial, List.drop_eq_nil_of_le (by omega)⟩
  | cons x r ih =>
    cases r with
    | nil =>
      intro a o hs ho hx
      have hs : (match g x.1 with | some v => some (Sh.one v) | none => none) = some a := hs
      cases hg : g x.1 with
      | none => rw [hg] at hs; cases hs
      | some b =>
        rw [hg] at hs
        cases hs
        obtain ⟨m, y, h1, h2, h3⟩ := one x [] o b ho hg (hx x (List.mem_cons_self ..))
        have h1 : Nat.beq (o + m) n = true := h1
        have h1 := Nat.eq_of_beq_eq_true h1
        refine ⟨y, h2, ?_⟩
        rw [List.take_of_length_le (by rw [List.length_drop]; omega)] at h3
        exact h3
    | cons x' r' =>
      intro a o hs ho hx
      have hs : (match g x.1, shL g (x' :: r') with | some a, some c => some (Sh.pr a c) | _, _ => none) = some a := hs
      cases hg : g x.1 with
      | none => rw [hg] at hs; cases hs
      | some b =>
        cases hr : shL g (x' :: r') with
        | none => rw [hg, hr] at hs; cases hs
        | some c =>
          rw [hg, hr] at hs
          cases hs
          obtain ⟨m, y, h1, h2, h3⟩ := one x (x' :: r') o b ho hg (hx x (List.mem_cons_self ..))
          obtain ⟨z, h4, h5⟩ := ih c (o + m) hr h1 (fun u hu => hx u (List.mem_cons_of_mem _ hu))
          refine ⟨(y, z), ⟨h2, h4⟩, ?_⟩
          show cs.drop o = clS b y ++ clS c z
          rw [← h3, ← h5, ← List.drop_drop, List.take_append_drop]
/-- plain data -/
theorem open_sh (hT : TDok P D) : ∀ (f : Nat) (t : Nat) (a : Sh), shT D f t = some a → ∀ (k : Nat), okT D k t = true → ∀ (fuel : Nat) (cs : List Value) (x : DataW Hy × List MemPlace), DataW.trod enc P W base sp held fuel t cs = some x → ∃ y : a.T, okS a y ∧ cs = clS a y := by
  intro f
  induction f with
  | zero => intro t a h; cases h
  | succ f ih =>
    intro t a h k hk fuel cs x hx
    cases k with
    | zero => cases hk
    | succ k =>
      unfold shT at h
      unfold okT at hk
      cases hl : lookD D t with
      | none => rw [hl] at h; cases h
      | some d =>
        rw [hl] at h hk
        obtain ⟨kd, n, b, e⟩ := d
        have hun := hT.un t _ hl
        cases kd with
        | b =>
          cases h
          obtain ⟨y, h1, _⟩ := DataW.trod_bool hun hx
          exact ⟨y, trivial, h1⟩
        | s =>
          cases h
          obtain ⟨y, h1, _, _⟩ := DataW.trod_string hun hx
          exact ⟨y.data.toList.map UInt8.toNat, bytes_lt y, by rw [h1]; show _ = [Value.string _]; rw [str_bytes]⟩
        | i κ =>
          obtain ⟨z, h1, h2⟩ := open_n hT hl hx
          have hk : (Nat.beq n 1 && (kq κ .i64 || !κ.signed)) = true := hk
          rw [Bool.and_eq_true] at hk
          by_cases h6 : κ = .i64
          · subst h6
            cases h
            exact ⟨z, wfZ h2, h1⟩
          · have h : some (Sh.N κ) = some a := by
              cases κ <;> first | exact h | exact absurd rfl h6
            cases h
            have := wfN hk.2 h6 h2
            refine ⟨z.toNat, this.2, ?_⟩
            rw [h1]
            show _ = [Value.int κ ((z.toNat : Nat) : Int)]
            congr 2
            omega
        | pt => cases h
        | sl e => cases h
        | o => cases h
        | ar m u =>
          have hk : (Nat.blt 0 n && Nat.beq n m && okT D k u && (match lookD D u with | some ⟨.i _, _, _, _⟩ => true | _ => false)) = true := hk
          simp only [Bool.and_eq_true] at hk
          obtain ⟨⟨⟨k1, k2⟩, k3⟩, k4⟩ := hk
          have k2 := Nat.eq_of_beq_eq_true k2
          obtain ⟨xs, j, _, _, h1, h2, h3⟩ := DataW.trod_array hun hx
          rw [cellsOf_eq hT hl] at h1
          have h1 : cs.length = n := h1
          cases hu : lookD D u with
          | none => rw [hu] at k4; cases k4
          | some d =>
            obtain ⟨kd, n', b', e'⟩ := d
            cases kd with
            | i κ =>
              cases k with
              | zero => cases k3
              | succ k =>
                unfold okT at k3
                have h : (match lookD D u with
                  | some ⟨.i .i64, _, _, _⟩ => some (Sh.az m)
                  | some ⟨.i κ', _, _, _⟩ => some (Sh.an κ' m)
                  | _ => none) = some a := h
                rw [hu] at k3 h
                have k3 : (Nat.beq n' 1 && (kq κ .i64 || !κ.signed)) = true := k3
                rw [Bool.and_eq_true] at k3
                obtain ⟨zs, g1, g2, g3⟩ := open_row_n (enc := enc) (W := W) (base := base) (sp := sp) (held := held) hT hu (Nat.eq_of_beq_eq_true k3.1) (cs := cs) (m := m) (by omega) (fun i hi => ⟨j, xs[i]'(by omega), by rw [h3 i hi, List.getElem?_eq_getElem]⟩)
                by_cases h6 : κ = .i64
                · subst h6
                  cases h
                  exact ⟨zs, ⟨g1, fun z hz => wfZ (g3 z hz)⟩, g2⟩
                · have h : some (Sh.an κ m) = some a := by
                    cases κ <;> first | exact h | exact absurd rfl h6
                  cases h
                  obtain ⟨g4, g5⟩ := ints_nat k3.2 h6 g3
                  exact ⟨zs.map Int.toNat, ⟨by show (zs.map Int.toNat).length = m; rw [List.length_map]; exact g1, g5⟩, g2.trans g4⟩
            | _ => rw [hu] at k4; cases k4
        | st l =>
          have hk : (Nat.blt 0 n && offL D l 0 n && l.all (fun x => okT D k x.1)) = true := hk
          simp only [Bool.and_eq_true] at hk
          obtain ⟨⟨k1, k2⟩, k3⟩ := hk
          obtain ⟨fs, hf, hm⟩ := hun
          obtain ⟨xs, j, _, _, h1, h2, h3⟩ := DataW.trod_struct hf hx
          rw [cellsOf_eq hT hl] at h1
          have hk3 : ∀ t', okT D k t' = true → okT D k t' = true := fun _ h => h
          have hfld : ∀ u, u ∈ l → ∃ (fuel : Nat) (d : DataW Hy × List MemPlace), DataW.trod enc P W base sp held fuel u.1 ((cs.drop u.2).take (P.cellsOf u.1)) = some d := by
            intro u hu
            rw [← hm] at hu
            obtain ⟨fd, hfd, rfl⟩ := List.mem_map.1 hu
            obtain ⟨i, hi, rfl⟩ := List.mem_iff_getElem.1 hfd
            have hi' : i < fs.size := by simpa using hi
            have := h3 i fs[i] (by simp [hi'])
            refine ⟨j, xs[i]'(by omega), ?_⟩
            rw [List.getElem?_eq_getElem (by omega)] at this
            simpa using this
          have hsub : ∀ (l' : List (Nat × Nat)), (∀ u, u ∈ l' → u ∈ l) → ∀ (a' : Sh) (o : Nat), shL (shT D f) l' = some a' → offL D l' o n = true → ∃ y : a'.T, okS a' y ∧ cs.drop o = clS a' y := by
            intro l' hl' a' o hs' ho'
            have hg : shL (fun t' => if okT D k t' = true then shT D f t' else none) l' = some a' := by
              have : ∀ (l2 : List (Nat × Nat)), (∀ u, u ∈ l2 → u ∈ l) → shL (fun t' => if okT D k t' = true then shT D f t' else none) l2 = shL (shT D f) l2 := by
                intro l2
                induction l2 with
                | nil => intro _; rfl
                | cons u r ihr =>
                  intro h2
                  have e1 : (if okT D k u.1 = true then shT D f u.1 else none) = shT D f u.1 := if_pos (lookD_all k3 (h2 u (List.mem_cons_self ..)))
                  cases r with
                  | nil => show (match (if okT D k u.1 = true then shT D f u.1 else none) with | some v => some (Sh.one v) | none => none) = _; rw [e1]; rfl
                  | cons u' r' =>
                    have e2 := ihr (fun v hv => h2 v (List.mem_cons_of_mem _ hv))
                    show (match (if okT D k u.1 = true then shT D f u.1 else none), shL (fun t' => if okT D k t' = true then shT D f t' else none) (u' :: r') with | some a, some c => some (Sh.pr a c) | _, _ => none) = _
                    rw [e1, e2]; rfl
              rw [this l' hl']; exact hs'
            refine open_fields (enc := enc) (W := W) (base := base) (sp := sp) (held := held) hT h1 ?_ l' a' o hg ho' (fun u hu => hfld u (hl' u hu))
            intro t' a'' hg'' _ u hu hx''
            obtain ⟨fuel', x', hx'⟩ := hx''
            by_cases q : okT D k t' = true
            · rw [if_pos q] at hg''
              exact ih t' a'' hg'' k q fuel' _ x' hx'
            · rw [if_neg q] at hg''; cases hg''
          have := hsub l (fun _ h => h) a 0 h k2
          simpa using this
theorem okT_pos {k t : Nat} {d : TD} (hk : okT D k t = true) (hl : lookD D t = some d) : 0 < d.n := by
  cases k with
  | zero => cases hk
  | succ k =>
    unfold okT at hk
    rw [hl] at hk
    obtain ⟨kd, n, b, e⟩ := d
    cases kd with
    | st l =>
      have hk : (Nat.blt 0 n && offL D l 0 n && l.all (fun x => okT D k x.1)) = true := hk
      simp only [Bool.and_eq_true] at hk
      simpa using hk.1.1
    | ar m u =>
      have hk : (Nat.blt 0 n && Nat.beq n m && okT D k u && (match lookD D u with | some ⟨.i _, _, _, _⟩ => true | _ => false)) = true := hk
      simp only [Bool.and_eq_true] at hk
      simpa using hk.1.1.1
    | sl u =>
      have hk : (Nat.beq n 1 && okT D k u) = true := hk
      simp only [Bool.and_eq_true] at hk
      have := Nat.eq_of_beq_eq_true hk.1
      show 0 < n; omega
    | i κ =>
      have hk : (Nat.beq n 1 && (kq κ .i64 || !κ.signed)) = true := hk
      simp only [Bool.and_eq_true] at hk
      have := Nat.eq_of_beq_eq_true hk.1
      show 0 < n; omega
    | _ =>
      have hk : Nat.beq n 1 = true := hk
      have := Nat.eq_of_beq_eq_true hk
      show 0 < n; omega
theorem cells_get {w : World} {a : Addr} {n : Nat} {cs : List Value} (h : w.cells? base a n = some cs) : cs.length = n ∧ ∀ i v, cs[i]? = some v → w.cell? (a.add i) = some v := by
  unfold World.cells? at h
  split at h
  · have h1 := mapM_some_length h
    rw [List.length_range] at h1
    refine ⟨h1, fun i v hv => ?_⟩
    have hi : i < n := by rw [← h1]; exact (List.getElem?_eq_some_iff.1 hv).1
    rw [mapM_some_get h i i (by simp [hi]), hv]
  · cases h
theorem rowC_catZ (s : Sh) (xs ys : List s.T) : rowC s (xs ++ ys) = rowC s xs ++ rowC s ys := by unfold rowC; rw [List.flatMap_append]
theorem rowC_oneZ (s : Sh) (y : s.T) : rowC s [y] = clS s y := by unfold rowC; simp
theorem addr_flat {a : Addr} (h : a.spot = none) (k : Nat) : a.add k = ⟨a.block, a.off + k, none⟩ := by
  obtain ⟨b, o, sp⟩ := a
  subst h
  exact add_flat b o k
theorem first_spot {w : World} {a : Addr} {n : Nat} {cs : List Value} (hn : 0 < n) (h : w.cells? base (a.add (0 * n)) n = some cs) : a.spot = none ∧ a.block < w.heap.size := by
  obtain ⟨h1, h2⟩ := cells_get h
  have h3 := h2 0 (cs[0]'(by omega)) (List.getElem?_eq_getElem _)
  have e : (a.add (0 * n)).add 0 = a := by simp [Addr.add]
  rw [e] at h3
  exact ⟨World.cell?_spot h3, World.block_lt_of_cell? w _ h3⟩
/-- elements of plain data -/
theorem open_elems (hT : TDok P D) {e : Nat} {d : TD} (hl : lookD D e = some d) {s : Sh} (hs : shT D 9 e = some s) {k : Nat} (hk : okT D k e = true) {a : Addr} (hsp : a.spot = none) :
    ∀ (m : Nat), (∀ i, i < m → ∃ (fuel : Nat) (x : DataW Hy × List MemPlace), (W.cells? base (a.add (i * P.cellsOf e)) (P.cellsOf e)).bind (DataW.trod enc P W base sp held fuel e) = some x) →
      ∃ ys : List s.T, ys.length = m ∧ (∀ y, y ∈ ys → okS s y) ∧ Cells W a.block a.off (rowC s ys) := by
  have hc := cellsOf_eq hT hl
  intro m
  induction m with
  | zero => intro _; exact ⟨[], rfl, fun y h => absurd h (by simp), fun j v hj => by simp [rowC] at hj⟩
  | succ m ih =>
    intro h
    obtain ⟨ys, h1, h2, h3⟩ := ih (fun i hi => h i (by omega))
    obtain ⟨fuel, x, hx⟩ := h m (by omega)
    rw [Option.bind_eq_some_iff] at hx
    obtain ⟨cs, hcs, hx⟩ := hx
    obtain ⟨y, hy, rfl⟩ := open_sh hT 9 e s hs k hk fuel cs x hx
    obtain ⟨h4, h5⟩ := cells_get hcs
    have hsz := clS_len s y hy
    have hlen := rowC_len s ys h2
    rw [hc] at h4 h5
    refine ⟨ys ++ [y], by simp [h1], fun z hz => ?_, fun j v hj => ?_⟩
    · rcases List.mem_append.1 hz with q | q
      · exact h2 z q
      · rw [List.mem_singleton.1 q]; exact hy
    · rw [rowC_catZ, rowC_oneZ] at hj
      by_cases q : j < (rowC s ys).length
      · rw [List.getElem?_append_left q] at hj
        exact h3 j v hj
      · rw [List.getElem?_append_right (by omega)] at hj
        have := h5 _ v hj
        rw [addr_flat hsp, add_flat] at this
        rw [← this]
        congr 2
        have e1 : (rowC s ys).length = m * d.n := by rw [hlen, h1]; congr 1; omega
        rw [e1] at q ⊢
        omega
/-- a slice of plain data: what its cell says -/
def RowV (W : World) (s : Sh) (v : Value) (ys : List s.T) : Prop := ∃ A cap, v = .slice A ys.length cap ∧ (∀ y, y ∈ ys → okS s y) ∧ Rd W A (rowC s ys) ∧ ys.length ≤ cap ∧ cap ≤ maxLen ∧ (0 < cap → flat A) ∧ (0 < cap → ∀ b, oblk A = some b → b < W.heap.size)
theorem open_slice (hT : TDok P D) {t e : Nat} (hu : P.underlying t = some (.slice e)) {d : TD} (hl : lookD D e = some d) {s : Sh} (hs : shT D 9 e = some s) {k : Nat} (hk : okT D k e = true) {fuel : Nat} {cs : List Value} {x : DataW Hy × List MemPlace}
    (h : DataW.trod enc P W base (fun _ => true) held fuel t cs = some x) : ∃ v ys, cs = [v] ∧ RowV W s v ys := by
  have hc := cellsOf_eq hT hl
  have hp := okT_pos hk hl
  rcases DataW.trod_slice hu h with ⟨h1, _⟩ | ⟨a, len, cap, elems, rest, n, _, h1, _, _, h2, h3, h4, h5, h6, _⟩
  · exact ⟨_, [], h1, none, 0, rfl, fun y h => absurd h (by simp), Rd.nil _ _, Nat.le_refl _, Nat.zero_le _, fun h => absurd h (by omega), fun h => absurd h (by omega)⟩
  · have hfl : 0 < cap → a.spot = none ∧ a.block < W.heap.size := by
      intro hcap
      by_cases q : 0 < len
      · have := h5 0 q
        rw [List.getElem?_eq_getElem (by omega), Option.bind_eq_some_iff] at this
        obtain ⟨c1, g1, _⟩ := this
        rw [hc] at g1
        exact first_spot hp g1
      · obtain ⟨g0, g⟩ := h6 rfl
        have hl0 : len = 0 := by omega
        have := g 0 (by omega)
        rw [List.getElem?_eq_getElem (by omega), Option.bind_eq_some_iff] at this
        obtain ⟨c1, g1, _⟩ := this
        rw [hc, hl0] at g1
        exact first_spot hp g1
    by_cases q : 0 < cap
    · obtain ⟨hsp, hbl⟩ := hfl q
      obtain ⟨ys, g1, g2, g3⟩ := open_elems (enc := enc) (base := base) (sp := fun _ => true) (held := held) hT hl hs hk hsp len (fun i hi => ⟨n, elems[i]'(by omega), by rw [h5 i hi, List.getElem?_eq_getElem]⟩)
      have ea : some a = some (⟨a.block, a.off, none⟩ : Addr) := by obtain ⟨b, o, sp⟩ := a; subst hsp; rfl
      refine ⟨_, ys, h1, some a, cap, by rw [g1], g2, ⟨fun _ => ?_, ?_⟩, by omega, h3, fun _ => ?_, fun _ b hb => ?_⟩
      · rw [ea]; rfl
      · exact g3
      · unfold flat; rw [ea]; rfl
      · cases hb; exact hbl
    · have hl0 : len = 0 := by omega
      subst hl0
      exact ⟨_, [], h1, some a, cap, rfl, fun y h => absurd h (by simp), Rd.nil _ _, Nat.zero_le _, h3, fun h => absurd h q, fun h => absurd h q⟩
theorem castL_id {a : Sh} (xs : List a.T) : castL a a xs = some xs := by unfold castL; exact dif_pos rfl
theorem ext_emb : ∀ (a : Sh) (y : a.T), ext a (emb a y) = some y
  | .N k, y => by cases k <;> rfl
  | .Z, _ => rfl
  | .B, _ => rfl
  | .S, _ => rfl
  | .U, _ => rfl
  | .one a, y => ext_emb a y
  | .pr a b, y => by
    show (match ext a (emb a y.1), ext b (emb b y.2) with | some x, some z => some ((x, z) : a.T × b.T) | _, _ => none) = _
    rw [ext_emb a, ext_emb b]; rfl
  | .an k n, y => by
    have e : (kq k k && Nat.beq n n) = true := by rw [show kq k k = true by cases k <;> rfl, Nat.beq_refl]; rfl
    show (bif kq k k && Nat.beq n n then some (y : List Nat) else none) = _
    rw [e]; rfl
  | .az n, y => by
    show (bif Nat.beq n n then some (y : List Int) else none) = _
    rw [Nat.beq_refl]; rfl
/-- what came in, as data -/
def Opn (W : World) (ν : NV) (n : Nat) (H : List (Nat × Nat × HC)) (x : VS) (cs : List Value) (g : Bool) : Prop :=
  ∃ (ν' : NV) (n' : Nat) (H' : List (Nat × Nat × HC)) (sv : SV) (y : Tup x.lv), n ≤ n' ∧ Agr n ν ν' ∧ Ro ν' n' H' W ∧ (∀ c, c < n → hget H' c = hget H c) ∧ sv.ok ν' n' ∧ cls ν' sv = cs ∧ sv.lay.agg = g ∧ sv.st = true ∧ okV x y ∧
    ∀ H'', (∀ c, c < n' → hget H'' c = hget H' c) → extV H'' x sv .ud = some y
theorem hget_ge {ν : NV} {n : Nat} {H : List (Nat × Nat × HC)} (M : Ro ν n H W) {c : Nat} (hc : n ≤ c) : hget H c = none := by
  cases h : hget H c with
  | none => rfl
  | some x => exact absurd (M.mem.nm c x h) (by omega)
/-- a row that came in, once more -/
theorem Opn.ro {ν : NV} {n : Nat} {H : List (Nat × Nat × HC)} (M : Ro ν n H W) {s : Sh} {v : Value} {ys : List s.T} (h : RowV W s v ys) : Opn W ν n H (.ro s) [v] false := by
  obtain ⟨A, cap, rfl, h1, h2, h3, h4, h5, _⟩ := h
  obtain ⟨ν', g1, g2, g3, g4⟩ := M.row h2 h1 h3 h4 h5
  refine ⟨ν', n + 1, _, _, ys, by omega, g1, g2, fun c hc => ?_, g3, ?_, rfl, rfl, ⟨fun e he => h1 e he, Nat.le_trans h3 h4⟩, fun H'' hH => ?_⟩
  · rw [hget_cons, if_neg (by omega)]
  · have := cv_one ν' (v := .sl n [] n ⟨true, 0⟩ ⟨false, ys.length⟩ true false) rfl rfl
    rw [this, g4]
  · have e := hH n (by omega)
    rw [hget_cons, if_pos rfl] at e
    show cont s H'' _ = _
    unfold cont
    simp only [e]
    show (match castL s s ys with | some xs => some (cutL _ _ true xs) | none => none) = some ys
    rw [castL_id]
    rfl
/-- what may lie in a struct -/
def noQ : VS → Bool
  | .rq _ => false
  | .pr a b => noQ a && noQ b
  | .one a => noQ a
  | _ => true
theorem shL_agg {g : Nat → Option Sh} {l : List (Nat × Nat)} {a : Sh} (h : shL g l = some a) : a.lay.agg = true := by
  cases l with
  | nil => cases h; rfl
  | cons x r =>
    cases r with
    | nil =>
      have h : (match g x.1 with | some v => some (Sh.one v) | none => none) = some a := h
      cases hg : g x.1 with
      | none => rw [hg] at h; cases h
      | some b => rw [hg] at h; cases h; rfl
    | cons x' r' =>
      have h : (match g x.1, shL g (x' :: r') with | some a, some c => some (Sh.pr a c) | _, _ => none) = some a := h
      cases hg : g x.1 with
      | none => rw [hg] at h; cases h
      | some b =>
        cases hr : shL g (x' :: r') with
        | none => rw [hg, hr] at h; cases h
        | some c => rw [hg, hr] at h; cases h; rfl
theorem shT_agg {f t : Nat} {a : Sh} {d : TD} (h : shT D f t = some a) (hl : lookD D t = some d) : a.lay.agg = agg2 d := by
  cases f with
  | zero => cases h
  | succ f =>
    unfold shT at h
    rw [hl] at h
    obtain ⟨kd, n, b, e⟩ := d
    cases kd with
    | b => cases h; rfl
    | s => cases h; rfl
    | i κ => cases κ <;> cases h <;> rfl
    | pt => cases h
    | sl e => cases h
    | o => cases h
    | st l => exact shL_agg h
    | ar m u =>
      have h : (match lookD D u with
        | some ⟨.i .i64, _, _, _⟩ => some (Sh.az m)
        | some ⟨.i κ', _, _, _⟩ => some (Sh.an κ' m)
        | _ => none) = some a := h
      cases hu : lookD D u with
      | none => rw [hu] at h; cases h
      | some d =>
        rw [hu] at h
        obtain ⟨kd, n', b', e'⟩ := d
        cases kd with
        | i κ => cases κ <;> cases h <;> rfl
        | _ => cases h
theorem Opn.v {ν : NV} {n : Nat} {H : List (Nat × Nat × HC)} (M : Ro ν n H W) {a : Sh} {y : a.T} (h : okS a y) : Opn W ν n H (.v a) (clS a y) a.lay.agg :=
  ⟨ν, n, H, emb a y, y, Nat.le_refl _, Agr.refl _ _, M, fun _ _ => rfl, (emb_ok ν n a y).2 h, emb_cls ν a y, by rw [emb_lay], emb_st a y, h, fun _ _ => ext_emb a y⟩
theorem Opn.one {ν : NV} {n : Nat} {H : List (Nat × Nat × HC)} {a : VS} {cs : List Value} {g : Bool} (h : Opn W ν n H a cs g) : Opn W ν n H (.one a) cs true := by
  obtain ⟨ν', n', H', sv, y, h1, h2, h3, h4, h5, h6, h7, h8, h9, h10⟩ := h
  exact ⟨ν', n', H', .one sv, y, h1, h2, h3, h4, h5, h6, rfl, h8, h9, fun H'' hH => h10 H'' hH⟩
theorem Opn.pr {ν : NV} {n : Nat} {H : List (Nat × Nat × HC)} {a b : VS} {cs ds : List Value} {g g' : Bool} (h : Opn W ν n H a cs g) (k : ∀ (ν' : NV) (n' : Nat) (H' : List (Nat × Nat × HC)), Ro ν' n' H' W → Opn W ν' n' H' b ds g') : Opn W ν n H (.pr a b) (cs ++ ds) true := by
  obtain ⟨ν1, n1, H1, sv, y, h1, h2, h3, h4, h5, h6, h7, h8, h9, h10⟩ := h
  obtain ⟨ν2, n2, H2, sw, z, k1, k2, k3, k4, k5, k6, k7, k8, k9, k10⟩ := k ν1 n1 H1 h3
  refine ⟨ν2, n2, H2, .pr sv sw, tcat a.lv b.lv y z, by omega, h2.trans k2 h1, k3, fun c hc => (k4 c (by omega)).trans (h4 c hc), ⟨ok_mono k1 sv (ok_agr k2 sv h5).1, k5⟩, ?_, rfl, ?_, ?_, fun H'' hH => ?_⟩
  · show cls ν2 sv ++ cls ν2 sw = _
    rw [cls_agr k2 h5, h6, k6]
  · show (sv.st && sw.st) = true
    rw [h8, k8]; rfl
  · show okV a (tfst a.lv b.lv (tcat a.lv b.lv y z)) ∧ okV b (tsnd a.lv b.lv (tcat a.lv b.lv y z))
    rw [tfst_cat, tsnd_cat]
    exact ⟨h9, k9⟩
  · show (match extV H'' a sv .ud, extV H'' b sw .ud with | some p, some q => some (tcat a.lv b.lv p q) | _, _ => none) = _
    rw [h10 H'' (fun c hc => (hH c (by omega)).trans (k4 c hc)), k10 H'' hH]; rfl
theorem open_vl (hT : TDok P D) {g : Nat → Option VS} {m : Nat} {cs : List Value} (hcs : cs.length = m) :
    ∀ (l : List (Nat × Nat)) (x : VS) (o : Nat), vsL g l = some x → offL D l o m = true → (∀ u, u ∈ l → ∀ b, g u.1 = some b → ∀ (ν : NV) (n : Nat) (H : List (Nat × Nat × HC)), Ro ν n H W → ∃ q, Opn W ν n H b ((cs.drop u.2).take (P.cellsOf u.1)) q) →
      ∀ (ν : NV) (n : Nat) (H : List (Nat × Nat × HC)), Ro ν n H W → Opn W ν n H x (cs.drop o) true := by
  have one : ∀ (u : Nat × Nat) (r : List (Nat × Nat)) (o : Nat), offL D (u :: r) o m = true → ∃ k, offL D r (o + k) m = true ∧ (cs.drop u.2).take (P.cellsOf u.1) = (cs.drop o).take k := by
    intro x r o ho
    have ho : (Nat.beq x.2 o && (match lookD D x.1 with | some d => offL D r (o + d.n) m | none => false)) = true := ho
    rw [Bool.and_eq_true] at ho
    obtain ⟨h1, h2⟩ := ho
    have h1 := Nat.eq_of_beq_eq_true h1
    cases hd : lookD D x.1 with
    | none => rw [hd] at h2; cases h2
    | some d =>
      rw [hd] at h2
      exact ⟨d.n, h2, by rw [cellsOf_eq hT hd, h1]⟩
  intro l
  induction l with
  | nil =>
    intro x o hs ho _ ν n H M
    cases hs
    have ho : Nat.beq o m = true := ho
    have := Nat.eq_of_beq_eq_true ho
    rw [List.drop_eq_nil_of_le (by omega)]
    exact Opn.v M (a := .U) (y := ()) trivial
  | cons u r ih =>
    cases r with
    | nil =>
      intro x o hs ho hx ν n H M
      have hs : (match g u.1 with | some v => some (VS.one v) | none => none) = some x := hs
      cases hg : g u.1 with
      | none => rw [hg] at hs; cases hs
      | some b =>
        rw [hg] at hs
        cases hs
        obtain ⟨k, h1, h2⟩ := one u [] o ho
        have h1 : Nat.beq (o + k) m = true := h1
        have h1 := Nat.eq_of_beq_eq_true h1
        obtain ⟨q, hq⟩ := hx u (List.mem_cons_self ..) b hg ν n H M
        rw [h2, List.take_of_length_le (by rw [List.length_drop]; omega)] at hq
        exact hq.one
    | cons u' r' =>
      intro x o hs ho hx ν n H M
      have hs : (match g u.1, vsL g (u' :: r') with | some a, some c => some (VS.pr a c) | _, _ => none) = some x := hs
      cases hg : g u.1 with
      | none => rw [hg] at hs; cases hs
      | some b =>
        cases hr : vsL g (u' :: r') with
        | none => rw [hg, hr] at hs; cases hs
        | some c =>
          rw [hg, hr] at hs
          cases hs
          obtain ⟨k, h1, h2⟩ := one u (u' :: r') o ho
          obtain ⟨q, hq⟩ := hx u (List.mem_cons_self ..) b hg ν n H M
          rw [h2] at hq
          have := hq.pr (ds := cs.drop (o + k)) (b := c) (g' := true) (fun ν' n' H' M' => ih c (o + k) hr h1 (fun u hu => hx u (List.mem_cons_of_mem _ hu)) ν' n' H' M')
          rw [← List.drop_drop, List.take_append_drop] at this
          exact this
/-- values of any shape but slices of slices -/
theorem open_vs (hT : TDok P D) : ∀ (f t : Nat) (x : VS), vsT D f t = some x → noQ x = true → ∀ (k : Nat), okT D k t = true → ∀ (fuel : Nat) (cs : List Value) (d : DataW Hy × List MemPlace), DataW.trod enc P W base (fun _ => true) held fuel t cs = some d →
    ∀ (ν : NV) (n : Nat) (H : List (Nat × Nat × HC)), Ro ν n H W → ∃ e, lookD D t = some e ∧ Opn W ν n H x cs (agg2 e) := by
  intro f
  induction f with
  | zero => intro t x h; cases h
  | succ f ih =>
    intro t x h hq k hk fuel cs dd hx ν n H M
    cases hl : lookD D t with
    | none => cases k with
      | zero => cases hk
      | succ k => unfold okT at hk; rw [hl] at hk; cases hk
    | some d =>
      refine ⟨d, rfl, ?_⟩
      unfold vsT at h
      cases hs : shT D 9 t with
      | some a =>
        rw [hs] at h
        cases h
        obtain ⟨y, hy, rfl⟩ := open_sh hT 9 t a hs k hk fuel cs dd hx
        rw [← shT_agg hs hl]
        exact Opn.v M hy
      | none =>
        rw [hs, hl] at h
        obtain ⟨kd, sz, b, e⟩ := d
        have hun := hT.un t _ hl
        cases k with
        | zero => cases hk
        | succ k =>
          unfold okT at hk
          rw [hl] at hk
          cases kd with
          | sl u =>
            have hk : (Nat.beq sz 1 && okT D k u) = true := hk
            rw [Bool.and_eq_true] at hk
            have h : (match shT D 9 u with
              | some a => some (VS.ro a)
              | none => match lookD D u with
                | some ⟨.sl e2, _, _, _⟩ => (match shT D 9 e2 with
                  | some a => some (VS.rq a)
                  | none => none)
                | _ => none) = some x := h
            cases hu : lookD D u with
            | none =>
              have : shT D 9 u = none := by unfold shT; rw [hu]
              rw [this, hu] at h; cases h
            | some du =>
              cases hsu : shT D 9 u with
              | some a =>
                rw [hsu] at h
                cases h
                obtain ⟨v, ys, rfl, hrow⟩ := open_slice hT hun hu hsu hk.2 hx
                exact Opn.ro M hrow
              | none =>
                rw [hsu, hu] at h
                obtain ⟨kd, n', b', e'⟩ := du
                cases kd with
                | sl e2 =>
                  have h : (match shT D 9 e2 with
                    | some a => some (VS.rq a)
                    | none => none) = some x := h
                  cases h2 : shT D 9 e2 with
                  | none => rw [h2] at h; cases h
                  | some a => rw [h2] at h; cases h; cases hq
                | _ => cases h
          | st l =>
            have hk : (Nat.blt 0 sz && offL D l 0 sz && l.all (fun x => okT D k x.1)) = true := hk
            simp only [Bool.and_eq_true] at hk
            obtain ⟨⟨k1, k2⟩, k3⟩ := hk
            obtain ⟨fs, hf, hm⟩ := hun
            obtain ⟨xs, j, _, _, h1, h2, h3⟩ := DataW.trod_struct hf hx
            rw [cellsOf_eq hT hl] at h1
            have h : vsL (vsT D f) l = some x := h
            have hnq : ∀ (l' : List (Nat × Nat)) (x' : VS), vsL (vsT D f) l' = some x' → noQ x' = true → ∀ u, u ∈ l' → ∀ b, vsT D f u.1 = some b → noQ b = true := by
              intro l'
              induction l' with
              | nil => intro _ _ _ u hu; cases hu
              | cons u r ihr =>
                intro x' hx' hq' v hv b hb
                cases r with
                | nil =>
                  have hx' : (match vsT D f u.1 with | some v => some (VS.one v) | none => none) = some x' := hx'
                  rw [List.mem_singleton.1 hv] at hb
                  rw [hb] at hx'; cases hx'; exact hq'
                | cons u' r' =>
                  have hx' : (match vsT D f u.1, vsL (vsT D f) (u' :: r') with | some a, some c => some (VS.pr a c) | _, _ => none) = some x' := hx'
                  cases hg : vsT D f u.1 with
                  | none => rw [hg] at hx'; cases hx'
                  | some a =>
                    cases hr : vsL (vsT D f) (u' :: r') with
                    | none => rw [hg, hr] at hx'; cases hx'
                    | some c =>
                      rw [hg, hr] at hx'
                      cases hx'
                      have hq' : (noQ a && noQ c) = true := hq'
                      rw [Bool.and_eq_true] at hq'
                      rcases List.mem_cons.1 hv with q | q
                      · rw [q, hg] at hb; cases hb; exact hq'.1
                      · exact ihr c hr hq'.2 v q b hb
            have := open_vl (W := W) (g := vsT D f) hT h1 l x 0 h k2 (fun u hu b hb ν' n' H' M' => ?_) ν n H M
            · rw [List.drop_zero] at this
              exact this
            · have hu2 := hu
              rw [← hm] at hu
              obtain ⟨fd, hfd, rfl⟩ := List.mem_map.1 hu
              obtain ⟨i, hi, rfl⟩ := List.mem_iff_getElem.1 hfd
              have hi' : i < fs.size := by simpa using hi
              have := h3 i fs[i] (by simp [hi'])
              rw [List.getElem?_eq_getElem (by omega)] at this
              obtain ⟨e2, _, ho⟩ := ih _ b hb (hnq l x h hq _ hu2 b hb) k (lookD_all k3 hu2) j _ _ (by simpa using this) ν' n' H' M'
              exact ⟨_, ho⟩
          | _ => cases h
/-! ### Slices of slices -/
theorem EachQ.app {w : World} {DD : List Nat} {a : Sh} : ∀ {ps : List (Option Addr × Nat)} {xss : List (List a.T)} {qs : List (Option Addr × Nat)} {yss : List (List a.T)}, EachQ w DD a ps xss → EachQ w DD a qs yss → EachQ w DD a (ps ++ qs) (xss ++ yss)
  | [], [], _, _, _, h => h
  | _ :: _, _ :: _, _, _, g, h => ⟨g.1, EachQ.app g.2 h⟩
  | [], _ :: _, _, _, g, _ => g.elim
  | _ :: _, [], _, _, g, _ => g.elim
theorem hdq_app {α : Type} : ∀ {ps : List (Option Addr × Nat)} {xss : List (List α)} (_ : ps.length = xss.length) (q : Option Addr × Nat) (y : List α), hdq (ps ++ [q]) (xss ++ [y]) = hdq ps xss ++ [.slice q.1 y.length q.2]
  | [], [], _, _, _ => rfl
  | p :: ps, x :: xss, h, q, y => by
    show _ :: hdq (ps ++ [q]) (xss ++ [y]) = _ :: (hdq ps xss ++ _)
    rw [hdq_app (by simpa using h)]
  | [], _ :: _, h, _, _ => by simp at h
  | _ :: _, [], h, _, _ => by simp at h
theorem hdq_len {α : Type} {ps : List (Option Addr × Nat)} {xss : List (List α)} (h : ps.length = xss.length) : (hdq ps xss).length = xss.length := by unfold hdq; rw [List.length_zipWith, h, Nat.min_self]
theorem open_heads (hT : TDok P D) {e e2 : Nat} (hu : P.underlying e = some (.slice e2)) {d1 d : TD} (hl1 : lookD D e = some d1) (h1 : d1.n = 1) (hl : lookD D e2 = some d) {s : Sh} (hs : shT D 9 e2 = some s) {k : Nat} (hk : okT D k e2 = true) {a : Addr} (hsp : a.spot = none) :
    ∀ (m : Nat), (∀ i, i < m → ∃ (fuel : Nat) (x : DataW Hy × List MemPlace), (W.cells? base (a.add (i * P.cellsOf e)) (P.cellsOf e)).bind (DataW.trod enc P W base (fun _ => true) held fuel e) = some x) →
      ∃ (ps : List (Option Addr × Nat)) (xss : List (List s.T)), ps.length = xss.length ∧ xss.length = m ∧ (∀ l, l ∈ xss → (∀ y, y ∈ l → okS s y) ∧ l.length ≤ 9223372036854775807) ∧ Cells W a.block a.off (hdq ps xss) ∧ EachQ W (List.range W.heap.size) s ps xss := by
  have hc := cellsOf_eq hT hl1
  rw [h1] at hc
  intro m
  induction m with
  | zero => intro _; exact ⟨[], [], rfl, rfl, fun y h => absurd h (by simp), fun j v hj => by simp [hdq] at hj, trivial⟩
  | succ m ih =>
    intro h
    obtain ⟨ps, xss, g1, g2, g3, g4, g5⟩ := ih (fun i hi => h i (by omega))
    obtain ⟨fuel, x, hx⟩ := h m (by omega)
    rw [Option.bind_eq_some_iff] at hx
    obtain ⟨cs, hcs, hx⟩ := hx
    obtain ⟨v, ys, rfl, A, cap, rfl, r1, r2, r3, r4, r5, r6⟩ := open_slice hT hu hl hs hk hx
    obtain ⟨_, h5⟩ := cells_get hcs
    rw [hc, Nat.mul_one] at h5
    have hv := h5 0 _ rfl
    refine ⟨ps ++ [(A, cap)], xss ++ [ys], by simp [g1], by simp [g2], fun l hl' => ?_, fun j v hj => ?_, g5.app ⟨⟨r2, r1, r3, r4, r5, fun hne b hb => ?_⟩, trivial⟩⟩
    · rcases List.mem_append.1 hl' with q | q
      · exact g3 l q
      · rw [List.mem_singleton.1 q]
        exact ⟨r1, Nat.le_trans r3 r4⟩
    · rw [hdq_app g1] at hj
      have hlen := hdq_len g1
      by_cases q : j < xss.length
      · rw [List.getElem?_append_left (by omega)] at hj
        exact g4 j v hj
      · rw [List.getElem?_append_right (by omega), hlen] at hj
        have hj1 := (List.getElem?_eq_some_iff.1 hj).1
        have ej : j = xss.length := by simp at hj1; omega
        subst ej
        rw [Nat.sub_self] at hj
        cases hj
        rw [addr_flat hsp, add_flat] at hv
        rw [g2]
        exact hv
    · have hlen : ys ≠ [] := fun e0 => hne (by rw [e0]; rfl)
      have : 0 < ys.length := by cases ys with
        | nil => exact absurd rfl hlen
        | cons _ _ => simp
      exact List.mem_range.2 (r6 (by omega) b hb)
theorem has_lt {w : World} {r : Reach} {b0 : Nat} {a : Addr} {e n : Nat} (h : w.has P r b0 a e n) : a.spot = none ∧ a.block < w.heap.size := by
  obtain ⟨_, h1, row, cells, h2, _⟩ := h
  refine ⟨h1, ?_⟩
  unfold World.shape? at h2
  cases hh : w.heap[a.block]? with
  | none => rw [hh] at h2; cases h2
  | some o => exact (Array.getElem?_eq_some_iff.1 hh).1
theorem Opn.rq (hT : TDok P D) {ν : NV} {n : Nat} {H : List (Nat × Nat × HC)} (M : Ro ν n H W) {t e e2 : Nat} (ht : P.underlying t = some (.slice e)) (hu : P.underlying e = some (.slice e2)) {d1 d : TD} (hl1 : lookD D e = some d1) (h1 : d1.n = 1) (hl : lookD D e2 = some d) {s : Sh} (hs : shT D 9 e2 = some s) {k : Nat} (hk : okT D k e2 = true)
    {r : Reach} {b0 : Nat} {v : Value} (hval : Value.okWide P W r b0 t v) {fuel : Nat} {x : DataW Hy × List MemPlace} (h : DataW.trod enc P W base (fun _ => true) held fuel t v.cells.toList = some x) : Opn W ν n H (.rq s) [v] false := by
  have go : ∀ (A : Option Addr) (len cap : Nat) (ps : List (Option Addr × Nat)) (xss : List (List s.T)), ps.length = xss.length → xss.length = len → (∀ l, l ∈ xss → (∀ y, y ∈ l → okS s y) ∧ l.length ≤ 9223372036854775807) → Rd W A (hdq ps xss) → EachQ W (List.range W.heap.size) s ps xss → len ≤ cap → cap ≤ maxLen → (0 < cap → flat A) → (∀ b, oblk A = some b → b < W.heap.size) → Opn W ν n H (.rq s) [.slice A len cap] false := by
    intro A len cap ps xss g1 g2 g3 g4 g5 g6 g7 g8 g9
    subst g2
    obtain ⟨ν2, k1, k2, k3, k4, k5⟩ := piece_new (s := 0) (h := .rq s ⟨false, xss.length⟩ xss) (A := A) (cap := cap) (m := xss.length) (DD := List.range W.heap.size) (l := .C) (lo' := false) M.mem
      (fun ν2 h => ⟨by rw [h], by rw [h], rfl, by rw [h]; exact g6, by rw [h]; exact g7, by rw [h]; exact g8, ps, by rw [h]; exact g4, by rw [h]; exact g5, by rw [h]; exact fun b hb => List.mem_range.2 (g9 b hb)⟩)
      (fun b hb => List.mem_range.1 hb) (by intro h; cases h) (fun d y hd hy => by rw [M.ro d y hd] at hy; cases hy) (fun _ _ _ => .inr (.inr trivial)) g6 g7 g8
    refine ⟨ν2, n + 1, _, _, xss, by omega, k1, ⟨k3, fun d y hd => ?_⟩, fun c hc => ?_, k4, ?_, rfl, rfl, ⟨g3, Nat.le_trans g6 g7⟩, fun H'' hH => ?_⟩
    · rw [hget_cons] at hd
      split at hd
      · cases hd; rfl
      · exact M.ro d y hd
    · rw [hget_cons, if_neg (by omega)]
    · have := cv_one ν2 (v := .sl n [] n ⟨true, 0⟩ ⟨false, xss.length⟩ true false) rfl rfl
      rw [this, k5]
    · have e := hH n (by omega)
      rw [hget_cons, if_pos rfl] at e
      show contq s H'' _ = _
      unfold contq
      simp only [e]
      exact (dif_pos trivial).trans rfl
  have hc := cellsOf_eq hT hl1
  rw [h1] at hc
  obtain ⟨A, len, cap, rfl⟩ := okWide_slice ht hval
  rcases DataW.trod_slice ht h with ⟨hcs, _⟩ | ⟨a, len', cap', elems, rest, m, _, hcs, _, _, h2, h3, h4, h5, _, _⟩
  · have hcs : [Value.slice A len cap] = [.slice none 0 0] := hcs
    cases hcs
    exact go none 0 0 [] [] rfl rfl (fun l h => absurd h (by simp)) (Rd.nil _ _) trivial (Nat.le_refl _) (Nat.zero_le _) (fun h => absurd h (by omega)) (fun b hb => by cases hb)
  · have hcs : [Value.slice A len cap] = [.slice (some a) len' cap'] := hcs
    cases hcs
    simp only [Value.okWide, ht, Cell.okWide, Cell.ok] at hval
    obtain ⟨hsp, hbl⟩ := has_lt hval.2.2
    obtain ⟨ps, xss, g1, g2, g3, g4, g5⟩ := open_heads (enc := enc) (base := base) (held := held) hT hu hl1 h1 hl hs hk hsp len (fun i hi => ⟨m, elems[i]'(by omega), by rw [h5 i hi, List.getElem?_eq_getElem]⟩)
    have ea : some a = some (⟨a.block, a.off, none⟩ : Addr) := by obtain ⟨b, o, sp⟩ := a; have hsp : sp = none := hsp; subst hsp; rfl
    exact go (some a) len cap ps xss g1 g2 g3 ⟨fun _ => by rw [ea]; rfl, g4⟩ g5 h2 h3 (fun _ => by unfold flat; rw [ea]; rfl) (fun b hb => by cases hb; exact hbl)
/-! ### A law's arguments -/
def parT (D : List (Nat × TD)) (t : Nat) : Option VS := bif okT D 9 t then (match vsT D 9 t with
  | some (.rq a) => some (.rq a)
  | some x => bif noQ x then some x else none
  | none => none) else none
def parL (D : List (Nat × TD)) : List Nat → Option (List VS)
  | [] => some []
  | t :: r => match parT D t, parL D r with | some x, some l => some (x :: l) | _, _ => none
/-- a value's cells tell it -/
theorem val_cells {k t : Nat} {d : TD} (hT : TDok P D) (hl : lookD D t = some d) {f : Nat} {y : VS} (hy : vsT D f t = some y) {r : Reach} {b0 : Nat} {v : Value} (hval : Value.okWide P W r b0 t v) : v = if agg2 d = true then .agg v.cells else v.cells.toList.headD v := by
  have hun := hT.un t _ hl
  obtain ⟨kd, n, b, e⟩ := d
  have ag : ∀ cs : Array Value, (Value.agg cs).cells = cs := fun cs => rfl
  cases kd with
  | b => obtain ⟨z, rfl⟩ := okWide_bool hun hval; rfl
  | i κ => obtain ⟨z, rfl⟩ := okWide_int hun hval; rfl
  | s => obtain ⟨z, rfl⟩ := okWide_string hun hval; rfl
  | sl u => obtain ⟨A, l, c, rfl⟩ := okWide_slice hun hval; rfl
  | ar m u =>
    have hun : P.underlying t = some (.array m u) := hun
    simp only [Value.okWide, hun] at hval
    obtain ⟨cs, rfl, _⟩ := hval
    rfl
  | st l =>
    obtain ⟨fs, hun, _⟩ := hun
    simp only [Value.okWide, hun] at hval
    obtain ⟨cs, rfl, _⟩ := hval
    rfl
  | pt => cases f with
    | zero => cases hy
    | succ f =>
      unfold vsT at hy
      have : shT D 9 t = none := by unfold shT; rw [hl]
      rw [this, hl] at hy; cases hy
  | o => cases f with
    | zero => cases hy
    | succ f =>
      unfold vsT at hy
      have : shT D 9 t = none := by unfold shT; rw [hl]
      rw [this, hl] at hy; cases hy
theorem open_par (hT : TDok P D) {t : Nat} {x : VS} (hp : parT D t = some x) {r : Reach} {b0 : Nat} {v : Value} (hval : Value.okWide P W r b0 t v) {d : DataW Hy} {pl : List MemPlace} (h : DataW.Trod enc P W base (fun _ => true) held t v d pl) {ν : NV} {n : Nat} {H : List (Nat × Nat × HC)} (M : Ro ν n H W) :
    ∃ e, lookD D t = some e ∧ Opn W ν n H x v.cells.toList (agg2 e) := by
  obtain ⟨fuel, hf⟩ := h
  unfold parT at hp
  cases hk : okT D 9 t with
  | false => rw [hk] at hp; cases hp
  | true =>
    rw [hk] at hp
    cases hv : vsT D 9 t with
    | none => rw [hv] at hp; cases hp
    | some y =>
      rw [hv] at hp
      have other : (∀ a, y ≠ .rq a) → ∃ e, lookD D t = some e ∧ Opn W ν n H x v.cells.toList (agg2 e) := by
        intro hne
        have hp : (bif noQ y then some y else none) = some x := by cases y <;> first | exact absurd rfl (hne _) | exact hp
        cases hq : noQ y with
        | false => rw [hq] at hp; cases hp
        | true =>
          rw [hq] at hp
          cases hp
          exact open_vs hT 9 t _ hv hq 9 hk fuel _ _ hf ν n H M
      cases y with
      | rq a =>
        cases hp
        cases hl : lookD D t with
        | none => unfold okT at hk; rw [hl] at hk; cases hk
        | some dd =>
          refine ⟨dd, rfl, ?_⟩
          unfold vsT at hv
          cases hs : shT D 9 t with
          | some b => rw [hs] at hv; cases hv
          | none =>
            rw [hs, hl] at hv
            obtain ⟨kd, sz, b, q⟩ := dd
            have hun := hT.un t _ hl
            unfold okT at hk
            rw [hl] at hk
            cases kd with
            | sl u =>
              have hk : (Nat.beq sz 1 && okT D 8 u) = true := hk
              rw [Bool.and_eq_true] at hk
              have hv : (match shT D 9 u with
                | some a => some (VS.ro a)
                | none => match lookD D u with
                  | some ⟨.sl e2, _, _, _⟩ => (match shT D 9 e2 with
                    | some a => some (VS.rq a)
                    | none => none)
                  | _ => none) = some (.rq a) := hv
              cases hsu : shT D 9 u with
              | some b => rw [hsu] at hv; cases hv
              | none =>
                cases hu : lookD D u with
                | none => rw [hsu, hu] at hv; cases hv
                | some du =>
                  rw [hsu, hu] at hv
                  obtain ⟨kd, n', b', q'⟩ := du
                  have hun2 := hT.un u _ hu
                  cases kd with
                  | sl e2 =>
                    have hv : (match shT D 9 e2 with
                      | some a => some (VS.rq a)
                      | none => none) = some (.rq a) := hv
                    cases h2 : shT D 9 e2 with
                    | none => rw [h2] at hv; cases hv
                    | some c =>
                      rw [h2] at hv
                      cases hv
                      have hk2 := hk.2
                      unfold okT at hk2
                      rw [hu] at hk2
                      have hk2 : (Nat.beq n' 1 && okT D 7 e2) = true := hk2
                      rw [Bool.and_eq_true] at hk2
                      cases he : lookD D e2 with
                      | none => have := hk2.2; unfold okT at this; rw [he] at this; cases this
                      | some d3 =>
                        have ho := Opn.rq (enc := enc) (base := base) (held := held) hT M hun hun2 hu (Nat.eq_of_beq_eq_true hk2.1) he h2 hk2.2 hval hf
                        obtain ⟨A, l, c, rfl⟩ := okWide_slice hun hval
                        exact ho
                  | _ => cases hv
            | st l =>
              have hv : vsL (vsT D 8) l = some (.rq a) := hv
              cases l with
              | nil => cases hv
              | cons u r =>
                cases r with
                | nil =>
                  have hv : (match vsT D 8 u.1 with | some v => some (VS.one v) | none => none) = some (.rq a) := hv
                  cases hg : vsT D 8 u.1 <;> rw [hg] at hv <;> cases hv
                | cons u' r' =>
                  have hv : (match vsT D 8 u.1, vsL (vsT D 8) (u' :: r') with | some a, some c => some (VS.pr a c) | _, _ => none) = some (.rq a) := hv
                  cases hg : vsT D 8 u.1 with
                  | none => rw [hg] at hv; cases hv
                  | some a => cases hr : vsL (vsT D 8) (u' :: r') <;> rw [hg, hr] at hv <;> cases hv
            | _ => cases hv
      | _ => exact other (fun a h => by cases h)
theorem parT_vs {t : Nat} {x : VS} (hp : parT D t = some x) : ∃ y, vsT D 9 t = some y := by
  unfold parT at hp
  cases hk : okT D 9 t with
  | false => rw [hk] at hp; cases hp
  | true =>
    rw [hk] at hp
    cases hv : vsT D 9 t with
    | none => rw [hv] at hp; cases hp
    | some y => exact ⟨y, rfl⟩
theorem open_args (hT : TDok P D) {r : Reach} {b0 : Nat} : ∀ (ts : List Nat) (ps : List VS), parL D ts = some ps → ∀ (vs : List Value) (ds : List (DataW Hy)) (pl : List MemPlace), DataW.TrodAll enc P W base (fun _ => true) held ts vs ds pl → (∀ (j : Nat) t v, ts[j]? = some t → vs[j]? = some v → Value.okWide P W r b0 t v) →
    ∀ (ν : NV) (n : Nat) (H : List (Nat × Nat × HC)), Ro ν n H W → ∃ (ν' : NV) (n' : Nat) (H' : List (Nat × Nat × HC)) (args : List SV) (y : Tup (lvs ps)), n ≤ n' ∧ Agr n ν ν' ∧ Ro ν' n' H' W ∧ (∀ c, c < n → hget H' c = hget H c) ∧ (∀ a, a ∈ args → a.ok ν' n') ∧ args.map (cv ν') = vs ∧ okA ps y ∧
      ∀ H'', (∀ c, c < n' → hget H'' c = hget H' c) → extA H'' ps args = some y := by
  intro ts
  induction ts with
  | nil =>
    intro ps hp vs ds pl hA hval ν n H M
    cases hp
    obtain ⟨rfl, rfl, rfl⟩ := trodAll_nil hA
    exact ⟨ν, n, H, [], (), Nat.le_refl _, Agr.refl _ _, M, fun _ _ => rfl, fun a h => (by cases h), rfl, trivial, fun _ _ => rfl⟩
  | cons t ts ih =>
    intro ps hp vs ds pl hA hval ν n H M
    have hp : (match parT D t, parL D ts with | some x, some l => some (x :: l) | _, _ => none) = some ps := hp
    cases h1 : parT D t with
    | none => rw [h1] at hp; cases hp
    | some x =>
      cases h2 : parL D ts with
      | none => rw [h1, h2] at hp; cases hp
      | some l =>
        rw [h1, h2] at hp
        cases hp
        obtain ⟨v, vs', d, ds', p, q, rfl, rfl, rfl, ht, hr⟩ := trodAll_cons hA
        obtain ⟨e, hl, ν1, n1, H1, sv, y, k1, k2, k3, k4, k5, k6, k7, k8, k9, k10⟩ := open_par hT h1 (hval 0 t v rfl rfl) ht M
        obtain ⟨ν2, n2, H2, args, z, g1, g2, g3, g4, g5, g6, g7, g8⟩ := ih l h2 vs' ds' q hr (fun j t v ht hv => hval (j + 1) t v ht hv) ν1 n1 H1 k3
        obtain ⟨yy, hyy⟩ := parT_vs h1
        have hvc := val_cells (k := 0) hT hl hyy (hval 0 t v rfl rfl)
        have hcv : cv ν1 sv = v := by
          rw [hvc]
          cases hg : agg2 e with
          | true =>
            rw [if_pos rfl, cv_agg ν1 (by rw [k7, hg]), k6]
          | false =>
            have := cv_one ν1 (v := sv) (by rw [k7, hg]) k8
            rw [if_neg (by decide), ← k6, this]
            rfl
        refine ⟨ν2, n2, H2, sv :: args, tcat x.lv (lvs l) y z, by omega, k2.trans g2 k1, g3, fun c hc => (g4 c (by omega)).trans (k4 c hc), fun a ha => ?_, ?_, ?_, fun H'' hH => ?_⟩
        · rcases List.mem_cons.1 ha with q | q
          · rw [q]; exact ok_mono g1 sv (ok_agr g2 sv k5).1
          · exact g5 a q
        · rw [List.map_cons, g6, cv_agr g2 k5, hcv]
        · show okV x (tfst x.lv (lvs l) (tcat x.lv (lvs l) y z)) ∧ okA l (tsnd x.lv (lvs l) (tcat x.lv (lvs l) y z))
          rw [tfst_cat, tsnd_cat]
          exact ⟨k9, g7⟩
        · show (match extV H'' x sv .ud, extA H'' l args with | some x', some y' => some (tcat x.lv (lvs l) x' y') | _, _ => none) = _
          rw [k10 H'' (fun c hc => (hH c (by omega)).trans (g4 c hc)), g8 H'' hH]; rfl
/-- a law that answers yes, whatever comes in -/
theorem law_row (hT : TDok P D) {r : Reach} {b0 : Nat} {g : Nat} {ps : List VS} {F : Tup (lvs ps) → Option Bool} (h : CtOk P g ⟨ps, [.v .B], F⟩) (hcall : callable P g) (hall : ∀ y, okA ps y → F y = some true) {ts : List Nat} (hp : parL D ts = some ps)
    {vs : List Value} {ds : List (DataW Hy)} {pl : List MemPlace} (hA : DataW.TrodAll enc P W base (fun _ => true) held ts vs ds pl) (hval : ∀ (j : Nat) t v, ts[j]? = some t → vs[j]? = some v → Value.okWide P W r b0 t v) : Calls P g vs.toArray W (Ret fun v w' => v = .bool true ∧ Ex W w') := by
  obtain ⟨ν, n, H, args, y, _, _, M, _, h1, h2, h3, h4⟩ := open_args hT ts ps hp vs ds pl hA hval ν0 0 [] (Ro.nil W)
  exact law_calls h hcall M h1 (h4 H (fun _ _ => rfl)) rfl (r := true) (hall y h3) rfl h2
theorem all_stays (hl : laidOutB P = true) : ∀ (ts : List Nat), ts.all (fun t => P.readableRec t && Nat.blt t P.types.size) = true → ∀ (vs : List Value) (ds : List (DataW Hy)) (pl : List MemPlace) (W' : World), DataW.TrodAll enc P W 0 (fun _ => true) true ts vs ds pl → Below W.heap.size W W' → DataW.TrodAll enc P W' 0 (fun b => decide (b < W.heap.size)) true ts vs ds pl := by
  intro ts
  induction ts with
  | nil =>
    intro _ vs ds pl W' hA _
    obtain ⟨rfl, rfl, rfl⟩ := trodAll_nil hA
    exact trodAll_mk0
  | cons t ts ih =>
    intro hc vs ds pl W' hA hb
    have hc : ((P.readableRec t && Nat.blt t P.types.size) && ts.all (fun t => P.readableRec t && Nat.blt t P.types.size)) = true := hc
    simp only [Bool.and_eq_true] at hc
    obtain ⟨v, vs', d, ds', p, q, rfl, rfl, rfl, ht, hr⟩ := trodAll_cons hA
    have ht' := ht
    obtain ⟨m, hm⟩ := ht'
    exact trodAll_cons_mk (Below.trod hl hc.1.1 (by simpa using hc.1.2) ht hb (DataW.trod_lt m _ _ _ hm)) (ih hc.2 vs' ds' q W' hr hb)
end
end Go.Proofs.Ytnagkhofkjjajaa
