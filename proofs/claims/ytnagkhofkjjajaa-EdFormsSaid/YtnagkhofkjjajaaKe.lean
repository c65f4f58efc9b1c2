/- A region that draws its order: what each operation yields may hang on the world, as long as it stays true while the others are carried out. -/
import Derived.Test.YtnagkhofkjjajaaKd
set_option linter.unusedVariables false
set_option linter.unusedSimpArgs false
namespace Go.Proofs.Ytnagkhofkjjajaa
open Go.RowKit

/-- What is said of what an operation yields; it stays true while memory grows. -/
structure SP where
  p : Bool → Value → World → Prop
  grow : ∀ b v w w', p b v w → w.grownBy w' none → p b v w'
  det : Bool
  still : det = true → ∀ b b' v w w', p b v w → p b' v w'
def SP.val (x : Value) : SP := ⟨fun _ v _ => v = x, fun _ _ _ _ h _ => h, true, fun _ _ _ _ _ _ h => h⟩
/-- of an operation that yields nothing -/
def SP.any : SP := ⟨fun _ _ _ => True, fun _ _ _ _ _ _ => trivial, true, fun _ _ _ _ _ _ _ => trivial⟩
/-- what is said may hang on whether the region's one store is done -/
def SP.mk' (p : Bool → Value → World → Prop) (h : ∀ b v w w', p b v w → w.grownBy w' none → p b v w') : SP := ⟨p, h, false, fun q => by cases q⟩
def spAt : List SP → Nat → SP
  | [], _ => SP.any
  | s :: _, 0 => s
  | _ :: r, i + 1 => spAt r i

/-- What the store leaves of what was said of the others. -/
def turnL (a : Act) (w w' : World) : List Oper → List SP → Prop
  | [], _ => True
  | _ :: r, [] => turnL a w w' r []
  | o :: r, s :: q => (s.det = true ∨ ∀ d v, o.dst = some d → a.tmps[d]? = some v → s.p false v w → s.p true v w') ∧ turnL a w w' r q
theorem turnL_at {a : Act} {w w' : World} : ∀ (l : List Oper) (SL : List SP), turnL a w w' l SL → ∀ (i : Nat) (o : Oper), l[i]? = some o → ∀ d v, o.dst = some d → a.tmps[d]? = some v → (spAt SL i).p false v w → (spAt SL i).p true v w' := by
  intro l
  induction l with
  | nil => intro SL _ i o h; simp at h
  | cons x r ih =>
    intro SL hT i o h d v hd hv hp
    cases SL with
    | nil =>
      cases i with
      | zero => trivial
      | succ i => exact ih [] hT i o (by simpa using h) d v hd hv hp
    | cons s q =>
      cases i with
      | zero =>
        simp at h
        subst h
        rcases hT.1 with e | e
        · exact s.still e _ _ _ _ _ hp
        · exact e d v hd hv hp
      | succ i => exact ih q hT.2 i o (by simpa using h) d v hd hv hp
def edge (o : Oper) (j : Nat) : Bool := o.after.toList.any fun e => Region.binds .any e && Nat.beq e.on j
def okBack (ops : Array Oper) (N : Nat) : Bool :=
  ops.toList.zipIdx.all fun x => (x.1.after.toList.all fun e => !Region.binds .any e || Nat.blt e.on x.2) && (match x.1.dst with | some d => Nat.blt d N | none => true)
def okReg (ops : Array Oper) : Bool :=
  ops.toList.zipIdx.all fun x => ops.toList.zipIdx.all fun y => Nat.beq x.2 y.2 || (match y.1.dst with
    | some t => (!(x.1.looksAt ops).contains t || edge x.1 y.2 || edge y.1 x.2) && (match x.1.dst with | some u => !Nat.beq u t | none => true)
    | none => true)
theorem okReg_spec {ops : Array Oper} (h : okReg ops = true) {i j : Nat} {o p : Oper} (hi : ops[i]? = some o) (hj : ops[j]? = some p) (hne : i ≠ j) {t : Nat} (ht : p.dst = some t) :
    (t ∈ o.looksAt ops → edge o j = true ∨ edge p i = true) ∧ o.dst ≠ some t := by
  have h1 := List.all_eq_true.1 h (o, i) (by rw [List.mem_zipIdx_iff_getElem?]; simpa using hi)
  have h2 := List.all_eq_true.1 h1 (p, j) (by rw [List.mem_zipIdx_iff_getElem?]; simpa using hj)
  simp only [ht] at h2
  have hb : Nat.beq i j = false := by
    cases q : Nat.beq i j with
    | false => rfl
    | true => exact absurd (Nat.eq_of_beq_eq_true q) hne
  rw [hb] at h2
  simp only [Bool.false_or, Bool.and_eq_true, Bool.or_eq_true, Bool.not_eq_true'] at h2
  refine ⟨fun hm => ?_, fun hd => ?_⟩
  · rcases h2.1 with (q | q) | q
    · simp only [List.contains_eq_mem, decide_eq_false_iff_not] at q; exact absurd hm q
    · exact .inl q
    · exact .inr q
  · have := h2.2
    rw [hd] at this
    simp at this

/-- Where an operation's slots come from: an operation of the region, or what stood there before. -/
def RD (SL : List SP) (b : Bool) (a a0 : Act) (w : World) : List (Nat × Option Nat) → Prop
  | [] => True
  | (t, some j) :: r => (∃ v, a.tmps[t]? = some v ∧ (spAt SL j).p b v w) ∧ RD SL b a a0 w r
  | (t, none) :: r => a.tmps[t]? = a0.tmps[t]? ∧ RD SL b a a0 w r
def okRd (ops : Array Oper) (o : Oper) : List (Nat × Option Nat) → Bool
  | [] => true
  | (t, some j) :: r => (o.looksAt ops).contains t && edge o j && (match (ops[j]?).bind (·.dst) with | some d => Nat.beq d t | none => false) && okRd ops o r
  | (t, none) :: r => (o.looksAt ops).contains t && (ops.toList.zipIdx.all fun y => match y.1.dst with | some d => !Nat.beq d t || !edge o y.2 | none => true) && okRd ops o r
def okFin (ops : Array Oper) : List (Nat × Option Nat) → Bool
  | [] => true
  | (t, some j) :: r => (match (ops[j]?).bind (·.dst) with | some d => Nat.beq d t | none => false) && okFin ops r
  | (t, none) :: r => (ops.toList.all fun y => match y.dst with | some d => !Nat.beq d t | none => true) && okFin ops r

section
variable (P : Program) (ops : Array Oper) (Q : Exit → Act → World → Prop) (SL : List SP) (J : Bool → World → Prop) (m : Nat) (N : Nat) (a0 : Act)

structure RInv (listed : Array Bool) (a : Act) (w : World) : Prop where
  size : listed.size = ops.size
  closed : ∀ i o, ops[i]? = some o → listed.getD i false = true → ∀ j, edge o j = true → listed.getD j false = true
  tm : a.tmps.size = N
  df : a.defers = []
  done : ∀ i o d, ops[i]? = some o → listed.getD i false = true → o.dst = some d → ∃ v, a.tmps[d]? = some v ∧ (spAt SL i).p (listed.getD m false) v w
  rest : ∀ t, (∀ i o, ops[i]? = some o → listed.getD i false = true → o.dst ≠ some t) → a.tmps[t]? = a0.tmps[t]?
  wj : J (listed.getD m false) w

def Obl (i : Nat) (o : Oper) : Prop :=
  ∀ (a : Act) (w : World) (b : Bool) (KK : Act → World → Prop), a.tmps.size = N → a.defers = [] → J b w → (b = true → i ≠ m ∧ ∀ om, ops[m]? = some om → edge om i = false) →
    (∀ rs, okRd ops o rs = true → RD SL b a a0 w rs) →
    (∀ v w', (spAt SL i).p (b || Nat.beq i m) v w' → (if i = m then turnL a w w' ops.toList SL ∧ J true w' else w.grownBy w' none) → KK (a.put o.dst v) w') → One P ops Q o KK a w
def allObl : Nat → List Oper → Prop
  | _, [] => True
  | i, o :: r => Obl P ops Q SL J m N a0 i o ∧ allObl (i + 1) r
variable {P ops Q SL J m N a0}
theorem allObl_at : ∀ (l : List Oper) (k i : Nat) (o : Oper), allObl P ops Q SL J m N a0 k l → l[i]? = some o → Obl P ops Q SL J m N a0 (k + i) o := by
  intro l
  induction l with
  | nil => intro k i o _ h; simp at h
  | cons x l ih =>
    intro k i o h hi
    cases i with
    | zero => simp at hi; subst hi; exact h.1
    | succ i =>
      have := ih (k + 1) i o h.2 (by simpa using hi)
      rwa [show k + (i + 1) = k + 1 + i by omega]

theorem region_rel {id : Nat} {a : Act} {w : World} {F0 : List (Nat × Value)} (hm : P.follows .mixedOrders = true) (hok : okReg ops = true) (hbk : okBack ops N = true) (hF0 : Fr N a F0) (ha0 : a0 = a)
    (hJ : ∀ b w w', J b w → w.grownBy w' none → J b w') (h0 : J false w)
    (hobl : allObl P ops Q SL J m N a0 0 ops.toList) (rs : List (Nat × Option Nat)) (hrs : okFin ops rs = true)
    (fin : ∀ a w, a.tmps.size = N → a.defers = [] → RD SL (Nat.blt m ops.size) a a0 w rs → J (Nat.blt m ops.size) w → Q .normal a w) : (Code.region id ops true).wp P Q a w := by
  subst ha0
  refine wp_region_any hm ?_
  have hall : ∀ i o, ops[i]? = some o → Obl P ops Q SL J m N a0 i o := fun i o h => by
    have := allObl_at ops.toList 0 i o hobl (by simpa using h)
    rwa [Nat.zero_add] at this
  have hback : ∀ i o, ops[i]? = some o → (∀ e, e ∈ o.after → Region.binds .any e = true → e.on < i) ∧ ∀ d, o.dst = some d → d < N := fun i o h => by
    have h1 := List.all_eq_true.1 hbk (o, i) (by rw [List.mem_zipIdx_iff_getElem?]; simpa using h)
    simp only [Bool.and_eq_true] at h1
    refine ⟨fun e he hb => ?_, fun d hd => ?_⟩
    · have := List.all_eq_true.1 h1.1 e (by simpa using he)
      simpa [hb] using this
    · have := h1.2
      rw [hd] at this
      simpa using this
  have hedge : ∀ (o : Oper) (j : Nat), edge o j = true → ∃ e, e ∈ o.after ∧ Region.binds .any e = true ∧ e.on = j := fun o j h => by
    obtain ⟨e, he, hb⟩ := List.any_eq_true.1 h
    simp only [Bool.and_eq_true] at hb
    exact ⟨e, by simpa using he, hb.1, Nat.eq_of_beq_eq_true hb.2⟩
  have hedge' : ∀ (o : Oper) (e : Edge), e ∈ o.after → Region.binds .any e = true → edge o e.on = true := fun o e he hb =>
    List.any_eq_true.2 ⟨e, by simpa using he, by simp [hb]⟩
  have hfin : ∀ (listed : Array Bool) (a : Act) (w : World), RInv ops SL J m N a0 listed a w → (∀ i, i < ops.size → listed.getD i false = true) → Q .normal a w := by
    intro listed a w hI hl
    have hflag : listed.getD m false = Nat.blt m ops.size := by
      by_cases hm2 : m < ops.size
      · rw [hl m hm2]
        have : Nat.blt m ops.size = true := by simpa using hm2
        rw [this]
      · have h1 : listed.getD m false = false := by
          have : listed.size ≤ m := by rw [hI.size]; omega
          simp [Array.getElem?_eq_none this]
        rw [h1]
        have : Nat.blt m ops.size = false := by
          cases q : Nat.blt m ops.size with
          | false => rfl
          | true => exact absurd (by simpa using q) hm2
        rw [this]
    refine fin a w hI.tm hI.df ?_ ?_
    · have : ∀ rs, okFin ops rs = true → RD SL (Nat.blt m ops.size) a a0 w rs := by
        intro rs
        induction rs with
        | nil => intro _; trivial
        | cons x r ih =>
          intro h
          obtain ⟨t, s⟩ := x
          cases s with
          | some j =>
            simp only [okFin, Bool.and_eq_true] at h
            refine ⟨?_, ih h.2⟩
            have h1 := h.1
            cases hj : ops[j]? with
            | none => simp [hj] at h1
            | some p =>
              simp only [hj, Option.bind_some] at h1
              cases hd : p.dst with
              | none => simp [hd] at h1
              | some d =>
                simp only [hd] at h1
                have := Nat.eq_of_beq_eq_true h1
                subst this
                rw [← hflag]
                exact hI.done j p d hj (hl j (Array.getElem?_eq_some_iff.1 hj).1) hd
          | none =>
            simp only [okFin, Bool.and_eq_true] at h
            refine ⟨?_, ih h.2⟩
            refine hI.rest t (fun i o hi _ hd => ?_)
            have := List.all_eq_true.1 h.1 o (List.mem_of_getElem? (i := i) (by simpa using hi))
            rw [hd] at this
            simp at this
      exact this rs hrs
    · rw [← hflag]; exact hI.wj
  have hready : ∀ (listed : Array Bool) (a : Act) (w : World), RInv ops SL J m N a0 listed a w → Region.ready .any ops listed = [] → ∀ i, i < ops.size → listed.getD i false = true := by
    intro listed a w hI hr i
    induction i using Nat.strongRecOn with
    | _ i ih =>
      intro hi
      cases hq : listed.getD i false with
      | true => rfl
      | false =>
        exfalso
        obtain ⟨o, ho⟩ : ∃ o, ops[i]? = some o := ⟨ops[i], Array.getElem?_eq_getElem hi⟩
        have hmem : i ∈ Region.ready .any ops listed := by
          rw [mem_ready]
          refine ⟨?_, o, ho, fun e he hb => ?_⟩
          · have hsz : i < listed.size := by rw [hI.size]; exact hi
            simp [hsz] at hq ⊢
            exact hq
          · have := (hback i o ho).1 e he hb
            exact ih e.on this (by omega)
        rw [hr] at hmem
        cases hmem
  have key : ∀ (fuel : Nat) (listed : Array Bool) (a : Act) (w : World), RInv ops SL J m N a0 listed a w → listed.toList.countP (fun b => !b) ≤ fuel → wpAny P .any ops Q fuel listed a w := by
    intro fuel
    induction fuel with
    | zero =>
      intro listed a w hI hc
      have hl : ∀ i, i < ops.size → listed.getD i false = true := by
        intro i hi
        have h0 : listed.toList.countP (fun b => !b) = 0 := by omega
        rw [List.countP_eq_zero] at h0
        have hsz : i < listed.size := by rw [hI.size]; exact hi
        have := h0 listed[i] (by simp)
        simpa [hsz] using this
      refine ⟨?_, hfin listed a w hI hl⟩
      cases hr : Region.ready .any ops listed with
      | nil => rfl
      | cons i r =>
        have hmem : i ∈ Region.ready .any ops listed := by rw [hr]; simp
        rw [mem_ready] at hmem
        obtain ⟨h1, o, ho, _⟩ := hmem
        have := hl i (Array.getElem?_eq_some_iff.1 ho).1
        have hsz : i < listed.size := by rw [hI.size]; exact (Array.getElem?_eq_some_iff.1 ho).1
        simp [hsz] at h1 this
        rw [h1] at this
        cases this
    | succ fuel ih =>
      intro listed a w hI hc
      refine ⟨fun hr => hfin listed a w hI (hready listed a w hI hr), fun i hi => ?_⟩
      rw [mem_ready] at hi
      obtain ⟨h1, o, ho, hall2⟩ := hi
      have hiL : i < ops.size := (Array.getElem?_eq_some_iff.1 ho).1
      have hsz : i < listed.size := by rw [hI.size]; exact hiL
      have hun : listed.getD i false = false := by simp [hsz] at h1 ⊢; exact h1
      have hel : ∀ j, edge o j = true → listed.getD j false = true := fun j hj => by
        obtain ⟨e, he, hb, rfl⟩ := hedge o j hj
        exact hall2 e he hb
      unfold wpOp
      simp only [ho]
      refine hall i o ho a w (listed.getD m false) _ hI.tm hI.df hI.wj ?_ ?_ ?_
      · intro hb
        refine ⟨fun q => ?_, fun om hom => ?_⟩
        · subst q; rw [hun] at hb; cases hb
        · cases hq : edge om i with
          | false => rfl
          | true =>
            have := hI.closed m om hom hb i hq
            rw [hun] at this
            cases this
      · intro rs
        induction rs with
        | nil => intro _; trivial
        | cons x r ihr =>
          intro h
          obtain ⟨t, s⟩ := x
          cases s with
          | some j =>
            simp only [okRd, Bool.and_eq_true] at h
            refine ⟨?_, ihr h.2⟩
            have h2 := h.1.2
            cases hj : ops[j]? with
            | none => simp [hj] at h2
            | some p =>
              simp only [hj, Option.bind_some] at h2
              cases hd : p.dst with
              | none => simp [hd] at h2
              | some d =>
                simp only [hd] at h2
                have := Nat.eq_of_beq_eq_true h2
                subst this
                exact hI.done j p d hj (hel j h.1.1.2) hd
          | none =>
            simp only [okRd, Bool.and_eq_true] at h
            refine ⟨?_, ihr h.2⟩
            refine hI.rest t (fun k p hk hlk hd => ?_)
            have hne : i ≠ k := fun q => by subst q; rw [hun] at hlk; cases hlk
            have hsp := (okReg_spec hok ho hk hne hd).1 (by have := h.1.1; simpa using this)
            have hno := List.all_eq_true.1 h.1.2 (p, k) (by rw [List.mem_zipIdx_iff_getElem?]; simpa using hk)
            simp only [hd] at hno
            rcases hsp with q | q
            · rw [q] at hno; simp at hno
            · have := hI.closed k p hk hlk i q
              rw [hun] at this
              cases this
      · intro v w' hS hw
        refine ih _ _ _ ?_ ?_
        · have hput : ∀ t, o.dst ≠ some t → (a.put o.dst v).tmps[t]? = a.tmps[t]? := fun t ht => by
            cases hd : o.dst with
            | none => rfl
            | some d =>
              rw [hd] at ht
              simp only [Act.put, Array.getElem?_setIfInBounds]
              rw [if_neg (fun q => ht (by rw [q]))]
          have hset : ∀ j, (listed.setIfInBounds i true).getD j false = if i = j then true else listed.getD j false := fun j => by
            by_cases q : i = j
            · subst q; simp [hsz]
            · rw [if_neg q]; exact getD_set_ne false q
          refine ⟨by simpa using hI.size, ?_, ?_, ?_, ?_, ?_, ?_⟩
          · intro k p hk hlk j hj
            rw [hset] at hlk ⊢
            split
            · rfl
            · split at hlk
              · rename_i q; subst q
                rw [ho] at hk; cases hk
                exact hel j hj
              · exact hI.closed k p hk hlk j hj
          · cases hd : o.dst <;> simp [Act.put, hI.tm]
          · cases hd : o.dst <;> simp [Act.put, hI.df]
          · intro k p d hk hlk hd
            rw [hset] at hlk
            split at hlk
            · rename_i q; subst q
              rw [ho] at hk; cases hk
              refine ⟨v, ?_, ?_⟩
              · rw [hd]
                simp [Act.put, hI.tm, (hback i o ho).2 d hd]
              · rw [hset]
                by_cases qm : i = m
                · rw [if_pos qm]
                  have : Nat.beq i m = true := by rw [qm]; exact Nat.beq_refl m
                  rw [this, Bool.or_true] at hS
                  exact hS
                · rw [if_neg qm]
                  have : Nat.beq i m = false := by
                    cases q2 : Nat.beq i m with
                    | false => rfl
                    | true => exact absurd (Nat.eq_of_beq_eq_true q2) qm
                  rw [this, Bool.or_false] at hS
                  exact hS
            · rename_i q
              obtain ⟨u, hu, hSu⟩ := hI.done k p d hk hlk hd
              have hne := (okReg_spec hok ho hk q hd).2
              refine ⟨u, by rw [hput d hne]; exact hu, ?_⟩
              rw [hset]
              split at hw
              · rename_i q2
                rw [if_pos q2]
                rw [show listed.getD m false = false by rw [← q2]; exact hun] at hSu
                exact turnL_at _ _ hw.1 k p (by simpa using hk) d u hd hu hSu
              · rename_i q2
                rw [if_neg q2]
                exact (spAt SL k).grow _ _ _ _ hSu hw
          · intro t ht
            have h2 := ht i o ho (by rw [hset]; simp)
            rw [hput t h2]
            refine hI.rest t (fun k p hk hlk => ht k p hk ?_)
            rw [hset]
            split
            · rfl
            · exact hlk
          · rw [hset]
            split at hw
            · rename_i q; rw [if_pos q]; exact hw.2
            · rename_i q; rw [if_neg q]; exact hJ _ _ _ hI.wj hw
        · have hlen : i < listed.toList.length := by simpa using hsz
          have hc2 : (listed.setIfInBounds i true).toList.countP (fun b => !b) + 1 = listed.toList.countP (fun b => !b) := by
            rw [Array.toList_setIfInBounds]
            have hsplit : listed.toList = listed.toList.take i ++ (listed.toList[i] :: listed.toList.drop (i + 1)) := by
              rw [← List.drop_eq_getElem_cons hlen, List.take_append_drop]
            have hv : listed.toList[i] = false := by simp [hsz] at hun; simpa using hun
            rw [List.set_eq_take_append_cons_drop, if_pos hlen]
            conv => rhs; rw [hsplit]
            simp only [List.countP_append, List.countP_cons, hv]
            simp
            omega
          omega
  refine key ops.size _ _ _ ⟨by simp, ?_, hF0.size, hF0.defers, ?_, fun _ _ => rfl, ?_⟩ ?_
  · intro i o _ h
    by_cases q : i < ops.size
    · simp [q] at h
    · simp [q] at h
  · intro i o d _ h
    by_cases q : i < ops.size
    · simp [q] at h
    · simp [q] at h
  · have h1 : (Array.replicate ops.size false).getD m false = false := by
      by_cases q : m < ops.size
      · simp [q]
      · simp [q]
    rw [h1]
    exact hJ _ _ _ h0 ⟨rfl, rfl, rfl, Nat.le_refl _, fun _ _ _ => rfl⟩
  · have := List.countP_le_length (p := fun b => !b) (l := (Array.replicate ops.size false).toList)
    simpa using this
end

/-- An operation's slots, laid out as a frame. -/
def allQ (a : Act) : List (Nat × Value) → Prop
  | [] => True
  | (t, v) :: r => a.tmps[t]? = some v ∧ allQ a r
theorem Fr.of {N : Nat} {a : Act} (h1 : a.tmps.size = N) (h2 : a.defers = []) : ∀ {F : List (Nat × Value)}, allQ a F → Fr N a F := by
  intro F
  induction F with
  | nil => intro _; exact ⟨h1, h2, fun t v e => by simp [look] at e⟩
  | cons p r ih =>
    intro h
    obtain ⟨t, v⟩ := p
    have := ih h.2
    refine ⟨h1, h2, fun u x e => ?_⟩
    simp only [look] at e
    cases hb : Nat.beq t u with
    | true =>
      have q := Nat.eq_of_beq_eq_true hb
      subst q
      simp at e
      subst e
      exact h.1
    | false =>
      simp [hb] at e
      exact this.slot u x e
theorem Fr.init {N : Nat} {a a0 : Act} {F : List (Nat × Value)} (h : Fr N a0 F) {t : Nat} {v : Value} (e : a.tmps[t]? = a0.tmps[t]?) (hv : look F t = some v) : a.tmps[t]? = some v := e.trans (h.slot t v hv)
end Go.Proofs.Ytnagkhofkjjajaa
