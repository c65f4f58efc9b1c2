/- Slices, strings, calls, loops and a region that draws its order: lemmas for walks, no statement of the claim. -/
import Derived.Test.YtnagkhofkjjajaaKc
import Derived.Orders
set_option linter.unusedVariables false
set_option linter.unusedSimpArgs false
namespace Go.Proofs.Ytnagkhofkjjajaa
open Go.RowKit

/-! ### 10. Calls -/
/-- What a call comes to: it returns, and of what it returns, and of the world behind it, S holds. -/
def Ret (S : Value → World → Prop) (e : Ending) (w : World) : Prop := ∃ v, e = .returned v ∧ S v w
theorem Ret.mk {S : Value → World → Prop} {v : Value} {w : World} (h : S v w) : Ret S (.returned v) w := ⟨v, rfl, h⟩

def callable (P : Program) (f : Nat) : Prop := ∀ (args : Array Value) (w : World), (callFunc f args).run P w = .ok (.enter f args) w
theorem callable.mk {P : Program} {f : Nat} {fn : Func} (h : P.funcs[f]? = some fn) (h1 : (fn.name == "runtime.NumGoroutine") = false) (h2 : fn.body.isNone = false) : callable P f := by
  intro args w
  simp only [callFunc, Sem.run_bind, run_program, Result.andThen_ok, h]
  rw [h1, h2]
  rfl

section
variable {P : Program} {TI : List (Nat × T1)} {n : Nat} {a : Act} {F : List (Nat × Value)} {ops : Array Oper} {KK : Act → World → Prop} {o : Oper} {Q : Exit → Act → World → Prop} {w : World}

def opndL (F : List (Nat × Value)) : List Operand → Option (List Value)
  | [] => some []
  | x :: r => match opnd F x, opndL F r with
    | some v, some l => some (v :: l)
    | _, _ => none
theorem opndL_eval (hF : Fr n a F) : ∀ (xs : List Operand) (l : List Value), opndL F xs = some l → xs.map a.eval = l := by
  intro xs
  induction xs with
  | nil => intro l h; simpa [opndL] using h
  | cons x r ih =>
    intro l h
    simp only [opndL] at h
    split at h
    · rename_i v l' hv hl'
      simp only [Option.some.injEq] at h
      subst h
      simp [hF.eval hv, ih _ hl']
    · cases h

def oCall (n : Nat) (F : List (Nat × Value)) (o : Oper) : Option (Nat × Nat × List Value) :=
  match dstOf n o, o.op with
  | some d, .call ⟨.value f, args, _⟩ => match opnd F f, opndL F args.toList with
    | some (.func (.func g) ⟨[]⟩ ⟨cap⟩), some l => some (d, g, l ++ cap)
    | _, _ => none
  | _, _ => none
theorem oCall_run {d f : Nat} {l : List Value} (h : oCall n F o = some (d, f, l)) (hF : Fr n a F) (w : World) : dstOf n o = some d ∧ (execOp a.eval o).run P w = (callFunc f l.toArray).run P w := by
  unfold oCall at h
  split at h
  · rename_i e g args tys hd hop
    split at h
    · rename_i g' cap l' hf hl
      simp only [Option.some.injEq, Prod.mk.injEq] at h
      obtain ⟨rfl, rfl, rfl⟩ := h
      refine ⟨hd, ?_⟩
      have hm := opndL_eval hF _ _ hl
      have hm' : args.map a.eval = l'.toArray := by rw [← hm, ← Array.toList_map]
      simp [execOp, hop, resolve, hF.eval hf, Deferred.ofValue, hm', invoke]
    · cases h
  · cases h
theorem s_call {d f : Nat} {l : List Value} {S : Value → World → Prop} (h : oCall n F o = some (d, f, l)) (hF : Fr n a F) (hf : callable P f) (hc : Calls P f l.toArray w (Ret S))
    (K : ∀ a' w' v, S v w' → a' = a.put (some d) v → Fr n a' ((d, v) :: F) → KK a' w') : One P ops Q o KK a w := by
  obtain ⟨hd, hr⟩ := oCall_run (P := P) h hF w
  obtain ⟨hg, hd', hlt⟩ := dstOf_spec hd
  unfold One
  rw [if_pos (by simp [Region.wanted, hg])]
  refine .inl ?_
  unfold Oper.wp
  rw [hr, hf]
  simp only [Oper.upon]
  refine hc.mono fun e w' he => ?_
  obtain ⟨v, rfl, hS⟩ := he
  show KK (a.put o.dst v) w'
  rw [hd']
  exact K _ w' v hS rfl (hF.put hlt v)
/-- a function of the model's own -/
theorem s_ext {d f : Nat} {l : List Value} {v : Value} {w' : World} (h : oCall n F o = some (d, f, l)) (hF : Fr n a F) (hr : (callFunc f l.toArray).run P w = .ok (.value v) w')
    (K : ∀ a', a' = a.put (some d) v → Fr n a' ((d, v) :: F) → KK a' w') : One P ops Q o KK a w := by
  obtain ⟨hd, he⟩ := oCall_run (P := P) h hF w
  exact s_val hd hF (he.trans hr) K

/-! ### 11. Slices -/
def oNat (F : List (Nat × Value)) : Option Operand → Nat → Option Nat
  | none, d => some d
  | some x, _ => match opnd F x with
    | some (.int _ (.ofNat k)) => some k
    | _ => none
/-- x[lo:hi] of a slice: destination, address, length, capacity, cells an element, lo, hi -/
def oSlice (TI : List (Nat × T1)) (n : Nat) (F : List (Nat × Value)) (o : Oper) : Option (Nat × Option Addr × Nat × Nat × Nat × Nat × Nat) :=
  match dstOf n o, o.op with
  | some d, .slice t x lo hi none => match lookT TI t, opnd F x with
    | some ⟨.slice e, _, _, _⟩, some (.slice A m c) => match lookT TI e, oNat F lo 0, oNat F hi m with
      | some i, some l, some h => some (d, A, m, c, i.n, l, h)
      | _, _, _ => none
    | _, _ => none
  | _, _ => none
theorem run_bound (k : IntKind) (i y : Nat) (code : BoundsCode) (h : i ≤ y) (w : World) : (Instr.sliceBound (.int k (.ofNat i)) y code).run P w = .ok i w := by
  simp only [Instr.sliceBound, asIntOf, Sem.run_bind, Sem.run_pure, Result.andThen_ok]
  rw [if_pos ⟨by simp, by simp; omega⟩]
  rfl
theorem oNat_spec (hF : Fr n a F) {x : Option Operand} {d k : Nat} (h : oNat F x d = some k) : (x = none ∧ k = d) ∨ (∃ y kk, x = some y ∧ a.eval y = .int kk (.ofNat k)) := by
  unfold oNat at h
  split at h
  · exact .inl ⟨rfl, by simpa using h.symm⟩
  · rename_i y
    split at h
    · rename_i kk k' hy
      simp only [Option.some.injEq] at h
      subst h
      exact .inr ⟨y, kk, rfl, hF.eval hy⟩
    · cases h
theorem run_bounds (hF : Fr n a F) {lo hi : Option Operand} {m c l h : Nat} (hl : oNat F lo 0 = some l) (hh : oNat F hi m = some h) (h1 : l ≤ h) (h2 : h ≤ c) (h3 : hi = none → m ≤ c) (b : Bool) (w : World) :
    (Instr.sliceBounds b m c (lo.map a.eval) (hi.map a.eval) none).run P w = .ok (l, h, c) w := by
  rcases oNat_spec hF hl with ⟨rfl, rfl⟩ | ⟨y, kk, rfl, hy⟩ <;> rcases oNat_spec hF hh with ⟨rfl, rfl⟩ | ⟨z, kk', rfl, hz⟩
  · simp [Instr.sliceBounds]
  · simp only [Instr.sliceBounds, Option.map_none, Option.map_some, hz, Sem.run_bind, Sem.run_pure, Result.andThen_ok, run_bound _ _ _ _ h2]
  · simp only [Instr.sliceBounds, Option.map_none, Option.map_some, hy, Sem.run_bind, Sem.run_pure, Result.andThen_ok]
    rw [run_bound _ _ _ _ h1]; rfl
  · simp only [Instr.sliceBounds, Option.map_some, hy, hz, Sem.run_bind, Sem.run_pure, Result.andThen_ok, run_bound _ _ _ _ h2, run_bound _ _ _ _ h1]
/-- What a cut's address is good for. -/
structure Cut (A A' : Option Addr) (lo sz : Nat) : Prop where
  same : lo = 0 → A' = A
  rd : ∀ (W : World) (l : List Value) (k : Nat), Rd W A l → Rd W A' ((l.drop (lo * sz)).take k)
  rdd : ∀ (W : World) (l : List Value), Rd W A l → Rd W A' (l.drop (lo * sz))
  blk : oblk A' = oblk A
theorem Cut.mk' (A : Option Addr) (c lo sz : Nat) (hA : ∀ (W : World) (l : List Value), Rd W A l → l.length ≤ c * sz) : Cut A (if c = lo then A else A.map (·.add (lo * sz))) lo sz := by
  have hcells : ∀ (W : World) (l : List Value), Rd W A l → Rd W (if c = lo then A else A.map (·.add (lo * sz))) (l.drop (lo * sz)) := by
    intro W l hR
    by_cases hn : l.drop (lo * sz) = []
    · rw [hn]; exact Rd.nil _ _
    · have hne : l ≠ [] := fun q => hn (by rw [q]; simp)
      have hAs := hR.some_ hne
      by_cases hc : c = lo
      · subst hc
        have := hA W l hR
        exact absurd (List.drop_eq_nil_of_le this) hn
      · rw [if_neg hc]
        have hcl := hR.cells.drop (lo * sz)
        rw [hAs]
        simp only [Option.map_some, add_flat]
        exact hcl.rd
  refine ⟨fun h => ?_, fun W l k hR => (hcells W l hR).take k, hcells, ?_⟩
  · subst h
    split
    · rfl
    · cases A <;> simp [Addr.add_zero']
  · split
    · rfl
    · cases A <;> simp [oblk, Addr.add]; split <;> rfl
theorem s_slice (hT : TIok P TI) {d m c sz lo hi : Nat} {A : Option Addr} (h : oSlice TI n F o = some (d, A, m, c, sz, lo, hi)) (hF : Fr n a F) (h1 : lo ≤ hi) (h2 : hi ≤ c) (h3 : m ≤ c) (hA : ∀ (W : World) (l : List Value), Rd W A l → l.length ≤ c * sz)
    (K : ∀ a' A', Cut A A' lo sz → a' = a.put (some d) (.slice A' (hi - lo) (c - lo)) → Fr n a' ((d, .slice A' (hi - lo) (c - lo)) :: F) → KK a' w) : One P ops Q o KK a w := by
  unfold oSlice at h
  split at h
  · rename_i e t x l h' hd hop
    split at h
    · rename_i el _ _ _ A' m' c' ht hx
      split at h
      · rename_i i l' hi' hi2 hl' hh'
        simp only [Option.some.injEq, Prod.mk.injEq] at h
        obtain ⟨rfl, rfl, rfl, rfl, rfl, rfl, rfl⟩ := h
        refine s_val hd hF ?_ (fun a' ha' hF' => K a' _ (Cut.mk' A' c' l' i.n hA) ha' hF')
        simp only [execOp, hop, hF.eval hx, Option.map_none, Sem.run_bind, Instr.sliceAt, run_underlying (hT.ty _ _ ht), Result.andThen_ok, Instr.slice]
        rw [run_bounds hF hl' hh' h1 h2 (fun _ => h3)]
        simp [hT.run_sizeOf hi2]
      · cases h
    · cases h
  · cases h
/-- x[:hi] of a row that need not be read, only cut -/
theorem s_sliceLow (hT : TIok P TI) {d m c sz hi : Nat} {A : Option Addr} (h : oSlice TI n F o = some (d, A, m, c, sz, 0, hi)) (hF : Fr n a F) (h2 : hi ≤ c) (h3 : m ≤ c)
    (K : ∀ a', a' = a.put (some d) (.slice A hi c) → Fr n a' ((d, .slice A hi c) :: F) → KK a' w) : One P ops Q o KK a w := by
  unfold oSlice at h
  split at h
  · rename_i e t x l h' hd hop
    split at h
    · rename_i el _ _ _ A' m' c' ht hx
      split at h
      · rename_i i l' hi' hi2 hl' hh'
        simp only [Option.some.injEq, Prod.mk.injEq] at h
        obtain ⟨rfl, rfl, rfl, rfl, rfl, rfl, rfl⟩ := h
        refine s_val hd hF ?_ K
        simp only [execOp, hop, hF.eval hx, Option.map_none, Sem.run_bind, Instr.sliceAt, run_underlying (hT.ty _ _ ht), Result.andThen_ok, Instr.slice]
        rw [run_bounds hF hl' hh' (Nat.zero_le _) h2 (fun _ => h3)]
        simp only [Sem.run_bind, Result.andThen_ok, hT.run_sizeOf hi2, Sem.run_pure, Nat.zero_mul, Nat.sub_zero]
        congr 2
        split
        · rfl
        · cases A' <;> simp [Addr.add_zero']
      · cases h
    · cases h
  · cases h

/-- arr[lo:hi] of an array in a block -/
def oSliceA (TI : List (Nat × T1)) (n : Nat) (F : List (Nat × Value)) (o : Oper) : Option (Nat × Nat × Nat × Nat × Nat × Nat × Nat) :=
  match dstOf n o, o.op with
  | some d, .slice t x lo hi none => match lookT TI t, opnd F x with
    | some ⟨.array m e, _, _, _⟩, some (.pointer (some ⟨b, off, none⟩)) => match lookT TI e, oNat F lo 0, oNat F hi m with
      | some i, some l, some h => some (d, b, off, m, i.n, l, h)
      | _, _, _ => none
    | _, _ => none
  | _, _ => none
theorem s_sliceA (hT : TIok P TI) {d b off m sz lo hi : Nat} (h : oSliceA TI n F o = some (d, b, off, m, sz, lo, hi)) (hF : Fr n a F) (h1 : lo ≤ hi) (h2 : hi ≤ m) (h4 : lo < m)
    (K : ∀ a', a' = a.put (some d) (.slice (some ⟨b, off + lo * sz, none⟩) (hi - lo) (m - lo)) → Fr n a' ((d, .slice (some ⟨b, off + lo * sz, none⟩) (hi - lo) (m - lo)) :: F) → KK a' w) : One P ops Q o KK a w := by
  unfold oSliceA at h
  split at h
  · rename_i e t x l h' hd hop
    split at h
    · rename_i m' el _ _ _ b' off' ht hx
      split at h
      · rename_i i l' hi' hi2 hl' hh'
        simp only [Option.some.injEq, Prod.mk.injEq] at h
        obtain ⟨rfl, rfl, rfl, rfl, rfl, rfl, rfl⟩ := h
        refine s_val hd hF ?_ K
        simp only [execOp, hop, hF.eval hx, Option.map_none, Sem.run_bind, Instr.sliceAt, run_underlying (hT.ty _ _ ht), Result.andThen_ok, Instr.sureAddr, Sem.run_pure]
        rw [run_bounds hF hl' hh' h1 h2 (fun _ => Nat.le_refl _)]
        simp only [Sem.run_bind, Result.andThen_ok, hT.run_sizeOf hi2, Sem.run_pure, add_flat]
        rw [if_neg (by omega)]
      · cases h
    · cases h
  · cases h

/-- copy(dst, src): the destination an array's piece, or a row of the call's own, in a block; elements of one cell -/
def oCopy (TI : List (Nat × T1)) (n : Nat) (F : List (Nat × Value)) (o : Oper) : Option (Nat × Option Addr × Nat × Option Addr × Nat) :=
  match dstOf n o, o.op with
  | some d, .call ⟨.builtin .copy, ⟨[s, x]⟩, ⟨[t, _]⟩⟩ => match lookT TI t, opnd F s, opnd F x with
    | some ⟨.slice e, _, _, _⟩, some (.slice A m _), some (.slice A2 m2 _) => match lookT TI e with
      | some i => bif Nat.beq i.n 1 then some (d, A, m, A2, m2) else none
      | none => none
    | _, _, _ => none
  | _, _ => none
theorem run_copy_blk {P : Program} {w : World} (dT sT ty elem : TypeId) (hu : P.underlying dT = some (.slice elem)) (hs : (P.info? elem).map (·.size) = some 1) {b off T m c m2 c2 : Nat} {A2 : Option Addr} {l cs : List Value}
    (hB : Blk w b T l) (hR : Rd w A2 cs) (hn : cs.length = Nat.min m2 m) (hfit : off + cs.length ≤ l.length) (h1 : ∀ u, u ∈ cs → u.oneCell' = true) :
    ∃ w', (Builtin.copy_ #[dT, sT] ty #[.slice (some ⟨b, off, none⟩) m c, .slice A2 m2 c2]).run P w = .ok (.int .i64 (.ofNat cs.length)) w' ∧ Blk w' b T (l.take off ++ cs ++ l.drop (off + cs.length)) ∧ w.grownBy w' (some b) := by
  by_cases h0 : cs = []
  · subst h0
    refine ⟨w, ?_, by simpa using hB, grown_refl w _⟩
    cases hq : P.info? elem with
    | none => simp [hq] at hs
    | some i =>
      have hi : i.size = 1 := by simpa [hq] using hs
      have hmin : m2.min m = 0 := by simpa using hn.symm
      cases A2 <;> simp [Builtin.copy_, run_underlying hu, Builtin.lenOf, Builtin.firstCells, sizeOf, typeInfo, hq, hi, hmin, storeCells, loadCells, loadCellsFrom, goInt]
  · have hA := hR.some_ h0
    rw [hA]
    have := run_copy_row (P := P) w dT sT ty elem b off m c ⟨ablk A2, aoff A2, none⟩ m2 c2 l.toArray T cs hu hs hB hn (fun j v hv => by rw [add_flat]; exact hR.cells j v hv) (by simpa using hfit) h1
    refine ⟨_, this, ?_, ?_⟩
    · have := setRow_heap w b l.toArray (l.toArray.toList.take off ++ cs ++ l.toArray.toList.drop (off + cs.length)).toArray T (0, 0) hB
      simpa [Blk] using this
    · exact ⟨rfl, rfl, rfl, by simp, fun k _ hk => setRow_other w b k _ (fun e => hk (by simp [e]))⟩
theorem s_copy (hT : TIok P TI) {d b off T m m2 : Nat} {A2 : Option Addr} {l cs : List Value} (h : oCopy TI n F o = some (d, some ⟨b, off, none⟩, m, A2, m2)) (hF : Fr n a F)
    (hB : Blk w b T l) (hR : Rd w A2 cs) (hn : cs.length = Nat.min m2 m) (hfit : off + cs.length ≤ l.length) (h1 : ∀ u, u ∈ cs → u.oneCell' = true)
    (K : ∀ a' w', Blk w' b T (l.take off ++ cs ++ l.drop (off + cs.length)) → w.grownBy w' (some b) → a' = a.put (some d) (.int .i64 (.ofNat cs.length)) → Fr n a' ((d, .int .i64 (.ofNat cs.length)) :: F) → KK a' w') : One P ops Q o KK a w := by
  unfold oCopy at h
  split at h
  · rename_i e s x t t' hd hop
    split at h
    · rename_i el _ _ _ A1 m1 c1 A3 m3 c3 ht hs hx
      split at h
      · rename_i i hi
        cases hb : Nat.beq i.n 1 with
        | false => simp [hb] at h
        | true =>
          simp only [hb, cond_true, Option.some.injEq, Prod.mk.injEq] at h
          obtain ⟨rfl, rfl, rfl, rfl, rfl⟩ := h
          have h1n := Nat.eq_of_beq_eq_true hb
          obtain ⟨w', hr, h2, h3⟩ := run_copy_blk (P := P) (c := c1) (c2 := c3) t t' o.type el (hT.ty _ _ ht) (by rw [hT.size hi, h1n]) hB hR hn hfit h1
          refine s_val hd hF (w' := w') ?_ (fun a' ha' hF' => K a' _ h2 h3 ha' hF')
          simp [execOp, hop, resolve, invoke, builtin, hF.eval hs, hF.eval hx, hr]
      · cases h
    · cases h
  · cases h

/-! ### 12. Strings -/
def str (xs : List Nat) : ByteArray := ⟨(xs.map UInt8.ofNat).toArray⟩
theorem str_nums (xs : List Nat) : strOfNums (xs.map fun n : Nat => (n : Int)) = str xs := by
  apply ByteArray.ext
  simp [strOfNums, str, List.map_map, Function.comp_def]
theorem str_toList (xs : List Nat) : (str xs).toList = xs.map UInt8.ofNat := by
  rw [ByteArray.toList_eq]; simp [str]
theorem ofNat_inj {x y : Nat} (hx : x < 256) (hy : y < 256) (h : UInt8.ofNat x = UInt8.ofNat y) : x = y := by
  have := congrArg UInt8.toNat h
  simp [Nat.mod_eq_of_lt hx, Nat.mod_eq_of_lt hy] at this
  omega
def By (xs : List Nat) : Prop := ∀ x, x ∈ xs → x < 256
theorem by_snoc {xs : List Nat} (h : By xs) {x : Nat} (hx : x < 256) : By (xs ++ [x]) := fun y hy => by
  rcases List.mem_append.1 hy with q | q
  · exact h y q
  · simp at q; subst q; exact hx
theorem map_ofNat_inj : ∀ {xs ys : List Nat}, By xs → By ys → xs.map UInt8.ofNat = ys.map UInt8.ofNat → xs = ys := by
  intro xs
  induction xs with
  | nil => intro ys _ _ h; cases ys <;> simp_all
  | cons x xs ih =>
    intro ys hx hy h
    cases ys with
    | nil => simp at h
    | cons y ys =>
      simp only [List.map_cons, List.cons.injEq] at h
      rw [ofNat_inj (hx x (by simp)) (hy y (by simp)) h.1, ih (fun z hz => hx z (by simp [hz])) (fun z hz => hy z (by simp [hz])) h.2]
theorem str_beq {xs ys : List Nat} (hx : By xs) (hy : By ys) : ((str xs).toList == (str ys).toList) = decide (xs = ys) := by
  rw [str_toList, str_toList]
  by_cases h : xs = ys
  · simp [h]
  · simp only [h, decide_false]
    rw [beq_eq_false_iff_ne]
    exact fun q => h (map_ofNat_inj hx hy q)

/-- string(v), v bytes that are read -/
def oStr (TI : List (Nat × T1)) (n : Nat) (F : List (Nat × Value)) (o : Oper) : Option (Nat × Option Addr × Nat) :=
  match dstOf n o, o.op with
  | some d, .convert src dst x => match lookT TI src, lookT TI dst, opnd F x with
    | some ⟨.slice e, _, _, _⟩, some ⟨.string, _, _, _⟩, some (.slice A m _) => match lookT TI e with
      | some ⟨.int .u8, _, _, _⟩ => some (d, A, m)
      | _ => none
    | _, _, _ => none
  | _, _ => none
theorem s_str (hT : TIok P TI) {d m : Nat} {A : Option Addr} {xs : List Nat} (h : oStr TI n F o = some (d, A, m)) (hF : Fr n a F) (hR : Rd w A (vs .u8 xs)) (hl : xs.length = m)
    (K : ∀ a', a' = a.put (some d) (.string (str xs)) → Fr n a' ((d, .string (str xs)) :: F) → KK a' w) : One P ops Q o KK a w := by
  unfold oStr at h
  split at h
  · rename_i e src dst x hd hop
    split at h
    · rename_i el _ _ _ _ _ _ A1 m1 c1 hs hdt hx
      split at h
      · rename_i _ _ _ he
        simp only [Option.some.injEq, Prod.mk.injEq] at h
        obtain ⟨rfl, rfl, rfl⟩ := h
        refine s_val hd hF ?_ K
        simp only [execOp, hop, hF.eval hx, Sem.run_bind]
        by_cases h0 : xs = []
        · subst h0
          simp at hl
          subst hl
          have e0 : str [] = ByteArray.empty := rfl
          cases A1 with
          | none => rw [run_convert_bytes_nil w src el (hT.ty _ _ hs) (hT.ty _ _ he) 0 c1 dst (hT.ty _ _ hdt), e0]; rfl
          | some ad =>
            obtain ⟨b, off, sp⟩ := ad
            simp only [convert, Sem.run_bind, run_underlying (hT.ty _ _ hs), run_underlying (hT.ty _ _ hdt), run_underlying (hT.ty _ _ he), Result.andThen_ok, Conv.bytesToString]
            rfl
        · have hA := hR.some_ (fun q => h0 (by simpa [vs] using q))
          have := run_convert_bytes_arg (P := P) w src el (hT.ty _ _ hs) (hT.ty _ _ he) (ablk A1) (aoff A1) m1 c1 (xs.map fun n : Nat => (n : Int)) (by simpa using hl)
            (fun i hi => by
              rw [hR.num (by omega) rfl]
              simp [List.getD_eq_getElem?_getD]
              cases hq : xs[i]? <;> simp) dst (hT.ty _ _ hdt)
          rw [← hA] at this
          rw [this, str_nums]
          rfl
      · cases h
    · cases h
  · cases h
end

theorem made_vs {w : World} {B T m c N : Nat} {A : Option Addr} {k : IntKind} {z : Value} (h : Own w B T N A m c (madeCells z.cells (m * N)).toList) (hz : z = .int k 0) (hN : N = 1) : Own w B T 1 A m c (vs k (List.replicate m 0)) := by
  subst hz hN
  have e : (madeCells (Value.int k 0).cells (m * 1)).toList = vs k (List.replicate m 0) := by
    rw [Nat.mul_one]
    show (madeCells #[Value.int k 0] m).toList = _
    rw [toList_madeCells_one]
    simp [vs]
  rwa [e] at h

theorem grown_weak {w w' : World} {r : Option Nat} (g : w.grownBy w' none) : w.grownBy w' r := ⟨g.os, g.tape, g.output, g.size, fun k hk _ => g.block k hk (by simp)⟩
theorem own_ne {A A' : Option Addr} {m : Nat} {p q : Nat → Prop} (h1 : ∀ k, oblk A = some k → p k ∧ k < m) (h2 : ∀ k, oblk A' = some k → m ≤ k ∧ q k) : oblk A = none ∨ oblk A ≠ oblk A' := by
  cases h : oblk A with
  | none => exact .inl rfl
  | some k =>
    refine .inr (fun e => ?_)
    have := (h1 k h).2
    have := (h2 k e.symm).1
    omega
theorem own_ne' {A A' : Option Addr} {m : Nat} {p q : Nat → Prop} (h1 : ∀ k, oblk A = some k → p k ∧ k < m) (h2 : ∀ k, oblk A' = some k → m ≤ k ∧ q k) : oblk A' = none ∨ oblk A' ≠ oblk A := by
  rcases own_ne h1 h2 with h | h
  · by_cases q : oblk A' = none
    · exact .inl q
    · exact .inr (fun e => q (e.trans h))
  · exact .inr (fun e => h e.symm)
theorem Rd.grow' {w w' : World} {A : Option Addr} {l : List Value} (h : Rd w A l) {r : Option Nat} (g : w.grownBy w' r) (hne : r = none ∨ r ≠ oblk A) : Rd w' A l := by
  by_cases hl : l = []
  · subst hl; exact Rd.nil _ _
  · refine h.grow g (fun q => ?_)
    rcases hne with e | e
    · rw [e] at q; cases q
    · refine e (q.trans ?_)
      rw [h.some_ hl]; rfl

/-! ### 13. A function's start and end; loops; tests -/
section
variable {P : Program} {Q : Exit → Act → World → Prop} {a : Act} {w : World}

theorem enter {f n : Nat} {fn : Func} {c : Code} {args : List Value} {R : Ending → World → Prop} (hf : P.funcs[f]? = some fn) (hb : fn.body = some c) (hn : fn.ntmps = n) (ha : args.length ≤ n)
    (h : ∀ a, Fr n a (argsF 0 args) → c.wp P (bodyPost P fn R) a w) : Calls P f args.toArray w R := by
  refine calls_of_wp hf hb (h _ ?_)
  rw [hn]
  exact Fr.start args.toArray n (by simpa using ha)

theorem ret0 {n : Nat} {fn : Func} {F : List (Nat × Value)} {S : Value → World → Prop} (hF : Fr n a F) (hr : fn.results = #[]) (hS : S (.tuple #[]) w) : bodyPost P fn (Ret S) .normal a w :=
  ⟨hF.defers, _, results_none hr a.tmps P w, _, rfl, hS⟩
theorem ret1 {n t : Nat} {fn : Func} {F : List (Nat × Value)} {v : Value} {S : Value → World → Prop} (hF : Fr n a F) (hr : fn.results = #[.tmp t]) (h : look F t = some v) (hS : S v w) : bodyPost P fn (Ret S) .ret a w := by
  refine ⟨hF.defers, _, results_tmp hr a.tmps P w, _, rfl, ?_⟩
  have := hF.slot t v h
  rwa [Array.getD_eq_getD_getElem?, this]
theorem ret2 {n t u : Nat} {fn : Func} {F : List (Nat × Value)} {v v2 : Value} {S : Value → World → Prop} (hF : Fr n a F) (hr : fn.results = #[.tmp t, .tmp u]) (h : look F t = some v) (h2 : look F u = some v2) (hS : S (.tuple #[v, v2]) w) : bodyPost P fn (Ret S) .ret a w := by
  refine ⟨hF.defers, _, results_tmp2 hr a.tmps P w, _, rfl, ?_⟩
  have e1 := hF.slot t v h
  have e2 := hF.slot u v2 h2
  simpa [Array.getD_eq_getD_getElem?, e1, e2] using hS
theorem ret3 {n t u z : Nat} {fn : Func} {F : List (Nat × Value)} {v v2 v3 : Value} {S : Value → World → Prop} (hF : Fr n a F) (hr : fn.results = #[.tmp t, .tmp u, .tmp z]) (h : look F t = some v) (h2 : look F u = some v2) (h3 : look F z = some v3)
    (hS : S (.tuple #[v, v2, v3]) w) : bodyPost P fn (Ret S) .ret a w := by
  have e1 := hF.slot t v h
  have e2 := hF.slot u v2 h2
  have e3 := hF.slot z v3 h3
  refine ⟨hF.defers, .tuple #[v, v2, v3], ?_, _, rfl, hS⟩
  simp [results, hr, e1, e2, e3]

/-- A loop: an invariant that bears a number, which every round lowers; what the round must hand on stands behind K. -/
theorem loopK {c : Code} (I : Nat → Act → World → Prop) (m0 : Nat) (h0 : I m0 a w)
    (round : ∀ m a w, I m a w → ∀ K : Act → World → Prop, (∀ m' a' w', m' < m → I m' a' w' → K a' w') → c.wp P (Exit.then K Q) a w) : (Code.loop c).wp P Q a w :=
  wp_loop_ghost I m0 h0 fun m a w hI => round m a w hI _ fun m' a' w' hlt hI' => ⟨m', hlt, hI'⟩

theorem condK {n : Nat} {F : List (Nat × Value)} {c : Operand} {x y : Code} {p : Prop} [Decidable p] (hF : Fr n a F) (hc : opnd F c = some (.bool (decide p))) (ht : p → x.wp P Q a w) (hf : ¬ p → y.wp P Q a w) : (Code.cond c x y).wp P Q a w :=
  wp_cond_split (hF.eval hc) (fun h => ht (of_decide_eq_true h)) (fun h => hf (of_decide_eq_false h))
theorem condB {n : Nat} {F : List (Nat × Value)} {c : Operand} {x y : Code} {t : Bool} (hF : Fr n a F) (hc : opnd F c = some (.bool t)) (ht : t = true → x.wp P Q a w) (hf : t = false → y.wp P Q a w) : (Code.cond c x y).wp P Q a w :=
  wp_cond_split (hF.eval hc) ht hf
theorem condT {n : Nat} {F : List (Nat × Value)} {c : Operand} {x y : Code} (hF : Fr n a F) (hc : opnd F c = some (.bool true)) (ht : x.wp P Q a w) : (Code.cond c x y).wp P Q a w :=
  wp_cond_true (hF.eval hc) ht
theorem condF {n : Nat} {F : List (Nat × Value)} {c : Operand} {x y : Code} (hF : Fr n a F) (hc : opnd F c = some (.bool false)) (hf : y.wp P Q a w) : (Code.cond c x y).wp P Q a w :=
  wp_cond_false (hF.eval hc) hf
end

end Go.Proofs.Ytnagkhofkjjajaa
