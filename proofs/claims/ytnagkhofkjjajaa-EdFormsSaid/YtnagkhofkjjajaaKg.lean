/- Steps with arrays as values, strings' bytes, functions as values; results that lie in memory: lemmas for walks. -/
import Derived.Test.YtnagkhofkjjajaaKf
import Derived.Laws.Tables
import Derived.Laws.Rows
set_option linter.unusedVariables false
set_option linter.unusedSimpArgs false
namespace Go.Proofs.Ytnagkhofkjjajaa
open Go.RowKit
section
variable {P : Program} {TI : List (Nat × T1)} {ops : Array Oper} {Q : Exit → Act → World → Prop} {o : Oper} {n : Nat} {F : List (Nat × Value)} {KK : Act → World → Prop} {a : Act} {w : World}
/-- a literal array or struct -/
def oBuild (n : Nat) (F : List (Nat × Value)) (o : Oper) : Option (Nat × Nat × List (Nat × Value)) :=
  match dstOf n o, o.op with
  | some d, .build t ⟨parts⟩ => match opndL F (parts.map (·.2)) with
    | some l => some (d, t, (parts.map (·.1)).zip l)
    | none => none
  | _, _ => none
theorem zip_eval {a : Act} : ∀ (parts : List (Nat × Operand)) (l : List Value), (parts.map (·.2)).map a.eval = l → (parts.map (·.1)).zip l = parts.map fun (i, x) => (i, a.eval x) := by
  intro parts
  induction parts with
  | nil => intro l h; rfl
  | cons p r ih =>
    intro l h
    subst h
    simp only [List.map_cons, List.zip_cons_cons]
    rw [ih _ rfl]
theorem s_build {d t : Nat} {ps : List (Nat × Value)} {cs : Array Value} (h : oBuild n F o = some (d, t, ps)) (hb : P.built t ps = some cs) (hF : Fr n a F)
    (K : ∀ a', a' = a.put (some d) (.agg cs) → Fr n a' ((d, .agg cs) :: F) → KK a' w) : One P ops Q o KK a w := by
  unfold oBuild at h
  split at h
  · rename_i d' t' parts hd hop
    split at h
    · rename_i l hl
      simp only [Option.some.injEq, Prod.mk.injEq] at h
      obtain ⟨rfl, rfl, rfl⟩ := h
      refine s_val hd hF ?_ K
      have hm := opndL_eval hF _ _ hl
      rw [zip_eval parts l hm] at hb
      have := run_build w t' ((⟨parts⟩ : Array (Nat × Operand)).map fun (i, x) => (i, a.eval x)) cs (by simpa using hb)
      simp only [execOp, hop]
      rw [Sem.run_bind]
      first | (rw [this]; rfl) | (simp [this])
    · cases h
  · cases h
/-- a function's value -/
def oMakeFunc (n : Nat) (F : List (Nat × Value)) (o : Oper) : Option (Nat × Fn × List Value) :=
  match dstOf n o, o.op with
  | some d, .makeFunc f ⟨[]⟩ ⟨cap⟩ => match opndL F cap with
    | some l => some (d, f, l)
    | none => none
  | _, _ => none
/-- two arrays of numbers compared -/
theorem loop_eq {t : Nat} {k : IntKind} (hu : P.underlying t = some (.int k)) (hs : (P.info? t).map (·.size) = some 1) (dd : Nat) (xs ys : List Nat) (hl : xs.length = ys.length) (w : World) :
    ∀ (m i : Nat), i + m = xs.length → (∀ j, j < i → xs.getD j 0 = ys.getD j 0) →
      (forIn (m := Sem) (List.range' i m) ((none : Option Bool), ()) (fun j _ => do
        let a ← part t (vs k xs).toArray (j * 1)
        let b ← part t (vs k ys).toArray (j * 1)
        let r ← Op.equalIn (dd + 1) t a b
        if (!r) = true then pure (ForInStep.done (some false, ())) else pure (ForInStep.yield (none, ())))).run P w = .ok (if xs = ys then (none, ()) else (some false, ())) w := by
  intro m
  induction m with
  | zero =>
    intro i hi h
    have : xs = ys := by
      apply List.ext_getElem hl
      intro j h1 h2
      have := h j (by omega)
      simpa [List.getD_eq_getElem?_getD, h1, h2] using this
    simp [this]
  | succ m ih =>
    intro i hi h
    have hx : (vs k xs).toArray[i]? = some (.int k ((xs.getD i 0 : Nat) : Int)) := by simpa using vs_get k xs (i := i) (by omega)
    have hy : (vs k ys).toArray[i]? = some (.int k ((ys.getD i 0 : Nat) : Int)) := by simpa using vs_get k ys (i := i) (by omega)
    have hp : ∀ (l : List Nat) (c : Int), (vs k l).toArray[i]? = some (.int k c) → (part t (vs k l).toArray (i * 1)).run P w = .ok (.int k c) w := by
      intro l c hc
      simp [part, run_isAgg hu, aggD, hc]
    rw [List.range'_succ, List.forIn_cons]
    simp only [Sem.run_bind, hp _ _ hx, hp _ _ hy, Result.andThen_ok, run_equalIn_int w dd t k k _ _ hu]
    by_cases e : xs.getD i 0 = ys.getD i 0
    · have hb : ((((xs.getD i 0 : Nat) : Int)) == ((ys.getD i 0 : Nat) : Int)) = true := by rw [e]; simp
      rw [hb]
      simp only [Bool.not_true, Bool.false_eq_true, if_false, Sem.run_pure, Result.andThen_ok]
      refine ih (i + 1) (by omega) (fun j hj => ?_)
      rcases Nat.lt_or_ge j i with q | q
      · exact h j q
      · rw [show j = i by omega]; exact e
    · have hb : ((((xs.getD i 0 : Nat) : Int)) == ((ys.getD i 0 : Nat) : Int)) = false := beq_eq_false_iff_ne.2 (fun q => e (by omega))
      rw [hb]
      have hne : xs ≠ ys := fun q => e (by rw [q])
      simp [hne]
theorem run_arrEq {T t len : Nat} {k : IntKind} (hu : P.underlying T = some (.array len t)) (ht : P.underlying t = some (.int k)) (hs : (P.info? t).map (·.size) = some 1) (hs' : (sizeOf t).run P w = .ok 1 w) (d dd : Nat) (hd : d = dd + 1) (xs ys : List Nat) (hx : xs.length = len) (hy : ys.length = len) :
    (Op.equalIn (d + 1) T (.agg (vs k xs).toArray) (.agg (vs k ys).toArray)).run P w = .ok (decide (xs = ys)) w := by
  simp only [Op.equalIn, Sem.run_bind, run_underlying hu, Result.andThen_ok, hs']
  rw [Std.Legacy.Range.forIn_eq_forIn_range']
  simp only [Std.Legacy.Range.size]
  subst hd
  have h := loop_eq ht hs dd xs ys (by omega) w xs.length 0 (by omega) (fun j hj => by omega)
  rw [show (len - 0 + 1 - 1) / 1 = xs.length by simp; omega, h]
  by_cases e : xs = ys <;> simp [e]
/-- two arrays of numbers compared -/
def oArrEq (TI : List (Nat × T1)) (n : Nat) (F : List (Nat × Value)) (o : Oper) : Option (Nat × Bool × Nat × IntKind × Array Value × Array Value) :=
  match dstOf n o, o.op with
  | some d, .binOp op t x y _ => match lookT TI t, opnd F x, opnd F y with
    | some ⟨.array m e, _, _, _⟩, some (.agg p), some (.agg q) => match lookT TI e with
      | some ⟨.int k, 1, _, _⟩ => match op with
        | .eql => some (d, true, m, k, p, q)
        | .neq => some (d, false, m, k, p, q)
        | _ => none
      | _ => none
    | _, _, _ => none
  | _, _ => none
theorem guard_agg {t : Nat} (hg : P.eqGuardType P.depth t = false) (op : BinOp) (x y : Operand) (p q : Array Value) (w : World) : (eqGuard op t x y (.agg p) (.agg q)).run P w = .ok () w := by
  cases op <;> simp [eqGuard, Sem.run_bind, run_program, Result.andThen_ok, hg]
theorem s_arrEq (hT : TIok P TI) {d m : Nat} {e : Bool} {k : IntKind} {xs ys : List Nat} {b : Bool} (h : oArrEq TI n F o = some (d, e, m, k, (vs k xs).toArray, (vs k ys).toArray)) (hg : ∀ t, (match o.op with | .binOp _ t _ _ _ => some t | _ => none) = some t → P.eqGuardType P.depth t = false) (hF : Fr n a F)
    (hx : xs.length = m) (hy : ys.length = m) (hb : b = if e then decide (xs = ys) else !(decide (xs = ys)))
    (K : ∀ a', a' = a.put (some d) (.bool b) → Fr n a' ((d, .bool b) :: F) → KK a' w) : One P ops Q o KK a w := by
  unfold oArrEq at h
  split at h
  · rename_i d' op t x y t2 hd hop
    have hg' := hg t (by rw [hop])
    split at h
    · rename_i m' el _ _ _ p q ht hxx hyy
      split at h
      · rename_i k' b' z' hel
        have key := run_arrEq (P := P) (w := w) (hT.ty _ _ ht) (hT.ty _ _ hel) (hT.size hel) (hT.run_sizeOf hel w) (Op.maxDepth - 1) (Op.maxDepth - 2) rfl xs ys
        split at h
        · simp only [Option.some.injEq, Prod.mk.injEq] at h
          obtain ⟨rfl, rfl, rfl, rfl, rfl, rfl⟩ := h
          subst hb
          refine s_val hd hF ?_ K
          simp only [execOp, hop, hF.eval hxx, hF.eval hyy, Sem.run_bind, guard_agg hg', Result.andThen_ok, binOp, Op.equal]
          rw [show Op.maxDepth = (Op.maxDepth - 1) + 1 from rfl, key hx hy]
          rfl
        · simp only [Option.some.injEq, Prod.mk.injEq] at h
          obtain ⟨rfl, rfl, rfl, rfl, rfl, rfl⟩ := h
          subst hb
          refine s_val hd hF ?_ K
          simp only [execOp, hop, hF.eval hxx, hF.eval hyy, Sem.run_bind, guard_agg hg', Result.andThen_ok, binOp, Op.equal]
          rw [show Op.maxDepth = (Op.maxDepth - 1) + 1 from rfl, key hx hy]
          rfl
        · cases h
      · cases h
    · cases h
  · cases h
/-- a string's byte -/
def oStrIdx (TI : List (Nat × T1)) (n : Nat) (F : List (Nat × Value)) (o : Oper) : Option (Nat × ByteArray × Int) :=
  match dstOf n o, o.op with
  | some d, .index t x i => match lookT TI t, opnd F x, opnd F i with
    | some ⟨.string, _, _, _⟩, some (.string s), some (.int .i64 j) => some (d, s, j)
    | _, _, _ => none
  | _, _ => none
theorem s_strIdx (hT : TIok P TI) {d j : Nat} {xs : List Nat} (h : oStrIdx TI n F o = some (d, str xs, (j : Int))) (hF : Fr n a F) (hj : j < xs.length) (hb : By xs)
    (K : ∀ a', a' = a.put (some d) (.int .u8 ((xs.getD j 0 : Nat) : Int)) → Fr n a' ((d, .int .u8 ((xs.getD j 0 : Nat) : Int)) :: F) → KK a' w) : One P ops Q o KK a w := by
  unfold oStrIdx at h
  split at h
  · rename_i d' t x i hd hop
    split at h
    · rename_i _ _ _ s j' ht hx hi
      simp only [Option.some.injEq, Prod.mk.injEq] at h
      obtain ⟨rfl, rfl, rfl⟩ := h
      refine s_val hd hF ?_ K
      have hsz : j < (str xs).size := by rw [str_size]; exact hj
      have e : (str xs)[(j : Int).toNat]? = some (UInt8.ofNat (xs.getD j 0)) := by
        rw [show (j : Int).toNat = j by omega, getElem?_pos (str xs) j hsz]
        congr 1
        show (str xs).data[j] = _
        simp [str, List.getD_eq_getElem?_getD, hj]
      have hlt : xs.getD j 0 < 256 := by
        rw [List.getD_eq_getElem?_getD, List.getElem?_eq_getElem hj]; exact hb _ (List.getElem_mem hj)
      simp only [execOp, hop, hF.eval hx, hF.eval hi, Instr.index, Sem.run_bind, run_underlying (hT.ty _ _ ht), Result.andThen_ok]
      have e3 : (UInt8.ofNat (xs.getD j 0)).toNat = xs.getD j 0 := by simp; exact hlt
      have e4 : (if 0 ≤ (j : Int) then (str xs)[(j : Int).toNat]? else none) = some (UInt8.ofNat (xs.getD j 0)) := by rw [if_pos (by omega), e]
      simp only [asIntOf, Sem.run_pure, Result.andThen_ok, e4, e3]
    · cases h
  · cases h
theorem s_makeFunc {d : Nat} {f : Fn} {l : List Value} (h : oMakeFunc n F o = some (d, f, l)) (hF : Fr n a F)
    (K : ∀ a', a' = a.put (some d) (.func f #[] l.toArray) → Fr n a' ((d, .func f #[] l.toArray) :: F) → KK a' w) : One P ops Q o KK a w := by
  unfold oMakeFunc at h
  split at h
  · rename_i d' f' cap hd hop
    split at h
    · rename_i l' hl
      simp only [Option.some.injEq, Prod.mk.injEq] at h
      obtain ⟨rfl, rfl, rfl⟩ := h
      refine s_val hd hF ?_ K
      have hm := opndL_eval hF _ _ hl
      simp only [execOp, hop, Instr.makeFunc]
      have e : ((⟨cap⟩ : Array Operand).map a.eval) = l'.toArray := by rw [← hm]; simp
      simp [e]
    · cases h
  · cases h
/-- a store of all cells of a variable, whose number is told beside -/
def oStoreV (TI : List (Nat × T1)) (F : List (Nat × Value)) (o : Oper) : Option (Nat × Array Value × Nat) :=
  match o.guard, o.dst, o.op with
  | none, none, .store t x y => match lookT TI t, opnd F x, opnd F y with
    | some i, some (.pointer (some ⟨b, 0, none⟩)), some (.agg cs) => some (b, cs, i.n)
    | _, _, _ => none
  | _, _, _ => none
theorem s_storeV (hT : TIok P TI) {b T sz : Nat} {l l2 : List Value} (h : oStoreV TI F o = some (b, l2.toArray, sz)) (hF : Fr n a F) (hB : Blk w b T l) (hz : l2.length = sz) (hl : l2.length = l.length) (h1 : ∀ v, v ∈ l2 → v.oneCell' = true)
    (K : ∀ a' w', a' = a → Fr n a' F → Blk w' b T l2 → w.grownBy w' (some b) → KK a' w') : One P ops Q o KK a w := by
  unfold oStoreV at h
  split at h
  · rename_i t x y hg hd hop
    split at h
    · rename_i i b' q hi hx hy
      simp only [Option.some.injEq, Prod.mk.injEq] at h
      obtain ⟨rfl, rfl, rfl⟩ := h
      have hst := run_storeVar_row (P := P) w b' T t l.toArray l2.toArray hB (by rw [hT.size hi]; simp [hz]) (by simpa using hl.symm) (Array.all_eq_true_iff_forall_mem.2 (fun v hv => h1 v (by simpa using hv)))
      refine s_none hg hd hF (w' := w.setRow b' l2.toArray) ?_ (fun a' ha' hF' => K a' _ ha' hF' ?_ ?_)
      · simp [execOp, hop, hF.eval hx, hF.eval hy, Instr.storeAt, Instr.sureAddr, hst]
      · have := setRow_heap w b' l.toArray l2.toArray T (0, 0) hB
        simpa [Blk] using this
      · exact ⟨rfl, rfl, rfl, by simp, fun k _ hk => setRow_other w b' k _ (fun e => hk (by simp [e]))⟩
    · cases h
  · cases h
end
section
variable {P : Program} {TI : List (Nat × T1)} {Q : Exit → Act → World → Prop} {a : Act} {w : World}
/-- What a function hands back: out of a slot, or out of memory. -/
def ResAt (P : Program) (F : List (Nat × Value)) (w : World) : ResultVar → Value → Prop
  | .tmp t, v => look F t = some v
  | .cell t ty, v => ∃ ad, look F t = some (.pointer (some ad)) ∧ (loadVar ty ad).run P w = .ok v w
theorem resC (hT : TIok P TI) {F : List (Nat × Value)} {t ty b T : Nat} {l : List Value} (h : look F t = some (.pointer (some ⟨b, 0, none⟩))) {i : T1} (hi : lookT TI ty = some i) (ha : aggD i.d = true) (hB : Blk w b T l) (hl : l.length = i.n) : ResAt P F w (.cell t ty) (.agg l.toArray) := by
  refine ⟨_, h, ?_⟩
  have hl' := run_loadCells_list (P := P) w ⟨b, 0, none⟩ l (fun j v hv => by rw [add_flat]; exact hB.cells j v hv)
  rw [hl] at hl'
  simp [loadVar, run_isAgg (hT.ty _ _ hi), ha, hT.run_sizeOf hi, hl']
theorem resC1 (hT : TIok P TI) {F : List (Nat × Value)} {t ty : Nat} {ad : Addr} {v : Value} (h : look F t = some (.pointer (some ad))) {i : T1} (hi : lookT TI ty = some i) (ha : aggD i.d = false) (hc : w.cell? ad = some v) : ResAt P F w (.cell t ty) v := by
  refine ⟨_, h, ?_⟩
  simp [loadVar, run_isAgg (hT.ty _ _ hi), ha, hc]
theorem resRun {n : Nat} {F : List (Nat × Value)} (hF : Fr n a F) {r : ResultVar} {v : Value} (h : ResAt P F w r v) :
    (match r with | .tmp t => pure (a.tmps.getD t undef) | .cell x t => do loadVar t (← asAddr (a.tmps.getD x undef)) : Sem Value).run P w = .ok v w := by
  cases r with
  | tmp t =>
    have := hF.slot t v h
    simp [Array.getD_eq_getD_getElem?, this]
  | cell t ty =>
    obtain ⟨ad, h1, h2⟩ := h
    have := hF.slot t _ h1
    simp [Array.getD_eq_getD_getElem?, this, asAddr, h2]
theorem retR1 {n : Nat} {fn : Func} {F : List (Nat × Value)} {r : ResultVar} {v : Value} {S : Value → World → Prop} {e : Exit} (he : e = .normal ∨ e = .ret) (hF : Fr n a F) (hr : fn.results = #[r]) (h : ResAt P F w r v) (hS : S v w) : bodyPost P fn (Ret S) e a w := by
  have : a.defers = [] ∧ ∃ v, (results fn a.tmps).run P w = .ok v w ∧ Ret S (.returned v) w := by
    refine ⟨hF.defers, v, ?_, _, rfl, hS⟩
    have := resRun hF h
    simp only [results, hr]
    cases r with
    | tmp t => simp at this ⊢; exact this
    | cell t ty => simp at this ⊢; simp [this]
  rcases he with rfl | rfl <;> exact this
end
end Go.Proofs.Ytnagkhofkjjajaa
