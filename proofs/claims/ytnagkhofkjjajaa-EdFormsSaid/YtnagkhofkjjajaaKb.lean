/- Operations that touch no memory, many in one step; memory as blocks and rows: lemmas for walks, no statement of the claim. -/
import Derived.Test.YtnagkhofkjjajaaKa
import Derived.Below
import Derived.Laws.BytesArg
import Derived.Laws.CopyOwn
import Derived.Laws.MakeOwn
import Derived.Laws.OwnMore
set_option linter.unusedVariables false
set_option linter.unusedSimpArgs false
namespace Go.Proofs.Ytnagkhofkjjajaa
open Go.RowKit

/-! ### 4. What is known of types -/
structure T1 where
  d : TypeDesc
  n : Nat
  b : Nat
  z : Value
def lookT : List (Nat × T1) → Nat → Option T1
  | [], _ => none
  | (i, v) :: r, t => bif Nat.beq i t then some v else lookT r t
structure TIok (P : Program) (TI : List (Nat × T1)) : Prop where
  ty : ∀ t i, lookT TI t = some i → P.underlying t = some i.d
  info : ∀ t i, lookT TI t = some i → (P.info? t).map (fun j => (j.size, j.bytes, j.zero)) = some (i.n, i.b, some i.z)

theorem TIok.mk' {P : Program} {TI : List (Nat × T1)} (h : ∀ p, p ∈ TI → P.underlying p.1 = some p.2.d ∧ (P.info? p.1).map (fun j => (j.size, j.bytes, j.zero)) = some (p.2.n, p.2.b, some p.2.z)) : TIok P TI := by
  have : ∀ (TI' : List (Nat × T1)) t i, lookT TI' t = some i → (t, i) ∈ TI' := by
    intro TI'
    induction TI' with
    | nil => intro t i h; simp [lookT] at h
    | cons p r ih =>
      intro t i h
      obtain ⟨u, v⟩ := p
      simp only [lookT] at h
      cases hb : Nat.beq u t with
      | true =>
        have := Nat.eq_of_beq_eq_true hb
        subst this
        simp [hb] at h
        subst h
        simp
      | false =>
        simp [hb] at h
        exact List.mem_cons_of_mem _ (ih t i h)
  exact ⟨fun t i e => (h _ (this TI t i e)).1, fun t i e => (h _ (this TI t i e)).2⟩

section
variable {P : Program} {TI : List (Nat × T1)} (hT : TIok P TI)
include hT
theorem TIok.size {t : Nat} {i : T1} (h : lookT TI t = some i) : (P.info? t).map (·.size) = some i.n := by
  have := hT.info t i h
  cases hq : P.info? t with
  | none => simp [hq] at this
  | some j => simp [hq] at this; simp [this.1]
theorem TIok.run_sizeOf {t : Nat} {i : T1} (h : lookT TI t = some i) (w : World) : (sizeOf t).run P w = .ok i.n w := by
  have := hT.info t i h
  cases hq : P.info? t with
  | none => simp [hq] at this
  | some j => simp [hq] at this; simp [sizeOf, typeInfo, hq, this.1]
theorem TIok.run_zero {t : Nat} {i : T1} (h : lookT TI t = some i) (w : World) : (zeroValue t).run P w = .ok i.z w := by
  have := hT.info t i h
  cases hq : P.info? t with
  | none => simp [hq] at this
  | some j => simp [hq] at this; simp [zeroValue, typeInfo, hq, this.2.2]
theorem TIok.row {t : Nat} {i : T1} (h : lookT TI t = some i) : ∃ j, P.info? t = some j ∧ j.zero = some i.z ∧ j.size = i.n ∧ j.bytes = i.b := by
  have := hT.info t i h
  cases hq : P.info? t with
  | none => simp [hq] at this
  | some j => simp [hq] at this; exact ⟨j, rfl, this.2.2, this.1, this.2.1⟩
end

def aggD : TypeDesc → Bool
  | .struct _ | .array _ _ => true
  | _ => false
theorem run_isAgg {P : Program} {t : Nat} {d : TypeDesc} (h : P.underlying t = some d) (w : World) : (isAgg t).run P w = .ok (aggD d) w := by
  unfold isAgg
  rw [Sem.run_bind, run_underlying h w]
  cases d <;> rfl

/-! ### 5. The evaluator -/
def ablk : Option Addr → Nat
  | some a => a.block
  | none => 0
def aoff : Option Addr → Nat
  | some a => a.off
  | none => 0
def scale (i n : Nat) : Nat := bif Nat.beq n 1 then i else i * n
theorem scale_eq (i n : Nat) : scale i n = i * n := by
  unfold scale
  cases h : Nat.beq n 1 with
  | true => have := Nat.eq_of_beq_eq_true h; subst this; simp
  | false => rfl

def pConv (dst k : IntKind) (x : Int) : PV :=
  match x with
  | .ofNat a =>
    match dst with
    | .i64 => bif (match k with | .u64 => false | _ => true) then some (.int .i64 (.ofNat a), [a ≤ 9223372036854775807]) else none
    | .u8 => some (.int .u8 (.ofNat (a % 256)), [])
    | .u16 => some (.int .u16 (.ofNat (a % 65536)), [])
    | .u32 => some (.int .u32 (.ofNat (a % 4294967296)), [])
    | .u64 => some (.int .u64 (.ofNat a), [a < 18446744073709551616])
    | _ => none
  | _ => none
theorem pConv_sound {dst k : IntKind} {x : Int} {v : Value} {cs : List Prop} (h : pConv dst k x = some (v, cs)) (hc : allP cs) (P : Program) (w : World) : (Conv.intToInt dst x).run P w = .ok v w := by
  cases x with
  | negSucc a => simp [pConv] at h
  | ofNat a =>
    have e : (Int.ofNat a) = (a : Int) := rfl
    cases dst <;> simp only [pConv, reduceCtorEq] at h
    case i64 =>
      cases k <;> simp only [cond_true, cond_false, Option.some.injEq, Prod.mk.injEq, reduceCtorEq] at h <;> obtain ⟨rfl, rfl⟩ := h <;> simp only [allP] at hc <;> simp only [Conv.intToInt, run_ok] <;> rw [e, wrap_i64 (by omega) (by omega)]
    case u64 =>
      simp only [Option.some.injEq, Prod.mk.injEq] at h
      obtain ⟨rfl, rfl⟩ := h
      simp only [allP] at hc
      simp only [Conv.intToInt, run_ok]
      rw [e, wrap_lt rfl (by simp only [mo]; omega)]
    all_goals
      simp only [Option.some.injEq, Prod.mk.injEq] at h
      obtain ⟨rfl, rfl⟩ := h
      simp only [Conv.intToInt, run_ok]
      rw [e, wrap_ofNat rfl]
      rfl

def fieldOff (TI : List (Nat × T1)) (s f : Nat) : Option Nat :=
  match lookT TI s with
  | some ⟨.struct fields, _, _, _⟩ => match fields[f]? with
    | some fl => match lookT TI fl.type with
      | some i => bif Nat.beq i.n 0 then none else some fl.offset
      | none => none
    | none => none
  | _ => none

def pCall (TI : List (Nat × T1)) (F : List (Nat × Value)) (c : Call) : PV :=
  match c with
  | ⟨.builtin .len, ⟨[x]⟩, ⟨[t]⟩⟩ => match lookT TI t, opnd F x with
    | some ⟨.slice _, _, _, _⟩, some (.slice _ n _) => some (.int .i64 (.ofNat n), [])
    | some ⟨.string, _, _, _⟩, some (.string s) => some (.int .i64 (.ofNat s.size), [])
    | some ⟨.array n _, _, _, _⟩, some _ => some (.int .i64 (.ofNat n), [])
    | _, _ => none
  | ⟨.builtin .max, ⟨[x, y]⟩, ⟨[_, _]⟩⟩ => match opnd F x, opnd F y with
    | some (.int .i64 (.ofNat a)), some (.int .i64 (.ofNat b)) => some (.int .i64 (.ofNat (Nat.max a b)), [])
    | _, _ => none
  | _ => none

def pOp (TI : List (Nat × T1)) (F : List (Nat × Value)) : Op → PV
  | .move x => match opnd F x with | some v => some (v, []) | none => none
  | .assign x => match opnd F x with | some v => some (v, []) | none => none
  | .pick c a b => match opnd F c with
    | some (.bool true) => match opnd F a with | some v => some (v, []) | none => none
    | some (.bool false) => match opnd F b with | some v => some (v, []) | none => none
    | _ => none
  | .binOp op t x y _ => match opnd F x, opnd F y with
    | some (.bool a), some (.bool b) => match op with
      | .eql => match lookT TI t with | some ⟨.bool, _, _, _⟩ => some (.bool (a == b), []) | _ => none
      | .neq => match lookT TI t with | some ⟨.bool, _, _, _⟩ => some (.bool (!(a == b)), []) | _ => none
      | _ => none
    | some a, some b => pBin op a b
    | _, _ => none
  | .unOp op _ x => match op, opnd F x with
    | .not, some (.bool b) => some (.bool !b, [])
    | .neg, some (.int .i64 a) => some (.int .i64 (-a), [-9223372036854775807 ≤ a, a ≤ 9223372036854775807])
    | .xor, some (.int k (.ofNat a)) => bif uns k then some (.int k (.ofNat (mo k - 1 - a)), [a < mo k]) else none
    | _, _ => none
  | .convert src dst x => match lookT TI src, lookT TI dst, opnd F x with
    | some _, some ⟨.int k, _, _, _⟩, some (.int k' n) => pConv k k' n
    | _, _, _ => none
  | .extract x i => match opnd F x with
    | some (.tuple vs) => match vs[i]? with | some v => some (v, []) | none => none
    | _ => none
  | .nilCheck x => match opnd F x with
    | some (.pointer (some a)) => some (.pointer (some a), [])
    | _ => none
  | .fieldAddr s x f => match fieldOff TI s f, opnd F x with
    | some o, some (.pointer (some ⟨b, off, none⟩)) => some (.pointer (some ⟨b, off + o, none⟩), [])
    | _, _ => none
  | .indexAddr t x i => match lookT TI t, opnd F x, opnd F i with
    | some ⟨.slice e, _, _, _⟩, some (.slice A n c), some (.int k i) => match lookT TI e with
      | some ei => some (.pointer (some ⟨ablk A, aoff A + scale i.toNat ei.n, none⟩), [0 ≤ i, i < (n : Int), A = some ⟨ablk A, aoff A, none⟩])
      | none => none
    | some ⟨.array len e, _, _, _⟩, some (.pointer (some ⟨b, off, none⟩)), some (.int k i) => match lookT TI e with
      | some ei => some (.pointer (some ⟨b, off + scale i.toNat ei.n, none⟩), [0 ≤ i, i < (len : Int)])
      | none => none
    | _, _, _ => none
  | .call c => pCall TI F c
  | _ => none

theorem add_flat (b o n : Nat) : (⟨b, o, none⟩ : Addr).add n = ⟨b, o + n, none⟩ := Addr.add_lit b o n

section
variable {P : Program} {TI : List (Nat × T1)} {n : Nat} {a : Act} {F : List (Nat × Value)}

theorem pOp_sound (hT : TIok P TI) (hF : Fr n a F) {o : Oper} {v : Value} {cs : List Prop} (h : pOp TI F o.op = some (v, cs)) (hc : allP cs) (w : World) : (execOp a.eval o).run P w = .ok (.value v) w := by
  obtain ⟨dst, op, ty, pos, aft, gd⟩ := o
  simp only at h
  cases op with
  | move x =>
    simp only [pOp] at h
    split at h
    · rename_i u hu; simp only [Option.some.injEq, Prod.mk.injEq] at h; obtain ⟨rfl, rfl⟩ := h
      simp [execOp, hF.eval hu]
    · cases h
  | assign x =>
    simp only [pOp] at h
    split at h
    · rename_i u hu; simp only [Option.some.injEq, Prod.mk.injEq] at h; obtain ⟨rfl, rfl⟩ := h
      simp [execOp, hF.eval hu]
    · cases h
  | pick c x y =>
    simp only [pOp] at h
    split at h
    · rename_i hcc
      split at h
      · rename_i u hu; simp only [Option.some.injEq, Prod.mk.injEq] at h; obtain ⟨rfl, rfl⟩ := h
        simp [execOp, hF.eval hcc, hF.eval hu, asBool]
      · cases h
    · rename_i hcc
      split at h
      · rename_i u hu; simp only [Option.some.injEq, Prod.mk.injEq] at h; obtain ⟨rfl, rfl⟩ := h
        simp [execOp, hF.eval hcc, hF.eval hu, asBool]
      · cases h
    · cases h
  | binOp op t x y t' =>
    simp only [pOp] at h
    split at h
    · rename_i p q hp hq
      have e1 := hF.eval hp
      have e2 := hF.eval hq
      split at h
      · split at h
        · rename_i ht
          simp only [Option.some.injEq, Prod.mk.injEq] at h; obtain ⟨rfl, rfl⟩ := h
          simp [execOp, e1, e2, eqGuard_at_bool, run_eql_bool w t p q (hT.ty _ _ ht)]
        · cases h
      · split at h
        · rename_i ht
          simp only [Option.some.injEq, Prod.mk.injEq] at h; obtain ⟨rfl, rfl⟩ := h
          simp [execOp, e1, e2, eqGuard_at_bool, run_neq_bool w t p q (hT.ty _ _ ht)]
        · cases h
      · cases h
    · rename_i p q _ hp hq
      have e1 := hF.eval hp
      have e2 := hF.eval hq
      have := pBin_sound h hc P t x y w
      simp only [execOp, e1, e2]
      rw [Sem.run_bind]
      simp only [Sem.run_pure]
      rw [this]
      rfl
    · cases h
  | unOp op t x =>
    simp only [pOp] at h
    split at h
    · rename_i b hb
      simp only [Option.some.injEq, Prod.mk.injEq] at h; obtain ⟨rfl, rfl⟩ := h
      simp [execOp, hF.eval hb, Op.unary]
    · rename_i b hb
      simp only [Option.some.injEq, Prod.mk.injEq] at h; obtain ⟨rfl, rfl⟩ := h
      simp only [allP] at hc
      simp only [execOp, hF.eval hb, Op.unary, Op.intArith, Sem.run_bind, Sem.run_pure, Result.andThen_ok]
      rw [wrap_i64 (by omega) (by omega), Int.zero_sub]
    · rename_i k b hb
      cases hu : uns k with
      | false => simp [hu] at h
      | true =>
        simp only [hu, cond_true, Option.some.injEq, Prod.mk.injEq] at h; obtain ⟨rfl, rfl⟩ := h
        simp only [allP] at hc
        obtain ⟨c1, _⟩ := hc
        have hsg : k.signed = false := by cases k <;> first | rfl | (simp [uns] at hu)
        simp only [execOp, hF.eval hb, Op.unary, hsg, Bool.false_eq_true, if_false, Op.intBits, Sem.run_bind, Sem.run_pure, Result.andThen_ok, BitVec.toNat_xor]
        have e0 : k.max = ((2 ^ k.bits - 1 : Nat) : Int) := by cases k <;> first | rfl | (simp [uns] at hu)
        have hp : 0 < 2 ^ k.bits := Nat.two_pow_pos _
        rw [e0, bits_ofNat k.bits (2 ^ k.bits - 1) (by omega), show (Int.ofNat b) = (b : Int) from rfl, bits_ofNat k.bits b (by rw [← mo_pow]; exact c1)]
        have hx : (2 ^ k.bits - 1) ^^^ b = mo k - 1 - b := by
          rw [mo_pow]
          rw [mo_pow] at c1
          apply Nat.eq_of_testBit_eq
          intro i
          rw [show 2 ^ k.bits - 1 - b = 2 ^ k.bits - (b + 1) by omega, Nat.testBit_xor, Nat.testBit_two_pow_sub_succ c1, Nat.testBit_two_pow_sub_one]
          by_cases hi : i < k.bits
          · simp [hi]
          · simp [hi]
            exact Nat.testBit_lt_two_pow (Nat.lt_of_lt_of_le c1 (Nat.pow_le_pow_right (by decide) (by omega)))
        rw [hx, wrap_lt hu (by omega)]
        rfl
    · cases h
  | convert src dst x =>
    simp only [pOp] at h
    split at h
    · rename_i i k _ _ _ k' m hs hd hx
      have := pConv_sound h hc P w
      simp [execOp, hF.eval hx, convert, run_underlying (hT.ty _ _ hs), run_underlying (hT.ty _ _ hd), this]
    · cases h
  | extract x i =>
    simp only [pOp] at h
    split at h
    · rename_i vs hx
      split at h
      · rename_i u hu
        simp only [Option.some.injEq, Prod.mk.injEq] at h; obtain ⟨rfl, rfl⟩ := h
        simp [execOp, hF.eval hx, Instr.extract, hu]
      · cases h
    · cases h
  | nilCheck x =>
    simp only [pOp] at h
    split at h
    · rename_i u hx
      simp only [Option.some.injEq, Prod.mk.injEq] at h; obtain ⟨rfl, rfl⟩ := h
      simp [execOp, hF.eval hx]
    · cases h
  | fieldAddr s x f =>
    simp only [pOp] at h
    split at h
    · rename_i o b off hfo hx
      simp only [Option.some.injEq, Prod.mk.injEq] at h; obtain ⟨rfl, rfl⟩ := h
      unfold fieldOff at hfo
      split at hfo
      · rename_i fields _ _ _ hs
        split at hfo
        · rename_i fl hfl
          split at hfo
          · rename_i i hi
            cases hz : Nat.beq i.n 0 with
            | true => simp [hz] at hfo
            | false =>
              simp [hz] at hfo
              subst hfo
              have hn : i.n ≠ 0 := fun q => by rw [q] at hz; cases hz
              simp [execOp, hF.eval hx, Instr.fieldAt, run_underlying (hT.ty _ _ hs), hfl, Instr.sureAddr, fieldPlace, hT.run_sizeOf hi, hn, add_flat]
          · cases hfo
        · cases hfo
      · cases hfo
    · cases h
  | indexAddr t x ix =>
    simp only [pOp] at h
    split at h
    · rename_i e _ _ _ A m c k i ht hx hix
      split at h
      · rename_i ei hei
        simp only [Option.some.injEq, Prod.mk.injEq] at h; obtain ⟨rfl, rfl⟩ := h
        simp only [allP] at hc
        obtain ⟨c1, c2, c3, _⟩ := hc
        simp only [execOp, hF.eval hx, hF.eval hix]
        rw [c3]
        simp only [Instr.indexAt, asIntOf, Sem.run_bind, Sem.run_pure, Result.andThen_ok, run_underlying (hT.ty _ _ ht)]
        rw [if_pos ⟨c1, c2⟩]
        simp [hT.run_sizeOf hei, add_flat, scale_eq, ablk, aoff]
      · cases h
    · rename_i len e _ _ _ b off k i ht hx hix
      split at h
      · rename_i ei hei
        simp only [Option.some.injEq, Prod.mk.injEq] at h; obtain ⟨rfl, rfl⟩ := h
        simp only [allP] at hc
        obtain ⟨c1, c2, _⟩ := hc
        simp only [execOp, hF.eval hx, hF.eval hix]
        simp only [Instr.indexAt, asIntOf, Sem.run_bind, Sem.run_pure, Result.andThen_ok, run_underlying (hT.ty _ _ ht), Instr.sureAddr]
        rw [if_pos ⟨c1, c2⟩]
        simp [hT.run_sizeOf hei, add_flat, scale_eq]
      · cases h
    · cases h
  | call c =>
    simp only [pOp, pCall] at h
    split at h
    · rename_i x t
      split at h
      · rename_i hl hx
        simp only [Option.some.injEq, Prod.mk.injEq] at h; obtain ⟨rfl, rfl⟩ := h
        simp [execOp, resolve, invoke, builtin, Builtin.len_, hF.eval hx, run_underlying (hT.ty _ _ hl), goInt]
      · rename_i hl hx
        simp only [Option.some.injEq, Prod.mk.injEq] at h; obtain ⟨rfl, rfl⟩ := h
        simp [execOp, resolve, invoke, builtin, Builtin.len_, hF.eval hx, run_underlying (hT.ty _ _ hl), goInt]
      · rename_i hl hx
        simp only [Option.some.injEq, Prod.mk.injEq] at h; obtain ⟨rfl, rfl⟩ := h
        simp [execOp, resolve, invoke, builtin, Builtin.len_, hF.eval hx, run_underlying (hT.ty _ _ hl), goInt]
      · cases h
    · rename_i x y _ _
      split at h
      · rename_i p q hp hq
        simp only [Option.some.injEq, Prod.mk.injEq] at h; obtain ⟨rfl, rfl⟩ := h
        simp only [execOp, resolve, invoke, builtin, hF.eval hp, hF.eval hq, List.map_toArray, List.map_cons, List.map_nil, Sem.run_bind, Sem.run_pure, Result.andThen_ok, run_max_int2]
        congr 3
        rw [show (Int.ofNat p) = (p : Int) from rfl, show (Int.ofNat q) = (q : Int) from rfl]
        simp only [Nat.max_def]
        split <;> split <;> first | rfl | (simp; omega) | omega
      · cases h
    · cases h
  | _ => simp [pOp] at h

/-! ### 6. Many operations in one step -/
/-- Is the operation carried out? -/
def gok (ops : Array Oper) (F : List (Nat × Value)) (o : Oper) : Option Bool :=
  match o.guard with
  | none => some true
  | some (j, want) => match (ops[j]?).bind (·.dst) with
    | some d => match look F d with
      | some (.bool b) => some (b == want)
      | _ => none
    | none => none
theorem gok_spec (hF : Fr n a F) {ops : Array Oper} {o : Oper} {b : Bool} (h : gok ops F o = some b) : Region.wanted o (yielded ops a.tmps) = b := by
  unfold gok at h
  unfold Region.wanted
  split at h
  · rename_i hg
    rw [hg]
    simpa using h
  · rename_i j want hg
    rw [hg]
    split at h
    · rename_i d hd
      split at h
      · rename_i c hc
        simp only [Option.some.injEq] at h
        subst h
        have := hF.slot d _ hc
        simp only [yielded, hd]
        simp [this]
      · cases h
    · cases h

/-- One operation, as a list's walk and a region's walk have it. -/
def One (P : Program) (ops : Array Oper) (Q : Exit → Act → World → Prop) (o : Oper) (KK : Act → World → Prop) (a : Act) (w : World) : Prop :=
  if Region.wanted o (yielded ops a.tmps) then o.wp P a w KK Q ∨ (o.asks P a w ∧ LetsOut Q) else KK (a.put o.dst undef) w
theorem wl {ops : Array Oper} {Q : Exit → Act → World → Prop} {o : Oper} {w : World} {rest : List Oper} (h : One P ops Q o (wpList P ops Q rest) a w) : wpList P ops Q (o :: rest) a w := h
theorem One.res {ops : Array Oper} {Q : Exit → Act → World → Prop} {o : Oper} {KK : Act → World → Prop} {w w' : World} {v : Value} (hg : Region.wanted o (yielded ops a.tmps) = true) (h : (execOp a.eval o).run P w = .ok (.value v) w') (k : KK (a.put o.dst v) w') : One P ops Q o KK a w := by
  unfold One
  rw [if_pos hg]
  refine .inl ?_
  unfold Oper.wp
  rw [h]
  exact k
theorem One.off {ops : Array Oper} {Q : Exit → Act → World → Prop} {o : Oper} {KK : Act → World → Prop} {w : World} (hg : Region.wanted o (yielded ops a.tmps) = false) (k : KK (a.put o.dst undef) w) : One P ops Q o KK a w := by
  unfold One
  rw [if_neg (by rw [hg]; simp)]
  exact k
/-- The guard says yes: as without a guard. -/
theorem One.bare {ops : Array Oper} {Q : Exit → Act → World → Prop} {o : Oper} {KK : Act → World → Prop} {w : World} (hF : Fr n a F) (hg : gok ops F o = some true) (k : One P ops Q { o with guard := none } KK a w) : One P ops Q o KK a w := by
  have h1 := gok_spec hF hg
  unfold One at *
  rw [if_pos h1]
  rw [if_pos (by simp [Region.wanted])] at k
  exact k

def runP (TI : List (Nat × T1)) (ops : Array Oper) (n : Nat) : Nat → List Oper → List (Nat × Value) → Option (List (Nat × Value) × List Prop)
  | 0, _, F => some (F, [])
  | k + 1, o :: l, F => match gok ops F o, o.dst with
    | some true, some d => bif Nat.blt d n then (match pOp TI F o.op with
      | some (v, c) => match runP TI ops n k l ((d, v) :: F) with
        | some (F', C) => some (F', c ++ C)
        | none => none
      | none => none) else none
    | some false, some d => bif Nat.blt d n then runP TI ops n k l ((d, undef) :: F) else none
    | _, _ => none
  | _ + 1, [], _ => none

theorem pures {ops : Array Oper} {Q : Exit → Act → World → Prop} {w : World} (hT : TIok P TI) : ∀ (k : Nat) (L : List Oper) {a : Act} {F F' : List (Nat × Value)} {cs : List Prop} (hF : Fr n a F)
    (h : runP TI ops n k L F = some (F', cs)) (hc : allP cs) (K : ∀ a', Fr n a' F' → wpList P ops Q (L.drop k) a' w), wpList P ops Q L a w := by
  intro k
  induction k with
  | zero =>
    intro L a F F' cs hF h hc K
    simp only [runP, Option.some.injEq, Prod.mk.injEq] at h
    obtain ⟨rfl, rfl⟩ := h
    exact K a hF
  | succ k ih =>
    intro L a F F' cs hF h hc K
    cases L with
    | nil => simp [runP] at h
    | cons o l =>
      simp only [runP] at h
      split at h
      · rename_i d hg hd
        cases hlt : Nat.blt d n with
        | false => simp [hlt] at h
        | true =>
          have hdn : d < n := by simpa using hlt
          simp only [hlt, cond_true] at h
          split at h
          · rename_i v c hv
            split at h
            · rename_i F1 C hr
              simp only [Option.some.injEq, Prod.mk.injEq] at h
              obtain ⟨rfl, rfl⟩ := h
              obtain ⟨h1, h2⟩ := allP_append.1 hc
              refine wl (One.res (gok_spec hF hg) (pOp_sound hT hF hv h1 w) ?_)
              rw [hd]
              exact ih l (hF.put hdn v) hr h2 (fun a' hF' => K a' hF')
            · cases h
          · cases h
      · rename_i d hg hd
        cases hlt : Nat.blt d n with
        | false => simp [hlt] at h
        | true =>
          have hdn : d < n := by simpa using hlt
          simp only [hlt, cond_true] at h
          refine wl (One.off (gok_spec hF hg) ?_)
          rw [hd]
          exact ih l (hF.put hdn undef) h hc (fun a' hF' => K a' hF')
      · cases h

theorem pures_end {ops : Array Oper} {Q : Exit → Act → World → Prop} {w : World} (hT : TIok P TI) (k : Nat) (L : List Oper) {a : Act} {F F' : List (Nat × Value)} {cs : List Prop} (hF : Fr n a F)
    (h : runP TI ops n k L F = some (F', cs)) (hk : L.drop k = []) (hc : allP cs) (K : ∀ a', Fr n a' F' → Q .normal a' w) : wpList P ops Q L a w :=
  pures hT k L hF h hc (fun a' hF' => by rw [hk]; exact wpList_nil (K a' hF'))
theorem dec_cases (p : Prop) [Decidable p] : (p ∧ decide p = true) ∨ (¬ p ∧ decide p = false) := by
  by_cases h : p <;> simp [h]
end

end Go.Proofs.Ytnagkhofkjjajaa
