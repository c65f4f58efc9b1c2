/- The frame of a walk as a list of slots, and an evaluator of the operations that touch no memory, with its soundness: lemmas for walks, no statement of the claim. -/
import Derived.WalkKit
import Derived.KernelRfl
import Derived.Deep.LoopGhost
set_option linter.unusedVariables false
set_option linter.unusedSimpArgs false
namespace Go.Proofs.Ytnagkhofkjjajaa

/-! ### 1. Frames -/
def look : List (Nat × Value) → Nat → Option Value
  | [], _ => none
  | (i, v) :: r, t => bif Nat.beq i t then some v else look r t

structure Fr (n : Nat) (a : Act) (F : List (Nat × Value)) : Prop where
  size : a.tmps.size = n
  defers : a.defers = []
  slot : ∀ t v, look F t = some v → a.tmps[t]? = some v

def opnd (F : List (Nat × Value)) : Operand → Option Value
  | .tmp t => look F t
  | .const v => some v
  | .func f => some (.func (.func f) #[] #[])
  | .global _ => none

theorem Fr.eval {n : Nat} {a : Act} {F : List (Nat × Value)} (h : Fr n a F) {x : Operand} {v : Value} (e : opnd F x = some v) : a.eval x = v := by
  cases x with
  | tmp t =>
    have := h.slot t v e
    simp [Act.eval, this, Array.getD_eq_getD_getElem?]
  | const u => simpa [opnd, Act.eval] using e
  | func f => simpa [opnd, Act.eval] using e
  | global g => simp [opnd] at e

theorem look_cons_self (d : Nat) (v : Value) (F : List (Nat × Value)) : look ((d, v) :: F) d = some v := by
  have : Nat.beq d d = true := Nat.beq_refl d
  simp [look, this]

theorem Fr.put {n : Nat} {a : Act} {F : List (Nat × Value)} (h : Fr n a F) {d : Nat} (hd : d < n) (v : Value) : Fr n (a.put (some d) v) ((d, v) :: F) := by
  refine ⟨by simp [Act.put, h.size], by simp [Act.put, h.defers], fun t u e => ?_⟩
  simp only [look] at e
  cases hb : Nat.beq d t with
  | true =>
    have := Nat.eq_of_beq_eq_true hb
    subst this
    simp [hb] at e
    subst e
    simp [Act.put, h.size, hd]
  | false =>
    simp [hb] at e
    have hne : d ≠ t := fun q => by subst q; simp at hb
    simp only [Act.put, Array.getElem?_setIfInBounds]
    rw [if_neg hne]
    exact h.slot t u e

theorem Fr.putNone {n : Nat} {a : Act} {F : List (Nat × Value)} (h : Fr n a F) (v : Value) : Fr n (a.put none v) F := h

/-- The frame at a call's start. -/
def argsF : Nat → List Value → List (Nat × Value)
  | _, [] => []
  | i, v :: r => (i, v) :: argsF (i + 1) r

theorem look_argsF (l : List Value) : ∀ (k t : Nat) (v : Value), look (argsF k l) t = some v → k ≤ t ∧ l[t - k]? = some v := by
  induction l with
  | nil => intro k t v h; simp [argsF, look] at h
  | cons x l ih =>
    intro k t v h
    simp only [argsF, look] at h
    cases hb : Nat.beq k t with
    | true =>
      have := Nat.eq_of_beq_eq_true hb
      subst this
      simp [hb] at h
      subst h
      simp
    | false =>
      simp [hb] at h
      obtain ⟨h1, h2⟩ := ih _ _ _ h
      refine ⟨by omega, ?_⟩
      have : t - k = (t - (k + 1)) + 1 := by omega
      rw [this]
      simpa using h2

theorem Fr.start (args : Array Value) (n : Nat) (h : args.size ≤ n) : Fr n { tmps := args ++ Array.replicate (n - args.size) undef, defers := [] } (argsF 0 args.toList) := by
  refine ⟨by simp; omega, rfl, fun t v e => ?_⟩
  obtain ⟨_, h2⟩ := look_argsF _ _ _ _ e
  simp only [Nat.sub_zero] at h2
  have hlt : t < args.size := by
    rcases Nat.lt_or_ge t args.size with q | q
    · exact q
    · rw [List.getElem?_eq_none (by simpa using q)] at h2; cases h2
  simp only [Array.getElem?_append]
  rw [if_pos hlt]
  simpa using h2

theorem Fr.keep {n : Nat} {a : Act} {F : List (Nat × Value)} (h : Fr n a F) : ∀ (G : List (Nat × Value)), (∀ p, p ∈ G → look F p.1 = some p.2) → Fr n a G := by
  intro G hG
  refine ⟨h.size, h.defers, fun t v e => h.slot t v ?_⟩
  have : ∀ (G : List (Nat × Value)), (∀ p, p ∈ G → look F p.1 = some p.2) → look G t = some v → look F t = some v := by
    intro G
    induction G with
    | nil => intro _ h; simp [look] at h
    | cons p r ih =>
      intro h1 h2
      obtain ⟨i, u⟩ := p
      simp only [look] at h2
      cases hb : Nat.beq i t with
      | true =>
        have := Nat.eq_of_beq_eq_true hb
        subst this
        simp [hb] at h2
        subst h2
        exact h1 (i, u) (by simp)
      | false =>
        simp [hb] at h2
        exact ih (fun p hp => h1 p (by simp [hp])) h2
  exact this G hG e

/-- As the generator uses it: the slots that live on are looked up one by one. -/
def picks (F : List (Nat × Value)) : List Nat → List (Nat × Value)
  | [] => []
  | t :: r => match look F t with
    | some v => (t, v) :: picks F r
    | none => picks F r
theorem picks_mem (F : List (Nat × Value)) : ∀ (ts : List Nat) (p : Nat × Value), p ∈ picks F ts → look F p.1 = some p.2 := by
  intro ts
  induction ts with
  | nil => intro p h; simp [picks] at h
  | cons t r ih =>
    intro p h
    simp only [picks] at h
    split at h
    · rename_i v hv
      rcases List.mem_cons.1 h with rfl | h
      · exact hv
      · exact ih p h
    · exact ih p h
theorem Fr.pick {n : Nat} {a : Act} {F : List (Nat × Value)} (h : Fr n a F) (ts : List Nat) {G : List (Nat × Value)} (e : picks F ts = G) : Fr n a G := by
  subst e
  exact h.keep _ (fun p hp => picks_mem F ts p hp)
theorem Fr.to {n : Nat} {a : Act} {F G : List (Nat × Value)} (h : Fr n a F) (e : F = G) : Fr n a G := e ▸ h

/-! ### 2. Integers of a kind -/
def mo : IntKind → Nat
  | .u8 | .i8 => 256
  | .u16 | .i16 => 65536
  | .u32 | .i32 => 4294967296
  | .u64 | .i64 => 18446744073709551616
def uns : IntKind → Bool
  | .u8 | .u16 | .u32 | .u64 => true
  | _ => false
theorem mo_pow (k : IntKind) : mo k = 2 ^ k.bits := by cases k <;> rfl
theorem mo_powi (k : IntKind) : ((2 : Int) ^ k.bits) = (mo k : Int) := by cases k <;> rfl
theorem mo_pos (k : IntKind) : 0 < mo k := by cases k <;> decide
theorem wrap_uns {k : IntKind} (h : uns k = true) (x : Int) : k.wrap x = x % (mo k : Int) := by
  unfold IntKind.wrap
  have hs : k.signed = false := by cases k <;> first | rfl | (simp [uns] at h)
  simp [hs, mo_powi]
theorem wrap_ofNat {k : IntKind} (h : uns k = true) (x : Nat) : k.wrap (x : Int) = ((x % mo k : Nat) : Int) := by
  rw [wrap_uns h]; omega
theorem wrap_lt {k : IntKind} (h : uns k = true) {x : Nat} (hx : x < mo k) : k.wrap (x : Int) = (x : Int) := by
  rw [wrap_ofNat h, Nat.mod_eq_of_lt hx]
theorem wrap_i64 {x : Int} (h0 : -9223372036854775808 ≤ x) (h1 : x ≤ 9223372036854775807) : IntKind.i64.wrap x = x := by
  unfold IntKind.wrap
  simp only [IntKind.bits, IntKind.signed]
  simp only [show ((2 : Int) ^ 64) = 18446744073709551616 from rfl, show ((2 : Int) ^ (64 - 1)) = 9223372036854775808 from rfl]
  by_cases hx : 0 ≤ x
  · rw [Int.emod_eq_of_lt hx (by omega)]
    rw [if_neg (by simp; omega)]
  · have : x % 18446744073709551616 = x + 18446744073709551616 := by omega
    rw [this, if_pos (by simp; omega)]
    omega

def allP : List Prop → Prop
  | [] => True
  | c :: cs => c ∧ allP cs
theorem allP_append {l m : List Prop} : allP (l ++ m) ↔ allP l ∧ allP m := by
  induction l with
  | nil => simp [allP]
  | cons c l ih => simp [allP, ih, and_assoc]

abbrev PV := Option (Value × List Prop)

def pCmp (op : BinOp) (x y : Int) : PV :=
  match op with
  | .eql => some (.bool (decide (x = y)), [])
  | .neq => some (.bool (!decide (x = y)), [])
  | .lss => some (.bool (decide (x < y)), [])
  | .leq => some (.bool (decide (x ≤ y)), [])
  | .gtr => some (.bool (decide (y < x)), [])
  | .geq => some (.bool (decide (y ≤ x)), [])
  | _ => none

/-- int: no sum or product may pass its bounds; only numbers that are not below 0 are divided. -/
def pI64 (op : BinOp) (x y : Int) : PV :=
  match op with
  | .add => some (.int .i64 (x + y), [-9223372036854775808 ≤ x + y, x + y ≤ 9223372036854775807])
  | .sub => some (.int .i64 (x - y), [-9223372036854775808 ≤ x - y, x - y ≤ 9223372036854775807])
  | .mul => some (.int .i64 (x * y), [-9223372036854775808 ≤ x * y, x * y ≤ 9223372036854775807])
  | .quo => some (.int .i64 (x / y), [0 ≤ x, x ≤ 9223372036854775807, 0 < y])
  | .rem => some (.int .i64 (x % y), [0 ≤ x, 0 < y])
  | .or => match x, y with
    | .ofNat a, .ofNat b => some (.int .i64 (.ofNat (a ||| b)), [a < 9223372036854775808, b < 9223372036854775808])
    | _, _ => none
  | op => pCmp op x y

/-- Unsigned kinds. -/
def pUns (op : BinOp) (k : IntKind) (a b : Nat) : PV :=
  match op with
  | .add => some (.int k (.ofNat ((a + b) % mo k)), [])
  | .sub => some (.int k (.ofNat ((a + mo k - b) % mo k)), [b ≤ mo k])
  | .mul => some (.int k (.ofNat ((a * b) % mo k)), [])
  | .and => some (.int k (.ofNat (a &&& b)), [a < mo k, b < mo k])
  | .or => some (.int k (.ofNat (a ||| b)), [a < mo k, b < mo k])
  | .xor => some (.int k (.ofNat (a ^^^ b)), [a < mo k, b < mo k])
  | .quo => some (.int k (.ofNat (a / b)), [a < mo k, 0 < b])
  | .rem => some (.int k (.ofNat (a % b)), [0 < b])
  | op => pCmp op a b

def pShift (op : BinOp) (k : IntKind) (x : Int) (b : Nat) : PV :=
  match op, uns k, x with
  | .shl, true, .ofNat a => some (.int k (.ofNat (a * 2 ^ b % mo k)), [])
  | .shr, true, .ofNat a => some (.int k (.ofNat (a / 2 ^ b)), [a < mo k])
  | .shl, false, .ofNat a => bif (match k with | .i64 => true | _ => false) then some (.int k (.ofNat (a * 2 ^ b)), [a * 2 ^ b < 9223372036854775808]) else none
  | .shr, false, x => bif (match k with | .i64 => true | _ => false) then some (.int k (x / 2 ^ b), [b ≤ 64]) else none
  | _, _, _ => none

def pKind (op : BinOp) (k k' : IntKind) (a b : Int) : PV :=
  match k, k' with
  | .i64, .i64 => pI64 op a b
  | .u8, .u8 => match a, b with | .ofNat a, .ofNat b => pUns op .u8 a b | _, _ => none
  | .u16, .u16 => match a, b with | .ofNat a, .ofNat b => pUns op .u16 a b | _, _ => none
  | .u32, .u32 => match a, b with | .ofNat a, .ofNat b => pUns op .u32 a b | _, _ => none
  | .u64, .u64 => match a, b with | .ofNat a, .ofNat b => pUns op .u64 a b | _, _ => none
  | _, _ => none

def pBin (op : BinOp) (x y : Value) : PV :=
  match x, y with
  | .int k a, .int k' b =>
    match op with
    | .shl | .shr => match b with
      | .ofNat n => pShift op k a n
      | _ => none
    | op => pKind op k k' a b
  | .string a, .string b =>
    match op with
    | .eql => some (.bool (a.toList == b.toList), [])
    | .neq => some (.bool (!(a.toList == b.toList)), [])
    | _ => none
  | _, _ => none

/-! ### 3. Soundness of the integers' part -/
theorem run_ok {α : Type} (x : α) (P : Program) (w : World) : (pure x : Sem α).run P w = .ok x w := rfl

theorem pCmp_sound {op : BinOp} {x y : Int} {v : Value} {cs : List Prop} (h : pCmp op x y = some (v, cs)) (P : Program) (w : World) : (Op.intCmp op x y).run P w = .ok v w := by
  cases op <;> simp only [pCmp, Option.some.injEq, Prod.mk.injEq, reduceCtorEq] at h <;> obtain ⟨rfl, rfl⟩ := h <;> simp only [Op.intCmp, run_ok] <;> rfl

theorem bits_ofNat (n a : Nat) (h : a < 2 ^ n) : (BitVec.ofInt n (a : Int)).toNat = a := by
  simp [Nat.mod_eq_of_lt h]

theorem binOp_int (op : BinOp) (t : TypeId) (k : IntKind) (a b : Int) (h1 : op ≠ .shl) (h2 : op ≠ .shr) : binOp op t (.int k a) (.int k b) = (match op with
    | .add | .sub | .mul => Op.intArith op k a b
    | .quo | .rem => Op.intDiv op k a b
    | .and | .or | .xor | .andNot => Op.intBits op k a b
    | _ => Op.intCmp op a b) := by
  cases op <;> first | (exact absurd rfl h1) | (exact absurd rfl h2) | simp [binOp]


theorem pI64_sound {op : BinOp} {x y : Int} {v : Value} {cs : List Prop} (h : pI64 op x y = some (v, cs)) (hc : allP cs) (h1 : op ≠ .shl) (h2 : op ≠ .shr) (P : Program) (t : TypeId) (w : World) :
    (binOp op t (.int .i64 x) (.int .i64 y)).run P w = .ok v w := by
  rw [binOp_int _ _ _ _ _ h1 h2]
  cases op
  case add => simp only [pI64, Option.some.injEq, Prod.mk.injEq] at h; obtain ⟨rfl, rfl⟩ := h; simp only [allP] at hc; simp only [Op.intArith, run_ok]; rw [wrap_i64 hc.1 hc.2.1]
  case sub => simp only [pI64, Option.some.injEq, Prod.mk.injEq] at h; obtain ⟨rfl, rfl⟩ := h; simp only [allP] at hc; simp only [Op.intArith, run_ok]; rw [wrap_i64 hc.1 hc.2.1]
  case mul => simp only [pI64, Option.some.injEq, Prod.mk.injEq] at h; obtain ⟨rfl, rfl⟩ := h; simp only [allP] at hc; simp only [Op.intArith, run_ok]; rw [wrap_i64 hc.1 hc.2.1]
  case quo =>
    simp only [pI64, Option.some.injEq, Prod.mk.injEq] at h; obtain ⟨rfl, rfl⟩ := h; simp only [allP] at hc
    obtain ⟨c1, c2, c3, _⟩ := hc
    simp only [Op.intDiv]
    rw [if_neg (by omega)]
    have e : x.tdiv y = x / y := Int.tdiv_eq_ediv_of_nonneg c1
    have h0 : 0 ≤ x / y := Int.ediv_nonneg c1 (by omega)
    have h3 : x / y ≤ x := Int.ediv_le_self _ c1
    rw [e, wrap_i64 (by omega) (by omega)]
    rfl
  case rem =>
    simp only [pI64, Option.some.injEq, Prod.mk.injEq] at h; obtain ⟨rfl, rfl⟩ := h; simp only [allP] at hc
    obtain ⟨c1, c2, _⟩ := hc
    simp only [Op.intDiv]
    rw [if_neg (by omega), Int.tmod_eq_emod_of_nonneg c1]
    rfl
  case or =>
    cases x with
    | ofNat a =>
      cases y with
      | ofNat b =>
        simp only [pI64, Option.some.injEq, Prod.mk.injEq] at h; obtain ⟨rfl, rfl⟩ := h; simp only [allP] at hc
        obtain ⟨c1, c2, _⟩ := hc
        have e1 := bits_ofNat IntKind.i64.bits a (by simp only [IntKind.bits]; omega)
        have e2 := bits_ofNat IntKind.i64.bits b (by simp only [IntKind.bits]; omega)
        have hor : a ||| b < 2 ^ 63 := Nat.or_lt_two_pow (by omega) (by omega)
        simp only [Op.intBits, run_ok, BitVec.toNat_or]
        rw [show (Int.ofNat a) = (a : Int) from rfl, show (Int.ofNat b) = (b : Int) from rfl, e1, e2, wrap_i64 (by omega) (by omega)]
        rfl
      | negSucc b => simp [pI64] at h
    | negSucc a => simp [pI64] at h
  case shl => exact absurd rfl h1
  case shr => exact absurd rfl h2
  all_goals first | exact pCmp_sound (op := .eql) h P w | exact pCmp_sound (op := .neq) h P w | exact pCmp_sound (op := .lss) h P w | exact pCmp_sound (op := .leq) h P w | exact pCmp_sound (op := .gtr) h P w | exact pCmp_sound (op := .geq) h P w | (simp [pI64, pCmp] at h)

theorem pUns_sound {op : BinOp} {k : IntKind} (hk : uns k = true) {a b : Nat} {v : Value} {cs : List Prop} (h : pUns op k a b = some (v, cs)) (hc : allP cs) (h1 : op ≠ .shl) (h2 : op ≠ .shr) (P : Program) (t : TypeId) (w : World) :
    (binOp op t (.int k (.ofNat a)) (.int k (.ofNat b))).run P w = .ok v w := by
  rw [binOp_int _ _ _ _ _ h1 h2]
  have hm := mo_pos k
  rw [show (Int.ofNat a) = (a : Int) from rfl, show (Int.ofNat b) = (b : Int) from rfl]
  cases op
  case add => simp only [pUns, Option.some.injEq, Prod.mk.injEq] at h; obtain ⟨rfl, rfl⟩ := h; simp only [Op.intArith, run_ok]; rw [← Int.natCast_add, wrap_ofNat hk]; rfl
  case mul => simp only [pUns, Option.some.injEq, Prod.mk.injEq] at h; obtain ⟨rfl, rfl⟩ := h; simp only [Op.intArith, run_ok]; rw [← Int.natCast_mul, wrap_ofNat hk]; rfl
  case sub =>
    simp only [pUns, Option.some.injEq, Prod.mk.injEq] at h; obtain ⟨rfl, rfl⟩ := h; simp only [allP] at hc; simp only [Op.intArith, run_ok]
    rw [wrap_uns hk]
    have : ((a : Int) - b) % (mo k : Int) = (((a + mo k - b) % mo k : Nat) : Int) := by
      have h3 := hc.1
      rw [Int.natCast_emod, Int.natCast_sub (by omega), Int.natCast_add]
      rw [show (a : Int) + (mo k : Int) - b = (a : Int) - b + (mo k : Int) by omega, Int.add_emod_right]
    rw [this]; rfl
  case quo =>
    simp only [pUns, Option.some.injEq, Prod.mk.injEq] at h; obtain ⟨rfl, rfl⟩ := h; simp only [allP] at hc
    obtain ⟨c1, c2, _⟩ := hc
    simp only [Op.intDiv]
    rw [if_neg (by omega), Int.tdiv_eq_ediv_of_nonneg (by omega), ← Int.natCast_ediv, wrap_lt hk (Nat.lt_of_le_of_lt (Nat.div_le_self _ _) c1)]
    rfl
  case rem =>
    simp only [pUns, Option.some.injEq, Prod.mk.injEq] at h; obtain ⟨rfl, rfl⟩ := h; simp only [allP] at hc
    simp only [Op.intDiv]
    rw [if_neg (by omega), Int.tmod_eq_emod_of_nonneg (by omega), ← Int.natCast_emod]
    rfl
  case and =>
    simp only [pUns, Option.some.injEq, Prod.mk.injEq] at h; obtain ⟨rfl, rfl⟩ := h; simp only [allP] at hc
    obtain ⟨c1, c2, _⟩ := hc
    have e1 := bits_ofNat k.bits a (by rw [← mo_pow]; exact c1)
    have e2 := bits_ofNat k.bits b (by rw [← mo_pow]; exact c2)
    simp only [Op.intBits, run_ok, BitVec.toNat_and]
    rw [e1, e2, wrap_lt hk (Nat.lt_of_le_of_lt Nat.and_le_left c1)]; rfl
  case or =>
    simp only [pUns, Option.some.injEq, Prod.mk.injEq] at h; obtain ⟨rfl, rfl⟩ := h; simp only [allP] at hc
    obtain ⟨c1, c2, _⟩ := hc
    have e1 := bits_ofNat k.bits a (by rw [← mo_pow]; exact c1)
    have e2 := bits_ofNat k.bits b (by rw [← mo_pow]; exact c2)
    have hor : a ||| b < mo k := by rw [mo_pow] at *; exact Nat.or_lt_two_pow c1 c2
    simp only [Op.intBits, run_ok, BitVec.toNat_or]
    rw [e1, e2, wrap_lt hk hor]; rfl
  case xor =>
    simp only [pUns, Option.some.injEq, Prod.mk.injEq] at h; obtain ⟨rfl, rfl⟩ := h; simp only [allP] at hc
    obtain ⟨c1, c2, _⟩ := hc
    have e1 := bits_ofNat k.bits a (by rw [← mo_pow]; exact c1)
    have e2 := bits_ofNat k.bits b (by rw [← mo_pow]; exact c2)
    have hor : a ^^^ b < mo k := by rw [mo_pow] at *; exact Nat.xor_lt_two_pow c1 c2
    simp only [Op.intBits, run_ok, BitVec.toNat_xor]
    rw [e1, e2, wrap_lt hk hor]; rfl
  case shl => exact absurd rfl h1
  case shr => exact absurd rfl h2
  all_goals first | exact pCmp_sound (op := .eql) h P w | exact pCmp_sound (op := .neq) h P w | exact pCmp_sound (op := .lss) h P w | exact pCmp_sound (op := .leq) h P w | exact pCmp_sound (op := .gtr) h P w | exact pCmp_sound (op := .geq) h P w | (simp [pUns, pCmp] at h)

theorem pShift_sound {op : BinOp} {k yk : IntKind} {x : Int} {b : Nat} {v : Value} {cs : List Prop} (h : pShift op k x b = some (v, cs)) (hc : allP cs) (P : Program) (t : TypeId) (w : World) :
    (binOp op t (.int k x) (.int yk (.ofNat b))).run P w = .ok v w := by
  have hb : (Int.ofNat b).toNat = b := rfl
  have hneg : ¬ (Int.ofNat b) < 0 := by simp
  cases op
  case shl =>
    simp only [binOp, Op.shift, if_neg hneg, hb]
    cases hu : uns k with
    | true =>
      cases x with
      | ofNat a =>
        simp only [pShift, hu, Option.some.injEq, Prod.mk.injEq] at h; obtain ⟨rfl, rfl⟩ := h
        simp only [run_ok]
        have : (Int.ofNat a * 2 ^ (min b k.bits) : Int) = ((a * 2 ^ min b k.bits : Nat) : Int) := by simp
        rw [this, wrap_ofNat hu]
        have e : a * 2 ^ min b k.bits % mo k = a * 2 ^ b % mo k := by
          rcases Nat.le_total b k.bits with q | q
          · rw [Nat.min_eq_left q]
          · rw [Nat.min_eq_right q, mo_pow]
            have : 2 ^ b = 2 ^ k.bits * 2 ^ (b - k.bits) := by rw [← Nat.pow_add]; congr 1; omega
            rw [this, Nat.mul_mod_left, Nat.mul_comm (2 ^ k.bits), ← Nat.mul_assoc, Nat.mul_mod_left]
        rw [e]; rfl
      | negSucc a => simp [pShift, hu] at h
    | false =>
      cases x with
      | ofNat a =>
        cases k <;> simp only [pShift, hu, cond_true, cond_false, Option.some.injEq, Prod.mk.injEq, reduceCtorEq] at h
        obtain ⟨rfl, rfl⟩ := h
        simp only [allP] at hc
        simp only [run_ok, IntKind.bits]
        have hmin : a * 2 ^ min b 64 ≤ a * 2 ^ b := Nat.mul_le_mul_left _ (Nat.pow_le_pow_right (by decide) (Nat.min_le_left _ _))
        have e : a * 2 ^ min b 64 = a * 2 ^ b := by
          rcases Nat.le_total b 64 with q | q
          · rw [Nat.min_eq_left q]
          · rcases Nat.eq_zero_or_pos a with z | z
            · simp [z]
            · have h3 : 2 ^ 64 ≤ 2 ^ b := Nat.pow_le_pow_right (by decide) q
              have h4 : 1 * 2 ^ 64 ≤ a * 2 ^ b := Nat.mul_le_mul z h3
              have := hc.1
              omega
        have : (Int.ofNat a * 2 ^ (min b 64) : Int) = ((a * 2 ^ b : Nat) : Int) := by rw [← e]; simp
        rw [this, wrap_i64 (by omega) (by omega)]; rfl
      | negSucc a => simp [pShift, hu] at h
  case shr =>
    simp only [binOp, Op.shift, if_neg hneg, hb]
    cases hu : uns k with
    | true =>
      cases x with
      | ofNat a =>
        simp only [pShift, hu, Option.some.injEq, Prod.mk.injEq] at h; obtain ⟨rfl, rfl⟩ := h
        simp only [allP] at hc
        simp only [run_ok]
        have : (Int.ofNat a).fdiv (2 ^ min b k.bits) = ((a / 2 ^ min b k.bits : Nat) : Int) := by
          rw [Int.fdiv_eq_ediv_of_nonneg _ (by have : (0 : Int) < 2 ^ min b k.bits := Int.pow_pos (by decide); omega)]
          simp
        rw [this]
        have e : a / 2 ^ min b k.bits = a / 2 ^ b := by
          rcases Nat.le_total b k.bits with q | q
          · rw [Nat.min_eq_left q]
          · have h1 := hc.1
            rw [mo_pow] at h1
            rw [Nat.min_eq_right q, Nat.div_eq_of_lt h1, Nat.div_eq_of_lt (Nat.lt_of_lt_of_le h1 (Nat.pow_le_pow_right (by decide) q))]
        rw [e]; rfl
      | negSucc a => simp [pShift, hu] at h
    | false =>
      cases k <;> simp only [pShift, hu, cond_true, cond_false, Option.some.injEq, Prod.mk.injEq, reduceCtorEq] at h
      obtain ⟨rfl, rfl⟩ := h
      simp only [allP] at hc
      simp only [run_ok, IntKind.bits]
      rw [Nat.min_eq_left hc.1, Int.fdiv_eq_ediv_of_nonneg _ (by have : (0 : Int) < 2 ^ b := Int.pow_pos (by decide); omega)]
  all_goals simp [pShift] at h

theorem eqGuard_int (op : BinOp) (t : TypeId) (x y : Operand) (k k' : IntKind) (a b : Int) (P : Program) (w : World) : (eqGuard op t x y (.int k a) (.int k' b)).run P w = .ok () w := by
  unfold eqGuard
  split <;> rfl
theorem eqGuard_string (op : BinOp) (t : TypeId) (x y : Operand) (a b : ByteArray) (P : Program) (w : World) : (eqGuard op t x y (.string a) (.string b)).run P w = .ok () w := by
  unfold eqGuard
  split <;> rfl

theorem pBin_sound {op : BinOp} {x y : Value} {v : Value} {cs : List Prop} (h : pBin op x y = some (v, cs)) (hc : allP cs) (P : Program) (t : TypeId) (xo yo : Operand) (w : World) :
    (do eqGuard op t xo yo x y; binOp op t x y : Sem Value).run P w = .ok v w := by
  cases x <;> cases y <;> try (simp [pBin] at h; done)
  case int.int k a k' b =>
    simp only [Sem.run_bind, eqGuard_int, Result.andThen_ok]
    by_cases hs : op = .shl ∨ op = .shr
    · cases b with
      | ofNat n =>
        have h' : pShift op k a n = some (v, cs) := by rcases hs with rfl | rfl <;> simpa [pBin] using h
        exact pShift_sound h' hc P t w
      | negSucc n => rcases hs with rfl | rfl <;> simp [pBin] at h
    · have n1 : op ≠ .shl := fun q => hs (.inl q)
      have n2 : op ≠ .shr := fun q => hs (.inr q)
      have hh : pKind op k k' a b = some (v, cs) := by
        rw [← h]; cases op <;> first | rfl | (exact absurd rfl n1) | (exact absurd rfl n2)
      cases k <;> cases k' <;> simp only [pKind, reduceCtorEq] at hh
      case i64.i64 => exact pI64_sound hh hc n1 n2 P t w
      all_goals
        cases a <;> cases b <;> simp only [reduceCtorEq] at hh
        exact pUns_sound rfl hh hc n1 n2 P t w
  case string.string a b =>
    simp only [Sem.run_bind, eqGuard_string, Result.andThen_ok]
    cases op <;> simp only [pBin, Option.some.injEq, Prod.mk.injEq, reduceCtorEq] at h <;> obtain ⟨rfl, rfl⟩ := h <;> rfl

end Go.Proofs.Ytnagkhofkjjajaa
