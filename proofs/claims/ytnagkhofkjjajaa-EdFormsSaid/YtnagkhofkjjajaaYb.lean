/- A symbolic walk in the kernel: one operation. Definitions, no statement of the claim. -/
import Derived.Test.YtnagkhofkjjajaaYa
set_option linter.unusedVariables false
namespace Go.Proofs.Ytnagkhofkjjajaa
open Go.RowKit

/-! ### What is known of types -/
inductive TK where
  | b | i (k : IntKind) | s | pt | sl (e : Nat) | ar (n e : Nat) | st (l : List (Nat × Nat)) | o
structure TD where
  k : TK
  n : Nat
  b : Nat
  /-- may values be compared? -/
  e : Bool := false
def lookD : List (Nat × TD) → Nat → Option TD
  | [], _ => none
  | (i, v) :: r, t => bif Nat.beq i t then some v else lookD r t
def zL (f : Nat → Option SV) : List (Nat × Nat) → Option SV
  | [] => some .U
  | [x] => (match f x.1 with | some v => some (.one v) | none => none)
  | x :: y :: r => match f x.1, zL f (y :: r) with | some a, some c => some (.pr a c) | _, _ => none
/-- noughts of a type -/
def zsv (D : List (Nat × TD)) : Nat → Nat → Option SV
  | 0, _ => none
  | f + 1, t => match lookD D t with
    | some ⟨.b, _, _, _⟩ => some .ff
    | some ⟨.i k, _, _, _⟩ => some (.N k ⟨true, 0⟩)
    | some ⟨.s, _, _, _⟩ => some (.S [])
    | some ⟨.pt, _, _, _⟩ => some .np
    | some ⟨.sl _, _, _, _⟩ => some .nl
    | some ⟨.ar n e, _, _, _⟩ => match lookD D e with
      | some ⟨.i .i64, _, _, _⟩ => some (.az n (List.replicate n 0))
      | some ⟨.i k, _, _, _⟩ => some (.an k n (List.replicate n 0))
      | _ => none
    | some ⟨.st l, _, _, _⟩ => zL (zsv D f) l
    | _ => none
def shL (f : Nat → Option Sh) : List (Nat × Nat) → Option Sh
  | [] => some .U
  | [x] => (match f x.1 with | some v => some (.one v) | none => none)
  | x :: y :: r => match f x.1, shL f (y :: r) with | some a, some c => some (.pr a c) | _, _ => none
/-- the shape of a type of plain data -/
def shT (D : List (Nat × TD)) : Nat → Nat → Option Sh
  | 0, _ => none
  | f + 1, t => match lookD D t with
    | some ⟨.b, _, _, _⟩ => some .B
    | some ⟨.i .i64, _, _, _⟩ => some .Z
    | some ⟨.i k, _, _, _⟩ => some (.N k)
    | some ⟨.s, _, _, _⟩ => some .S
    | some ⟨.ar n e, _, _, _⟩ => match lookD D e with
      | some ⟨.i .i64, _, _, _⟩ => some (.az n)
      | some ⟨.i k, _, _, _⟩ => some (.an k n)
      | _ => none
    | some ⟨.st l, _, _, _⟩ => shL (shT D f) l
    | _ => none
def agg2 (d : TD) : Bool := match d.k with | .ar _ _ => true | .st _ => true | _ => false

/-! ### Conditions -/
structure Cnd where
  q : Prop
  d : Decidable q
def cn (q : Prop) [d : Decidable q] : Cnd := ⟨q, d⟩
def allC : List Cnd → Prop
  | [] => True
  | c :: r => c.q ∧ allC r
def gds {α : Type} : List Cnd → Option α → Option α
  | [], x => x
  | c :: r, x => @gd α c.q c.d (gds r x)
abbrev MAX : Nat := 9223372036854775807

/-! ### Operands -/
def konst : Value → Option SV
  | .int .i64 (.negSucc x) => bif Nat.blt x 9223372036854775808 then some (.Z true (.negSucc x)) else none
  | .int k (.ofNat x) => bif Nat.blt x (lim k) then some (.N k ⟨true, x⟩) else none
  | .bool true => some .tt
  | .bool false => some .ff
  | .string s => some (.S (s.data.toList.map UInt8.toNat))
  | .slice none 0 0 => some .nl
  | .pointer none => some .np
  | .nilFunc => some (.ov .nilFunc)
  | .nilIface => some (.ov .nilIface)
  | _ => none
def opS (F : Nat → Option SV) : Operand → Option SV
  | .tmp t => F t
  | .const v => konst v
  | .func f => some (.fn f .U .U)
  | .global _ => none
def opsS (F : Nat → Option SV) : List Operand → Option (List SV)
  | [] => some []
  | x :: r => match opS F x, opsS F r with
    | some v, some l => some (v :: l)
    | _, _ => none

/-! ### Numbers -/
abbrev PE := Option (List Cnd × SV)
def b2 (b : Bool) : SV := bif b then .tt else .ff
def cmpN (op : BinOp) (x y : NT) : PE :=
  bif x.l && y.l then (match op with
    | .eql => some ([], b2 (Nat.beq x.x y.x))
    | .neq => some ([], b2 (!(Nat.beq x.x y.x)))
    | .lss => some ([], b2 (Nat.blt x.x y.x))
    | .leq => some ([], b2 (Nat.ble x.x y.x))
    | .gtr => some ([], b2 (Nat.blt y.x x.x))
    | .geq => some ([], b2 (Nat.ble y.x x.x))
    | _ => none) else match op with
    | .eql => some ([], .P false (x.x = y.x) inferInstance)
    | .neq => some ([], .P true (x.x = y.x) inferInstance)
    | .lss => some ([], .P false (x.x < y.x) inferInstance)
    | .leq => some ([], .P false (x.x ≤ y.x) inferInstance)
    | .gtr => some ([], .P false (y.x < x.x) inferInstance)
    | .geq => some ([], .P false (y.x ≤ x.x) inferInstance)
    | _ => none
def cmpZ (op : BinOp) (x y : Int) : PE :=
  match op with
  | .eql => some ([], .P false (x = y) inferInstance)
  | .neq => some ([], .P true (x = y) inferInstance)
  | .lss => some ([], .P false (x < y) inferInstance)
  | .leq => some ([], .P false (x ≤ y) inferInstance)
  | .gtr => some ([], .P false (y < x) inferInstance)
  | .geq => some ([], .P false (y ≤ x) inferInstance)
  | _ => none
/-- a number that has to stay below the bound -/
def topN (l : Bool) (x : Nat) : PE := bif l then (bif Nat.ble x MAX then some ([], .N .i64 ⟨true, x⟩) else none) else some ([cn (x ≤ MAX)], .N .i64 ⟨false, x⟩)
def pos (y : NT) : Option (List Cnd) := bif y.l then (bif Nat.blt 0 y.x then some [] else none) else some [cn (0 < y.x)]
def bI (op : BinOp) (x y : NT) : PE :=
  match op with
  | .add => topN (x.l && y.l) (x.x + y.x)
  | .sub => bif x.l && y.l && Nat.ble y.x x.x then some ([], .N .i64 ⟨true, x.x - y.x⟩) else some ([], .Z (x.l && y.l) ((x.x : Int) - (y.x : Int)))
  | .mul => topN (x.l && y.l) (x.x * y.x)
  | .quo => match pos y with | some cs => some (cs, .N .i64 ⟨x.l && y.l, x.x / y.x⟩) | none => none
  | .rem => match pos y with | some cs => some (cs, .N .i64 ⟨x.l && y.l, x.x % y.x⟩) | none => none
  | .and => some ([], .N .i64 ⟨x.l && y.l, x.x &&& y.x⟩)
  | .or => some ([], .N .i64 ⟨x.l && y.l, x.x ||| y.x⟩)
  | .xor => some ([], .N .i64 ⟨x.l && y.l, x.x ^^^ y.x⟩)
  | op => cmpN op x y
def rngZ (x : Int) : PE := some ([cn (-9223372036854775808 ≤ x), cn (x ≤ 9223372036854775807)], .Z false x)
def bZ (op : BinOp) (x y : Int) : PE :=
  match op with
  | .add => rngZ (x + y)
  | .sub => rngZ (x - y)
  | .mul => rngZ (x * y)
  | .quo => some ([cn (0 ≤ x), cn (0 < y)], .Z false (x / y))
  | .rem => some ([cn (0 ≤ x), cn (0 < y)], .Z false (x % y))
  | op => cmpZ op x y
def bU (op : BinOp) (k : IntKind) (x y : NT) : PE :=
  match op with
  | .add => some ([], .N k ⟨x.l && y.l, (x.x + y.x) % lim k⟩)
  | .sub => some ([], .N k ⟨x.l && y.l, (x.x + lim k - y.x) % lim k⟩)
  | .mul => some ([], .N k ⟨x.l && y.l, x.x * y.x % lim k⟩)
  | .and => some ([], .N k ⟨x.l && y.l, x.x &&& y.x⟩)
  | .or => some ([], .N k ⟨x.l && y.l, x.x ||| y.x⟩)
  | .xor => some ([], .N k ⟨x.l && y.l, x.x ^^^ y.x⟩)
  | .quo => match pos y with | some cs => some (cs, .N k ⟨x.l && y.l, x.x / y.x⟩) | none => none
  | .rem => match pos y with | some cs => some (cs, .N k ⟨x.l && y.l, x.x % y.x⟩) | none => none
  | op => cmpN op x y
/-- shifted up; far by steps, for the kernel's sake -/
def shlN (s : NT) (x : Nat) : Nat := bif s.l && Nat.ble 16 s.x then x <<< s.x else x * 2 ^ s.x
def shN (op : BinOp) (k : IntKind) (x s : NT) : PE :=
  match op with
  | .shl => bif uns k then some ([], .N k ⟨x.l && s.l, shlN s x.x % lim k⟩) else bif kq k .i64 then topN (x.l && s.l) (x.x <<< s.x) else none
  | .shr => bif uns k || kq k .i64 then some ([], .N k ⟨x.l && s.l, x.x / 2 ^ s.x⟩) else none
  | _ => none
def isSh : BinOp → Bool
  | .shl | .shr => true | _ => false
/-- two values told apart: what is not an array or a struct -/
def eqR (op : BinOp) (c : Option Cnd) : PE :=
  match c with
  | some c => (match op with
    | .eql => some ([], .P false c.q c.d)
    | .neq => some ([], .P true c.q c.d)
    | _ => none)
  | none => none
def binNN (op : BinOp) (k : IntKind) (x : NT) (k' : IntKind) (y : NT) : PE :=
  bif isSh op then shN op k x y else bif kq k k' then (bif uns k then bU op k x y else bif kq k .i64 then bI op x y else none) else none
def binNZ (op : BinOp) (k : IntKind) (x : NT) (y : Int) : PE :=
  bif isSh op then (match shN op k x ⟨false, y.toNat⟩ with | some (cs, v) => some (cn (0 ≤ y) :: cs, v) | none => none) else bif kq k .i64 then bZ op (x.x : Int) y else none
def binZN (op : BinOp) (x : Int) (k : IntKind) (y : NT) : PE :=
  bif isSh op then (match op with
    | .shr => bif y.l && Nat.ble y.x 63 then some ([], .Z false (x / 2 ^ y.x)) else none
    | _ => none) else bif kq k .i64 then bZ op x (y.x : Int) else none
def binZZ (op : BinOp) (x y : Int) : PE := bif isSh op then none else bZ op x y
def isPt : SV → Bool
  | .ptr _ _ _ => true
  | .np => true
  | _ => false
def eqNp (a b : SV) : Option Bool :=
  match a with
  | .ptr _ _ _ => (match b with | .np => some false | _ => none)
  | .np => (match b with | .np => some true | .ptr _ _ _ => some false | _ => none)
  | _ => none
def binO (op : BinOp) (k : TK) (a b : SV) : PE :=
  match k with
  | .pt => (match eqNp a b with
    | some r => (match op with | .eql => some ([], b2 r) | .neq => some ([], b2 (!r)) | _ => none)
    | none => none)
  | .b => (match xB a, xB b with
    | some x, some y => eqR op (some (cn (x = y)))
    | _, _ => none)
  | _ => none
def binS (op : BinOp) (k : TK) (a b : SV) : PE :=
  match a with
  | .N k x => (match b with
    | .N k' y => binNN op k x k' y
    | .Z _ y => binNZ op k x y
    | _ => none)
  | .Z _ x => (match b with
    | .N k y => binZN op x k y
    | .Z _ y => binZZ op x y
    | _ => none)
  | .S x => (match b with
    | .S y => (match op with | .add => some ([cn (x.length + y.length ≤ MAX)], .S (x ++ y)) | op => eqR op (some (cn (x = y))))
    | _ => none)
  | a => binO op k a b
def unS (op : UnOp) (a : SV) : PE :=
  match op, a with
  | .not, .tt => some ([], .ff)
  | .not, .ff => some ([], .tt)
  | .not, .B x => some ([], .P true (x = true) inferInstance)
  | .not, .P neg q d => some ([], .P (!neg) q d)
  | .neg, .N .i64 x => some ([], .Z x.l (-(x.x : Int)))
  | .neg, .Z l x => some ([cn (-9223372036854775807 ≤ x)], .Z l (-x))
  | .xor, .N k x => bif uns k then some ([], .N k ⟨x.l, lim k - 1 - x.x⟩) else none
  | _, _ => none
def convS (dst : IntKind) (a : SV) : PE :=
  match a with
  | .N k x => bif uns dst then (bif Nat.ble (lim k) (lim dst) then some ([], .N dst x) else some ([], .N dst ⟨x.l, x.x % lim dst⟩))
    else bif kq dst .i64 then (bif Nat.ble (lim k) (lim dst) then some ([], .N dst x) else topN x.l x.x) else none
  | .Z l x => bif uns dst then some ([], .N dst ⟨l, (x % (lim dst : Int)).toNat⟩) else bif kq dst .i64 then some ([], .Z l x) else none
  | _ => none

/-! ### Places -/
def addN (a b : NT) : NT := bif a.l && Nat.beq a.x 0 then b else bif b.l && Nat.beq b.x 0 then a else ⟨a.l && b.l, a.x + b.x⟩
def subN (a b : NT) : NT := bif b.l && Nat.beq b.x 0 then a else ⟨a.l && b.l, a.x - b.x⟩
/-- an index, below a bound -/
def idx (i : SV) (n : NT) : Option (List Cnd × NT) :=
  match i with
  | .N _ x => bif x.l && n.l then (bif Nat.blt x.x n.x then some ([], x) else none) else some ([cn (x.x < n.x)], x)
  | .Z _ x => some ([cn (0 ≤ x), cn (x < (n.x : Int))], ⟨false, x.toNat⟩)
  | _ => none
def leN (a b : NT) : Option (List Cnd) :=
  bif a.l && b.l then (bif Nat.ble a.x b.x then some [] else none) else bif a.l && Nat.beq a.x 0 then some [] else some [cn (a.x ≤ b.x)]
/-- a bound of a slice -/
def bnS (F : Nat → Option SV) : Option Operand → NT → Option (List Cnd × NT)
  | none, d => some ([], d)
  | some x, _ => match opS F x with
    | some (.N _ y) => some ([], y)
    | some (.Z _ y) => some ([cn (0 ≤ y)], ⟨false, y.toNat⟩)
    | _ => none

/-- what an operation leaves: conditions, its value, memory -/
structure Ef where
  cs : List Cnd
  v : SV
  H : List (Nat × Nat × HC)
def efP (S : St) : PE → Option Ef
  | some (cs, v) => some ⟨cs, v, S.H⟩
  | none => none

section
variable (D : List (Nat × TD))
def fOff (s f : Nat) : Option Nat :=
  match lookD D s with
  | some ⟨.st l, _, _, _⟩ => match l[f]? with
    | some x => match lookD D x.1 with
      | some i => bif Nat.beq i.n 0 then none else some x.2
      | none => none
    | none => none
  | _ => none
def evFieldAddr (s : Nat) (x : SV) (f : Nat) : PE :=
  match fOff D s f, x with
  | some o, .ptr c lay pa => match lay.sub pa with
    | some l => match fpath l f with
      | some p => bif Nat.beq (poff l p) o then some ([], .ptr c lay (app pa p)) else none
      | none => none
    | none => none
  | _, _ => none
def esz (l : Lay) (pa : List PS) : Nat := match l, pa with | .rw e, [] => e.sz | _, _ => 1
/-- the cells of a type -/
def tn (t n : Nat) : Bool := match lookD D t with | some d => Nat.beq d.n n | none => false
def szOk (H : List (Nat × Nat × HC)) (e c : Nat) (pa : List PS) : Bool := match hget H c with | some h => tn D e (esz h.lay pa) | none => false
def evIndexAddr (H : List (Nat × Nat × HC)) (t : Nat) (x i : SV) : PE :=
  match lookD D t, x with
  | some ⟨.sl e, _, _, _⟩, .sl c pa _ lo n _ _ => match idx i n, hget H c with
    | some (cs, j), some h => bif tn D e (esz h.lay pa) then some (cs, .ptr c h.lay (app pa [.ix (addN lo j)])) else none
    | _, _ => none
  | some ⟨.ar n e, _, _, _⟩, .ptr c lay pa => match idx i ⟨true, n⟩, lay.sub pa with
    | some (cs, j), some (.ar m) => bif Nat.beq n m && tn D e 1 then some (cs, .ptr c lay (app pa [.ix j])) else none
    | _, _ => none
  | _, _ => none
def evIndex (t : Nat) (x i : SV) : PE :=
  match lookD D t, x with
  | some ⟨.ar m e, _, _, _⟩, .an k n xs => match idx i ⟨true, n⟩, lookD D e with
    | some (cs, j), some ⟨.i _, 1, _, _⟩ => bif Nat.beq n m then some (cs, .N k ⟨false, xs.getD j.x 0⟩) else none
    | _, _ => none
  | some ⟨.s, _, _, _⟩, .S xs => match idx i ⟨false, xs.length⟩ with
    | some (cs, j) => some (cs, .N .u8 ⟨false, xs.getD j.x 0⟩)
    | none => none
  | _, _ => none
def fits (t : Nat) (w : SV) : Bool := match lookD D t with | some d => w.st && Nat.beq d.n w.lay.sz && (match agg2 d, w.lay.agg with | true, true => true | false, false => true | _, _ => false) | none => false
def evField (s : Nat) (x : SV) (f : Nat) : PE :=
  match lookD D s with
  | some ⟨.st l, _, _, _⟩ => match l[f]?, fpath x.lay f with
    | some y, some p => match x.get p with
      | some v => bif Nat.beq (poff x.lay p) y.2 && fits D y.1 v && x.st then some ([], v) else none
      | none => none
    | _, _ => none
  | _ => none
def flatT (t : Nat) : Bool := match lookD D t with | some d => !agg2 d | none => false
def evLoad (q : Nat) (S : St) (t : Nat) (x : SV) : Option Ef :=
  match x with
  | .av c pa _ lo m => match lookD D t, hget S.H c with
    | some ⟨.ar n e, dn, _, _⟩, some h => match lookD D e with
      | some ⟨.i k, _, _, _⟩ => match h.row (.N k) pa with
        | some xs => bif Nat.beq n m && Nat.beq dn m then some ⟨[], .an k m (cutL lo ⟨true, m⟩ false (show List Nat from xs)), S.H⟩ else none
        | none => none
      | _ => none
    | _, _ => none
  | .ptr c lay pa => match hget S.H c with
    | some h => bif h.lay.q lay then (match h, pa with
      | .rq a _ xs, [.ix i] => bif flatT D t then some ⟨[], .sl q [] q ⟨true, 0⟩ ⟨false, (xs.getD i.x []).length⟩ true false, (q, q, .ro a ⟨false, (xs.getD i.x []).length⟩ (xs.getD i.x [])) :: S.H⟩ else none
      | h, pa => match h.at pa with
        | some w => bif fits D t w then some ⟨[], w, S.H⟩ else none
        | none => none) else none
    | none => none
  | _ => none
def HC.upd : HC → List PS → SV → Option HC
  | .bk T v, pa, w => match v.set pa w with
    | some u => some (.bk T u)
    | none => none
  | .rw T a n xs, .ix i :: r, w => match (emb a (xs.getD i.x a.d)).set r w with
    | some u => match ext a u with
      | some x => some (.rw T a n (xs.set i.x x))
      | none => none
    | none => none
  | _, _, _ => none
def evStore (q : Nat) (S : St) (t : Nat) (x w : SV) : Option Ef :=
  match x with
  | .ptr c lay pa => match hget S.H c with
    | some h => bif h.lay.q lay && fits D t w then (match h.at pa with
      | some old => bif old.lay.q w.lay then (match h.upd pa w with
        | some h' => some ⟨[], .ud, hput S.H c q h'⟩
        | none => none) else none
      | none => none) else none
    | none => none
  | _ => none
def evBox (q : Nat) (S : St) (T : Nat) (w : SV) : Option Ef := bif w.st then some ⟨[], .ptr q w.lay [], (q, q, .bk T w) :: S.H⟩ else none
def setAt (t : Nat) (z : SV) (i : Nat) (w : SV) : Option SV :=
  match lookD D t with
  | some ⟨.ar _ e, _, _, _⟩ => match lookD D e, z.lay with
    | some d, .ar m => bif Nat.beq d.n 1 && Nat.blt i m && w.st && !w.lay.agg then z.set [.ix ⟨true, i⟩] w else none
    | _, _ => none
  | some ⟨.st l, _, _, _⟩ => match l[i]?, fpath z.lay i with
    | some x, some p => match lookD D x.1, z.get p with
      | some d, some o => bif Nat.beq (poff z.lay p) x.2 && o.lay.q w.lay && Nat.beq d.n o.lay.sz && w.st then z.set p w else none
      | _, _ => none
    | _, _ => none
  | _ => none
def allL : List (Nat × Nat) → Bool
  | [] => true
  | x :: r => (lookD D x.1).isSome && allL r
/-- the types of a literal's parts are known -/
def okB (t : Nat) : Bool :=
  match lookD D t with
  | some ⟨.ar _ e, _, _, _⟩ => (lookD D e).isSome
  | some ⟨.st l, _, _, _⟩ => allL D l
  | _ => false
def buildS (F : Nat → Option SV) (t : Nat) : List (Nat × Operand) → SV → Option SV
  | [], z => some z
  | (i, x) :: r, z => match opS F x with
    | some w => match setAt D t z i w with
      | some z => buildS F t r z
      | none => none
    | none => none
def extL (a : Sh) : List SV → Option (List a.T)
  | [] => some []
  | v :: r => match ext a v, extL a r with
    | some x, some l => some (x :: l)
    | _, _ => none
def contL (a : Sh) (H : List (Nat × Nat × HC)) : List SV → Option (List (List a.T))
  | [] => some []
  | v :: r => match cont a H v, contL a H r with
    | some x, some l => some (x :: l)
    | _, _ => none
def inOrder : Nat → List (Nat × Operand) → Bool
  | _, [] => true
  | k, (i, _) :: r => Nat.beq i k && inOrder (k + 1) r
/-- rows that are only read from here on -/
def roAll (q : Nat) : List (Nat × Nat × HC) → List SV → Option (List (Nat × Nat × HC))
  | H, [] => some H
  | H, .nl :: r => roAll q H r
  | H, .sl c _ _ _ _ _ _ :: r => match hget H c with
    | some (.rw _ a n xs) => roAll q (hput H c q (.ro a n xs)) r
    | some (.ro _ _ _) => roAll q H r
    | _ => none
  | _, _ :: _ => none
def cellL : List SV → Bool
  | [] => true
  | v :: r => v.st && !v.lay.agg && cellL r
def evBuildSlice (q : Nat) (S : St) (t len : Nat) (parts : List (Nat × Operand)) : Option Ef :=
  match lookD D t, opsS S.get (parts.map (·.2)) with
  | some ⟨.sl e, _, _, _⟩, some l => match zsv D 9 e, lookD D e with
    | some z, some d => bif inOrder 0 parts && Nat.beq parts.length len && Nat.beq d.n z.lay.sz && Nat.ble (len * d.n) 16777216 && Nat.ble len 16777216 then (
      match shT D 9 e with
      | some a => match extL a l with
        | some xs => bif a.lay.q z.lay then some ⟨[], .sl q [] q ⟨true, 0⟩ ⟨true, len⟩ true false, (q, q, .rw e a ⟨true, len⟩ xs) :: S.H⟩ else none
        | none => none
      | none => bif !z.lay.agg then (match d.k with
        | .sl e' => match shT D 9 e' with
          | some a => match contL a S.H l, roAll q S.H l with
            | some xs, some H => some ⟨[], .sl q [] q ⟨true, 0⟩ ⟨true, len⟩ true false, (q, q, .rq a ⟨true, len⟩ xs) :: H⟩
            | _, _ => bif cellL l then some ⟨[], .sl q [] q ⟨true, 0⟩ ⟨true, len⟩ true false, (q, q, .rs l) :: S.H⟩ else none
          | none => none
        | _ => bif cellL l then some ⟨[], .sl q [] q ⟨true, 0⟩ ⟨true, len⟩ true false, (q, q, .rs l) :: S.H⟩ else none) else none) else none
    | _, _ => none
  | _, _ => none
/-- no more bytes than a row may have -/
def roomS (l : Bool) (n b : Nat) : Option (List Cnd) := bif l then (bif Nat.ble (n * b) 140737488355328 then some [] else none) else some [cn (n * b ≤ 140737488355328)]
def sameO (x y : Operand) : Bool :=
  match x, y with
  | .tmp a, .tmp b => Nat.beq a b
  | .const (.int .i64 (.ofNat a)), .const (.int .i64 (.ofNat b)) => Nat.beq a b
  | _, _ => false
def evMake (q : Nat) (S : St) (t : Nat) (x : SV) : Option Ef :=
  match lookD D t with
  | some ⟨.sl e, _, _, _⟩ => match lookD D e, shT D 9 e, zsv D 9 e with
    | some d, some a, some z => bif Nat.beq d.n a.lay.sz && Nat.blt 0 d.b then (match ext a z, x with
      | some z, .N _ m => match roomS m.l m.x d.b with
        | some cs => some ⟨cs, .sl q [] q ⟨true, 0⟩ m true false, (q, q, .rw e a m (List.replicate m.x z)) :: S.H⟩
        | none => none
      | some z, .Z _ m => match roomS false m.toNat d.b with
        | some cs => some ⟨cn (0 ≤ m) :: cs, .sl q [] q ⟨true, 0⟩ ⟨false, m.toNat⟩ true false, (q, q, .rw e a ⟨false, m.toNat⟩ (List.replicate m.toNat z)) :: S.H⟩
        | none => none
      | _, _ => none) else none
    | _, _, _ => none
  | _ => none
/-- a row with more room than elements, both told -/
def evMakeC (q : Nat) (S : St) (t : Nat) (x y : SV) : Option Ef :=
  match lookD D t with
  | some ⟨.sl e, _, _, _⟩ => match lookD D e, shT D 9 e, zsv D 9 e with
    | some d, some a, some z => match ext a z, x, y with
      | some z, .N _ m, .N _ c => bif Nat.beq d.n a.lay.sz && (Nat.blt 0 d.b && (m.l && (c.l && (Nat.ble m.x c.x && Nat.ble (c.x * d.b) 140737488355328)))) then some ⟨[], .sl q [] q ⟨true, 0⟩ m true false, (q, q, .rw e a m (List.replicate m.x z)) :: S.H⟩ else none
      | _, _, _ => none
    | _, _, _ => none
  | _ => none
def hiN (hi : Option Operand) (b n : NT) : Option (List Cnd) := match hi with | none => some [] | some _ => leN b n
def mxN (mx : Option Operand) (b m : NT) : Option (List Cnd) := match mx with | none => some [] | some _ => (match leN b m, leN m b with | some p, some q => some (app p q) | _, _ => none)
def evSlice (q : Nat) (S : St) (t : Nat) (x : SV) (lo hi mx : Option Operand) : Option Ef :=
  match lookD D t, x with
  | some ⟨.sl e, _, _, _⟩, .sl c pa _ l n tl om => match bnS S.get lo ⟨true, 0⟩, bnS S.get hi n, bnS S.get mx n with
    | some (c1, a), some (c2, b), some (c3, m) => bif szOk D S.H e c pa && !(om && mx.isNone && hi.isSome) && (hi.isSome || mx.isNone) then (match leN a b, hiN hi b n, mxN mx b m with
      | some d1, some d2, some d3 => some ⟨app c1 (app c2 (app c3 (app d1 (app d2 d3)))), .sl c pa q (addN l a) (subN b a) (tl && hi.isNone) (mx.isSome || om), S.H⟩
      | _, _, _ => none) else none
    | _, _, _ => none
  | some ⟨.sl e, _, _, _⟩, .nl => match bnS S.get lo ⟨true, 0⟩, bnS S.get hi ⟨true, 0⟩ with
    | some (c1, a), some (c2, b) => bif mx.isNone && (lookD D e).isSome then (match leN a ⟨true, 0⟩, leN b ⟨true, 0⟩ with
      | some d1, some d2 => some ⟨app c1 (app c2 (app d1 d2)), .nl, S.H⟩
      | _, _ => none) else none
    | _, _ => none
  | some ⟨.ar n e, _, _, _⟩, .ptr c lay pa => match lay.sub pa, bnS S.get lo ⟨true, 0⟩, bnS S.get hi ⟨true, n⟩ with
    | some (.ar m), some (c1, a), some (c2, b) => bif Nat.beq n m && mx.isNone && Nat.ble n 140737488355328 && tn D e 1 then (match leN a b, leN b ⟨true, n⟩ with
      | some d1, some d2 => some ⟨app c1 (app c2 (app d1 d2)), .sl c pa q a (subN b a) hi.isNone false, S.H⟩
      | _, _ => none) else none
    | _, _, _ => none
  | _, _ => none
def evSap (t : Nat) (x : SV) : PE :=
  match x with
  | .sl c pa v lo n _ _ => match lookD D t with
    | some ⟨.ar m _, _, _, _⟩ => match leN ⟨true, m⟩ n with
      | some cs => bif Nat.blt 0 m then some (cs, .av c pa v lo m) else none
      | none => none
    | _ => none
  | _ => none
def evConvert (q : Nat) (S : St) (src dst : Nat) (x : SV) : Option Ef :=
  match lookD D src, lookD D dst with
  | some ⟨.i _, _, _, _⟩, some ⟨.i k, _, _, _⟩ => efP S (convS k x)
  | some ⟨.sl e, _, _, _⟩, some ⟨.s, _, _, _⟩ => match lookD D e, cont (.N .u8) S.H x with
    | some ⟨.i .u8, _, _, _⟩, some xs => some ⟨[], .S xs, S.H⟩
    | _, _ => none
  | some ⟨.s, _, _, _⟩, some ⟨.sl e, _, _, _⟩ => match lookD D e, x with
    | some ⟨.i .u8, _, _, _⟩, .S xs => some ⟨[cn (xs.length ≤ MAX)], .sl q [] q ⟨true, 0⟩ ⟨false, xs.length⟩ true false, (q, q, .rw e (.N .u8) ⟨false, xs.length⟩ xs) :: S.H⟩
    | _, _ => none
  | some ⟨.sl e, _, _, _⟩, some ⟨.sl _, _, _, _⟩ => match lookD D e, x with
    | some ⟨.i .u8, _, _, _⟩, .sl c [] _ lo n true false => match hget S.H c with
      | some (.rw T a m xs) => bif Nat.beq src dst && lo.l && Nat.beq lo.x 0 && n.l && Nat.blt 0 n.x then some ⟨[], x, hput S.H c q (.rw T a m xs)⟩ else none
      | _ => none
    | _, _ => none
  | _, _ => none
/-- append(v, ys...) -/
def appS (q : Nat) (S : St) (e : Nat) (b : Nat) (a : Sh) (v : SV) (m : NT) (ys : List a.T) : Option Ef :=
  match v with
  | .nl => match roomS m.l m.x b with
    | some cs => some ⟨cs, .sl q [] q ⟨true, 0⟩ m true false, (q, q, .rw e a m ys) :: S.H⟩
    | none => none
  | .sl c pa _ lo n tl true => bif n.l && Nat.beq n.x 0 then (match roomS m.l m.x b with
    | some cs => some ⟨cs, .sl q [] q ⟨true, 0⟩ m true false, (q, q, .rw e a m ys) :: S.H⟩
    | none => none) else (match cont a S.H v, roomS (n.l && m.l) (n.x + m.x) b with
    | some xs, some cs => bif m.l && Nat.blt 0 m.x then some ⟨cs, .sl q [] q ⟨true, 0⟩ (addN n m) true false, (q, q, .rw e a (addN n m) (xs ++ ys)) :: S.H⟩ else some ⟨app cs [cn (0 < m.x)], .sl q [] q ⟨true, 0⟩ (addN n m) true false, (q, q, .rw e a (addN n m) (xs ++ ys)) :: S.H⟩
    | _, _ => none)
  | .sl c [] _ lo n tl false => match hget S.H c with
    | some (.rw e' b' _ xs) => bif lo.l && Nat.beq lo.x 0 && Nat.beq e e' then (match castL b' a xs, roomS (n.l && m.l) (n.x + m.x) b with
      | some xs, some cs => some ⟨cs, .sl q [] q ⟨true, 0⟩ (addN n m) true false, (q, q, .rw e a (addN n m) ((bif tl then xs else xs.take n.x) ++ ys)) :: hdel S.H c⟩
      | _, _ => none) else none
    | _ => none
  | _ => none
def slLen : SV → Option NT
  | .sl _ _ _ _ m _ _ => some m
  | .nl => some ⟨true, 0⟩
  | _ => none
def isMx : SV → Bool
  | .sl _ _ _ _ _ _ true => true
  | _ => false
def intT (t : Nat) : Bool := match lookD D t with | some ⟨.i _, _, _, _⟩ => true | _ => false
/-- append(v, x...) -/
def evAppend (q : Nat) (S : St) (t t' : Nat) (v x : SV) : Option Ef :=
  match lookD D t with
  | some ⟨.sl e, _, _, _⟩ => match lookD D e, shT D 9 e, zsv D 9 e with
    | some d, some a, some z => match ext a z with
      | some z => bif Nat.beq d.n a.lay.sz && Nat.blt 0 d.n && Nat.blt 0 d.b then (match x with
        | .N _ m => match pos m with
          | some p => bif !a.lay.agg && intT D t' && !isMx v then (match appS q S e d.b a v m (List.replicate m.x z) with
            | some f => some ⟨app p f.cs, f.v, f.H⟩
            | none => none) else none
          | none => none
        | x => match slLen x, cont a S.H x with
          | some m, some ys => bif Nat.beq t t' then appS q S e d.b a v m ys else none
          | _, _ => none) else none
      | none => none
    | _, _, _ => none
  | _ => none
/-- a row's content written anew -/
def HC.wr (a : Sh) : HC → List PS → List a.T → Option HC
  | .rw T b n _, [], ys => match castL a b ys with
    | some ys => some (.rw T b n ys)
    | none => none
  | h, pa, ys => match h.at pa, castL a (.N .u8) ys with
    | some (.an .u8 m _), some ys => h.upd pa (.an .u8 m ys)
    | _, _ => none
def HC.len : HC → List PS → Option NT
  | .rw _ _ n _, [] => some n
  | h, pa => match h.at pa with
    | some (.an _ m _) => some ⟨true, m⟩
    | _ => none
/-- copy(v, x) -/
def evCopy (q : Nat) (S : St) (t : Nat) (v x : SV) : Option Ef :=
  match v, lookD D t with
  | .sl c pa _ lo n _ _, some ⟨.sl e, _, _, _⟩ => match hget S.H c, shT D 9 e with
    | some h, some a => match h.row a pa, h.len pa, slLen x, cont a S.H x with
      | some xs, some N, some m, some ys =>
        bif tn D e a.lay.sz && Nat.blt 0 a.lay.sz then (
        let j : NT := bif m.l && n.l then ⟨true, Nat.min m.x n.x⟩ else ⟨false, min m.x n.x⟩
        let ys' := bif m.l && n.l && Nat.ble m.x n.x then ys else ys.take j.x
        let zs := bif lo.l && Nat.beq lo.x 0 then ys' else xs.take lo.x ++ ys'
        let zs' := bif N.l && lo.l && j.l && Nat.ble N.x (lo.x + j.x) then zs else zs ++ xs.drop (addN lo j).x
        match h.wr a pa zs' with
        | some h' => some ⟨[], .N .i64 j, hput S.H c q h'⟩
        | none => none) else none
      | _, _, _, _ => none
    | _, _ => none
  | _, _ => none
/-- all of these -/
def andC : List Cnd → Cnd
  | [] => cn True
  | [c] => c
  | c :: d :: r => ⟨c.q ∧ (andC (d :: r)).q, @instDecidableAnd _ _ c.d (andC (d :: r)).d⟩
def eqL (f : Nat → SV → SV → Option Cnd) : List (Nat × Nat) → Nat → SV → SV → Option (List Cnd)
  | [], _, .U, .U => some []
  | [x], o, .one a, .one b => bif Nat.beq x.2 o && fits D x.1 a && fits D x.1 b then (match f x.1 a b with | some c => some [c] | none => none) else none
  | x :: y :: r, o, .pr a c, .pr b d => bif Nat.beq x.2 o && fits D x.1 a && fits D x.1 b then (match f x.1 a b, eqL f (y :: r) (o + a.lay.sz) c d with
    | some k, some l => some (k :: l)
    | _, _ => none) else none
  | _, _, _, _ => none
/-- two values of one type told apart -/
def eqT : Nat → Nat → SV → SV → Option Cnd
  | 0, _, _, _ => none
  | f + 1, t, a, b => match lookD D t with
    | some ⟨.ar n e, _, _, _⟩ => (match lookD D e, a, b with
      | some ⟨.i k, 1, _, _⟩, .an k1 n1 xs, .an k2 n2 ys => bif kq k k1 && kq k k2 && Nat.beq n n1 && Nat.beq n n2 then some (cn (xs = ys)) else none
      | _, _, _ => none)
    | some ⟨.st l, _, _, true⟩ => (match eqL D (eqT f) l 0 a b with
      | some cs => some (andC cs)
      | none => none)
    | some ⟨.i _, _, _, _⟩ => (match a, b with
      | .N k x, .N k' y => bif kq k k' then some (cn (x.x = y.x)) else none
      | a, b => match xZ a, xZ b with
        | some x, some y => some (cn (x = y))
        | _, _ => none)
    | some ⟨.b, _, _, _⟩ => (match xB a, xB b with
      | some x, some y => some (cn (x = y))
      | _, _ => none)
    | some ⟨.s, _, _, _⟩ => (match xS a, xS b with
      | some x, some y => some (cn (x = y))
      | _, _ => none)
    | _ => none
def eOk (t : Nat) : Bool := match lookD D t with | some d => d.e | none => false
def evBin (op : BinOp) (t : Nat) (a b : SV) : PE := bif a.lay.agg then (bif eOk D t then eqR op (eqT D 9 t a b) else none) else match lookD D t with | some d => binS op d.k a b | none => none
def evLen (t : Nat) (x : SV) : PE :=
  match lookD D t, x with
  | some ⟨.sl _, _, _, _⟩, .sl _ _ _ _ n _ _ => some ([], .N .i64 n)
  | some ⟨.sl _, _, _, _⟩, .nl => some ([], .N .i64 ⟨true, 0⟩)
  | some ⟨.s, _, _, _⟩, .S xs => some ([cn (xs.length ≤ MAX)], .N .i64 ⟨false, xs.length⟩)
  | some ⟨.ar n _, _, _, _⟩, _ => bif Nat.ble n MAX then some ([], .N .i64 ⟨true, n⟩) else none
  | _, _ => none
def item : SV → Nat → Option SV
  | .pr a _, 0 => some a
  | .pr _ b, i + 1 => item b i
  | _, _ => none
def ev (q : Nat) (S : St) : Op → Option Ef
  | .move x => match opS S.get x with | some v => some ⟨[], v, S.H⟩ | none => none
  | .assign x => match opS S.get x with | some v => some ⟨[], v, S.H⟩ | none => none
  | .pick c a b => match opS S.get c with
    | some .tt => match opS S.get a with | some v => some ⟨[], v, S.H⟩ | none => none
    | some .ff => match opS S.get b with | some v => some ⟨[], v, S.H⟩ | none => none
    | _ => none
  | .binOp op t x y _ => match opS S.get x, opS S.get y with
    | some a, some b => efP S (evBin D op t a b)
    | _, _ => none
  | .unOp op _ x => match opS S.get x with | some a => efP S (unS op a) | none => none
  | .convert src dst x => match opS S.get x with | some a => evConvert D q S src dst a | none => none
  | .extract x i => match opS S.get x with
    | some (.tp l) => match item l i with | some v => some ⟨[], v, S.H⟩ | none => none
    | _ => none
  | .nilCheck x => match opS S.get x with
    | some (.ptr c l p) => some ⟨[], .ptr c l p, S.H⟩
    | some (.av c p v lo m) => some ⟨[], .av c p v lo m, S.H⟩
    | _ => none
  | .fieldAddr s x f => match opS S.get x with | some v => efP S (evFieldAddr D s v f) | none => none
  | .field s x f => match opS S.get x with | some v => efP S (evField D s v f) | none => none
  | .indexAddr t x i => match opS S.get x, opS S.get i with | some v, some j => efP S (evIndexAddr D S.H t v j) | _, _ => none
  | .index t x i => match opS S.get x, opS S.get i with | some v, some j => efP S (evIndex D t v j) | _, _ => none
  | .load t x => match opS S.get x with | some v => evLoad D q S t v | none => none
  | .store t x y => match opS S.get x, opS S.get y with | some v, some w => evStore D q S t v w | _, _ => none
  | .alloc t => match zsv D 9 t with | some z => evBox q S t z | none => none
  | .box t x => match opS S.get x with | some w => bif fits D t w then evBox q S t w else none | none => none
  | .build t ps => match zsv D 9 t with
    | some z => bif okB D t && z.lay.agg then (match buildS D S.get t ps.toList z with | some v => some ⟨[], v, S.H⟩ | none => none) else none
    | none => none
  | .buildSlice t len ps => evBuildSlice D q S t len ps.toList
  | .makeSlice t x y => bif sameO x y then (match opS S.get x with | some v => evMake D q S t v | none => none) else (match opS S.get x, opS S.get y with | some v, some u => evMakeC D q S t v u | _, _ => none)
  | .slice t x lo hi mx => match opS S.get x with | some v => evSlice D q S t v lo hi mx | none => none
  | .sliceToArrayPointer t x => match opS S.get x with | some v => efP S (evSap D t v) | none => none
  | .makeInterface t x => match lookD D t, opS S.get x with
    | some ⟨.st [], _, _, _⟩, some .U => some ⟨[], .ov (.iface t (.agg ⟨[]⟩)), S.H⟩
    | _, _ => none
  | .makeFunc (.func f) fi cap => match opsS S.get fi.toList, opsS S.get cap.toList with
    | some l, some m => some ⟨[], .fn f (mkItems l) (mkItems m), S.H⟩
    | _, _ => none
  | .call ⟨.builtin .len, ⟨[x]⟩, ⟨[t]⟩⟩ => match opS S.get x with | some v => efP S (evLen D t v) | none => none
  | .call ⟨.builtin .max, ⟨[x, y]⟩, _⟩ => match opS S.get x, opS S.get y with
    | some (.N .i64 a), some (.N .i64 b) => some ⟨[], .N .i64 ⟨a.l && b.l, max a.x b.x⟩, S.H⟩
    | _, _ => none
  | .call ⟨.builtin .append, ⟨[x, y]⟩, ⟨[t, t']⟩⟩ => match opS S.get x, opS S.get y with | some v, some w => evAppend D q S t t' v w | _, _ => none
  | .call ⟨.builtin .copy, ⟨[x, y]⟩, ⟨[t, _]⟩⟩ => match opS S.get x, opS S.get y with | some v, some w => evCopy D q S t v w | _, _ => none
  | _ => none
end
end Go.Proofs.Ytnagkhofkjjajaa
