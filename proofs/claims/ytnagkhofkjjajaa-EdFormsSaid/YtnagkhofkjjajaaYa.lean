/- A symbolic walk in the kernel: shapes, values, states. Definitions, no statement of the claim. -/
import Derived.Test.YtnagkhofkjjajaaKe
import Derived.Test.YtnagkhofkjjajaaUa
set_option linter.unusedVariables false
namespace Go.Proofs.Ytnagkhofkjjajaa
open Go.RowKit

/-- a number, and whether it is a literal -/
structure NT where
  l : Bool
  x : Nat
def kix : IntKind → Nat
  | .i8 => 0 | .i16 => 1 | .i32 => 2 | .i64 => 3 | .u8 => 4 | .u16 => 5 | .u32 => 6 | .u64 => 7
def kq (a b : IntKind) : Bool := Nat.beq (kix a) (kix b)
/-- numbers that are not below 0 lie below this -/
def lim : IntKind → Nat
  | .u8 => 256 | .u16 => 65536 | .u32 => 4294967296 | .u64 => 18446744073709551616
  | .i8 => 128 | .i16 => 32768 | .i32 => 2147483648 | .i64 => 9223372036854775808

/-! ### Shapes of plain data -/
inductive Sh where
  | N (k : IntKind) | Z | B | S | U | one (a : Sh) | pr (a b : Sh) | an (k : IntKind) (n : Nat) | az (n : Nat)
  deriving DecidableEq
def Sh.T : Sh → Type
  | .N _ => Nat | .Z => Int | .B => Bool | .S => List Nat | .U => Unit | .one a => a.T | .pr a b => a.T × b.T | .an _ _ => List Nat | .az _ => List Int
def Sh.d : (a : Sh) → a.T
  | .N _ => (0 : Nat) | .Z => (0 : Int) | .B => false | .S => ([] : List Nat) | .U => () | .one a => a.d | .pr a b => (a.d, b.d) | .an _ _ => ([] : List Nat) | .az _ => ([] : List Int)

/-- how cells lie -/
inductive Lay where
  | C | U | one (a : Lay) | pr (a b : Lay) | ar (n : Nat) | rw (e : Lay)
def Lay.sz : Lay → Nat
  | .C => 1 | .U => 0 | .one a => a.sz | .pr a b => a.sz + b.sz | .ar N => N | .rw _ => 0
def Lay.q : Lay → Lay → Bool
  | .C, .C => true | .U, .U => true | .one a, .one b => a.q b | .pr a b, .pr c d => a.q c && b.q d | .ar n, .ar m => Nat.beq n m | .rw a, .rw b => a.q b
  | _, _ => false
def Sh.lay : Sh → Lay
  | .U => .U | .one a => .one a.lay | .pr a b => .pr a.lay b.lay | .an _ n => .ar n | .az n => .ar n | _ => .C
def Lay.agg : Lay → Bool
  | .C => false | _ => true

inductive PS where
  | L | R | O | ix (i : NT)

/-! ### Values -/
inductive SV where
  | N (k : IntKind) (x : NT)
  | Z (l : Bool) (x : Int)
  | B (x : Bool)
  | tt | ff
  | P (neg : Bool) (q : Prop) (d : Decidable q)
  | S (xs : List Nat)
  | an (k : IntKind) (n : Nat) (xs : List Nat)
  | az (n : Nat) (xs : List Int)
  | pr (a b : SV) | one (a : SV) | U
  /-- a slice: of what piece, where in it, its own name, from where on, how long, does it reach the end, is there no room behind it -/
  | sl (c : Nat) (pa : List PS) (v : Nat) (lo n : NT) (tl mx : Bool)
  | nl
  | ptr (c : Nat) (lay : Lay) (pa : List PS)
  /-- a pointer to an array behind a slice -/
  | av (c : Nat) (pa : List PS) (v : Nat) (lo : NT) (m : Nat)
  | np
  | fn (f : Nat) (fi cap : SV)
  | tp (l : SV)
  | ov (v : Value)
  | ud
def SV.lay : SV → Lay
  | .an _ n _ => .ar n | .az n _ => .ar n | .pr a b => .pr a.lay b.lay | .one a => .one a.lay | .U => .U | _ => .C
def SV.items : SV → List SV
  | .pr a b => a :: b.items
  | _ => []
/-- may it be laid into memory? -/
def SV.st : SV → Bool
  | .tp _ => false
  | .ud => false
  | .pr a b => a.st && b.st
  | .one a => a.st
  | _ => true
def mkItems : List SV → SV
  | [] => .U
  | a :: r => .pr a (mkItems r)

/-- typed data as a value -/
def emb : (a : Sh) → a.T → SV
  | .N k, x => .N k ⟨false, x⟩
  | .Z, x => .Z false x
  | .B, x => .B x
  | .S, x => .S x
  | .U, _ => .U
  | .one a, x => .one (emb a x)
  | .pr a b, x => .pr (emb a (Prod.fst (α := a.T) (β := b.T) x)) (emb b (Prod.snd (α := a.T) (β := b.T) x))
  | .an k n, x => .an k n x
  | .az n, x => .az n x
/-- a value as typed data -/
def xN (k : IntKind) : SV → Option Nat
  | .N k' x => bif kq k k' then some x.x else none
  | _ => none
def xZ : SV → Option Int
  | .Z _ x => some x
  | .N .i64 x => some ((x.x : Nat) : Int)
  | _ => none
def xB : SV → Option Bool
  | .B x => some x
  | .tt => some true
  | .ff => some false
  | .P neg q d => some (bif neg then !(@decide q d) else @decide q d)
  | _ => none
def xS : SV → Option (List Nat)
  | .S x => some x
  | _ => none
def xU : SV → Option Unit
  | .U => some ()
  | _ => none
def xan (k : IntKind) (n : Nat) : SV → Option (List Nat)
  | .an k' n' xs => bif kq k k' && Nat.beq n n' then some xs else none
  | _ => none
def xaz (n : Nat) : SV → Option (List Int)
  | .az n' xs => bif Nat.beq n n' then some xs else none
  | _ => none
def x1 : SV → Option SV
  | .one x => some x
  | _ => none
def x2 : SV → Option (SV × SV)
  | .pr x y => some (x, y)
  | _ => none
def ext : (a : Sh) → SV → Option a.T
  | .N k, v => xN k v
  | .Z, v => xZ v
  | .B, v => xB v
  | .S, v => xS v
  | .U, v => xU v
  | .one a, v => match x1 v with
    | some x => ext a x
    | none => none
  | .pr a b, v => match x2 v with
    | some w => match ext a w.1, ext b w.2 with
      | some x, some y => some ((x, y) : a.T × b.T)
      | _, _ => none
    | none => none
  | .an k n, v => xan k n v
  | .az n, v => xaz n v
def castL (a b : Sh) (xs : List a.T) : Option (List b.T) := if h : a = b then some (h ▸ xs) else none

/-! ### Parts of values -/
def gix (i : NT) : SV → Option SV
  | .an k _ xs => some (.N k ⟨false, xs.getD i.x 0⟩)
  | .az _ xs => some (.Z false (xs.getD i.x 0))
  | _ => none
def six (i : NT) (w : SV) : SV → Option SV
  | .an k n xs => match xN k w with
    | some x => some (.an k n (xs.set i.x x))
    | none => none
  | .az n xs => match xZ w with
    | some x => some (.az n (xs.set i.x x))
    | none => none
  | _ => none
def getP : List PS → SV → Option SV
  | [], v => some v
  | .L :: r, v => match x2 v with | some w => getP r w.1 | none => none
  | .R :: r, v => match x2 v with | some w => getP r w.2 | none => none
  | .O :: r, v => match x1 v with | some w => getP r w | none => none
  | .ix i :: r, v => match r with | [] => gix i v | _ :: _ => none
def setP : List PS → SV → SV → Option SV
  | [], _, w => some w
  | .L :: r, v, w => match x2 v with
    | some u => (match setP r u.1 w with | some a => some (.pr a u.2) | none => none)
    | none => none
  | .R :: r, v, w => match x2 v with
    | some u => (match setP r u.2 w with | some a => some (.pr u.1 a) | none => none)
    | none => none
  | .O :: r, v, w => match x1 v with
    | some u => (match setP r u w with | some a => some (.one a) | none => none)
    | none => none
  | .ix i :: r, v, w => match r with | [] => six i w v | _ :: _ => none
abbrev SV.get (v : SV) (pa : List PS) : Option SV := getP pa v
abbrev SV.set (v : SV) (pa : List PS) (w : SV) : Option SV := setP pa v w
def y1 : Lay → Option Lay
  | .one a => some a
  | _ => none
def y2 : Lay → Option (Lay × Lay)
  | .pr a b => some (a, b)
  | _ => none
def subP : List PS → Lay → Option Lay
  | [], l => some l
  | .L :: r, l => match y2 l with | some w => subP r w.1 | none => none
  | .R :: r, l => match y2 l with | some w => subP r w.2 | none => none
  | .O :: r, l => match y1 l with | some w => subP r w | none => none
  | .ix _ :: r, l => match l with
    | .ar _ => (match r with | [] => some .C | _ :: _ => none)
    | .rw e => subP r e
    | _ => none
abbrev Lay.sub (l : Lay) (pa : List PS) : Option Lay := subP pa l
def poffP : List PS → Lay → Nat
  | [], _ => 0
  | .L :: r, l => match y2 l with | some w => poffP r w.1 | none => 0
  | .R :: r, l => match y2 l with | some w => w.1.sz + poffP r w.2 | none => 0
  | .O :: r, l => match y1 l with | some w => poffP r w | none => 0
  | .ix i :: r, l => match l with
    | .ar _ => i.x
    | .rw e => i.x * e.sz + poffP r e
    | _ => 0
abbrev poff (l : Lay) (pa : List PS) : Nat := poffP pa l
/-- the way to a struct's field -/
def fpath : Lay → Nat → Option (List PS)
  | .one _, 0 => some [.O]
  | .pr _ _, 0 => some [.L]
  | .pr _ b, i + 1 => (match fpath b i with | some p => some (.R :: p) | none => none)
  | _, _ => none

/-! ### Memory -/
inductive HC where
  /-- a variable -/
  | bk (T : Nat) (v : SV)
  /-- a row of one's own -/
  | rw (T : Nat) (a : Sh) (n : NT) (xs : List a.T)
  /-- a row that is only read -/
  | ro (a : Sh) (n : NT) (xs : List a.T)
  /-- a literal row of anything -/
  | rs (l : List SV)
  /-- a row of rows, only read -/
  | rq (a : Sh) (n : NT) (xs : List (List a.T))

/-- slots -/
inductive Tr where
  | e
  | nd (v : Option SV) (l r : Tr)
def Tr.get : Tr → Nat → Option SV
  | .e, _ => none
  | .nd v l r, 0 => v
  | .nd _ l r, n + 1 => bif Nat.beq (Nat.mod n 2) 0 then l.get (Nat.div n 2) else r.get (Nat.div n 2)
def Tr.put : Nat → Nat → Option SV → Tr → Tr
  | 0, _, _, t => t
  | k + 1, n, v, t => match t with
    | .e => match n with
      | 0 => .nd v .e .e
      | n + 1 => bif Nat.beq (Nat.mod n 2) 0 then .nd none (Tr.put k (Nat.div n 2) v .e) .e else .nd none .e (Tr.put k (Nat.div n 2) v .e)
    | .nd u l r => match n with
      | 0 => .nd v l r
      | n + 1 => bif Nat.beq (Nat.mod n 2) 0 then .nd u (Tr.put k (Nat.div n 2) v l) r else .nd u l (Tr.put k (Nat.div n 2) v r)

structure St where
  F : Tr
  H : List (Nat × Nat × HC)
def hget : List (Nat × Nat × HC) → Nat → Option HC
  | [], _ => none
  | (c, _, h) :: r, d => bif Nat.beq c d then some h else hget r d
def hst : List (Nat × Nat × HC) → Nat → Option Nat
  | [], _ => none
  | (c, s, _) :: r, d => bif Nat.beq c d then some s else hst r d
def hdel : List (Nat × Nat × HC) → Nat → List (Nat × Nat × HC)
  | [], _ => []
  | (c, s, h) :: r, d => bif Nat.beq c d then hdel r d else (c, s, h) :: hdel r d
def hput (H : List (Nat × Nat × HC)) (c s : Nat) (h : HC) : List (Nat × Nat × HC) := (c, s, h) :: hdel H c
def FUEL : Nat := 12
def St.get (S : St) (t : Nat) : Option SV := S.F.get t
def St.put (S : St) (t : Nat) (v : SV) : St := { S with F := S.F.put FUEL t (some v) }

def app {α : Type} : List α → List α → List α
  | [], m => m
  | a :: l, m => a :: app l m
/-! ### Typed rows of data -/
def tapp : List Type → List Type → List Type
  | [], m => m
  | a :: l, m => a :: tapp l m
def Tup : List Type → Type
  | [] => Unit
  | [a] => a
  | a :: b :: l => a × Tup (b :: l)
def tcat : (l m : List Type) → Tup l → Tup m → Tup (tapp l m)
  | [], _, _, y => y
  | [_], [], x, _ => x
  | [_], _ :: _, x, y => (x, y)
  | _ :: b :: l, m, x, y => (x.1, tcat (b :: l) m x.2 y)
def tfst : (l m : List Type) → Tup (tapp l m) → Tup l
  | [], _, _ => ()
  | [_], [], x => x
  | [_], _ :: _, x => x.1
  | _ :: b :: l, m, x => (x.1, tfst (b :: l) m x.2)
def tsnd : (l m : List Type) → Tup (tapp l m) → Tup m
  | [], _, x => x
  | [_], [], _ => ()
  | [_], _ :: _, x => x.2
  | _ :: b :: l, m, x => tsnd (b :: l) m x.2

/-- how a value hangs on typed data -/
inductive VS where
  | v (a : Sh)
  | ro (a : Sh)
  | rq (a : Sh)
  | rw (T : Nat) (a : Sh)
  | vw (c : Nat) (tl : Bool)
  | k
  | pr (a b : VS)
  | one (a : VS)
  /-- a pointer to what is only read -/
  | rp (a : Sh)
  /-- a view from a piece's beginning on -/
  | vh (c : Nat)
def VS.lv : VS → List Type
  | .v a => [a.T] | .ro a => [List a.T] | .rq a => [List (List a.T)] | .rw _ a => [List a.T] | .vw _ _ => [Nat, Nat] | .k => [] | .pr a b => tapp a.lv b.lv | .one a => a.lv | .rp a => [a.T] | .vh _ => [Nat]
def lvs : List VS → List Type
  | [] => []
  | a :: r => tapp a.lv (lvs r)

/-- what lies at a place of a piece -/
def HC.at : HC → List PS → Option SV
  | .bk _ v, pa => v.get pa
  | .rw _ a _ xs, .ix i :: r => (emb a (xs.getD i.x a.d)).get r
  | .ro a _ xs, .ix i :: r => (emb a (xs.getD i.x a.d)).get r
  | .rs l, [.ix i] => bif i.l then l[i.x]? else none
  | _, _ => none
def HC.lay : HC → Lay
  | .bk _ v => v.lay
  | .rw _ a _ _ => .rw a.lay
  | .ro a _ _ => .rw a.lay
  | .rs _ => .rw .C
  | .rq _ _ _ => .rw .C
def cutL {α : Type} (lo n : NT) (tl : Bool) (xs : List α) : List α :=
  bif lo.l && Nat.beq lo.x 0 then (bif tl then xs else xs.take n.x) else bif tl then xs.drop lo.x else (xs.drop lo.x).take n.x
/-- a row's content, as a row of data -/
def HC.row (a : Sh) : HC → List PS → Option (List a.T)
  | .rw _ b _ xs, [] => castL b a xs
  | .ro b _ xs, [] => castL b a xs
  | .bk _ v, pa => match v.get pa with
    | some (.an k _ xs) => castL (.N k) a xs
    | some (.az _ xs) => castL .Z a xs
    | _ => none
  | .ro b _ ys, .ix i :: r => match getP r (emb b (ys.getD i.x b.d)) with
    | some (.an k _ xs) => castL (.N k) a xs
    | some (.az _ xs) => castL .Z a xs
    | _ => none
  | _, _ => none
/-- the content of a slice -/
def cont (a : Sh) (H : List (Nat × Nat × HC)) : SV → Option (List a.T)
  | .nl => some []
  | .sl c pa _ lo n tl _ => match hget H c with
    | some h => (match h.row a pa with
      | some xs => some (cutL lo n tl xs)
      | none => none)
    | none => none
  | _ => none
def contq (a : Sh) (H : List (Nat × Nat × HC)) : SV → Option (List (List a.T))
  | .nl => some []
  | .sl c [] _ lo n tl _ => match hget H c with
    | some (.rq b _ xs) => if h : b = a then some (cutL lo n tl (h ▸ xs)) else none
    | _ => none
  | _ => none

/-- a value that is told by names and literals, twice the same -/
def sameP : List PS → List PS → Bool
  | [], [] => true
  | .L :: a, .L :: b => sameP a b
  | .R :: a, .R :: b => sameP a b
  | .O :: a, .O :: b => sameP a b
  | .ix i :: a, .ix j :: b => i.l && j.l && Nat.beq i.x j.x && sameP a b
  | _, _ => false
def same : SV → SV → Bool
  | .tt, .tt => true
  | .ff, .ff => true
  | .U, .U => true
  | .nl, .nl => true
  | .np, .np => true
  | .N k x, .N k' y => kq k k' && x.l && y.l && Nat.beq x.x y.x
  | .ptr c l p, .ptr c' l' p' => Nat.beq c c' && l.q l' && sameP p p'
  | .pr a b, .pr c d => same a c && same b d
  | .one a, .one b => same a b
  | .fn f a b, .fn g c d => Nat.beq f g && same a c && same b d
  | .sl c [] v _ _ _ _, .sl c' [] v' _ _ _ _ => Nat.beq c c' && Nat.beq v v'
  | _, _ => false
def extV (H : List (Nat × Nat × HC)) : (x : VS) → SV → SV → Option (Tup x.lv)
  | .v a, w, _ => ext a w
  | .ro a, w, _ => cont a H w
  | .rq a, w, _ => contq a H w
  | .rw T a, w, _ => match w with
    | .nl => some ([] : List a.T)
    | .sl c [] _ lo n tl false => match hget H c with
      | some (.rw T' b _ xs) => bif lo.l && Nat.beq lo.x 0 && Nat.beq T T' then (match castL b a xs with
        | some xs => some (bif tl then xs else xs.take n.x)
        | none => none) else none
      | _ => none
    | _ => none
  | .vw c tl, w, _ => match w with
    | .sl c' [] _ lo n tl' false => bif Nat.beq c c' && (!tl || tl') then some (lo.x, n.x) else none
    | _ => none
  | .k, w, o => bif same w o then some () else none
  | .pr a b, w, o => match w, o with
    | .pr x y, .pr p q => match extV H a x p, extV H b y q with
      | some p, some q => some (tcat a.lv b.lv p q)
      | _, _ => none
    | .pr x y, o => match extV H a x o, extV H b y o with
      | some p, some q => some (tcat a.lv b.lv p q)
      | _, _ => none
    | _, _ => none
  | .one a, w, o => match w, o with
    | .one x, .one p => extV H a x p
    | .one x, o => extV H a x o
    | _, _ => none
  | .vh c, w, _ => match w with
    | .sl c' [] _ lo n _ false => bif Nat.beq c c' && lo.l && Nat.beq lo.x 0 then some n.x else none
    | _ => none
  | .rp a, w, _ => match w with
    | .ptr c lay pa => match hget H c with
      | some h => bif h.lay.q lay then (match h.at pa with
        | some u => ext a u
        | none => none) else none
      | none => none
    | _ => none

/-- how many names a shape needs -/
def VS.nm : VS → Nat
  | .ro _ => 1 | .rq _ => 1 | .rw _ _ => 1 | .vw _ _ => 1 | .pr a b => a.nm + b.nm | .one a => a.nm | .rp _ => 1 | .vh _ => 1 | _ => 0
structure EV where
  v : SV
  H : List (Nat × Nat × HC)
/-- typed data laid into memory: new names from n on; s: the stamp; w: what stands there (for what is kept) -/
def embV (s : Nat) : (x : VS) → Tup x.lv → SV → List (Nat × Nat × HC) → Nat → EV
  | .v a, x, _, H, n => ⟨emb a x, H⟩
  | .ro a, x, _, H, n => ⟨.sl n [] n ⟨true, 0⟩ ⟨false, List.length (α := a.T) x⟩ true false, (n, s, .ro a ⟨false, List.length (α := a.T) x⟩ x) :: H⟩
  | .rq a, x, _, H, n => ⟨.sl n [] n ⟨true, 0⟩ ⟨false, List.length (α := List a.T) x⟩ true false, (n, s, .rq a ⟨false, List.length (α := List a.T) x⟩ x) :: H⟩
  | .rw T a, x, _, H, n => ⟨.sl n [] n ⟨true, 0⟩ ⟨false, List.length (α := a.T) x⟩ true false, (n, s, .rw T a ⟨false, List.length (α := a.T) x⟩ x) :: H⟩
  | .vw c tl, x, _, H, n => ⟨.sl c [] n ⟨false, Prod.fst (α := Nat) (β := Nat) x⟩ ⟨false, Prod.snd (α := Nat) (β := Nat) x⟩ tl false, H⟩
  | .k, _, w, H, n => ⟨w, H⟩
  | .pr a b, x, w, H, n =>
    let e := embV s a (tfst a.lv b.lv x) (match w with | .pr p _ => p | w => w) H n
    let g := embV s b (tsnd a.lv b.lv x) (match w with | .pr _ q => q | w => w) e.H (n + a.nm)
    ⟨.pr e.v g.v, g.H⟩
  | .one a, x, w, H, n =>
    let e := embV s a x (match w with | .one p => p | w => w) H n
    ⟨.one e.v, e.H⟩
  | .vh c, x, _, H, n => ⟨.sl c [] n ⟨true, 0⟩ ⟨false, x⟩ false false, H⟩
  | .rp a, x, _, H, n => ⟨.ptr n (.rw a.lay) [.ix ⟨true, 0⟩], (n, s, .ro a ⟨true, 1⟩ ([x] : List a.T)) :: H⟩
end Go.Proofs.Ytnagkhofkjjajaa
