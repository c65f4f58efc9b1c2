/- A symbolic walk in the kernel: code. Definitions, no statement of the claim. -/
import Derived.Test.YtnagkhofkjjajaaYb
set_option linter.unusedVariables false
namespace Go.Proofs.Ytnagkhofkjjajaa
open Go.RowKit

/-! ### What is told anew where ways join -/
structure Spec where
  /-- slots -/
  ss : List (Nat × VS)
  /-- contents of pieces -/
  hs : List (Nat × VS)
  /-- pieces let go -/
  dl : List Nat
  /-- rows that are only read from here on -/
  se : List Nat
/-- where ways join, and what a round's state is -/
inductive An where
  | d
  | s (a b : An)
  | j (w : Bool) (sp : Spec) (a b : An)
  | c (a b : An)
  | k (a : An)
  | l (sp : Spec) (a : An)
  | u (n : Nat) (a : An)
def lvP : List (Nat × VS) → List Type
  | [] => []
  | (_, a) :: r => tapp a.lv (lvP r)
def Spec.T (sp : Spec) : Type := Tup (tapp (lvP sp.ss) (lvP sp.hs))
def extSS (S0 S : St) : (l : List (Nat × VS)) → Option (Tup (lvP l))
  | [] => some ()
  | (t, a) :: r => match S.get t with
    | some v => match extV S.H a v ((S0.get t).getD .ud), extSS S0 S r with
      | some x, some y => some (tcat a.lv (lvP r) x y)
      | _, _ => none
    | none => none
def extC (H : List (Nat × Nat × HC)) (a : VS) (o : Option HC) : HC → Option (Tup a.lv)
  | .bk T v => match o with
    | some (.bk T' w) => bif Nat.beq T T' then extV H a v w else none
    | _ => none
  | .rw T b _ xs => match o with
    | some (.rw _ _ _ _) => (match a with
      | .rw T' a => bif Nat.beq T T' then castL b a xs else none
      | _ => none)
    | _ => none
  | _ => none
def extHS (S0 S : St) : (l : List (Nat × VS)) → Option (Tup (lvP l))
  | [] => some ()
  | (c, a) :: r => match hget S.H c with
    | some h => match extC S.H a (hget S0.H c) h, extHS S0 S r with
      | some x, some y => some (tcat a.lv (lvP r) x y)
      | _, _ => none
    | none => none
def memN : List Nat → Nat → Bool
  | [], _ => false
  | a :: r, x => Nat.beq a x || memN r x
def keyN : List (Nat × VS) → Nat → Bool
  | [], _ => false
  | (a, _) :: r, x => Nat.beq a x || keyN r x
def kept (q : Nat) (sp : Spec) (S : St) : List (Nat × Nat × HC) → Bool
  | [] => true
  | (c, s, _) :: r => (memN sp.dl c || keyN sp.hs c || (match hst S.H c with | some s' => Nat.beq s s' && Nat.blt s q | none => false)) && kept q sp S r
/-- pieces that a value hands over to be read, or as one's own -/
def roN : VS → SV → List Nat
  | .ro _, .sl c _ _ _ _ _ _ => [c]
  | .rq _, .sl c _ _ _ _ _ _ => [c]
  | .rp _, .ptr c _ _ => [c]
  | .pr a b, .pr x y => app (roN a x) (roN b y)
  | .one a, .one x => roN a x
  | _, _ => []
def rwN : VS → SV → List Nat
  | .rw _ _, .sl c _ _ _ _ _ _ => [c]
  | .pr a b, .pr x y => app (rwN a x) (rwN b y)
  | .one a, .one x => rwN a x
  | _, _ => []
def roP (S : St) : List (Nat × VS) → List Nat
  | [] => []
  | (t, a) :: r => app (match S.get t with | some v => roN a v | none => []) (roP S r)
def rwP (S : St) : List (Nat × VS) → List Nat
  | [] => []
  | (t, a) :: r => app (match S.get t with | some v => rwN a v | none => []) (rwP S r)
def roH (S : St) : List (Nat × VS) → List Nat
  | [] => []
  | (c, a) :: r => app (match hget S.H c with | some (.bk _ v) => roN a v | _ => []) (roH S r)
def rwH (S : St) : List (Nat × VS) → List Nat
  | [] => []
  | (c, a) :: r => app (match hget S.H c with | some (.bk _ v) => rwN a v | _ => []) (rwH S r)
def nodup : List Nat → Bool
  | [] => true
  | a :: r => !memN r a && nodup r
/-- a piece that stays, to be written -/
def stays (sp : Spec) (H : List (Nat × Nat × HC)) (c : Nat) : Bool :=
  match hget H c with
  | some (.bk _ _) => keyN sp.hs c || !memN sp.dl c
  | some (.rw _ _ _ _) => keyN sp.hs c || (!memN sp.dl c && !memN sp.se c)
  | _ => false
def apart (sp : Spec) (S0 S : St) : Bool :=
  let ro := app (roP S sp.ss) (roH S sp.hs)
  let rw := app (rwP S sp.ss) (rwH S sp.hs)
  nodup rw && rw.all (fun c => !memN ro c && !memN sp.se c && !keyN sp.hs c && (memN sp.dl c || (hget S0.H c).isNone)) && ro.all (fun c => !stays sp S0.H c)
/-- views are of pieces that are there -/
def vwV (H : List (Nat × Nat × HC)) : VS → Bool
  | .vw c _ => (hget H c).isSome
  | .vh c => (hget H c).isSome
  | .pr a b => vwV H a && vwV H b
  | .one a => vwV H a
  | _ => true
def vwP (H : List (Nat × Nat × HC)) : List (Nat × VS) → Bool
  | [] => true
  | (_, a) :: r => vwV H a && vwP H r
/-- a state's data -/
def extJ (q : Nat) (sp : Spec) (S0 S : St) : Option sp.T :=
  bif kept q sp S S0.H && apart sp S0 S && vwP S0.H sp.ss && vwP S0.H sp.hs then (match extSS S0 S sp.ss, extHS S0 S sp.hs with
    | some x, some y => some (tcat (lvP sp.ss) (lvP sp.hs) x y)
    | _, _ => none) else none
def keepH (q : Nat) (sp : Spec) : List (Nat × Nat × HC) → List (Nat × Nat × HC)
  | [] => []
  | (c, s, h) :: r => bif memN sp.dl c || keyN sp.hs c then keepH q sp r else bif memN sp.se c then (match h with | .rw _ a n xs => (c, q, .ro a n xs) :: keepH q sp r | h => (c, s, h) :: keepH q sp r) else (c, s, h) :: keepH q sp r
def nmP : List (Nat × VS) → Nat
  | [] => 0
  | (_, a) :: r => a.nm + nmP r
def embSS (s : Nat) (S0 : St) : (l : List (Nat × VS)) → Tup (lvP l) → St → Nat → St
  | [], _, S, _ => S
  | (t, a) :: r, x, S, n =>
    let e := embV s a (tfst a.lv (lvP r) x) ((S0.get t).getD .ud) S.H n
    embSS s S0 r (tsnd a.lv (lvP r) x) ⟨S.F.put FUEL t (some e.v), e.H⟩ (n + a.nm)
def rwS (s c : Nat) (m : NT) : (a : VS) → Tup a.lv → List (Nat × Nat × HC) → List (Nat × Nat × HC)
  | .rw T a, y, H => (c, s, .rw T a m y) :: H
  | _, _, H => H
def hsS (s : Nat) (S0 : St) (c : Nat) (a : VS) (p : Tup a.lv) (S : St) (n : Nat) : St :=
  match hget S0.H c with
  | some (.bk T old) => ⟨S.F, (c, s, .bk T (embV s a p old S.H n).v) :: (embV s a p old S.H n).H⟩
  | some (.rw _ _ m _) => ⟨S.F, rwS s c m a p S.H⟩
  | _ => S
def embHS (s : Nat) (S0 : St) : (l : List (Nat × VS)) → Tup (lvP l) → St → Nat → St
  | [], _, S, _ => S
  | (c, a) :: r, x, S, n => embHS s S0 r (tsnd a.lv (lvP r) x) (hsS s S0 c a (tfst a.lv (lvP r) x) S n) (n + a.nm)
def wrO : List Oper → List Nat
  | [] => []
  | o :: r => match o.dst with
    | some d => d :: wrO r
    | none => wrO r
/-- the slots that code writes -/
def wr : Code → List Nat
  | .region _ ops _ => wrO ops.toList
  | .seq a b => app (wr a) (wr b)
  | .cond _ a b => app (wr a) (wr b)
  | .block _ a => wr a
  | .loop a => wr a
  | _ => []
def delF : List Nat → Tr → Tr
  | [], F => F
  | t :: r, F => delF r (F.put FUEL t none)
/-- the state that data tell -/
def stJ (q : Nat) (sp : Spec) (w : List Nat) (S0 : St) (x : sp.T) : St :=
  embHS q S0 sp.hs (tsnd (lvP sp.ss) (lvP sp.hs) x) (embSS q S0 sp.ss (tfst (lvP sp.ss) (lvP sp.hs) x) ⟨delF w S0.F, keepH q sp S0.H⟩ q) (q + nmP sp.ss)
/-- the next name -/
def nxJ (q : Nat) (sp : Spec) : Nat := q + nmP sp.ss + nmP sp.hs + 1

/-! ### Calls -/
/-- What is known of a function: what it takes, what it hands back, what it reckons. -/
structure Ct where
  ps : List VS
  rs : List VS
  F : Tup (lvs ps) → Option (Tup (lvs rs))
structure FI where
  c : Code
  an : An
  n : Nat
  rs : List ResultVar
@[noinline] def bd (f : Func) : Code := match f.body with | some c => c | none => .skip
@[noinline] def fi (f : Func) (a : An) : FI := ⟨bd f, a, f.ntmps, f.results.toList⟩
/-- functions of the machine's own that touch memory: a load, a sum, what runs a function once -/
inductive Sp where
  | ld (k : IntKind)
  | ad (T : Nat)
  | os (T1 T2 : Nat) (pd pm : List PS)
structure Env where
  D : List (Nat × TD)
  /-- the type of what is panicked with -/
  pt : Nat
  /-- the function that runs another and tells whether it went through (0: there is none) -/
  ca : Nat
  sp : List (Nat × Sp)
  ct : List (Nat × Ct)
  fi : List (Nat × FI)
def look0 {α : Type} : List (Nat × α) → Nat → Option α
  | [], _ => none
  | (i, v) :: r, t => bif Nat.beq i t then some v else look0 r t
def extA (H : List (Nat × Nat × HC)) : (l : List VS) → List SV → Option (Tup (lvs l))
  | [], [] => some ()
  | a :: r, v :: w => match extV H a v .ud, extA H r w with
    | some x, some y => some (tcat a.lv (lvs r) x y)
    | _, _ => none
  | _, _ => none
structure EL where
  vs : List SV
  H : List (Nat × Nat × HC)
def nmA : List VS → Nat
  | [] => 0
  | a :: r => a.nm + nmA r
def embA (s : Nat) : (l : List VS) → Tup (lvs l) → List (Nat × Nat × HC) → Nat → EL
  | [], _, H, _ => ⟨[], H⟩
  | a :: r, x, H, n =>
    let e := embV s a (tfst a.lv (lvs r) x) .ud H n
    let g := embA s r (tsnd a.lv (lvs r) x) e.H (n + a.nm)
    ⟨e.v :: g.vs, g.H⟩
def one : List SV → SV
  | [v] => v
  | l => .tp (mkItems l)
abbrev Hnd := (τ : Type) → Nat → List SV → Nat → St → (SV → Nat → St → Option τ) → (Nat → St → Option τ) → Option τ
def ctC (c : Ct) {τ : Type} (args : List SV) (q : Nat) (S : St) (k : SV → Nat → St → Option τ) : Option τ :=
  match extA S.H c.ps args with
  | some x => bnd (c.F x) fun r =>
    let e := embA q c.rs r S.H q
    k (one e.vs) (q + nmA c.rs + 1) ⟨S.F, e.H⟩
  | none => none

/-! ### Operations in a row -/
def ifv {α : Type} (v : SV) (A B : Option α) : Option α :=
  match v with
  | .tt => A
  | .ff => B
  | .B x => if x = true then A else B
  | .P false q d => @ite _ q d A B
  | .P true q d => @ite _ q d B A
  | _ => none
/-- an operation that hangs on another -/
def ifg {α : Type} (w : Bool) (v : SV) (Y N : Bool → Option α) : Option α :=
  match v with
  | .ud => N w
  | v => bif w then ifv v (Y true) (N false) else ifv v (N true) (Y false)
def putD (S : St) (d : Option Nat) (v : SV) : St :=
  match d with
  | some t => S.put t v
  | none => S
def evK (D : List (Nat × TD)) {τ : Type} (o : Oper) (q : Nat) (S : St) (k : Nat → St → Option τ) : Option τ :=
  match ev D q S o.op with
  | some e => gds e.cs (k (q + 1) (putD ⟨S.F, e.H⟩ o.dst e.v))
  | none => none
def isPan (t : Nat) : Option SV → Bool
  | some (.ov (.iface t' (.agg ⟨[]⟩))) => Nat.beq t t'
  | _ => false
def exec1 (E : Env) (h : Hnd) {τ : Type} (o : Oper) (q : Nat) (S : St) (k pn : Nat → St → Option τ) : Option τ :=
  match o.op with
  | .call ⟨.value f, args, _⟩ => match opS S.get f, opsS S.get args.toList with
    | some (.fn g fi cap), some l => h τ g (app fi.items (app l cap.items)) q S (fun v q' S' => k q' (putD S' o.dst v)) pn
    | _, _ => none
  | .panic x => bif isPan E.pt (opS S.get x) then pn q S else none
  | .pick (.tmp t) _ _ => match S.get t with
    | some v => ifv v (evK E.D o q (S.put t .tt) k) (evK E.D o q (S.put t .ff) k)
    | none => none
  | _ => evK E.D o q S k
def sxO (E : Env) (h : Hnd) (ops : Array Oper) {τ : Type} : List Oper → Nat → St → (k pn : Nat → St → Option τ) → Option τ
  | [], q, S, k, _ => k q S
  | o :: r, q, S, k, pn => match o.guard with
    | none => exec1 E h o q S (fun q S => sxO E h ops r q S k pn) pn
    | some (j, w) => match (ops[j]?).bind (·.dst) with
      | some t => match S.get t with
        | some v =>
          ifg w v (fun b => exec1 E h o q (S.put t (b2 b)) (fun q S => sxO E h ops r q S k pn) pn)
            (fun b => sxO E h ops r q (putD (match v with | .ud => S | _ => S.put t (b2 b)) o.dst .ud) k pn)
        | none => none
      | none => none

/-! ### Regions that draw their order -/
/-- the pieces that a value names -/
def svN : SV → List Nat
  | .sl c _ _ _ _ _ _ => [c]
  | .ptr c _ _ => [c]
  | .av c _ _ _ _ => [c]
  | .pr a b => app (svN a) (svN b)
  | .one a => svN a
  | .fn _ a b => app (svN a) (svN b)
  | .tp a => svN a
  | _ => []
def svL : List SV → List Nat
  | [] => []
  | v :: r => app (svN v) (svL r)
def inN (H : List (Nat × Nat × HC)) : List Nat → List Nat
  | [] => []
  | c :: r => app (match hget H c with | some (.bk _ v) => svN v | some (.rs l) => svL l | _ => []) (inN H r)
def clo (H : List (Nat × Nat × HC)) : Nat → List Nat → List Nat
  | 0, l => l
  | k + 1, l => match l with
    | [] => []
    | l => app l (clo H k (inN H l))
def opN (S : St) (x : Operand) : List Nat := match opS S.get x with | some v => svN v | none => []
def opNs (S : St) : List Operand → List Nat
  | [] => []
  | x :: r => app (opN S x) (opNs S r)
/-- the pieces that an operation may look at -/
def tchd (S : St) : Op → List Nat
  | .load _ x => opN S x
  | .store _ x _ => opN S x
  | .indexAddr _ x _ => opN S x
  | .slice _ x _ _ _ => opN S x
  | .convert _ _ x => opN S x
  | .buildSlice _ _ ps => opNs S (ps.toList.map (·.2))
  | .call ⟨.builtin _, args, _⟩ => opNs S args.toList
  | .call ⟨.value f, args, _⟩ => clo S.H 4 (app (opN S f) (opNs S args.toList))
  | _ => []
def hres (T : List Nat) : List (Nat × Nat × HC) → List (Nat × Nat × HC)
  | [] => []
  | (c, s, h) :: r => bif memN T c then (c, s, h) :: hres T r else hres T r
def hout (T : List Nat) : List (Nat × Nat × HC) → List (Nat × Nat × HC)
  | [] => []
  | (c, s, h) :: r => bif memN T c then hout T r else (c, s, h) :: hout T r
/-- the pieces that were made or written since q -/
def newW (q : Nat) (H0 : List (Nat × Nat × HC)) : List (Nat × Nat × HC) → List Nat
  | [] => []
  | (c, _, _) :: r => bif (match hst H0 c with | some s => Nat.ble q s | none => false) then c :: newW q H0 r else newW q H0 r
def goneW (H : List (Nat × Nat × HC)) : List Nat → List Nat
  | [] => []
  | c :: r => match hget H c with | some _ => goneW H r | none => c :: goneW H r
structure TE where
  i : Nat
  t : List Nat
  w : List Nat
  lo : Nat
  hi : Nat
def hitN : List Nat → List Nat → Bool
  | [], _ => false
  | a :: r, l => memN l a || hitN r l
def bitN (m i : Nat) : Bool := !Nat.beq (Nat.land m (Nat.pow 2 i)) 0
def okTR (m : Nat) (T W : List Nat) : List TE → Bool
  | [] => true
  | x :: r => (bitN m x.i || (!hitN x.t W && !hitN x.w T && !hitN x.w W)) && okTR m T W r
def lookM : List (Nat × Nat) → Nat → Nat
  | [], _ => 0
  | (i, m) :: r, j => bif Nat.beq i j then m else lookM r j
/-- the operations that an operation waits for, at once or by others -/
def mskE (MK : List (Nat × Nat)) : List Edge → Nat
  | [] => 0
  | e :: r => bif Region.binds .any e then Nat.lor (Nat.lor (Nat.pow 2 e.on) (lookM MK e.on)) (mskE MK r) else mskE MK r
/-- lists laid out before they are used -/
def nrm {α β : Type} : List α → (List α → β) → β
  | [], k => k []
  | x :: r, k => nrm r (fun r' => k (x :: r'))
/-- all names in a value -/
def nmV : SV → List Nat
  | .sl c _ v _ _ _ _ => [c, v]
  | .ptr c _ _ => [c]
  | .av c _ v _ _ => [c, v]
  | .pr a b => app (nmV a) (nmV b)
  | .one a => nmV a
  | .fn _ a b => app (nmV a) (nmV b)
  | .tp a => nmV a
  | _ => []
def nmL : List SV → List Nat
  | [] => []
  | v :: r => app (nmV v) (nmL r)
def nmH : HC → List Nat
  | .bk _ v => nmV v
  | .rs l => nmL l
  | _ => []
def nmWs (H : List (Nat × Nat × HC)) : List Nat → List Nat
  | [] => []
  | c :: r => app (match hget H c with | some h => c :: nmH h | none => []) (nmWs H r)
def nmD (F : Tr) : Option Nat → List Nat
  | some t => (match F.get t with | some v => nmV v | none => [])
  | none => []
/-- a name is not one of an operation that need not be done before -/
def nmIn (m n : Nat) : List TE → Bool
  | [] => true
  | x :: r => (Nat.blt n x.lo || Nat.ble x.hi n || bitN m x.i) && nmIn m n r
def nmAll (m : Nat) (TR : List TE) : List Nat → Bool
  | [] => true
  | n :: r => nmIn m n TR && nmAll m TR r
/-- the slots that an operation reads -/
def ol : Option Operand → List Operand
  | some x => [x]
  | none => []
def opR : Op → List Operand
  | .move x => [x] | .assign x => [x] | .box _ x => [x] | .load _ x => [x] | .nilCheck x => [x] | .unOp _ _ x => [x] | .convert _ _ x => [x] | .sliceToArrayPointer _ x => [x]
  | .makeInterface _ x => [x] | .fieldAddr _ x _ => [x] | .field _ x _ => [x] | .extract x _ => [x] | .panic x => [x]
  | .pick c a b => [c, a, b]
  | .build _ ps => ps.toList.map (·.2)
  | .buildSlice _ _ ps => ps.toList.map (·.2)
  | .store _ a v => [a, v] | .binOp _ _ a v _ => [a, v] | .makeSlice _ a v => [a, v] | .indexAddr _ a v => [a, v] | .index _ a v => [a, v]
  | .makeFunc _ a b => app a.toList b.toList
  | .slice _ x l h m => x :: app (ol l) (app (ol h) (ol m))
  | .call ⟨.value f, args, _⟩ => f :: args.toList
  | .call ⟨.builtin _, args, _⟩ => args.toList
  | _ => []
def opT : List Operand → List Nat
  | [] => []
  | .tmp t :: r => t :: opT r
  | _ :: r => opT r
def fresL : List Nat → Tr → Tr → Tr
  | [], _, G => G
  | t :: r, F, G => fresL r F (match F.get t with | some v => bif Nat.blt t 4000 then G.put FUEL t (some v) else G | none => G)
def putF (F : Tr) (d : Option Nat) (G : Tr) : Tr :=
  match d with
  | some t => F.put FUEL t (G.get t)
  | none => F
/-- the operations behind wait for one -/
def waitA (i : Nat) : List Oper → Nat → List (Nat × Nat) → Bool
  | [], _, _ => true
  | o :: r, j, MK => bitN (mskE MK o.after.toList) i && waitA i r (j + 1) ((j, mskE MK o.after.toList) :: MK)
/-- conditions are told before -/
def grdB : List Oper → Nat → Bool
  | [], _ => true
  | o :: r, j => (match o.guard with | some (g, _) => Nat.blt g j | none => true) && grdB r (j + 1)
def nilB : List Nat → Bool
  | [] => true
  | _ :: _ => false
def okW (m : Nat) : List TE → Bool
  | [] => true
  | x :: r => (bitN m x.i || nilB x.w) && okW m r
/-- an operation may panic: what was written before is waited for, what is behind waits -/
def okPn (ops : Array Oper) (i m : Nat) (MK : List (Nat × Nat)) (TR : List TE) (r : List Oper) : Bool :=
  okW m TR && (waitA i r (i + 1) ((i, m) :: MK) && (okReg ⟨ops.toList.take i⟩ && grdB (ops.toList.take (i + 1)) 0))
def sxD (E : Env) (h : Hnd) (ops : Array Oper) {τ : Type} : List Oper → Nat → List (Nat × Nat) → List TE → Nat → St → (k pn : Nat → St → Option τ) → Option τ
  | [], _, _, _, q, S, k, _ => k q S
  | o :: r, i, MK, TR, q, S, k, pn =>
    let m := mskE MK o.after.toList
    let go : Nat → St → Option τ := fun q S =>
      nrm (tchd S o.op) fun T =>
      exec1 E h o q ⟨fresL (opT (opR o.op)) S.F .e, hres T S.H⟩ (fun q' S' =>
        nrm (app (newW q S'.H S'.H) (goneW S'.H T)) fun W =>
        bif okTR m T W TR && nmAll m TR (app (nmD S'.F o.dst) (nmWs S'.H W)) then (match W with
          | [] => sxD E h ops r (i + 1) ((i, m) :: MK) (⟨i, T, W, q, q'⟩ :: TR) q' ⟨putF S.F o.dst S'.F, S.H⟩ k pn
          | _ :: _ => nrm (app S'.H (hout T S.H)) fun H => sxD E h ops r (i + 1) ((i, m) :: MK) (⟨i, T, W, q, q'⟩ :: TR) q' ⟨putF S.F o.dst S'.F, H⟩ k pn) else none)
        (fun _ _ => bif okPn ops i m MK TR r then exec1 E h o q ⟨fresL (opT (opR o.op)) S.F .e, S.H⟩ (fun _ _ => none) pn else none)
    match o.guard with
    | none => go q S
    | some (j, w) => match (ops[j]?).bind (·.dst) with
      | some t => match S.get t with
        | some v =>
          ifg w v (fun b => go q (S.put t (b2 b)))
            (fun b => sxD E h ops r (i + 1) ((i, m) :: MK) TR q (putD (match v with | .ud => S | _ => S.put t (b2 b)) o.dst .ud) k pn)
        | none => none
      | none => none
def okDr (ops : Array Oper) : Bool := okReg ops && ops.toList.zipIdx.all fun x => x.1.after.toList.all fun e => !Region.binds .any e || Nat.blt e.on x.2

/-! ### Code -/
structure KT (τ : Type) where
  nr : Nat → St → Option τ
  ex : List (Nat × (Nat → St → Option τ))
  rt : Nat → St → Option τ
  pn : Nat → St → Option τ
def exAt {τ : Type} : List (Nat × (Nat → St → Option τ)) → Nat → Nat → St → Option τ
  | [], _, _, _ => none
  | (i, k) :: r, j, q, S => bif Nat.beq i j then k q S else exAt r j q S
def oin {σ τ : Type} : Option τ → Option (σ ⊕ τ)
  | some x => some (.inr x)
  | none => none
def oil {σ τ : Type} : Option σ → Option (σ ⊕ τ)
  | some x => some (.inl x)
  | none => none
def exM {σ τ : Type} : List (Nat × (Nat → St → Option τ)) → List (Nat × (Nat → St → Option (σ ⊕ τ)))
  | [] => []
  | (i, k) :: r => (i, fun q S => oin (k q S)) :: exM r
/-- the continuations of a part that may be left -/
def KT.sum {σ τ : Type} (k : KT τ) (nr : St → Option σ) : KT (σ ⊕ τ) := ⟨fun _ S => oil (nr S), exM k.ex, fun q S => oin (k.rt q S), fun q S => oin (k.pn q S)⟩
def KT.fst {σ : Type} (nr : St → Option σ) : KT σ := ⟨fun _ S => nr S, [], fun _ _ => none, fun _ _ => none⟩
def unr {τ : Type} (f : Nat → St → (Nat → St → Option τ) → Option τ) : Nat → Nat → St → Option τ
  | 0, _, _ => none
  | n + 1, q, S => f q S (unr f n)
def setC (S : St) (c : Operand) (v : SV) : St :=
  match c with
  | .tmp t => S.put t v
  | _ => S
noncomputable def sx (E : Env) (h : Hnd) : Code → An → (τ : Type) → Nat → St → KT τ → Option τ
  | .skip, _, _, q, S, k => k.nr q S
  | .region _ ops dr, _, _, q, S, k => bif dr then sxD E h ops ops.toList 0 [] [] q S k.nr k.pn else sxO E h ops ops.toList q S k.nr k.pn
  | .seq a b, A, τ, q, S, k => match A with
    | .j true sp x y => bnd (sx E h a x (sp.T ⊕ τ) q S (k.sum (extJ q sp S))) (sel fun s => sx E h b y τ (nxJ q sp) (stJ q sp (wr a) S s) k)
    | .j false sp x y => bnd (sx E h a x sp.T q S (.fst (extJ q sp S))) (fun s => sx E h b y τ (nxJ q sp) (stJ q sp (wr a) S s) k)
    | .s x y => sx E h a x τ q S { k with nr := fun q S => sx E h b y τ q S k }
    | _ => sx E h a .d τ q S { k with nr := fun q S => sx E h b .d τ q S k }
  | .cond c a b, A, τ, q, S, k => match opS S.get c with
    | some v => match A with
      | .c x y => ifv v (sx E h a x τ q (setC S c .tt) k) (sx E h b y τ q (setC S c .ff) k)
      | _ => ifv v (sx E h a .d τ q (setC S c .tt) k) (sx E h b .d τ q (setC S c .ff) k)
    | none => none
  | .block i a, A, τ, q, S, k => match A with
    | .k x => sx E h a x τ q S { k with ex := (i, k.nr) :: k.ex }
    | _ => sx E h a .d τ q S { k with ex := (i, k.nr) :: k.ex }
  | .loop a, A, τ, q, S, k => match A with
    | .l sp x => match extJ q sp S S with
      | some s0 => run (fun s => sx E h a x (sp.T ⊕ τ) (nxJ q sp) (stJ q sp (wr a) S s) (k.sum (extJ q sp S))) s0
      | none => none
    | .u n x => unr (fun q S nr => sx E h a x τ q S { k with nr := nr }) n q S
    | _ => none
  | .exit i, _, _, q, S, k => exAt k.ex i q S
  | .ret, _, _, q, S, k => k.rt q S
  | _, _, _, _, _, _ => none

def argsT : Nat → List SV → Tr → Tr
  | _, [], F => F
  | i, v :: r, F => argsT (i + 1) r (F.put FUEL i (some v))
/-- what a variable holds -/
def ldS (D : List (Nat × TD)) (S : St) (t : Nat) : SV → Option SV
  | .ptr c lay pa => match hget S.H c with
    | some h => bif h.lay.q lay then (match h.at pa with
      | some w => bif fits D t w then some w else none
      | none => none) else none
    | none => none
  | _ => none
def resS (D : List (Nat × TD)) (S : St) : List ResultVar → Option (List SV)
  | [] => some []
  | .tmp t :: r => match S.get t, resS D S r with
    | some v, some l => some (v :: l)
    | _, _ => none
  | .cell t ty :: r => match S.get t with
    | some x => match ldS D S ty x, resS D S r with
      | some v, some l => some (v :: l)
      | _, _ => none
    | none => none
def allLt (n : Nat) : List Nat → Bool
  | [] => true
  | a :: r => Nat.blt a n && allLt n r
def lenL {α : Type} : List α → Nat
  | [] => 0
  | _ :: r => Nat.succ (lenL r)
/-- regions that draw their order can be walked in order -/
def okCode : Code → Bool
  | .region _ ops dr => !dr || okDr ops
  | .seq a b => okCode a && okCode b
  | .cond _ a b => okCode a && okCode b
  | .block _ a => okCode a
  | .loop a => okCode a
  | _ => true
/-- slots within bounds; no part of sx: asked of each function beside it -/
def okF (f : FI) : Bool := Nat.ble f.n 4000 && allLt f.n (wr f.c) && okCode f.c
def rwL : List VS → List SV → List Nat
  | a :: r, v :: w => app (rwN a v) (rwL r w)
  | _, _ => []
def roL : List VS → List SV → List Nat
  | a :: r, v :: w => app (roN a v) (roL r w)
  | _, _ => []
/-- shapes of what is handed over -/
def VS.pOk : VS → Bool
  | .v _ => true
  | .ro _ => true
  | .rq _ => true
  | .rp _ => true
  | .pr a b => a.pOk && b.pOk
  | .one a => a.pOk
  | _ => false
/-- shapes of what is handed back -/
def VS.rOk : VS → Bool
  | .v _ => true
  | .rw _ _ => true
  | .pr a b => a.rOk && b.rOk
  | .one a => a.rOk
  | _ => false
def allV (f : VS → Bool) : List VS → Bool
  | [] => true
  | a :: r => f a && allV f r
/-- the pieces that arguments name -/
def argN : List SV → List Nat
  | [] => []
  | .sl c _ _ _ _ _ _ :: r => c :: argN r
  | .ptr c _ _ :: r => c :: argN r
  | _ :: r => 99999 :: argN r
def nthN : List Nat → Nat → Nat
  | [], _ => 99999
  | a :: _, 0 => a
  | _ :: r, n + 1 => nthN r n
/-- names told from a function's beginning on -/
def shC (q : Nat × List Nat) (c : Nat) : Nat := bif Nat.blt c 100000 then c else bif Nat.blt c 200000 then q.1 + (c - 100000) else nthN q.2 (c - 200000)
def shV (q : Nat × List Nat) : VS → VS
  | .vw c tl => .vw (shC q c) tl
  | .vh c => .vh (shC q c)
  | .pr a b => .pr (shV q a) (shV q b)
  | .one a => .one (shV q a)
  | x => x
def shP (q : Nat × List Nat) : List (Nat × VS) → List (Nat × VS)
  | [] => []
  | (t, a) :: r => (t, shV q a) :: shP q r
def shQ (q : Nat × List Nat) : List (Nat × VS) → List (Nat × VS)
  | [] => []
  | (c, a) :: r => (shC q c, shV q a) :: shQ q r
def shL' (q : Nat × List Nat) : List Nat → List Nat
  | [] => []
  | c :: r => shC q c :: shL' q r
def shS (q : Nat × List Nat) (s : Spec) : Spec := ⟨shP q s.ss, shQ q s.hs, shL' q s.dl, shL' q s.se⟩
def shA (q : Nat × List Nat) : An → An
  | .d => .d
  | .s a b => .s (shA q a) (shA q b)
  | .j w sp a b => .j w (shS q sp) (shA q a) (shA q b)
  | .c a b => .c (shA q a) (shA q b)
  | .k a => .k (shA q a)
  | .l sp a => .l (shS q sp) (shA q a)
  | .u n a => .u n (shA q a)
def intV (k : IntKind) : SV → Bool
  | .N k' _ => kq k k'
  | .Z _ _ => kq k .i64
  | _ => false
def zrC (x : NT) : Option (List Cnd) := bif x.l then (bif Nat.beq x.x 0 then some [] else none) else some [cn (x.x = 0)]
def litN (v : Option SV) (k : IntKind) (n : Nat) : Bool := match v with | some (.N k' x) => kq k k' && x.l && Nat.beq x.x n | _ => false
/-- a whole number at a place of a variable -/
def plAt (S : St) (c : Nat) (lay : Lay) (pa : List PS) : Option SV :=
  match hget S.H c with
  | some (.bk _ v) => bif v.lay.q lay then v.get pa else none
  | _ => none
def spO (E : Env) (q : Nat) (S : St) (c : Nat) (lay : Lay) (pa : List PS) (T1 T2 : Nat) (pd pm : List PS) (a b : Nat) : Option (List (Nat × Nat × HC)) :=
  match evStore E.D q S T1 (.ptr c lay (app pa pd)) (.N .u32 ⟨true, a⟩) with
  | some e => match evStore E.D (q + 1) ⟨S.F, e.H⟩ T2 (.ptr c lay (app pa pm)) (.N .i32 ⟨true, b⟩) with
    | some e' => some e'.H
    | none => none
  | none => none
def noIx : List PS → Bool
  | [] => true
  | .ix _ :: _ => false
  | _ :: r => noIx r
def spH (E : Env) (rec : Hnd) : Sp → Hnd
  | .ld kd, _, _, args, q, S, k, _ => match args with
    | [.ptr c lay pa] => match plAt S c lay pa with
      | some u => bif intV kd u then k u q S else none
      | none => none
    | _ => none
  | .ad T, _, _, args, q, S, k, _ => match args with
    | [.ptr c lay pa, d] => match plAt S c lay pa with
      | some u => bif intV .i64 u && intV .i64 d then (match evBin E.D .add T u d with
        | some (cs, s) => match evStore E.D q S T (.ptr c lay pa) s with
          | some e => bif intV .i64 s then gds cs (k s (q + 1) ⟨S.F, e.H⟩) else none
          | none => none
        | none => none) else none
      | none => none
    | _ => none
  | .os T1 T2 pd pm, τ, _, args, q, S, k, _ => match args with
    | [.ptr c lay pa, .fn f fi cap] => match plAt S c lay pa with
      | some o => match o.get pd, o.get pm with
        | some (.N kd x), some (.N km y) => bif kq .u32 kd && (kq .i32 km && (noIx pd && (noIx pm && (Nat.beq (poff o.lay pd) 0 && (Nat.beq (poff o.lay pm) 1 && (look0 E.fi f).isSome))))) then (match zrC x, zrC y, spO E q S c lay pa T1 T2 pd pm 0 1 with
          | some c1, some c2, some H => gds (app c1 c2) (rec τ f (app fi.items cap.items) (q + 2) ⟨S.F, H⟩ (fun _ q' S' => match plAt S' c lay pa with
            | some o' => bif litN (o'.get pd) .u32 0 && (litN (o'.get pm) .i32 1 && o'.lay.q o.lay) then (match spO E q' S' c lay pa T1 T2 pd pm 1 0 with
              | some H' => k (one []) (q' + 2) ⟨S'.F, H'⟩
              | none => none) else none
            | none => none) (fun _ _ => none))
          | _, _, _ => none) else none
        | _, _ => none
      | none => none
    | _ => none
noncomputable def inlH (E : Env) : Nat → Hnd
  | 0, _, g, args, q, S, k, _ => match look0 E.ct g with
    | some c => ctC c args q S k
    | none => none
  | n + 1, τ, g, args, q, S, k, pn => match look0 E.ct g with
    | some c => ctC c args q S k
    | none => match look0 E.fi g with
      | some f =>
        let fin := fun (q : Nat) (S' : St) => match resS E.D S' f.rs with
          | some l => k (one l) q ⟨S.F, S'.H⟩
          | none => none
        bif Nat.ble (lenL args) f.n then sx E (inlH E n) f.c (shA (q, argN args) f.an) τ q ⟨argsT 0 args .e, S.H⟩ ⟨fin, [], fin, fun q S' => pn q ⟨S.F, S'.H⟩⟩ else none
      | none => bif Nat.beq E.ca g && Nat.blt 0 g then (match args with
          | [.fn f fi cap] => match look0 E.fi f with
            | some _ => inlH E n τ f (app fi.items cap.items) q S (fun _ q' S' => k .tt q' S') (fun q' S' => k .ff q' S')
            | none => none
          | _ => none) else (match look0 E.sp g with
          | some s => spH E (inlH E n) s τ g args q S k pn
          | none => none)
noncomputable def sxF (E : Env) (f : FI) (ps rs : List VS) (x : Tup (lvs ps)) : Option (Tup (lvs rs)) :=
  let e := embA 0 ps x [] 0
  let fin := fun (q : Nat) (S' : St) => match resS E.D S' f.rs with
    | some l => bif nodup (rwL rs l) then extA S'.H rs l else none
    | none => none
  sx E (inlH E 6) f.c f.an _ (nmA ps + 1) ⟨argsT 0 e.vs .e, e.H⟩ ⟨fin, [], fin, fun _ _ => none⟩
end Go.Proofs.Ytnagkhofkjjajaa
