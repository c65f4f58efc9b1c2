/- The symbolic walk is sound: operations on numbers. Lemmas, no statement of the claim. -/
import Derived.Test.YtnagkhofkjjajaaYc
import Derived.Test.YtnagkhofkjjajaaUc
/- What the symbolic walk's states say of the program's: values, pieces of memory. Lemmas, no statement of the claim. -/
set_option linter.unusedVariables false
set_option linter.unusedSimpArgs false
namespace Go.Proofs.Ytnagkhofkjjajaa
open Go.RowKit

/-! ### What a name stands for -/
structure NmS where
  A : Option Addr
  c : Nat
  n : Nat
  D : List Nat
  lay : Lay
abbrev NV := Nat → NmS
def I63 (x : Int) : Prop := -9223372036854775808 ≤ x ∧ x ≤ 9223372036854775807

/-! ### Values -/
def cv3 (ν : NV) : SV → Value × List Value × List Value
  | .N k x => (.int k (x.x : Int), [.int k (x.x : Int)], [])
  | .Z _ x => (.int .i64 x, [.int .i64 x], [])
  | .B x => (.bool x, [.bool x], [])
  | .tt => (.bool true, [.bool true], [])
  | .ff => (.bool false, [.bool false], [])
  | .P neg q d => (.bool (bif neg then !(@decide q d) else @decide q d), [.bool (bif neg then !(@decide q d) else @decide q d)], [])
  | .S xs => (.string (str xs), [.string (str xs)], [])
  | .an k _ xs => (.agg (vs k xs).toArray, vs k xs, [])
  | .az _ xs => (.agg (vi xs).toArray, vi xs, [])
  | .pr a b => (.agg ((cv3 ν a).2.1 ++ (cv3 ν b).2.1).toArray, (cv3 ν a).2.1 ++ (cv3 ν b).2.1, (cv3 ν a).1 :: (cv3 ν b).2.2)
  | .one a => (.agg (cv3 ν a).2.1.toArray, (cv3 ν a).2.1, [])
  | .U => (.agg #[], [], [])
  | .sl _ _ v _ n _ _ => (.slice (ν v).A n.x (ν v).c, [.slice (ν v).A n.x (ν v).c], [])
  | .nl => (.slice none 0 0, [.slice none 0 0], [])
  | .ptr c lay pa => (.pointer (some ⟨ablk (ν c).A, aoff (ν c).A + poff lay pa, none⟩), [.pointer (some ⟨ablk (ν c).A, aoff (ν c).A + poff lay pa, none⟩)], [])
  | .av _ _ v _ _ => (.pointer (ν v).A, [.pointer (ν v).A], [])
  | .np => (.pointer none, [.pointer none], [])
  | .fn f fi cap => (.func (.func f) (cv3 ν fi).2.2.toArray (cv3 ν cap).2.2.toArray, [.func (.func f) (cv3 ν fi).2.2.toArray (cv3 ν cap).2.2.toArray], [])
  | .tp l => (.tuple (cv3 ν l).2.2.toArray, [.tuple (cv3 ν l).2.2.toArray], [])
  | .ov v => (v, [v], [])
  | .ud => (undef, [undef], [])
def cv (ν : NV) (v : SV) : Value := (cv3 ν v).1
def cls (ν : NV) (v : SV) : List Value := (cv3 ν v).2.1
def itv (ν : NV) (v : SV) : List Value := (cv3 ν v).2.2

/-- bounds of a way's places -/
def pokP (n : Nat) : List PS → Lay → Prop
  | [], _ => True
  | .L :: r, l => match y2 l with | some w => pokP n r w.1 | none => False
  | .R :: r, l => match y2 l with | some w => pokP n r w.2 | none => False
  | .O :: r, l => match y1 l with | some w => pokP n r w | none => False
  | .ix i :: r, l => match l with
    | .ar m => i.x < m ∧ r = []
    | .rw e => i.x < n ∧ pokP n r e
    | _ => False
abbrev pok (n : Nat) (l : Lay) (pa : List PS) : Prop := pokP n pa l
/-- a row at a place: address, length, room, cells an element -/
def bas (ν : NV) (c : Nat) (pa : List PS) : Option (Option Addr × Nat × Nat × Nat) :=
  match (ν c).lay, pa with
  | .rw e, [] => some ((ν c).A, (ν c).n, (ν c).c, e.sz)
  | l, pa => match l.sub pa with
    | some (.ar m) => some (some ⟨ablk (ν c).A, aoff (ν c).A + poff l pa, none⟩, m, m, 1)
    | _ => none
def flat (A : Option Addr) : Prop := A = some ⟨ablk A, aoff A, none⟩
structure SlOk (ν : NV) (c : Nat) (pa : List PS) (v : Nat) (lo n : Nat) (tl mx : Bool) : Prop where
  len : (ν v).n = n
  cap : n ≤ (ν v).c
  max : (ν v).c ≤ maxLen
  full : mx = true → (ν v).c = n
  pok : pok (ν c).n (ν c).lay pa
  adr : 0 < (ν v).c → flat (ν v).A
  bas : ∃ A L K s, bas ν c pa = some (A, L, K, s) ∧ oblk (ν v).A = oblk A ∧ (lo = 0 → (ν v).A = A) ∧ (0 < (ν v).c → (ν v).A = A.map (·.add (lo * s))) ∧ (mx = false → lo + (ν v).c = K) ∧ lo + n ≤ L ∧ (tl = true → lo + n = L)
def SV.ok (ν : NV) (q : Nat) : SV → Prop
  | .N k x => x.x < lim k
  | .Z _ x => I63 x
  | .S xs => LB 256 xs
  | .an k n xs => xs.length = n ∧ LB (lim k) xs
  | .az n xs => xs.length = n ∧ ∀ x, x ∈ xs → I63 x
  | .pr a b => a.ok ν q ∧ b.ok ν q
  | .one a => a.ok ν q
  | .sl c pa v lo n tl mx => c < q ∧ v < q ∧ SlOk ν c pa v lo.x n.x tl mx
  | .ptr c lay pa => c < q ∧ (ν c).lay = lay ∧ Go.Proofs.Ytnagkhofkjjajaa.pok (ν c).n lay pa
  | .av c pa v lo m => c < q ∧ v < q ∧ ∃ n tl mx, SlOk ν c pa v lo.x n tl mx ∧ m ≤ n ∧ 0 < m
  | .fn _ a b => a.ok ν q ∧ b.ok ν q
  | .tp a => a.ok ν q
  | .ov v => v.oneCell' = true
  | _ => True
/-- valuations that tell the same of the names below q -/
def Agr (q : Nat) (ν ν' : NV) : Prop := ∀ c, c < q → ν' c = ν c
theorem Agr.refl (q : Nat) (ν : NV) : Agr q ν ν := fun _ _ => rfl
theorem Agr.trans {q q' : Nat} {a b c : NV} (h : Agr q a b) (g : Agr q' b c) (hq : q ≤ q') : Agr q a c := fun x hx => (g x (Nat.lt_of_lt_of_le hx hq)).trans (h x hx)
theorem Agr.mono {q q' : Nat} {a b : NV} (h : Agr q' a b) (hq : q ≤ q') : Agr q a b := fun x hx => h x (Nat.lt_of_lt_of_le hx hq)
theorem Agr.symm {q : Nat} {a b : NV} (h : Agr q a b) : Agr q b a := fun x hx => (h x hx).symm
theorem bas_agr {q : Nat} {ν ν' : NV} (h : Agr q ν ν') {c : Nat} (hc : c < q) (pa : List PS) : bas ν' c pa = bas ν c pa := by unfold bas; rw [h c hc]
theorem SlOk.agr {q : Nat} {ν ν' : NV} (h : Agr q ν ν') {c : Nat} {pa : List PS} {v lo n : Nat} {tl mx : Bool} (hc : c < q) (hv : v < q) (k : SlOk ν c pa v lo n tl mx) : SlOk ν' c pa v lo n tl mx := by
  obtain ⟨h1, h2, h3, h4, h5, h12, A, L, K, s, h6, h7, h8, h9, h10, h11⟩ := k
  have hv' := h v hv
  exact ⟨by rw [hv']; exact h1, by rw [hv']; exact h2, by rw [hv']; exact h3, by rw [hv']; exact h4, by rw [h c hc]; exact h5, by rw [hv']; exact h12, A, L, K, s, by rw [bas_agr h hc]; exact h6, by rw [hv']; exact h7, by rw [hv']; exact h8, by rw [hv']; exact h9, by rw [hv']; exact h10, h11⟩
theorem ok_agr {q : Nat} {ν ν' : NV} (h : Agr q ν ν') : ∀ (v : SV), v.ok ν q → v.ok ν' q ∧ cv3 ν' v = cv3 ν v
  | .N _ _, k => ⟨k, rfl⟩
  | .Z _ _, k => ⟨k, rfl⟩
  | .B _, k => ⟨k, rfl⟩
  | .tt, k => ⟨k, rfl⟩
  | .ff, k => ⟨k, rfl⟩
  | .P _ _ _, k => ⟨k, rfl⟩
  | .S _, k => ⟨k, rfl⟩
  | .an _ _ _, k => ⟨k, rfl⟩
  | .az _ _, k => ⟨k, rfl⟩
  | .pr a b, k => by
    have ha := ok_agr h a k.1
    have hb := ok_agr h b k.2
    exact ⟨⟨ha.1, hb.1⟩, by simp only [cv3, ha.2, hb.2]⟩
  | .one a, k => by
    have ha := ok_agr h a k
    exact ⟨ha.1, by simp only [cv3, ha.2]⟩
  | .U, k => ⟨k, rfl⟩
  | .sl c pa v lo n tl mx, k => ⟨⟨k.1, k.2.1, k.2.2.agr h k.1 k.2.1⟩, by simp only [cv3, h v k.2.1]⟩
  | .nl, k => ⟨k, rfl⟩
  | .ptr c lay pa, k => ⟨⟨k.1, by rw [h c k.1]; exact k.2.1, by rw [h c k.1]; exact k.2.2⟩, by simp only [cv3, h c k.1]⟩
  | .av c pa v lo m, k => by
    obtain ⟨k1, k2, n, tl, mx, k3, k4⟩ := k
    exact ⟨⟨k1, k2, n, tl, mx, k3.agr h k1 k2, k4⟩, by simp only [cv3, h v k2]⟩
  | .np, k => ⟨k, rfl⟩
  | .fn f a b, k => by
    have ha := ok_agr h a k.1
    have hb := ok_agr h b k.2
    exact ⟨⟨ha.1, hb.1⟩, by simp only [cv3, ha.2, hb.2]⟩
  | .tp a, k => by
    have ha := ok_agr h a k
    exact ⟨ha.1, by simp only [cv3, ha.2]⟩
  | .ov _, k => ⟨k, rfl⟩
  | .ud, k => ⟨k, rfl⟩
theorem ok_mono {q q' : Nat} (hq : q ≤ q') {ν : NV} : ∀ (v : SV), v.ok ν q → v.ok ν q'
  | .N _ _, k => k
  | .Z _ _, k => k
  | .B _, k => k
  | .tt, k => k
  | .ff, k => k
  | .P _ _ _, k => k
  | .S _, k => k
  | .an _ _ _, k => k
  | .az _ _, k => k
  | .pr a b, k => ⟨ok_mono hq a k.1, ok_mono hq b k.2⟩
  | .one a, k => ok_mono hq a k
  | .U, k => k
  | .sl _ _ _ _ _ _ _, k => ⟨Nat.lt_of_lt_of_le k.1 hq, Nat.lt_of_lt_of_le k.2.1 hq, k.2.2⟩
  | .nl, k => k
  | .ptr _ _ _, k => ⟨Nat.lt_of_lt_of_le k.1 hq, k.2⟩
  | .av _ _ _ _ _, k => ⟨Nat.lt_of_lt_of_le k.1 hq, Nat.lt_of_lt_of_le k.2.1 hq, k.2.2⟩
  | .np, k => k
  | .fn _ a b, k => ⟨ok_mono hq a k.1, ok_mono hq b k.2⟩
  | .tp a, k => ok_mono hq a k
  | .ov _, k => k
  | .ud, k => k
theorem cls_len (ν : NV) {q : Nat} : ∀ (v : SV), v.ok ν q → (cls ν v).length = v.lay.sz
  | .N _ _, _ => rfl
  | .Z _ _, _ => rfl
  | .B _, _ => rfl
  | .tt, _ => rfl
  | .ff, _ => rfl
  | .P _ _ _, _ => rfl
  | .S _, _ => rfl
  | .an _ _ xs, k => by show (vs _ xs).length = _; rw [vs_length]; exact k.1
  | .az _ xs, k => by show (vi xs).length = _; rw [vi_length]; exact k.1
  | .pr a b, k => by
    show (cls ν a ++ cls ν b).length = _
    rw [List.length_append, cls_len ν a k.1, cls_len ν b k.2]; rfl
  | .one a, k => cls_len ν a k
  | .U, _ => rfl
  | .sl _ _ _ _ _ _ _, _ => rfl
  | .nl, _ => rfl
  | .ptr _ _ _, _ => rfl
  | .av _ _ _ _ _, _ => rfl
  | .np, _ => rfl
  | .fn _ _ _, _ => rfl
  | .tp _, _ => rfl
  | .ov _, _ => rfl
  | .ud, _ => rfl
/-- a value's cells -/
theorem cv_cells (ν : NV) {q : Nat} (v : SV) (h : v.ok ν q) (hs : v.st = true) : (cv ν v).cells = (cls ν v).toArray := by
  cases v <;> first | rfl | (simp [SV.st] at hs; done) | (rename_i v; exact cells_one h)
theorem cls_one (ν : NV) {q : Nat} : ∀ (v : SV), v.ok ν q → v.st = true → ∀ u, u ∈ cls ν v → u.oneCell' = true
  | .an _ _ _, _, _, u, h => vs_one u h
  | .az _ _, _, _, u, h => vi_one u h
  | .pr a b, k, hs, u, h => by
    simp only [SV.st, Bool.and_eq_true] at hs
    rcases List.mem_append.1 (show u ∈ cls ν a ++ cls ν b from h) with h | h
    · exact cls_one ν a k.1 hs.1 u h
    · exact cls_one ν b k.2 hs.2 u h
  | .one a, k, hs, u, h => cls_one ν a k hs u h
  | .U, _, _, u, h => by cases h
  | .ov v, k, _, u, h => by
    have h := List.mem_singleton.1 (show u ∈ [v] from h)
    subst h; exact k
  | .tp _, _, hs, _, _ => by cases hs
  | .N _ _, _, _, u, h => by rw [List.mem_singleton.1 h]; rfl
  | .Z _ _, _, _, u, h => by rw [List.mem_singleton.1 h]; rfl
  | .B _, _, _, u, h => by rw [List.mem_singleton.1 h]; rfl
  | .tt, _, _, u, h => by rw [List.mem_singleton.1 h]; rfl
  | .ff, _, _, u, h => by rw [List.mem_singleton.1 h]; rfl
  | .P _ _ _, _, _, u, h => by rw [List.mem_singleton.1 h]; rfl
  | .S _, _, _, u, h => by rw [List.mem_singleton.1 h]; rfl
  | .sl _ _ _ _ _ _ _, _, _, u, h => by rw [List.mem_singleton.1 h]; rfl
  | .nl, _, _, u, h => by rw [List.mem_singleton.1 h]; rfl
  | .ptr _ _ _, _, _, u, h => by rw [List.mem_singleton.1 h]; rfl
  | .av _ _ _ _ _, _, _, u, h => by rw [List.mem_singleton.1 h]; rfl
  | .np, _, _, u, h => by rw [List.mem_singleton.1 h]; rfl
  | .fn _ _ _, _, _, u, h => by rw [List.mem_singleton.1 h]; rfl
  | .ud, _, hs, _, _ => by cases hs

/-! ### Typed data -/
def okS : (a : Sh) → a.T → Prop
  | .N k, x => LT.lt (α := Nat) x (lim k)
  | .Z, x => I63 x
  | .B, _ => True
  | .S, x => LB 256 x
  | .U, _ => True
  | .one a, x => okS a x
  | .pr a b, x => okS a (Prod.fst (α := a.T) (β := b.T) x) ∧ okS b (Prod.snd (α := a.T) (β := b.T) x)
  | .an k n, x => List.length (α := Nat) x = n ∧ LB (lim k) x
  | .az n, x => List.length (α := Int) x = n ∧ ∀ y, List.Mem (α := Int) y x → I63 y
def clS : (a : Sh) → a.T → List Value
  | .N k, x => [(fun y : Nat => Value.int k (y : Int)) x]
  | .Z, x => [.int .i64 x]
  | .B, x => [.bool x]
  | .S, x => [.string (str x)]
  | .U, _ => []
  | .one a, x => clS a x
  | .pr a b, x => clS a (Prod.fst (α := a.T) (β := b.T) x) ++ clS b (Prod.snd (α := a.T) (β := b.T) x)
  | .an k _, x => vs k x
  | .az _, x => vi x
theorem emb_lay : ∀ (a : Sh) (x : a.T), (emb a x).lay = a.lay
  | .N _, _ => rfl
  | .Z, _ => rfl
  | .B, _ => rfl
  | .S, _ => rfl
  | .U, _ => rfl
  | .one a, x => by show Lay.one _ = Lay.one _; rw [emb_lay a x]
  | .pr a b, x => by show Lay.pr _ _ = Lay.pr _ _; rw [emb_lay a, emb_lay b]
  | .an _ _, _ => rfl
  | .az _, _ => rfl
theorem emb_st : ∀ (a : Sh) (x : a.T), (emb a x).st = true
  | .N _, _ => rfl
  | .Z, _ => rfl
  | .B, _ => rfl
  | .S, _ => rfl
  | .U, _ => rfl
  | .one a, x => emb_st a x
  | .pr a b, x => by show (_ && _) = true; rw [emb_st a, emb_st b]; rfl
  | .an _ _, _ => rfl
  | .az _, _ => rfl
theorem emb_cls (ν : NV) : ∀ (a : Sh) (x : a.T), cls ν (emb a x) = clS a x
  | .N _, _ => rfl
  | .Z, _ => rfl
  | .B, _ => rfl
  | .S, _ => rfl
  | .U, _ => rfl
  | .one a, x => emb_cls ν a x
  | .pr a b, x => by show cls ν _ ++ cls ν _ = _ ++ _; rw [emb_cls ν a, emb_cls ν b]
  | .an _ _, _ => rfl
  | .az _, _ => rfl
theorem emb_ok (ν : NV) (q : Nat) : ∀ (a : Sh) (x : a.T), (emb a x).ok ν q ↔ okS a x
  | .N _, _ => Iff.rfl
  | .Z, _ => Iff.rfl
  | .B, _ => Iff.rfl
  | .S, _ => Iff.rfl
  | .U, _ => Iff.rfl
  | .one a, x => emb_ok ν q a x
  | .pr a b, x => and_congr (emb_ok ν q a _) (emb_ok ν q b _)
  | .an _ _, _ => Iff.rfl
  | .az _, _ => Iff.rfl
theorem kq_eq {a b : IntKind} (h : kq a b = true) : a = b := by cases a <;> cases b <;> first | rfl | (cases h)
theorem cv_one (ν : NV) {v : SV} (h : v.lay.agg = false) (hs : v.st = true) : cls ν v = [cv ν v] := by
  cases v <;> first | rfl | (cases h) | (cases hs)
theorem cv_agg (ν : NV) {v : SV} (h : v.lay.agg = true) : cv ν v = .agg (cls ν v).toArray := by
  cases v <;> first | rfl | (cases h)
/-- data taken out of a value -/
theorem ext_ok (ν : NV) {q : Nat} : ∀ (a : Sh) (v : SV) (x : a.T), ext a v = some x → v.ok ν q → okS a x ∧ cls ν v = clS a x ∧ v.lay = a.lay ∧ v.st = true := by
  intro a
  induction a with
  | N k =>
    intro v x h hv
    replace h : xN k v = some x := h
    cases v <;> simp only [xN, reduceCtorEq] at h
    rename_i k' y
    cases hk : kq k k' with
    | false => rw [hk] at h; cases h
    | true =>
      rw [hk] at h
      have := kq_eq hk
      subst this
      cases h
      exact ⟨hv, rfl, rfl, rfl⟩
  | Z =>
    intro v x h hv
    replace h : xZ v = some x := h
    cases v <;> (try (simp only [xZ, reduceCtorEq] at h; done))
    · rename_i k y
      cases k <;> simp only [xZ, reduceCtorEq] at h
      cases h
      refine ⟨?_, rfl, rfl, rfl⟩
      have : y.x < 9223372036854775808 := hv
      show I63 ((y.x : Nat) : Int)
      unfold I63
      omega
    · simp only [xZ] at h
      cases h
      exact ⟨hv, rfl, rfl, rfl⟩
  | B =>
    intro v x h hv
    replace h : xB v = some x := h
    cases v <;> simp only [xB, reduceCtorEq] at h <;> cases h <;> exact ⟨trivial, rfl, rfl, rfl⟩
  | S =>
    intro v x h hv
    replace h : xS v = some x := h
    cases v <;> simp only [xS, reduceCtorEq] at h <;> cases h <;> exact ⟨hv, rfl, rfl, rfl⟩
  | U =>
    intro v x h hv
    replace h : xU v = some x := h
    cases v <;> simp only [xU, reduceCtorEq] at h <;> cases h <;> exact ⟨trivial, rfl, rfl, rfl⟩
  | one a ih =>
    intro v x h hv
    cases v <;> simp only [ext, x1, reduceCtorEq] at h
    obtain ⟨h1, h2, h3, h4⟩ := ih _ _ h hv
    exact ⟨h1, h2, by show Lay.one _ = Lay.one _; rw [h3], h4⟩
  | pr a b iha ihb =>
    intro v x h hv
    cases v <;> simp only [ext, x2, reduceCtorEq] at h
    rename_i u w
    cases h1 : ext a u with
    | none => rw [h1] at h; cases h
    | some p =>
      cases h2 : ext b w with
      | none => rw [h1, h2] at h; cases h
      | some r =>
        rw [h1, h2] at h
        cases h
        obtain ⟨a1, a2, a3, a4⟩ := iha _ _ h1 hv.1
        obtain ⟨b1, b2, b3, b4⟩ := ihb _ _ h2 hv.2
        exact ⟨⟨a1, b1⟩, by show cls ν u ++ cls ν w = _; rw [a2, b2]; rfl, by show Lay.pr _ _ = Lay.pr _ _; rw [a3, b3], by show (_ && _) = true; rw [a4, b4]; rfl⟩
  | an k n =>
    intro v x h hv
    replace h : xan k n v = some x := h
    cases v <;> simp only [xan, reduceCtorEq] at h
    rename_i k' n' xs
    cases hk : kq k k' && Nat.beq n n' with
    | false => rw [hk] at h; cases h
    | true =>
      rw [hk] at h
      simp only [Bool.and_eq_true] at hk
      have h1 := kq_eq hk.1
      have h2 := Nat.eq_of_beq_eq_true hk.2
      subst h1 h2
      cases h
      exact ⟨hv, rfl, rfl, rfl⟩
  | az n =>
    intro v x h hv
    replace h : xaz n v = some x := h
    cases v <;> simp only [xaz, reduceCtorEq] at h
    rename_i n' xs
    cases hk : Nat.beq n n' with
    | false => rw [hk] at h; cases h
    | true =>
      rw [hk] at h
      have h2 := Nat.eq_of_beq_eq_true hk
      subst h2
      cases h
      exact ⟨hv, rfl, rfl, rfl⟩

/-! ### Parts -/
theorem x2_eq {v : SV} {w : SV × SV} (h : x2 v = some w) : v = .pr w.1 w.2 := by
  cases v <;> simp only [x2, reduceCtorEq, Option.some.injEq] at h
  subst h; rfl
theorem x1_eq {v w : SV} (h : x1 v = some w) : v = .one w := by
  cases v <;> simp only [x1, reduceCtorEq, Option.some.injEq] at h
  subst h; rfl
theorem vs_split (k : IntKind) (xs : List Nat) {i : Nat} (h : i < xs.length) : vs k xs = (vs k xs).take i ++ [.int k ((xs.getD i 0 : Nat) : Int)] ++ (vs k xs).drop (i + 1) := by
  have hl : i < (vs k xs).length := by rw [vs_length]; exact h
  have h1 := vs_get k xs h
  rw [List.getElem?_eq_getElem hl] at h1
  rw [← Option.some.inj h1, List.append_assoc, List.singleton_append, List.getElem_cons_drop, List.take_append_drop]
theorem vi_split (xs : List Int) {i : Nat} (h : i < xs.length) : vi xs = (vi xs).take i ++ [.int .i64 (xs.getD i 0)] ++ (vi xs).drop (i + 1) := by
  have hl : i < (vi xs).length := by rw [vi_length]; exact h
  have h1 := vi_get xs h
  rw [List.getElem?_eq_getElem hl] at h1
  rw [← Option.some.inj h1, List.append_assoc, List.singleton_append, List.getElem_cons_drop, List.take_append_drop]
theorem set_split {l : List Value} {i : Nat} (h : i < l.length) (v : Value) : l.set i v = l.take i ++ [v] ++ l.drop (i + 1) := by
  rw [List.set_eq_take_append_cons_drop, if_pos h, List.append_assoc, List.singleton_append]
theorem mem_getD {α : Type} {xs : List α} {i : Nat} (h : i < xs.length) (d : α) : xs.getD i d ∈ xs := by
  rw [List.getD_eq_getElem?_getD, List.getElem?_eq_getElem h]
  exact List.getElem_mem h
/-- a part of a value, and the value with another part -/
theorem part_ok (ν : NV) (q n : Nat) : ∀ (pa : List PS) (v o : SV), v.get pa = some o → v.ok ν q → pok n v.lay pa → ∃ p r, cls ν v = p ++ cls ν o ++ r ∧ p.length = poff v.lay pa ∧ o.ok ν q ∧ (v.st = true → o.st = true) ∧ v.lay.sub pa = some o.lay ∧
    (∀ w u, v.set pa w = some u → w.ok ν q → o.lay = w.lay → u.ok ν q ∧ u.lay = v.lay ∧ cls ν u = p ++ cls ν w ++ r ∧ (v.st = true → w.st = true → u.st = true)) := by
  intro pa
  induction pa with
  | nil =>
    intro v o h hv _
    cases h
    refine ⟨[], [], by simp, rfl, hv, id, rfl, fun w u hu hw hl => ?_⟩
    cases hu
    exact ⟨hw, hl.symm, by simp, fun _ h => h⟩
  | cons s pa ih =>
    intro v o h hv hp
    cases s with
    | L =>
      simp only [SV.get, getP] at h
      cases hx : x2 v with
      | none => rw [hx] at h; cases h
      | some w =>
        rw [hx] at h
        have := x2_eq hx
        subst this
        obtain ⟨p, r, h1, h2, h3, h4, h5, h6⟩ := ih _ _ h hv.1 hp
        refine ⟨p, r ++ cls ν w.2, ?_, h2, h3, ?_, h5, fun w' u hu hw hl => ?_⟩
        · show cls ν w.1 ++ cls ν w.2 = _
          rw [h1]; simp
        · intro hs
          simp only [SV.st, Bool.and_eq_true] at hs
          exact h4 hs.1
        · simp only [SV.set, setP, x2] at hu
          cases hs : setP pa w.1 w' with
          | none => rw [hs] at hu; cases hu
          | some a =>
            rw [hs] at hu
            cases hu
            obtain ⟨g1, g2, g3, g4⟩ := h6 _ _ hs hw hl
            refine ⟨⟨g1, hv.2⟩, by show Lay.pr _ _ = Lay.pr _ _; rw [g2], ?_, ?_⟩
            · show cls ν a ++ cls ν w.2 = _
              rw [g3]; simp
            · intro hs' hw'
              simp only [SV.st, Bool.and_eq_true] at hs' ⊢
              exact ⟨g4 hs'.1 hw', hs'.2⟩
    | R =>
      simp only [SV.get, getP] at h
      cases hx : x2 v with
      | none => rw [hx] at h; cases h
      | some w =>
        rw [hx] at h
        have := x2_eq hx
        subst this
        obtain ⟨p, r, h1, h2, h3, h4, h5, h6⟩ := ih _ _ h hv.2 hp
        have hl1 := cls_len ν w.1 hv.1
        refine ⟨cls ν w.1 ++ p, r, ?_, ?_, h3, ?_, h5, fun w' u hu hw hl => ?_⟩
        · show cls ν w.1 ++ cls ν w.2 = _
          rw [h1]; simp
        · rw [List.length_append, hl1, h2]; rfl
        · intro hs
          simp only [SV.st, Bool.and_eq_true] at hs
          exact h4 hs.2
        · simp only [SV.set, setP, x2] at hu
          cases hs : setP pa w.2 w' with
          | none => rw [hs] at hu; cases hu
          | some a =>
            rw [hs] at hu
            cases hu
            obtain ⟨g1, g2, g3, g4⟩ := h6 _ _ hs hw hl
            refine ⟨⟨hv.1, g1⟩, by show Lay.pr _ _ = Lay.pr _ _; rw [g2], ?_, ?_⟩
            · show cls ν w.1 ++ cls ν a = _
              rw [g3]; simp
            · intro hs' hw'
              simp only [SV.st, Bool.and_eq_true] at hs' ⊢
              exact ⟨hs'.1, g4 hs'.2 hw'⟩
    | O =>
      simp only [SV.get, getP] at h
      cases hx : x1 v with
      | none => rw [hx] at h; cases h
      | some w =>
        rw [hx] at h
        have := x1_eq hx
        subst this
        obtain ⟨p, r, h1, h2, h3, h4, h5, h6⟩ := ih _ _ h hv hp
        refine ⟨p, r, h1, h2, h3, h4, h5, fun w' u hu hw hl => ?_⟩
        simp only [SV.set, setP, x1] at hu
        cases hs : setP pa w w' with
        | none => rw [hs] at hu; cases hu
        | some a =>
          rw [hs] at hu
          cases hu
          obtain ⟨g1, g2, g3, g4⟩ := h6 _ _ hs hw hl
          exact ⟨g1, by show Lay.one _ = Lay.one _; rw [g2], g3, g4⟩
    | ix i =>
      cases pa with
      | cons a b => simp only [SV.get, getP, reduceCtorEq] at h
      | nil =>
        simp only [SV.get, getP] at h
        cases v <;> simp only [gix, reduceCtorEq] at h
        · rename_i k m xs
          cases h
          have hi : i.x < xs.length := by rw [hv.1]; exact hp.1
          refine ⟨(vs k xs).take i.x, (vs k xs).drop (i.x + 1), vs_split k xs hi, ?_, hv.2 _ (mem_getD hi 0), fun _ => rfl, rfl, fun w u hu hw hl => ?_⟩
          · rw [List.length_take, vs_length]
            exact Nat.min_eq_left (Nat.le_of_lt hi)
          · simp only [SV.set, setP, six] at hu
            cases hx : xN k w with
            | none => rw [hx] at hu; cases hu
            | some x =>
              rw [hx] at hu
              cases hu
              obtain ⟨e1, e2, e3, e4⟩ := ext_ok ν (.N k) w x hx hw
              refine ⟨⟨by rw [List.length_set]; exact hv.1, LB.set hv.2 e1 _⟩, rfl, ?_, fun _ _ => rfl⟩
              show vs k (xs.set i.x x) = _
              rw [← vs_set, e2, set_split (by rw [vs_length]; exact hi)]
              rfl
        · rename_i m xs
          cases h
          have hi : i.x < xs.length := by rw [hv.1]; exact hp.1
          refine ⟨(vi xs).take i.x, (vi xs).drop (i.x + 1), vi_split xs hi, ?_, hv.2 _ (mem_getD hi 0), fun _ => rfl, rfl, fun w u hu hw hl => ?_⟩
          · rw [List.length_take, vi_length]
            exact Nat.min_eq_left (Nat.le_of_lt hi)
          · simp only [SV.set, setP, six] at hu
            cases hx : xZ w with
            | none => rw [hx] at hu; cases hu
            | some x =>
              rw [hx] at hu
              cases hu
              obtain ⟨e1, e2, e3, e4⟩ := ext_ok ν .Z w x hx hw
              refine ⟨⟨by rw [List.length_set]; exact hv.1, fun y hy => ?_⟩, rfl, ?_, fun _ _ => rfl⟩
              · rcases List.mem_or_eq_of_mem_set hy with z | z
                · exact hv.2 y z
                · rw [z]; exact e1
              · show vi (xs.set i.x x) = _
                rw [← vi_set, e2, set_split (by rw [vi_length]; exact hi)]
                rfl
end Go.Proofs.Ytnagkhofkjjajaa

/- What the symbolic walk's states say of the program's: memory. Lemmas, no statement of the claim. -/
set_option linter.unusedVariables false
set_option linter.unusedSimpArgs false
namespace Go.Proofs.Ytnagkhofkjjajaa
open Go.RowKit

/-! ### Rows -/
def rowC (a : Sh) (xs : List a.T) : List Value := xs.flatMap (clS a)
theorem clS_len : ∀ (a : Sh) (x : a.T), okS a x → (clS a x).length = a.lay.sz := fun a x h => by
  have := cls_len (fun _ => ⟨none, 0, 0, [], .C⟩) (q := 0) (emb a x) ((emb_ok _ _ a x).2 h)
  rwa [emb_cls, emb_lay] at this
theorem rowC_len (a : Sh) : ∀ (xs : List a.T), (∀ x, x ∈ xs → okS a x) → (rowC a xs).length = xs.length * a.lay.sz
  | [], _ => by simp [rowC]
  | x :: xs, h => by
    have ih := rowC_len a xs (fun y hy => h y (by simp [hy]))
    have e : rowC a (x :: xs) = clS a x ++ rowC a xs := rfl
    rw [e, List.length_append, clS_len a x (h x (by simp)), ih, List.length_cons, Nat.add_mul, Nat.one_mul, Nat.add_comm]
theorem rowC_app (a : Sh) (xs ys : List a.T) : rowC a (xs ++ ys) = rowC a xs ++ rowC a ys := by simp [rowC]
theorem rowC_drop (a : Sh) : ∀ (xs : List a.T) (n : Nat), (∀ x, x ∈ xs → okS a x) → rowC a (xs.drop n) = (rowC a xs).drop (n * a.lay.sz)
  | xs, 0, _ => by simp
  | [], n + 1, _ => by simp [rowC]
  | x :: xs, n + 1, h => by
    have ih := rowC_drop a xs n (fun y hy => h y (by simp [hy]))
    have hl := clS_len a x (h x (by simp))
    have e : rowC a (x :: xs) = clS a x ++ rowC a xs := rfl
    rw [List.drop_succ_cons, ih, e, Nat.add_mul, Nat.one_mul, Nat.add_comm, ← hl, ← List.drop_drop, List.drop_left' rfl]
theorem rowC_take (a : Sh) : ∀ (xs : List a.T) (n : Nat), (∀ x, x ∈ xs → okS a x) → rowC a (xs.take n) = (rowC a xs).take (n * a.lay.sz)
  | xs, 0, _ => by simp [rowC]
  | [], n + 1, _ => by simp [rowC]
  | x :: xs, n + 1, h => by
    have ih := rowC_take a xs n (fun y hy => h y (by simp [hy]))
    have hl := clS_len a x (h x (by simp))
    have e : rowC a (x :: xs) = clS a x ++ rowC a xs := rfl
    have e2 : rowC a (x :: xs.take n) = clS a x ++ rowC a (xs.take n) := rfl
    rw [List.take_succ_cons, e2, ih, e, Nat.add_mul, Nat.one_mul, Nat.add_comm, ← hl, List.take_length_add_append]
theorem rowC_split (a : Sh) (xs : List a.T) {i : Nat} (hi : i < xs.length) (h : ∀ x, x ∈ xs → okS a x) :
    rowC a xs = (rowC a xs).take (i * a.lay.sz) ++ clS a (xs.getD i a.d) ++ (rowC a xs).drop ((i + 1) * a.lay.sz) := by
  rw [← rowC_take a xs i h, ← rowC_drop a xs (i + 1) h]
  have e : xs = xs.take i ++ xs.getD i a.d :: xs.drop (i + 1) := by
    rw [List.getD_eq_getElem?_getD, List.getElem?_eq_getElem hi, Option.getD_some, List.getElem_cons_drop, List.take_append_drop]
  have e2 : rowC a (xs.getD i a.d :: xs.drop (i + 1)) = clS a (xs.getD i a.d) ++ rowC a (xs.drop (i + 1)) := rfl
  calc rowC a xs = rowC a (xs.take i ++ xs.getD i a.d :: xs.drop (i + 1)) := by rw [← e]
    _ = _ := by rw [rowC_app, e2, List.append_assoc]
theorem rowC_set (a : Sh) (xs : List a.T) {i : Nat} (hi : i < xs.length) (h : ∀ x, x ∈ xs → okS a x) (y : a.T) :
    rowC a (xs.set i y) = (rowC a xs).take (i * a.lay.sz) ++ clS a y ++ (rowC a xs).drop ((i + 1) * a.lay.sz) := by
  rw [← rowC_take a xs i h, ← rowC_drop a xs (i + 1) h, List.set_eq_take_append_cons_drop, if_pos hi]
  have e2 : rowC a (y :: xs.drop (i + 1)) = clS a y ++ rowC a (xs.drop (i + 1)) := rfl
  rw [rowC_app, e2, List.append_assoc]
theorem rowC_one (a : Sh) (xs : List a.T) (h : ∀ x, x ∈ xs → okS a x) : ∀ u, u ∈ rowC a xs → u.oneCell' = true := fun u hu => by
  obtain ⟨x, hx, hu⟩ := List.mem_flatMap.1 hu
  have := cls_one (fun _ => ⟨none, 0, 0, [], .C⟩) (q := 0) (emb a x) ((emb_ok _ _ a x).2 (h x hx)) (emb_st a x) u
  rw [emb_cls] at this
  exact this hu
theorem rowC_N (k : IntKind) (xs : List Nat) : rowC (.N k) xs = vs k xs := by
  induction xs with
  | nil => rfl
  | cons x xs ih => show _ :: rowC (.N k) xs = _; rw [ih]; rfl
theorem rowC_Z (xs : List Int) : rowC .Z xs = vi xs := by
  induction xs with
  | nil => rfl
  | cons x xs ih => show _ :: rowC .Z xs = _; rw [ih]; rfl

/-! ### Pieces -/
def hdq {α : Type} (ps : List (Option Addr × Nat)) (xss : List (List α)) : List Value := List.zipWith (fun p x => .slice p.1 x.length p.2) ps xss
/-- each of these slices can be read -/
def EachQ (w : World) (D : List Nat) (a : Sh) : List (Option Addr × Nat) → List (List a.T) → Prop
  | [], [] => True
  | p :: ps, x :: xss => (Rd w p.1 (rowC a x) ∧ (∀ y, y ∈ x → okS a y) ∧ x.length ≤ p.2 ∧ p.2 ≤ maxLen ∧ (0 < p.2 → flat p.1) ∧ (rowC a x ≠ [] → ∀ b, oblk p.1 = some b → b ∈ D)) ∧ EachQ w D a ps xss
  | _, _ => False
structure RowI (ν : NV) (c : Nat) (a : Sh) (n : Nat) (xs : List a.T) : Prop where
  len : xs.length = n
  all : ∀ x, x ∈ xs → okS a x
  lay : (ν c).lay = .rw a.lay
  nn : (ν c).n = n
  cap : n ≤ (ν c).c
  max : (ν c).c ≤ maxLen
  adr : 0 < (ν c).c → flat (ν c).A
def HC.wt : HC → Bool
  | .bk _ _ => true
  | .rw _ _ _ _ => true
  | _ => false
def HC.ok (ν : NV) (q c : Nat) (w : World) : HC → Prop
  | .bk T v => ∃ b, (ν c).A = some ⟨b, 0, none⟩ ∧ (ν c).D = [b] ∧ (ν c).lay = v.lay ∧ v.ok ν q ∧ v.st = true ∧ Blk w b T (cls ν v)
  | .rw T a n xs => RowI ν c a n.x xs ∧ ((Own w 0 T a.lay.sz (ν c).A n.x (ν c).c (rowC a xs) ∧ (ν c).D = (oblk (ν c).A).toList) ∨ (n.x = 0 ∧ (ν c).c = 0 ∧ (ν c).D = []))
  | .ro a n xs => RowI ν c a n.x xs ∧ Rd w (ν c).A (rowC a xs) ∧ (rowC a xs ≠ [] → ∀ b, oblk (ν c).A = some b → b ∈ (ν c).D)
  | .rs l => (ν c).lay = .rw .C ∧ (ν c).n = l.length ∧ l.length ≤ (ν c).c ∧ (ν c).c ≤ maxLen ∧ (0 < (ν c).c → flat (ν c).A) ∧ (∀ v, v ∈ l → v.ok ν q ∧ v.st = true ∧ v.lay.agg = false) ∧ Rd w (ν c).A (l.map (cv ν)) ∧ ∀ b, oblk (ν c).A = some b → b ∈ (ν c).D
  | .rq a n xss => (ν c).lay = .rw .C ∧ (ν c).n = n.x ∧ xss.length = n.x ∧ n.x ≤ (ν c).c ∧ (ν c).c ≤ maxLen ∧ (0 < (ν c).c → flat (ν c).A) ∧ ∃ ps, Rd w (ν c).A (hdq ps xss) ∧ EachQ w (ν c).D a ps xss ∧ ∀ b, oblk (ν c).A = some b → b ∈ (ν c).D
theorem Rd.keep {w w' : World} {A : Option Addr} {l : List Value} {D : List Nat} (h : Rd w A l) (hD : ∀ b, oblk A = some b → b ∈ D) {r : Option Nat} (g : w.grownBy w' r) (hr : ∀ b, r = some b → b ∉ D) : Rd w' A l := by
  refine Rd.grow' h g ?_
  cases r with
  | none => exact .inl rfl
  | some b => exact .inr (fun e => hr b rfl (hD b e.symm))
theorem Rd.keep' {w w' : World} {A : Option Addr} {l : List Value} {D : List Nat} (h : Rd w A l) (hD : l ≠ [] → ∀ b, oblk A = some b → b ∈ D) {r : Option Nat} (g : w.grownBy w' r) (hr : ∀ b, r = some b → b ∉ D) : Rd w' A l := by
  by_cases hl : l = []
  · subst hl; exact Rd.nil _ _
  · exact h.keep (hD hl) g hr
theorem EachQ.keep {w w' : World} {D : List Nat} {a : Sh} {r : Option Nat} (g : w.grownBy w' r) (hr : ∀ b, r = some b → b ∉ D) : ∀ {ps : List (Option Addr × Nat)} {xss : List (List a.T)}, EachQ w D a ps xss → EachQ w' D a ps xss
  | [], [], _ => trivial
  | p :: ps, x :: xss, h => ⟨⟨h.1.1.keep' h.1.2.2.2.2.2 g hr, h.1.2⟩, EachQ.keep g hr h.2⟩
  | [], _ :: _, h => h
  | _ :: _, [], h => h
/-- a piece that was not written stays as it was -/
theorem HC.grow {ν : NV} {q c : Nat} {w w' : World} {h : HC} (k : h.ok ν q c w) {r : Option Nat} (g : w.grownBy w' r) (hr : ∀ b, r = some b → b ∉ (ν c).D) : h.ok ν q c w' := by
  cases h with
  | bk T v =>
    obtain ⟨b, h1, h2, h3, h4, h5, h6⟩ := k
    exact ⟨b, h1, h2, h3, h4, h5, h6.grow g (fun e => hr b e (by rw [h2]; simp))⟩
  | rw T a n xs =>
    obtain ⟨h1, h2⟩ := k
    refine ⟨h1, ?_⟩
    rcases h2 with ⟨h2, h3⟩ | h2
    · refine .inl ⟨Own.grow h2 g ?_, h3⟩
      cases e : oblk (ν c).A with
      | none => exact .inl rfl
      | some b => exact .inr (fun e2 => hr b e2.symm (by rw [h3, e]; simp))
    · exact .inr h2
  | ro a n xs =>
    obtain ⟨h1, h2, h3⟩ := k
    exact ⟨h1, h2.keep' h3 g hr, h3⟩
  | rs l =>
    obtain ⟨h1, h2, h3, h4, h0, h5, h6, h7⟩ := k
    exact ⟨h1, h2, h3, h4, h0, h5, h6.keep h7 g hr, h7⟩
  | rq a n xss =>
    obtain ⟨h1, h2, h3, h4, h5, h0, ps, h6, h7, h8⟩ := k
    exact ⟨h1, h2, h3, h4, h5, h0, ps, h6.keep h8 g hr, EachQ.keep g hr h7, h8⟩
theorem cls_agr {q : Nat} {ν ν' : NV} (h : Agr q ν ν') {v : SV} (k : v.ok ν q) : cls ν' v = cls ν v := by unfold cls; rw [(ok_agr h v k).2]
theorem cv_agr {q : Nat} {ν ν' : NV} (h : Agr q ν ν') {v : SV} (k : v.ok ν q) : cv ν' v = cv ν v := by unfold cv; rw [(ok_agr h v k).2]
theorem HC.agr {q : Nat} {ν ν' : NV} (h : Agr q ν ν') {c : Nat} (hc : c < q) {w : World} {x : HC} (k : x.ok ν q c w) : x.ok ν' q c w := by
  have e := h c hc
  cases x with
  | bk T v =>
    obtain ⟨b, h1, h2, h3, h4, h5, h6⟩ := k
    exact ⟨b, by rw [e]; exact h1, by rw [e]; exact h2, by rw [e]; exact h3, (ok_agr h v h4).1, h5, by rw [cls_agr h h4]; exact h6⟩
  | rw T a n xs =>
    obtain ⟨h1, h2⟩ := k
    exact ⟨⟨h1.len, h1.all, by rw [e]; exact h1.lay, by rw [e]; exact h1.nn, by rw [e]; exact h1.cap, by rw [e]; exact h1.max, by rw [e]; exact h1.adr⟩, by rw [e]; exact h2⟩
  | ro a n xs =>
    obtain ⟨h1, h2⟩ := k
    exact ⟨⟨h1.len, h1.all, by rw [e]; exact h1.lay, by rw [e]; exact h1.nn, by rw [e]; exact h1.cap, by rw [e]; exact h1.max, by rw [e]; exact h1.adr⟩, by rw [e]; exact h2⟩
  | rs l =>
    obtain ⟨h1, h2, h3, h4, h0, h5, h6, h7⟩ := k
    refine ⟨by rw [e]; exact h1, by rw [e]; exact h2, by rw [e]; exact h3, by rw [e]; exact h4, by rw [e]; exact h0, fun v hv => ⟨(ok_agr h v (h5 v hv).1).1, (h5 v hv).2⟩, ?_, by rw [e]; exact h7⟩
    rw [e]
    have : l.map (cv ν') = l.map (cv ν) := List.map_congr_left fun v hv => cv_agr h (h5 v hv).1
    rw [this]; exact h6
  | rq a n xss =>
    obtain ⟨h1, h2, h3, h4, h5, h0, ps, h6⟩ := k
    exact ⟨by rw [e]; exact h1, by rw [e]; exact h2, h3, by rw [e]; exact h4, by rw [e]; exact h5, by rw [e]; exact h0, ps, by rw [e]; exact h6⟩
theorem HC.mono {q q' : Nat} (hq : q ≤ q') {ν : NV} {c : Nat} {w : World} {x : HC} (k : x.ok ν q c w) : x.ok ν q' c w := by
  cases x with
  | bk T v =>
    obtain ⟨b, h1, h2, h3, h4, h5, h6⟩ := k
    exact ⟨b, h1, h2, h3, ok_mono hq v h4, h5, h6⟩
  | rw T a n xs => exact k
  | ro a n xs => exact k
  | rs l =>
    obtain ⟨h1, h2, h3, h4, h0, h5, h6, h7⟩ := k
    exact ⟨h1, h2, h3, h4, h0, fun v hv => ⟨ok_mono hq v (h5 v hv).1, (h5 v hv).2⟩, h6, h7⟩
  | rq a n xss => exact k

/-! ### Memory -/
theorem beq_false {a b : Nat} (h : a ≠ b) : Nat.beq a b = false := by
  cases e : Nat.beq a b with
  | false => rfl
  | true => exact absurd (Nat.eq_of_beq_eq_true e) h
theorem hget_cons (c s : Nat) (h : HC) (H : List (Nat × Nat × HC)) (d : Nat) : hget ((c, s, h) :: H) d = if c = d then some h else hget H d := by
  by_cases e : c = d
  · subst e; simp [hget, Nat.beq_refl]
  · simp [hget, beq_false e, e]
theorem hst_cons (c s : Nat) (h : HC) (H : List (Nat × Nat × HC)) (d : Nat) : hst ((c, s, h) :: H) d = if c = d then some s else hst H d := by
  by_cases e : c = d
  · subst e; simp [hst, Nat.beq_refl]
  · simp [hst, beq_false e, e]
theorem hget_del (c : Nat) : ∀ (H : List (Nat × Nat × HC)) (d : Nat), hget (hdel H c) d = if c = d then none else hget H d
  | [], d => by simp [hdel, hget]
  | (x, s, h) :: r, d => by
    by_cases e : x = c
    · subst e
      simp only [hdel, Nat.beq_refl, cond_true, hget_del x r d, hget_cons]
      by_cases e2 : x = d <;> simp [e2]
    · simp only [hdel, beq_false e, cond_false, hget_cons, hget_del c r d]
      by_cases e2 : c = d
      · subst e2; simp [e]
      · simp [e2]
theorem hst_del (c : Nat) : ∀ (H : List (Nat × Nat × HC)) (d : Nat), hst (hdel H c) d = if c = d then none else hst H d
  | [], d => by simp [hdel, hst]
  | (x, s, h) :: r, d => by
    by_cases e : x = c
    · subst e
      simp only [hdel, Nat.beq_refl, cond_true, hst_del x r d, hst_cons]
      by_cases e2 : x = d <;> simp [e2]
    · simp only [hdel, beq_false e, cond_false, hst_cons, hst_del c r d]
      by_cases e2 : c = d
      · subst e2; simp [e]
      · simp [e2]
theorem hget_put (H : List (Nat × Nat × HC)) (c s : Nat) (h : HC) (d : Nat) : hget (hput H c s h) d = if c = d then some h else hget H d := by
  unfold hput
  rw [hget_cons, hget_del]
  by_cases e : c = d <;> simp [e]
theorem hst_put (H : List (Nat × Nat × HC)) (c s : Nat) (h : HC) (d : Nat) : hst (hput H c s h) d = if c = d then some s else hst H d := by
  unfold hput
  rw [hst_cons, hst_del]
  by_cases e : c = d <;> simp [e]

/-- blocks that may be written, blocks that may be seen -/
structure XS where
  x : List Nat
  z : Nat → Prop
/-- a block that a piece may name -/
def Vis (w0 : World) (X : XS) (b : Nat) : Prop := w0.heap.size ≤ b ∨ b ∈ X.x ∨ X.z b
structure Mem (ν : NV) (q : Nat) (w0 : World) (X : XS) (H : List (Nat × Nat × HC)) (w : World) : Prop where
  keep : Keep X.x w0 w
  nm : ∀ c h, hget H c = some h → c < q
  ok : ∀ c h, hget H c = some h → h.ok ν q c w
  lt : ∀ c h, hget H c = some h → ∀ b, b ∈ (ν c).D → b < w.heap.size
  mine : ∀ c h, hget H c = some h → h.wt = true → ∀ b, b ∈ (ν c).D → w0.heap.size ≤ b ∨ b ∈ X.x
  ne : ∀ c c' h h', hget H c = some h → hget H c' = some h' → c ≠ c' → h.wt = true → ∀ b, b ∈ (ν c).D → b ∉ (ν c').D
  src : ∀ c h, hget H c = some h → ∀ b, b ∈ (ν c).D → Vis w0 X b
theorem vis_of {w0 : World} {X : XS} {b : Nat} (h : w0.heap.size ≤ b ∨ b ∈ X.x) : Vis w0 X b := h.elim .inl (fun h => .inr (.inl h))
section
variable {ν : NV} {q : Nat} {w0 : World} {X : XS} {H : List (Nat × Nat × HC)} {w : World}
theorem Mem.agr (h : Mem ν q w0 X H w) {ν' : NV} (g : Agr q ν ν') : Mem ν' q w0 X H w :=
  ⟨h.keep, h.nm, fun c x hx => HC.agr g (h.nm c x hx) (h.ok c x hx), fun c x hx => by rw [g c (h.nm c x hx)]; exact h.lt c x hx, fun c x hx => by rw [g c (h.nm c x hx)]; exact h.mine c x hx,
    fun c c' x x' hx hx' => by rw [g c (h.nm c x hx), g c' (h.nm c' x' hx')]; exact h.ne c c' x x' hx hx', fun c x hx => by rw [g c (h.nm c x hx)]; exact h.src c x hx⟩
theorem Mem.mono (h : Mem ν q w0 X H w) {q' : Nat} (hq : q ≤ q') : Mem ν q' w0 X H w :=
  ⟨h.keep, fun c x hx => Nat.lt_of_lt_of_le (h.nm c x hx) hq, fun c x hx => HC.mono hq (h.ok c x hx), h.lt, h.mine, h.ne, h.src⟩
theorem Mem.growN (h : Mem ν q w0 X H w) {w' : World} (g : w.grownBy w' none) : Mem ν q w0 X H w' :=
  ⟨h.keep.grown g (by simp), h.nm, fun c x hx => HC.grow (h.ok c x hx) g (by simp), fun c x hx b hb => Nat.lt_of_lt_of_le (h.lt c x hx b hb) g.size, h.mine, h.ne, h.src⟩
/-- fewer pieces -/
theorem Mem.sub (h : Mem ν q w0 X H w) {H' : List (Nat × Nat × HC)} (g : ∀ c x, hget H' c = some x → hget H c = some x) : Mem ν q w0 X H' w :=
  ⟨h.keep, fun c x hx => h.nm c x (g c x hx), fun c x hx => h.ok c x (g c x hx), fun c x hx => h.lt c x (g c x hx), fun c x hx => h.mine c x (g c x hx), fun c c' x x' hx hx' => h.ne c c' x x' (g c x hx) (g c' x' hx'), fun c x hx => h.src c x (g c x hx)⟩
/-- a new piece under a new name -/
theorem Mem.add (h : Mem ν q w0 X H w) {c s : Nat} {x : HC} (hc : q ≤ c) {ν' : NV} (ha : Agr q ν ν') (hx : x.ok ν' (c + 1) c w) (hlt : ∀ b, b ∈ (ν' c).D → b < w.heap.size)
    (hw : x.wt = true → ∀ b, b ∈ (ν' c).D → (w0.heap.size ≤ b ∨ b ∈ X.x) ∧ ∀ d y, hget H d = some y → b ∉ (ν d).D)
    (hr : ∀ d y, hget H d = some y → y.wt = true → ∀ b, b ∈ (ν d).D → b ∉ (ν' c).D) (hs : x.wt = false → ∀ b, b ∈ (ν' c).D → Vis w0 X b) : Mem ν' (c + 1) w0 X ((c, s, x) :: H) w := by
  have h' := (h.agr ha)
  refine ⟨h.keep, fun d y hy => ?_, fun d y hy => ?_, fun d y hy => ?_, fun d y hy => ?_, fun d d' y y' hy hy' hne hwt b hb => ?_, fun d y hy => ?_⟩
  · rw [hget_cons] at hy
    split at hy
    · omega
    · have := h.nm d y hy; omega
  · rw [hget_cons] at hy
    split at hy
    · rename_i e; subst e; cases hy; exact hx
    · exact HC.mono (by omega) (h'.ok d y hy)
  · rw [hget_cons] at hy
    split at hy
    · rename_i e; subst e; exact hlt
    · exact h'.lt d y hy
  · rw [hget_cons] at hy
    split at hy
    · rename_i e; subst e; cases hy; exact fun z b hb => (hw z b hb).1
    · exact h'.mine d y hy
  · rw [hget_cons] at hy hy'
    split at hy
    · rename_i e
      subst e
      cases hy
      rw [if_neg hne] at hy'
      have h1 := (hw hwt b hb).2 d' y' hy'
      rwa [← ha d' (h.nm d' y' hy')] at h1
    · split at hy'
      · rename_i e
        subst e
        rw [ha d (h.nm d y hy)] at hb
        exact hr d y hy hwt b hb
      · exact h'.ne d d' y y' hy hy' hne hwt b hb
  · rw [hget_cons] at hy
    split at hy
    · rename_i e
      subst e
      cases hy
      intro b hb
      cases hwt : x.wt with
      | true => exact vis_of (hw hwt b hb).1
      | false => exact hs hwt b hb
    · exact h'.src d y hy
/-- a piece was written -/
theorem Mem.upd (h : Mem ν q w0 X H w) {c s : Nat} {x x' : HC} (hx : hget H c = some x) (hw : x.wt = true) {w' : World} {r : Option Nat} (g : w.grownBy w' r) (hr : ∀ b, r = some b → b ∈ (ν c).D) (hx' : x'.ok ν q c w') (hw' : x'.wt = true) : Mem ν q w0 X (hput H c s x') w' := by
  have hot : ∀ d y, hget H d = some y → c ≠ d → y.ok ν q d w' := fun d y hy hne => HC.grow (h.ok d y hy) g (fun b hb => h.ne c d x y hx hy hne hw b (hr b hb))
  refine ⟨h.keep.grown g (fun b hb => h.mine c x hx hw b (hr b hb)), fun d y hy => ?_, fun d y hy => ?_, fun d y hy => ?_, fun d y hy => ?_, fun d d' y y' hy hy' hne hwt => ?_, fun d y hy => ?_⟩
  · rw [hget_put] at hy
    split at hy
    · rename_i e; subst e; exact h.nm c x hx
    · exact h.nm d y hy
  · rw [hget_put] at hy
    split at hy
    · rename_i e; subst e; cases hy; exact hx'
    · rename_i e; exact hot d y hy e
  · intro b hb
    rw [hget_put] at hy
    split at hy
    · rename_i e; subst e; exact Nat.lt_of_lt_of_le (h.lt c x hx b hb) g.size
    · exact Nat.lt_of_lt_of_le (h.lt d y hy b hb) g.size
  · rw [hget_put] at hy
    split at hy
    · rename_i e; subst e; exact fun _ => h.mine c x hx hw
    · exact h.mine d y hy
  · rw [hget_put] at hy hy'
    split at hy
    · rename_i e
      subst e
      rw [if_neg hne] at hy'
      exact h.ne c d' x y' hx hy' hne hw
    · split at hy'
      · rename_i e
        subst e
        exact h.ne d c y x hy hx hne hwt
      · exact h.ne d d' y y' hy hy' hne hwt
  · rw [hget_put] at hy
    split at hy
    · rename_i e; subst e; exact h.src c x hx
    · exact h.src d y hy
end
def upN (ν : NV) (c : Nat) (x : NmS) : NV := fun d => if d = c then x else ν d
theorem upN_self (ν : NV) (c : Nat) (x : NmS) : upN ν c x c = x := if_pos rfl
theorem upN_agr (ν : NV) (c : Nat) (x : NmS) : Agr c ν (upN ν c x) := fun d hd => if_neg (by omega)
end Go.Proofs.Ytnagkhofkjjajaa

/- The symbolic walk is sound: numbers, comparisons. Lemmas, no statement of the claim. -/
set_option linter.unusedVariables false
set_option linter.unusedSimpArgs false
namespace Go.Proofs.Ytnagkhofkjjajaa
open Go.RowKit

/-! ### Types -/
def TK.ok (P : Program) (t : Nat) : TK → Prop
  | .b => P.underlying t = some .bool
  | .i k => P.underlying t = some (.int k)
  | .s => P.underlying t = some .string
  | .pt => ∃ e, P.underlying t = some (.pointer e)
  | .sl e => P.underlying t = some (.slice e)
  | .ar n e => P.underlying t = some (.array n e)
  | .st l => ∃ fs, P.underlying t = some (.struct fs) ∧ fs.toList.map (fun f => (f.type, f.offset)) = l
  | .o => ∃ d, P.underlying t = some d ∧ Go.Proofs.Ytnagkhofkjjajaa.aggD d = false
def ν0 : NV := fun _ => ⟨none, 0, 0, [], .C⟩
structure TDok (P : Program) (D : List (Nat × TD)) : Prop where
  eq : ∀ t d, lookD D t = some d → d.e = true → P.eqGuardType P.depth t = false ∧ ∀ fs, P.underlying t = some (.struct fs) → P.stoodInHeld t = false ∧ ∀ f, f ∈ fs.toList → f.name ≠ "_"
  un : ∀ t d, lookD D t = some d → d.k.ok P t
  inf : ∀ t d, lookD D t = some d → ∃ j, P.info? t = some j ∧ j.size = d.n ∧ j.bytes = d.b ∧ ∀ z, zsv D 9 t = some z → ∃ zv, j.zero = some zv ∧ zv.cells = (cls ν0 z).toArray ∧ zv = cv ν0 z
section
variable {P : Program} {D : List (Nat × TD)}
theorem TDok.size (hT : TDok P D) {t : Nat} {d : TD} (h : lookD D t = some d) (w : World) : (sizeOf t).run P w = .ok d.n w := by
  obtain ⟨j, h1, h2, _⟩ := hT.inf t d h
  simp [sizeOf, typeInfo, h1, h2]
theorem TDok.info (hT : TDok P D) {t : Nat} {d : TD} (h : lookD D t = some d) : (P.info? t).map (·.size) = some d.n := by
  obtain ⟨j, h1, h2, _⟩ := hT.inf t d h
  simp [h1, h2]
theorem TDok.zero (hT : TDok P D) {t : Nat} {d : TD} (h : lookD D t = some d) {z : SV} (hz : zsv D 9 t = some z) (w : World) : ∃ zv, (zeroValue t).run P w = .ok zv w ∧ zv.cells = (cls ν0 z).toArray ∧ zv = cv ν0 z := by
  obtain ⟨j, h1, h2, h3, h4⟩ := hT.inf t d h
  obtain ⟨zv, h5, h6, h7⟩ := h4 z hz
  exact ⟨zv, by simp [zeroValue, typeInfo, h1, h5], h6, h7⟩
theorem TDok.agg (hT : TDok P D) {t : Nat} {d : TD} (h : lookD D t = some d) (w : World) : (isAgg t).run P w = .ok (agg2 d) w := by
  have := hT.un t d h
  obtain ⟨k, n, b⟩ := d
  cases k <;> simp only [TK.ok] at this
  case pt => obtain ⟨e, he⟩ := this; exact run_isAgg he w
  case st => obtain ⟨fs, he, _⟩ := this; exact run_isAgg he w
  case o => obtain ⟨d, he, hd⟩ := this; have := run_isAgg he w; rw [hd] at this; exact this
  all_goals exact run_isAgg this w
end

/-! ### Bytes -/
theorem str_bytes (s : ByteArray) : str (s.data.toList.map UInt8.toNat) = s := by
  unfold str
  obtain ⟨⟨l⟩⟩ := s
  simp only [List.map_map]
  congr 2
  calc l.map (UInt8.ofNat ∘ UInt8.toNat) = l.map id := List.map_congr_left fun x _ => by simp
    _ = l := by simp
theorem bytes_lt (s : ByteArray) : LB 256 (s.data.toList.map UInt8.toNat) := by
  intro x hx
  obtain ⟨y, _, rfl⟩ := List.mem_map.1 hx
  exact y.toNat_lt

/-! ### The frame -/
structure Rep (ν : NV) (q : Nat) (w0 : World) (X : XS) (N : Nat) (S : St) (a : Act) (w : World) : Prop where
  size : a.tmps.size = N
  df : a.defers = []
  fr : ∀ t v, S.get t = some v → a.tmps[t]? = some (cv ν v) ∧ v.ok ν q
  mem : Mem ν q w0 X S.H w
theorem konst_ok {v : Value} {x : SV} (h : konst v = some x) (ν : NV) (q : Nat) : cv ν x = v ∧ x.ok ν q := by
  unfold konst at h
  split at h
  · rename_i x
    cases hb : Nat.blt x 9223372036854775808 with
    | false => rw [hb] at h; cases h
    | true =>
      rw [hb] at h
      cases h
      have : x < 9223372036854775808 := by simpa using hb
      exact ⟨rfl, by show I63 _; unfold I63; omega⟩
  · rename_i k x
    cases hb : Nat.blt x (lim k) with
    | false => rw [hb] at h; cases h
    | true =>
      rw [hb] at h
      cases h
      have : x < lim k := by simpa using hb
      exact ⟨rfl, this⟩
  · cases h; exact ⟨rfl, trivial⟩
  · cases h; exact ⟨rfl, trivial⟩
  · rename_i s
    cases h
    exact ⟨by show Value.string _ = _; rw [str_bytes], bytes_lt s⟩
  · cases h; exact ⟨rfl, trivial⟩
  · cases h; exact ⟨rfl, trivial⟩
  · cases h; exact ⟨rfl, rfl⟩
  · cases h; exact ⟨rfl, rfl⟩
  · cases h
section
variable {ν : NV} {q : Nat} {w0 : World} {X : XS} {N : Nat} {S : St} {a : Act} {w : World}
theorem Rep.op (R : Rep ν q w0 X N S a w) {x : Operand} {v : SV} (h : opS S.get x = some v) : a.eval x = cv ν v ∧ v.ok ν q := by
  cases x with
  | tmp t =>
    obtain ⟨h1, h2⟩ := R.fr t v h
    exact ⟨by simp [Act.eval, h1, Array.getD_eq_getD_getElem?], h2⟩
  | const u =>
    obtain ⟨h1, h2⟩ := konst_ok (show konst u = some v from h) ν q
    exact ⟨by rw [h1]; rfl, h2⟩
  | func f => cases h; exact ⟨rfl, trivial, trivial⟩
  | global g => cases h
theorem Rep.ops (R : Rep ν q w0 X N S a w) : ∀ {xs : List Operand} {l : List SV}, opsS S.get xs = some l → xs.map a.eval = l.map (cv ν) ∧ ∀ v, v ∈ l → v.ok ν q
  | [], l, h => by cases h; exact ⟨rfl, fun v hv => by cases hv⟩
  | x :: r, l, h => by
    simp only [opsS] at h
    split at h
    · rename_i v m hv hm
      cases h
      obtain ⟨h1, h2⟩ := R.op hv
      obtain ⟨h3, h4⟩ := R.ops hm
      exact ⟨by simp [h1, h3], fun u hu => by
        rcases List.mem_cons.1 hu with rfl | hu
        · exact h2
        · exact h4 u hu⟩
    · cases h
end

/-! ### Numbers -/
theorem lim_mo {k : IntKind} (h : uns k = true) : lim k = mo k := by cases k <;> first | rfl | (cases h)
theorem lim_le (k : IntKind) : lim k ≤ 18446744073709551616 := by cases k <;> decide
/-- an operation on two numbers -/
def RunB (P : Program) (op : BinOp) (t : TypeId) (xo yo : Operand) (x y v : Value) : Prop := ∀ w, (do eqGuard op t xo yo x y; binOp op t x y : Sem Value).run P w = .ok v w
theorem RunB.p {P : Program} {op : BinOp} {t : TypeId} {xo yo : Operand} {x y v : Value} {cs : List Prop} (h : pBin op x y = some (v, cs)) (hc : allP cs) : RunB P op t xo yo x y v := fun w => pBin_sound h hc P t xo yo w
theorem pos_ok {y : NT} {cs : List Cnd} (h : pos y = some cs) (hc : allC cs) : 0 < y.x := by
  unfold pos at h
  cases hl : y.l with
  | true =>
    rw [hl] at h
    cases hb : Nat.blt 0 y.x with
    | true => simpa using hb
    | false => rw [hb] at h; cases h
  | false =>
    rw [hl] at h
    cases h
    exact hc.1
theorem topN_ok {l : Bool} {x : Nat} {cs : List Cnd} {v : SV} (h : topN l x = some (cs, v)) (hc : allC cs) : ∃ b, v = .N .i64 ⟨b, x⟩ ∧ x ≤ 9223372036854775807 := by
  unfold topN at h
  cases l with
  | true =>
    cases hb : Nat.ble x MAX with
    | true => rw [hb] at h; cases h; exact ⟨true, rfl, Nat.le_of_ble_eq_true hb⟩
    | false => rw [hb] at h; cases h
  | false => cases h; exact ⟨false, rfl, hc.1⟩
theorem b2_cv (ν : NV) (b : Bool) : cv ν (b2 b) = .bool b := by cases b <;> rfl
theorem b2_ok (ν : NV) (q : Nat) (b : Bool) : (b2 b).ok ν q := by cases b <;> trivial
theorem dec_beq (x y : Nat) : decide (((x : Nat) : Int) = ((y : Nat) : Int)) = Nat.beq x y := by
  by_cases h : x = y
  · subst h; simp [Nat.beq_refl]
  · have : ¬ (((x : Nat) : Int) = ((y : Nat) : Int)) := by omega
    simp [this, beq_false h]
theorem dec_nat_lt (x y : Nat) : decide (((x : Nat) : Int) < ((y : Nat) : Int)) = Nat.blt x y := by
  have e : Nat.blt x y = true ↔ x < y := by simp
  rw [Bool.eq_iff_iff, decide_eq_true_iff, e]; omega
theorem dec_nat_le (x y : Nat) : decide (((x : Nat) : Int) ≤ ((y : Nat) : Int)) = Nat.ble x y := by
  have e : Nat.ble x y = true ↔ x ≤ y := by simp
  rw [Bool.eq_iff_iff, decide_eq_true_iff, e]; omega
theorem dec_iff {p q : Prop} [Decidable p] [Decidable q] (h : p ↔ q) : decide p = decide q := by simp [h]
theorem cmpN_ok {op : BinOp} {x y : NT} {cs : List Cnd} {v : SV} (h : cmpN op x y = some (cs, v)) (ν : NV) (q : Nat) : ∃ b, pCmp op (x.x : Int) (y.x : Int) = some (.bool b, []) ∧ cv ν v = .bool b ∧ v.ok ν q := by
  unfold cmpN at h
  cases hl : x.l && y.l with
  | true =>
    rw [hl] at h
    cases op <;> simp only [cond_true, Option.some.injEq, Prod.mk.injEq, reduceCtorEq] at h <;> obtain ⟨_, rfl⟩ := h
    · exact ⟨_, by simp only [pCmp]; rw [dec_beq], b2_cv _ _, b2_ok _ _ _⟩
    · exact ⟨_, by simp only [pCmp]; rw [dec_beq], b2_cv _ _, b2_ok _ _ _⟩
    · exact ⟨_, by simp only [pCmp]; rw [dec_nat_lt], b2_cv _ _, b2_ok _ _ _⟩
    · exact ⟨_, by simp only [pCmp]; rw [dec_nat_le], b2_cv _ _, b2_ok _ _ _⟩
    · exact ⟨_, by simp only [pCmp]; rw [dec_nat_lt], b2_cv _ _, b2_ok _ _ _⟩
    · exact ⟨_, by simp only [pCmp]; rw [dec_nat_le], b2_cv _ _, b2_ok _ _ _⟩
  | false =>
    rw [hl] at h
    cases op <;> simp only [cond_false, Option.some.injEq, Prod.mk.injEq, reduceCtorEq] at h <;> obtain ⟨_, rfl⟩ := h
    · exact ⟨_, rfl, by show Value.bool (decide _) = _; congr 1; exact dec_iff (by omega), trivial⟩
    · exact ⟨_, rfl, by show Value.bool (!decide _) = _; congr 2; exact dec_iff (by omega), trivial⟩
    · exact ⟨_, rfl, by show Value.bool (decide _) = _; congr 1; exact dec_iff (by omega), trivial⟩
    · exact ⟨_, rfl, by show Value.bool (decide _) = _; congr 1; exact dec_iff (by omega), trivial⟩
    · exact ⟨_, rfl, by show Value.bool (decide _) = _; congr 1; exact dec_iff (by omega), trivial⟩
    · exact ⟨_, rfl, by show Value.bool (decide _) = _; congr 1; exact dec_iff (by omega), trivial⟩
theorem cmpZ_ok {op : BinOp} {x y : Int} {cs : List Cnd} {v : SV} (h : cmpZ op x y = some (cs, v)) (ν : NV) (q : Nat) : ∃ b, pCmp op x y = some (.bool b, []) ∧ cv ν v = .bool b ∧ v.ok ν q := by
  unfold cmpZ at h
  cases op <;> simp only [Option.some.injEq, Prod.mk.injEq, reduceCtorEq] at h <;> obtain ⟨_, rfl⟩ := h <;> exact ⟨_, rfl, rfl, trivial⟩
end Go.Proofs.Ytnagkhofkjjajaa

/- The symbolic walk is sound: operations on numbers. Lemmas, no statement of the claim. -/
set_option linter.unusedVariables false
set_option linter.unusedSimpArgs false
namespace Go.Proofs.Ytnagkhofkjjajaa
open Go.RowKit
section
variable {P : Program} {op : BinOp} {t : TypeId} {xo yo : Operand}
theorem i64_bits (x y : Nat) (hx : x < 9223372036854775808) (hy : y < 9223372036854775808) (f : Nat → Nat → Nat) (hop : (op = .and ∧ f = fun a b => a &&& b) ∨ (op = .or ∧ f = fun a b => a ||| b) ∨ (op = .xor ∧ f = fun a b => a ^^^ b)) :
    RunB P op t xo yo (.int .i64 (x : Int)) (.int .i64 (y : Int)) (.int .i64 ((f x y : Nat) : Int)) ∧ f x y < 9223372036854775808 := by
  have e1 := bits_ofNat IntKind.i64.bits x (by simp only [IntKind.bits]; omega)
  have e2 := bits_ofNat IntKind.i64.bits y (by simp only [IntKind.bits]; omega)
  have hlt : f x y < 9223372036854775808 := by
    rcases hop with ⟨_, rfl⟩ | ⟨_, rfl⟩ | ⟨_, rfl⟩
    · exact Nat.lt_of_le_of_lt Nat.and_le_left hx
    · exact Nat.or_lt_two_pow (n := 63) (by omega) (by omega)
    · exact Nat.xor_lt_two_pow (n := 63) (by omega) (by omega)
  refine ⟨fun w => ?_, hlt⟩
  simp only [Sem.run_bind, eqGuard_int, Result.andThen_ok]
  rcases hop with ⟨rfl, rfl⟩ | ⟨rfl, rfl⟩ | ⟨rfl, rfl⟩
  · dsimp only at hlt ⊢
    rw [binOp_int _ _ _ _ _ (by decide) (by decide)]
    simp only [Op.intBits, run_ok, BitVec.toNat_and]
    rw [e1, e2, wrap_i64 (by omega) (by omega)]
  · dsimp only at hlt ⊢
    rw [binOp_int _ _ _ _ _ (by decide) (by decide)]
    simp only [Op.intBits, run_ok, BitVec.toNat_or]
    rw [e1, e2, wrap_i64 (by omega) (by omega)]
  · dsimp only at hlt ⊢
    rw [binOp_int _ _ _ _ _ (by decide) (by decide)]
    simp only [Op.intBits, run_ok, BitVec.toNat_xor]
    rw [e1, e2, wrap_i64 (by omega) (by omega)]
theorem cmp_fin {op : BinOp} {k : IntKind} {x y : NT} {cs : List Cnd} {v : SV} (hp : pBin op (.int k (x.x : Int)) (.int k (y.x : Int)) = pCmp op (x.x : Int) (y.x : Int)) (h : cmpN op x y = some (cs, v)) (ν : NV) (q : Nat) :
    RunB P op t xo yo (.int k (x.x : Int)) (.int k (y.x : Int)) (cv ν v) ∧ v.ok ν q := by
  obtain ⟨b, h1, h2, h3⟩ := cmpN_ok h ν q
  refine ⟨?_, h3⟩
  rw [h2]
  exact RunB.p (cs := []) (hp.trans h1) trivial
theorem cmp_finZ {op : BinOp} {x y : Int} {cs : List Cnd} {v : SV} (hp : pBin op (.int .i64 x) (.int .i64 y) = pCmp op x y) (h : cmpZ op x y = some (cs, v)) (ν : NV) (q : Nat) :
    RunB P op t xo yo (.int .i64 x) (.int .i64 y) (cv ν v) ∧ v.ok ν q := by
  obtain ⟨b, h1, h2, h3⟩ := cmpZ_ok h ν q
  refine ⟨?_, h3⟩
  rw [h2]
  exact RunB.p (cs := []) (hp.trans h1) trivial
theorem lt64 {x : Nat} (h : x ≤ 9223372036854775807) : x < lim .i64 := by show x < 9223372036854775808; omega
theorem bI_ok {x y : NT} {cs : List Cnd} {v : SV} (h : bI op x y = some (cs, v)) (hc : allC cs) (hx : x.x < lim .i64) (hy : y.x < lim .i64) (ν : NV) (q : Nat) :
    RunB P op t xo yo (.int .i64 (x.x : Int)) (.int .i64 (y.x : Int)) (cv ν v) ∧ v.ok ν q := by
  replace hx : x.x < 9223372036854775808 := hx
  replace hy : y.x < 9223372036854775808 := hy
  cases op
  case add =>
    obtain ⟨b, rfl, hb⟩ := topN_ok (show topN _ _ = _ from h) hc
    refine ⟨?_, lt64 (by omega)⟩
    have := RunB.p (P := P) (op := .add) (t := t) (xo := xo) (yo := yo) (x := .int .i64 (x.x : Int)) (y := .int .i64 (y.x : Int)) (v := .int .i64 ((x.x : Int) + (y.x : Int))) rfl ⟨by omega, by omega, trivial⟩
    show RunB P _ _ _ _ _ _ (.int .i64 ((x.x + y.x : Nat) : Int))
    rw [Int.natCast_add]; exact this
  case mul =>
    obtain ⟨b, rfl, hb⟩ := topN_ok (show topN _ _ = _ from h) hc
    refine ⟨?_, lt64 (by omega)⟩
    have hm : (x.x : Int) * (y.x : Int) = ((x.x * y.x : Nat) : Int) := (Int.natCast_mul _ _).symm
    have := RunB.p (P := P) (op := .mul) (t := t) (xo := xo) (yo := yo) (x := .int .i64 (x.x : Int)) (y := .int .i64 (y.x : Int)) (v := .int .i64 ((x.x : Int) * (y.x : Int))) rfl ⟨by rw [hm]; omega, by rw [hm]; omega, trivial⟩
    show RunB P _ _ _ _ _ _ (.int .i64 ((x.x * y.x : Nat) : Int))
    rw [← hm]; exact this
  case sub =>
    have := RunB.p (P := P) (op := .sub) (t := t) (xo := xo) (yo := yo) (x := .int .i64 (x.x : Int)) (y := .int .i64 (y.x : Int)) (v := .int .i64 ((x.x : Int) - (y.x : Int))) rfl ⟨by omega, by omega, trivial⟩
    simp only [bI] at h
    cases hb : x.l && y.l && Nat.ble y.x x.x with
    | true =>
      rw [hb] at h
      cases h
      simp only [Bool.and_eq_true] at hb
      have hle : y.x ≤ x.x := Nat.le_of_ble_eq_true hb.2
      refine ⟨?_, lt64 (by show x.x - y.x ≤ _; omega)⟩
      show RunB P _ _ _ _ _ _ (.int .i64 ((x.x - y.x : Nat) : Int))
      rw [Int.natCast_sub hle]; exact this
    | false =>
      rw [hb] at h
      cases h
      exact ⟨this, by show I63 _; unfold I63; omega⟩
  case quo =>
    simp only [bI] at h
    split at h
    · rename_i cs' hp
      cases h
      have h0 := pos_ok hp hc
      have := RunB.p (P := P) (op := .quo) (t := t) (xo := xo) (yo := yo) (x := .int .i64 (x.x : Int)) (y := .int .i64 (y.x : Int)) (v := .int .i64 ((x.x : Int) / (y.x : Int))) rfl ⟨by omega, by omega, by omega, trivial⟩
      refine ⟨by show RunB P _ _ _ _ _ _ (.int .i64 ((x.x / y.x : Nat) : Int)); rw [Int.natCast_ediv]; exact this, ?_⟩
      exact Nat.lt_of_le_of_lt (Nat.div_le_self _ _) hx
    · cases h
  case rem =>
    simp only [bI] at h
    split at h
    · rename_i cs' hp
      cases h
      have h0 := pos_ok hp hc
      have := RunB.p (P := P) (op := .rem) (t := t) (xo := xo) (yo := yo) (x := .int .i64 (x.x : Int)) (y := .int .i64 (y.x : Int)) (v := .int .i64 ((x.x : Int) % (y.x : Int))) rfl ⟨by omega, by omega, trivial⟩
      refine ⟨by show RunB P _ _ _ _ _ _ (.int .i64 ((x.x % y.x : Nat) : Int)); rw [Int.natCast_emod]; exact this, ?_⟩
      exact Nat.lt_of_le_of_lt (Nat.mod_le _ _) hx
    · cases h
  case and => cases h; exact i64_bits x.x y.x hx hy (fun a b => a &&& b) (.inl ⟨rfl, rfl⟩)
  case or => cases h; exact i64_bits x.x y.x hx hy (fun a b => a ||| b) (.inr (.inl ⟨rfl, rfl⟩))
  case xor => cases h; exact i64_bits x.x y.x hx hy (fun a b => a ^^^ b) (.inr (.inr ⟨rfl, rfl⟩))
  case shl => simp only [bI, cmpN] at h; cases hq : x.l && y.l <;> rw [hq] at h <;> cases h
  case shr => simp only [bI, cmpN] at h; cases hq : x.l && y.l <;> rw [hq] at h <;> cases h
  case andNot => simp only [bI, cmpN] at h; cases hq : x.l && y.l <;> rw [hq] at h <;> cases h
  case eql => exact cmp_fin (op := .eql) rfl h ν q
  case neq => exact cmp_fin (op := .neq) rfl h ν q
  case lss => exact cmp_fin (op := .lss) rfl h ν q
  case leq => exact cmp_fin (op := .leq) rfl h ν q
  case gtr => exact cmp_fin (op := .gtr) rfl h ν q
  case geq => exact cmp_fin (op := .geq) rfl h ν q
theorem bZ_ok {x y : Int} {cs : List Cnd} {v : SV} (h : bZ op x y = some (cs, v)) (hc : allC cs) (hx : I63 x) (hy : I63 y) (ν : NV) (q : Nat) :
    RunB P op t xo yo (.int .i64 x) (.int .i64 y) (cv ν v) ∧ v.ok ν q := by
  unfold I63 at hx hy
  cases op
  case add => cases h; exact ⟨RunB.p rfl ⟨hc.1, hc.2.1, trivial⟩, hc.1, hc.2.1⟩
  case sub => cases h; exact ⟨RunB.p rfl ⟨hc.1, hc.2.1, trivial⟩, hc.1, hc.2.1⟩
  case mul => cases h; exact ⟨RunB.p rfl ⟨hc.1, hc.2.1, trivial⟩, hc.1, hc.2.1⟩
  case quo =>
    cases h
    have h0 : 0 ≤ x := hc.1
    have h1 : 0 < y := hc.2.1
    have h2 : 0 ≤ x / y := Int.ediv_nonneg h0 (by omega)
    have h3 : x / y ≤ x := Int.ediv_le_self _ h0
    exact ⟨RunB.p rfl ⟨h0, hx.2, h1, trivial⟩, by show I63 _; unfold I63; omega⟩
  case rem =>
    cases h
    have h0 : 0 ≤ x := hc.1
    have h1 : 0 < y := hc.2.1
    have h2 : 0 ≤ x % y := Int.emod_nonneg _ (by omega)
    have h3 : x % y < y := Int.emod_lt_of_pos _ h1
    exact ⟨RunB.p rfl ⟨h0, h1, trivial⟩, by show I63 _; unfold I63; omega⟩
  case and => simp [bZ, cmpZ] at h
  case or => simp [bZ, cmpZ] at h
  case xor => simp [bZ, cmpZ] at h
  case shl => simp [bZ, cmpZ] at h
  case shr => simp [bZ, cmpZ] at h
  case andNot => simp [bZ, cmpZ] at h
  case eql => exact cmp_finZ (op := .eql) rfl h ν q
  case neq => exact cmp_finZ (op := .neq) rfl h ν q
  case lss => exact cmp_finZ (op := .lss) rfl h ν q
  case leq => exact cmp_finZ (op := .leq) rfl h ν q
  case gtr => exact cmp_finZ (op := .gtr) rfl h ν q
  case geq => exact cmp_finZ (op := .geq) rfl h ν q
theorem uns_pow {k : IntKind} (h : uns k = true) : lim k = 2 ^ k.bits := by cases k <;> first | rfl | (cases h)
theorem pKind_uns {op : BinOp} {k : IntKind} (hk : uns k = true) (a b : Nat) : pKind op k k (a : Int) (b : Int) = pUns op k a b := by
  cases k <;> first | rfl | (cases hk)
theorem pBin_uns {op : BinOp} {k : IntKind} (hk : uns k = true) (a b : Nat) (h1 : op ≠ .shl) (h2 : op ≠ .shr) : pBin op (.int k (a : Int)) (.int k (b : Int)) = pUns op k a b := by
  rw [← pKind_uns hk]
  cases op <;> first | rfl | (exact absurd rfl h1) | (exact absurd rfl h2)
theorem bU_ok {k : IntKind} (hk : uns k = true) {x y : NT} {cs : List Cnd} {v : SV} (h : bU op k x y = some (cs, v)) (hc : allC cs) (hs : isSh op = false) (hx : x.x < lim k) (hy : y.x < lim k) (ν : NV) (q : Nat) :
    RunB P op t xo yo (.int k (x.x : Int)) (.int k (y.x : Int)) (cv ν v) ∧ v.ok ν q := by
  have hl := lim_mo hk
  have hm := mo_pos k
  have h1 : op ≠ .shl := by rintro rfl; cases hs
  have h2 : op ≠ .shr := by rintro rfl; cases hs
  have pb := pBin_uns (op := op) hk x.x y.x h1 h2
  cases op
  case add => cases h; exact ⟨RunB.p (cs := []) (by rw [pb, hl]; rfl) trivial, by show _ % _ < _; rw [hl]; exact Nat.mod_lt _ hm⟩
  case sub => cases h; exact ⟨RunB.p (cs := [y.x ≤ mo k]) (by rw [pb, hl]; rfl) ⟨by omega, trivial⟩, by show _ % _ < _; rw [hl]; exact Nat.mod_lt _ hm⟩
  case mul => cases h; exact ⟨RunB.p (cs := []) (by rw [pb, hl]; rfl) trivial, by show _ % _ < _; rw [hl]; exact Nat.mod_lt _ hm⟩
  case and => cases h; exact ⟨RunB.p (cs := [x.x < mo k, y.x < mo k]) (by rw [pb]; rfl) ⟨by omega, by omega, trivial⟩, Nat.lt_of_le_of_lt Nat.and_le_left hx⟩
  case or =>
    cases h
    refine ⟨RunB.p (cs := [x.x < mo k, y.x < mo k]) (by rw [pb]; rfl) ⟨by omega, by omega, trivial⟩, ?_⟩
    show x.x ||| y.x < lim k
    rw [uns_pow hk] at *
    exact Nat.or_lt_two_pow hx hy
  case xor =>
    cases h
    refine ⟨RunB.p (cs := [x.x < mo k, y.x < mo k]) (by rw [pb]; rfl) ⟨by omega, by omega, trivial⟩, ?_⟩
    show x.x ^^^ y.x < lim k
    rw [uns_pow hk] at *
    exact Nat.xor_lt_two_pow hx hy
  case quo =>
    simp only [bU] at h
    split at h
    · rename_i cs' hp
      cases h
      exact ⟨RunB.p (cs := [x.x < mo k, 0 < y.x]) (by rw [pb]; rfl) ⟨by omega, pos_ok hp hc, trivial⟩, Nat.lt_of_le_of_lt (Nat.div_le_self _ _) hx⟩
    · cases h
  case rem =>
    simp only [bU] at h
    split at h
    · rename_i cs' hp
      cases h
      exact ⟨RunB.p (cs := [0 < y.x]) (by rw [pb]; rfl) ⟨pos_ok hp hc, trivial⟩, Nat.lt_of_le_of_lt (Nat.mod_le _ _) hx⟩
    · cases h
  case shl => cases hs
  case shr => cases hs
  case andNot => simp only [bU, cmpN] at h; cases hq : x.l && y.l <;> rw [hq] at h <;> cases h
  case eql => exact cmp_fin (op := .eql) (pb.trans rfl) h ν q
  case neq => exact cmp_fin (op := .neq) (pb.trans rfl) h ν q
  case lss => exact cmp_fin (op := .lss) (pb.trans rfl) h ν q
  case leq => exact cmp_fin (op := .leq) (pb.trans rfl) h ν q
  case gtr => exact cmp_fin (op := .gtr) (pb.trans rfl) h ν q
  case geq => exact cmp_fin (op := .geq) (pb.trans rfl) h ν q
theorem pBin_sh {op : BinOp} {k k' : IntKind} (h : isSh op = true) (a : Int) (b : Nat) : pBin op (.int k a) (.int k' (b : Int)) = pShift op k a b := by
  cases op <;> first | rfl | (cases h)
theorem shlN_eq (s : NT) (x : Nat) : shlN s x = x * 2 ^ s.x := by
  unfold shlN
  cases s.l && Nat.ble 16 s.x with
  | true => exact Nat.shiftLeft_eq _ _
  | false => rfl
theorem shN_ok {k k' : IntKind} {x s : NT} {cs : List Cnd} {v : SV} (h : shN op k x s = some (cs, v)) (hc : allC cs) (hx : x.x < lim k) (ν : NV) (q : Nat) :
    RunB P op t xo yo (.int k (x.x : Int)) (.int k' (s.x : Int)) (cv ν v) ∧ v.ok ν q := by
  have hsh : isSh op = true := by cases op <;> first | rfl | (cases h)
  have pb := pBin_sh (k := k) (k' := k') hsh (x.x : Int) s.x
  cases op <;> simp only [shN, reduceCtorEq] at h
  · cases hk : uns k with
    | true =>
      rw [hk] at h
      rw [shlN_eq] at h
      cases h
      have hl := lim_mo hk
      refine ⟨RunB.p (cs := []) ?_ trivial, by show _ % _ < _; rw [hl]; exact Nat.mod_lt _ (mo_pos k)⟩
      rw [pb, hl]
      show pShift _ _ (.ofNat _) _ = _
      simp only [pShift, hk]
      rfl
    | false =>
      rw [hk] at h
      cases hq : kq k .i64 with
      | false => rw [hq] at h; cases h
      | true =>
        rw [hq] at h
        have := kq_eq hq
        subst this
        have h : topN (x.l && s.l) (x.x <<< s.x) = some (cs, v) := h
        rw [Nat.shiftLeft_eq] at h
        obtain ⟨b, rfl, hb⟩ := topN_ok h hc
        refine ⟨RunB.p (cs := [x.x * 2 ^ s.x < 9223372036854775808]) (by rw [pb]; rfl) ⟨by omega, trivial⟩, lt64 (by omega)⟩
  · cases hk : uns k with
    | true =>
      rw [hk] at h
      cases h
      have hl := lim_mo hk
      refine ⟨RunB.p (cs := [x.x < mo k]) ?_ ⟨by omega, trivial⟩, Nat.lt_of_le_of_lt (Nat.div_le_self _ _) hx⟩
      rw [pb]
      show pShift _ _ (.ofNat _) _ = _
      simp only [pShift, hk]
      rfl
    | false =>
      rw [hk] at h
      cases hq : kq k .i64 with
      | false => rw [hq] at h; cases h
      | true =>
        rw [hq] at h
        have := kq_eq hq
        subst this
        cases h
        refine ⟨fun w => ?_, Nat.lt_of_le_of_lt (Nat.div_le_self _ _) hx⟩
        replace hx : x.x < 9223372036854775808 := hx
        simp only [Sem.run_bind, eqGuard_int, Result.andThen_ok]
        have hneg : ¬ ((s.x : Int) < 0) := by omega
        have hb : ((s.x : Int)).toNat = s.x := by omega
        simp only [binOp, Op.shift, if_neg hneg, hb, run_ok, IntKind.bits]
        have e0 : ((x.x : Int)).fdiv (2 ^ min s.x 64) = ((x.x / 2 ^ min s.x 64 : Nat) : Int) := by
          rw [Int.fdiv_eq_ediv_of_nonneg _ (by have : (0 : Int) < 2 ^ min s.x 64 := Int.pow_pos (by decide); omega)]
          simp
        have e : x.x / 2 ^ min s.x 64 = x.x / 2 ^ s.x := by
          rcases Nat.le_total s.x 64 with z | z
          · rw [Nat.min_eq_left z]
          · have h1 : x.x < 2 ^ 64 := by omega
            rw [Nat.min_eq_right z, Nat.div_eq_of_lt h1, Nat.div_eq_of_lt (Nat.lt_of_lt_of_le h1 (Nat.pow_le_pow_right (by decide) z))]
        rw [e0, e]; rfl
theorem cv_N (ν : NV) (k : IntKind) (x : NT) : cv ν (.N k x) = .int k (x.x : Int) := rfl
theorem binNN_ok {k k' : IntKind} {x y : NT} {cs : List Cnd} {v : SV} (ν : NV) (q : Nat) (h : binNN op k x k' y = some (cs, v)) (hc : allC cs) (ha : x.x < lim k) (hb : y.x < lim k') :
    RunB P op t xo yo (.int k (x.x : Int)) (.int k' (y.x : Int)) (cv ν v) ∧ v.ok ν q := by
  unfold binNN at h
  cases hs : isSh op with
  | true =>
    rw [hs] at h
    exact shN_ok (k' := k') h hc ha ν q
  | false =>
    rw [hs] at h
    cases hk : kq k k' with
    | false => rw [hk] at h; cases h
    | true =>
      rw [hk] at h
      have := kq_eq hk
      subst this
      cases hu : uns k with
      | true =>
        rw [hu] at h
        exact bU_ok hu h hc hs ha hb ν q
      | false =>
        rw [hu] at h
        cases hq : kq k .i64 with
        | false => rw [hq] at h; cases h
        | true =>
          rw [hq] at h
          have := kq_eq hq
          subst this
          exact bI_ok h hc ha hb ν q
theorem N_I63 {x : Nat} (h : x < lim .i64) : I63 (x : Int) := by
  replace h : x < 9223372036854775808 := h
  unfold I63; omega
theorem binNZ_ok {k : IntKind} {x : NT} {y : Int} {cs : List Cnd} {v : SV} (ν : NV) (q : Nat) (h : binNZ op k x y = some (cs, v)) (hc : allC cs) (ha : x.x < lim k) (hb : I63 y) :
    RunB P op t xo yo (.int k (x.x : Int)) (.int .i64 y) (cv ν v) ∧ v.ok ν q := by
  unfold binNZ at h
  cases hs : isSh op with
  | true =>
    rw [hs] at h
    simp only [cond_true] at h
    split at h
    · rename_i cs' v' hsh
      cases h
      have h0 : 0 ≤ y := hc.1
      have := shN_ok (P := P) (t := t) (xo := xo) (yo := yo) (k' := .i64) hsh hc.2 ha ν q
      rwa [show (((y.toNat : Nat) : Int)) = y by omega] at this
    · cases h
  | false =>
    rw [hs] at h
    cases hq : kq k .i64 with
    | false => rw [hq] at h; cases h
    | true =>
      rw [hq] at h
      have := kq_eq hq
      subst this
      exact bZ_ok h hc (N_I63 ha) hb ν q
theorem binZN_ok {k : IntKind} {x : Int} {y : NT} {cs : List Cnd} {v : SV} (ν : NV) (q : Nat) (h : binZN op x k y = some (cs, v)) (hc : allC cs) (ha : I63 x) (hb : y.x < lim k) :
    RunB P op t xo yo (.int .i64 x) (.int k (y.x : Int)) (cv ν v) ∧ v.ok ν q := by
  unfold binZN at h
  cases hs : isSh op with
  | true =>
    rw [hs] at h
    cases op <;> simp only [cond_true, reduceCtorEq] at h
    cases hq : y.l && Nat.ble y.x 63 with
    | false => rw [hq] at h; cases h
    | true =>
      rw [hq] at h
      cases h
      simp only [Bool.and_eq_true] at hq
      have hle : y.x ≤ 63 := Nat.le_of_ble_eq_true hq.2
      refine ⟨RunB.p (cs := [y.x ≤ 64]) ?_ ⟨by omega, trivial⟩, ?_⟩
      · rw [pBin_sh rfl]; rfl
      · show I63 (x / 2 ^ y.x)
        unfold I63 at *
        have hp : (0 : Int) < 2 ^ y.x := Int.pow_pos (by decide)
        have h1 : (1 : Int) ≤ 2 ^ y.x := hp
        rcases Int.le_total 0 x with z | z
        · have := Int.ediv_nonneg z (Int.le_of_lt hp)
          have := Int.ediv_le_self (2 ^ y.x) z
          omega
        · have h2 : x / 2 ^ y.x ≤ 0 := by
            have := Int.ediv_le_ediv hp z
            simpa using this
          have h3 : x ≤ x / 2 ^ y.x := by
            rw [Int.le_ediv_iff_mul_le hp]
            have : x * 2 ^ y.x ≤ x * 1 := Int.mul_le_mul_of_nonpos_left z h1
            omega
          omega
  | false =>
    rw [hs] at h
    cases hq : kq k .i64 with
    | false => rw [hq] at h; cases h
    | true =>
      rw [hq] at h
      have := kq_eq hq
      subst this
      exact bZ_ok h hc ha (N_I63 hb) ν q
theorem binZZ_ok {x y : Int} {cs : List Cnd} {v : SV} (ν : NV) (q : Nat) (h : binZZ op x y = some (cs, v)) (hc : allC cs) (ha : I63 x) (hb : I63 y) :
    RunB P op t xo yo (.int .i64 x) (.int .i64 y) (cv ν v) ∧ v.ok ν q := by
  unfold binZZ at h
  cases hs : isSh op with
  | true => rw [hs] at h; cases h
  | false => rw [hs] at h; exact bZ_ok h hc ha hb ν q

/-! ### One operand -/
theorem unS_ok {uo : UnOp} {a : SV} {cs : List Cnd} {v : SV} (ν : NV) (q : Nat) (h : unS uo a = some (cs, v)) (hc : allC cs) (ha : a.ok ν q) (P : Program) (w : World) : (Op.unary uo (cv ν a)).run P w = .ok (cv ν v) w ∧ v.ok ν q := by
  unfold unS at h
  split at h <;> (try (cases h; done))
  · cases h; exact ⟨rfl, trivial⟩
  · cases h; exact ⟨rfl, trivial⟩
  · cases h
    rename_i x
    refine ⟨?_, trivial⟩
    show Result.ok (Value.bool (!x)) w = Result.ok (Value.bool (!decide (x = true))) w
    cases x <;> rfl
  · cases h
    rename_i neg p d
    refine ⟨?_, trivial⟩
    cases neg
    · rfl
    · show Result.ok (Value.bool (!(!(@decide p d)))) w = Result.ok (Value.bool (@decide p d)) w
      rw [Bool.not_not]
  · cases h
    rename_i x
    have hx : x.x < 9223372036854775808 := ha
    refine ⟨?_, by show I63 _; unfold I63; omega⟩
    simp only [cv, cv3, Op.unary, Op.intArith, Sem.run_bind, Sem.run_pure, Result.andThen_ok]
    rw [wrap_i64 (by omega) (by omega), Int.zero_sub]
  · cases h
    rename_i l x
    have hx : I63 x := ha
    unfold I63 at hx
    have h1 : -9223372036854775807 ≤ x := hc.1
    refine ⟨?_, by show I63 _; unfold I63; omega⟩
    simp only [cv, cv3, Op.unary, Op.intArith, Sem.run_bind, Sem.run_pure, Result.andThen_ok]
    rw [wrap_i64 (by omega) (by omega), Int.zero_sub]
  · rename_i k x
    cases hu : uns k with
    | false => rw [hu] at h; cases h
    | true =>
      rw [hu] at h
      cases h
      have hl := lim_mo hu
      have hx : x.x < lim k := ha
      have c1 : x.x < mo k := by omega
      have hm := mo_pos k
      refine ⟨?_, by show lim k - 1 - x.x < lim k; omega⟩
      have hsg : k.signed = false := by cases k <;> first | rfl | (cases hu)
      have e0 : k.max = ((2 ^ k.bits - 1 : Nat) : Int) := by cases k <;> first | rfl | (cases hu)
      have hp : 0 < 2 ^ k.bits := Nat.two_pow_pos _
      simp only [cv, cv3, Op.unary, hsg, Bool.false_eq_true, if_false, Op.intBits, Sem.run_bind, Sem.run_pure, Result.andThen_ok, BitVec.toNat_xor]
      rw [e0, bits_ofNat k.bits (2 ^ k.bits - 1) (by omega), bits_ofNat k.bits x.x (by rw [← mo_pow]; exact c1)]
      have hxx : (2 ^ k.bits - 1) ^^^ x.x = mo k - 1 - x.x := by
        rw [mo_pow]
        rw [mo_pow] at c1
        apply Nat.eq_of_testBit_eq
        intro i
        rw [show 2 ^ k.bits - 1 - x.x = 2 ^ k.bits - (x.x + 1) by omega, Nat.testBit_xor, Nat.testBit_two_pow_sub_succ c1, Nat.testBit_two_pow_sub_one]
        by_cases hi : i < k.bits
        · simp [hi]
        · simp [hi]
          exact Nat.testBit_lt_two_pow (Nat.lt_of_lt_of_le c1 (Nat.pow_le_pow_right (by decide) (by omega)))
      rw [hxx, wrap_lt hu (by omega), hl]
theorem convS_ok {k : IntKind} {a : SV} {cs : List Cnd} {v : SV} (ν : NV) (q : Nat) (h : convS k a = some (cs, v)) (hc : allC cs) (ha : a.ok ν q) : (∃ k' x, cv ν a = .int k' x ∧ ∀ (P : Program) w, (Conv.intToInt k x).run P w = .ok (cv ν v) w) ∧ v.ok ν q := by
  unfold convS at h
  split at h
  · rename_i k' x
    have hx : x.x < lim k' := ha
    cases hu : uns k with
    | true =>
      rw [hu] at h
      have hl := lim_mo hu
      cases hb : Nat.ble (lim k') (lim k) with
      | true =>
        rw [hb] at h
        cases h
        have hle : lim k' ≤ lim k := Nat.le_of_ble_eq_true hb
        refine ⟨⟨k', _, rfl, fun P w => ?_⟩, by show x.x < lim k; omega⟩
        simp only [Conv.intToInt, run_ok]
        rw [wrap_lt hu (by omega)]; rfl
      | false =>
        rw [hb] at h
        cases h
        refine ⟨⟨k', _, rfl, fun P w => ?_⟩, by show x.x % lim k < lim k; rw [hl]; exact Nat.mod_lt _ (mo_pos k)⟩
        simp only [Conv.intToInt, run_ok]
        rw [wrap_ofNat hu, ← hl]; rfl
    | false =>
      rw [hu] at h
      cases hq : kq k .i64 with
      | false => rw [hq] at h; cases h
      | true =>
        rw [hq] at h
        have := kq_eq hq
        subst this
        cases hb : Nat.ble (lim k') (lim .i64) with
        | true =>
          rw [hb] at h
          cases h
          have hle : lim k' ≤ 9223372036854775808 := Nat.le_of_ble_eq_true hb
          refine ⟨⟨k', _, rfl, fun P w => ?_⟩, lt64 (by omega)⟩
          simp only [Conv.intToInt, run_ok]
          rw [wrap_i64 (by omega) (by omega)]; rfl
        | false =>
          rw [hb] at h
          obtain ⟨b, rfl, hb⟩ := topN_ok (show topN _ _ = _ from h) hc
          refine ⟨⟨k', _, rfl, fun P w => ?_⟩, lt64 hb⟩
          simp only [Conv.intToInt, run_ok]
          rw [wrap_i64 (by omega) (by omega)]; rfl
  · rename_i l x
    have hx : I63 x := ha
    cases hu : uns k with
    | true =>
      rw [hu] at h
      cases h
      have hl := lim_mo hu
      have hm := mo_pos k
      have h0 : 0 ≤ x % (lim k : Int) := Int.emod_nonneg _ (by omega)
      have h1 : x % (lim k : Int) < (lim k : Int) := Int.emod_lt_of_pos _ (by omega)
      refine ⟨⟨.i64, _, rfl, fun P w => ?_⟩, by show (x % (lim k : Int)).toNat < lim k; omega⟩
      simp only [Conv.intToInt, run_ok]
      rw [wrap_uns hu, ← hl]
      show _ = Result.ok (Value.int k (((x % (lim k : Int)).toNat : Nat) : Int)) w
      rw [Int.toNat_of_nonneg h0]
    | false =>
      rw [hu] at h
      cases hq : kq k .i64 with
      | false => rw [hq] at h; cases h
      | true =>
        rw [hq] at h
        have := kq_eq hq
        subst this
        cases h
        refine ⟨⟨.i64, _, rfl, fun P w => ?_⟩, hx⟩
        simp only [Conv.intToInt, run_ok]
        rw [wrap_i64 hx.1 hx.2]; rfl
  · cases h
end
end Go.Proofs.Ytnagkhofkjjajaa
