/- The symbolic walk is sound: where ways join. Lemmas, no statement of the claim. -/
import Derived.Test.YtnagkhofkjjajaaYt
/- The symbolic walk is sound: an operation's place in code. Lemmas, no statement of the claim. -/
set_option linter.unusedVariables false
set_option linter.unusedSimpArgs false
namespace Go.Proofs.Ytnagkhofkjjajaa
open Go.RowKit
theorem look_of {F : List (Nat × Value)} : True := trivial
section
variable {P : Program} {D : List (Nat × TD)} {ν : NV} {q : Nat} {w0 : World} {X : XS} {N : Nat} {S : St} {a : Act} {w : World}
theorem getP_put (S : St) {t : Nat} (ht : t < 4000) (v : SV) (m : Nat) : (S.put t v).get m = if t = m then some v else S.get m := put_get S.F ht (some v) m
/-- an operation's value laid into its slot -/
theorem Rep.step (R : Rep ν q w0 X N S a w) (hN : N ≤ 4000) {ν' : NV} {q' : Nat} {w' : World} {H' : List (Nat × Nat × HC)} {v : SV} {d : Option Nat} (hq : q ≤ q') (ha : Agr q ν ν') (M : Mem ν' q' w0 X H' w') (hv : v.ok ν' q') (hd : ∀ t, d = some t → t < N) :
    Rep ν' q' w0 X N (putD ⟨S.F, H'⟩ d v) (a.put d (cv ν' v)) w' := by
  have old : ∀ t u, S.get t = some u → a.tmps[t]? = some (cv ν' u) ∧ u.ok ν' q' := fun t u h => by
    obtain ⟨h1, h2⟩ := R.fr t u h
    exact ⟨by rw [cv_agr ha h2]; exact h1, ok_mono hq u (ok_agr ha u h2).1⟩
  cases d with
  | none => exact ⟨R.size, R.df, fun t u h => old t u h, M⟩
  | some t =>
    have htN := hd t rfl
    refine ⟨by simp [Act.put, R.size], by simp [Act.put, R.df], fun m u h => ?_, M⟩
    have h' : (St.put ⟨S.F, H'⟩ t v).get m = some u := h
    rw [getP_put _ (by omega)] at h'
    split at h'
    · rename_i e
      subst e
      cases h'
      exact ⟨by simp [Act.put, R.size, htN], hv⟩
    · rename_i e
      obtain ⟨h1, h2⟩ := old m u h'
      refine ⟨?_, h2⟩
      simp only [Act.put, Array.getElem?_setIfInBounds]
      rw [if_neg e]; exact h1
theorem Rep.lt (R : Rep ν q w0 X N S a w) {t : Nat} {v : SV} (h : S.get t = some v) : t < N := by
  obtain ⟨h1, _⟩ := R.fr t v h
  have := (Array.getElem?_eq_some_iff.1 h1).1
  rw [R.size] at this; exact this
/-- what a slot holds is told in other words -/
theorem Rep.narrow (R : Rep ν q w0 X N S a w) (hN : N ≤ 4000) {t : Nat} {v u : SV} (h : S.get t = some v) (hc : cv ν u = cv ν v) (hu : u.ok ν q) : Rep ν q w0 X N (S.put t u) a w := by
  have htN := R.lt h
  refine ⟨R.size, R.df, fun m x hx => ?_, R.mem⟩
  rw [getP_put _ (by omega)] at hx
  split at hx
  · rename_i e
    subst e
    cases hx
    exact ⟨by rw [hc]; exact (R.fr t v h).1, hu⟩
  · exact R.fr m x hx
theorem Rep.hev (R : Rep ν q w0 X N S a w) : ∀ x v, opS S.get x = some v → a.eval x = cv ν v ∧ v.ok ν q := fun x v h => R.op h
theorem gds_some {α : Type} : ∀ {cs : List Cnd} {x : Option α} {r : α}, gds cs x = some r → allC cs ∧ x = some r
  | [], x, r, h => ⟨trivial, h⟩
  | c :: cs, x, r, h => by
    unfold gds gd at h
    split at h
    · rename_i hc
      obtain ⟨h1, h2⟩ := gds_some h
      exact ⟨⟨hc, h1⟩, h2⟩
    · cases h
theorem ifv_ok {α : Type} {v : SV} {A B : Option α} {r : α} (h : ifv v A B = some r) : ∃ b : Bool, (∀ ν, cv ν v = .bool b) ∧ (bif b then A else B) = some r := by
  unfold ifv at h
  split at h
  · exact ⟨true, fun _ => rfl, h⟩
  · exact ⟨false, fun _ => rfl, h⟩
  · rename_i x
    split at h
    · rename_i e; exact ⟨true, fun _ => by rw [e]; rfl, h⟩
    · rename_i e
      have e : x = false := by cases x <;> first | rfl | exact absurd rfl e
      exact ⟨false, fun _ => by rw [e]; rfl, h⟩
  · rename_i q d
    split at h
    · rename_i e; exact ⟨true, fun _ => by show Value.bool (@decide q d) = _; simp [e], h⟩
    · rename_i e; exact ⟨false, fun _ => by show Value.bool (@decide q d) = _; simp [e], h⟩
  · rename_i q d
    split at h
    · rename_i e; exact ⟨false, fun _ => by show Value.bool (!@decide q d) = _; simp [e], h⟩
    · rename_i e; exact ⟨true, fun _ => by show Value.bool (!@decide q d) = _; simp [e], h⟩
  · cases h
/-- slots outside of these are as they were -/
def Kp (W : List Nat) (a a' : Act) : Prop := ∀ t, t ∉ W → a'.tmps[t]? = a.tmps[t]?
theorem Kp.refl (W : List Nat) (a : Act) : Kp W a a := fun _ _ => rfl
theorem Kp.trans {W : List Nat} {a b c : Act} (h : Kp W a b) (g : Kp W b c) : Kp W a c := fun t ht => (g t ht).trans (h t ht)
theorem Kp.mono {W V : List Nat} {a b : Act} (h : Kp W a b) (g : ∀ t, t ∈ W → t ∈ V) : Kp V a b := fun t ht => h t (fun q => ht (g t q))
theorem Kp.put {W : List Nat} (a : Act) {d : Option Nat} (h : ∀ t, d = some t → t ∈ W) (v : Value) : Kp W a (a.put d v) := fun t ht => by
  cases d with
  | none => rfl
  | some u =>
    simp only [Act.put, Array.getElem?_setIfInBounds]
    rw [if_neg]
    rintro rfl
    exact ht (h u rfl)
/-- the panic that is known -/
def pch (E : Env) : List PanicEntry := [{ v := .iface E.pt (.agg ⟨[]⟩), recovered := false }]
/-- What one operation does, whatever the world is. -/
structure Stp (P : Program) (N : Nat) (o : Oper) (q : Nat) (S : St) (q' : Nat) (S' : St) : Prop where
  le : q ≤ q'
  frz : Frz q S.H S'.H
  go : ∀ (ν : NV) (w0 : World) (X : XS) (a : Act) (w : World) (ops : Array Oper) (Q : Exit → Act → World → Prop) (KK : Act → World → Prop), Rep ν q w0 X N S a w →
    (∀ ν' a' w' u, Agr q ν ν' → a' = a.put o.dst u → Rep ν' q' w0 X N S' a' w' → KK a' w') → One P ops Q { o with guard := none } KK a w
/-- the same of one that panics -/
structure StpP (P : Program) (E : Env) (N : Nat) (o : Oper) (q : Nat) (S : St) (q' : Nat) (S' : St) : Prop where
  le : q ≤ q'
  frz : Frz q S.H S'.H
  go : ∀ (ν : NV) (w0 : World) (X : XS) (a : Act) (w : World) (ops : Array Oper) (Q : Exit → Act → World → Prop) (KK : Act → World → Prop), Rep ν q w0 X N S a w →
    (∀ ν' w', Agr q ν ν' → Rep ν' q' w0 X N S' a w' → Q (.panic (pch E)) a w') → One P ops Q { o with guard := none } KK a w
def CallOk (P : Program) (g : Nat) (args : Array Value) (w : World) (S : Value → World → Prop) : Prop :=
  (callable P g ∧ Calls P g args w (Ret S)) ∨ ∃ v w', (callFunc g args).run P w = .ok (.value v) w' ∧ S v w'
def HndOk (P : Program) (E : Env) (h : Hnd) : Prop :=
  ∀ (τ : Type) (g : Nat) (args : List SV) (q : Nat) (S : St) (k : SV → Nat → St → Option τ) (pn : Nat → St → Option τ) (r : τ), h τ g args q S k pn = some r →
    ∃ q' H', q ≤ q' ∧ Frz q S.H H' ∧ ((∃ v, k v q' ⟨S.F, H'⟩ = some r ∧ ∀ (ν : NV) (w0 : World) (X : XS) (w : World), (∀ v, v ∈ args → v.ok ν q) → Mem ν q w0 X S.H w →
      CallOk P g (args.map (cv ν)).toArray w (fun u w' => ∃ ν', Agr q ν ν' ∧ u = cv ν' v ∧ v.ok ν' q' ∧ Mem ν' q' w0 X H' w')) ∨
     (pn q' ⟨S.F, H'⟩ = some r ∧ ∀ (ν : NV) (w0 : World) (X : XS) (w : World), (∀ v, v ∈ args → v.ok ν q) → Mem ν q w0 X S.H w →
      callable P g ∧ Calls P g (args.map (cv ν)).toArray w (fun e w' => e = .panicked (pch E) ∧ ∃ ν', Agr q ν ν' ∧ Mem ν' q' w0 X H' w')))
theorem put_H (S : St) (t : Nat) (v : SV) : (S.put t v).H = S.H := rfl
theorem putD_H (S : St) (d : Option Nat) (v : SV) : (putD S d v).H = S.H := by cases d <;> rfl
theorem evK_ok (hT : TDok P D) (hN : N ≤ 4000) {τ : Type} {o : Oper} {k : Nat → St → Option τ} {r : τ} (hd : ∀ t, o.dst = some t → t < N) (h : evK D o q S k = some r) : ∃ q' S', k q' S' = some r ∧ Stp P N o q S q' S' := by
  unfold evK at h
  split at h
  · rename_i e he
    obtain ⟨h1, h2⟩ := gds_some h
    refine ⟨_, _, h2, Nat.le_succ _, ?_, ?_⟩
    · rw [putD_H]; exact ev_frz he
    · intro ν w0 X a w ops Q KK R hK
      obtain ⟨ν', w', res, g1, g2, g3, g4, g5⟩ := ev_ok hT R.mem rfl R.hev (fun c => rfl) he h1
      have hstep := fun u (hu : u = cv ν' e.v) => hK ν' (a.put o.dst u) w' u g1 rfl (by rw [hu]; exact R.step hN (Nat.le_succ _) g1 g4 g5 hd)
      have hrun : (execOp a.eval { o with guard := none }).run P w = .ok res w' := g2
      rcases g3 with rfl | ⟨rfl, hud⟩
      · exact One.val rfl hrun (hstep _ rfl)
      · exact One.skip rfl hrun (hstep undef (by rw [hud]; rfl))
  · cases h
theorem items_cv (ν : NV) : ∀ (v : SV), (v.items).map (cv ν) = itv ν v ∧ (v.ok ν q → ∀ u, u ∈ v.items → u.ok ν q)
  | .pr a b => by
    obtain ⟨h1, h2⟩ := items_cv ν b
    exact ⟨by show cv ν a :: (b.items).map (cv ν) = _; rw [h1]; rfl, fun h u hu => by
      rcases List.mem_cons.1 (show u ∈ a :: b.items from hu) with rfl | hu
      · exact h.1
      · exact h2 h.2 u hu⟩
  | .N _ _ | .Z _ _ | .B _ | .tt | .ff | .P _ _ _ | .S _ | .an _ _ _ | .az _ _ | .one _ | .U | .sl _ _ _ _ _ _ _ | .nl | .ptr _ _ _ | .av _ _ _ _ _ | .np | .fn _ _ _ | .tp _ | .ov _ | .ud => ⟨rfl, fun _ u hu => by cases hu⟩
theorem app_eq {α : Type} : ∀ (a b : List α), app a b = a ++ b
  | [], b => rfl
  | x :: a, b => by simp [app, app_eq a b]
theorem Rep.world (R : Rep ν q w0 X N S a w) {ν' : NV} {q' : Nat} {w' : World} {H' : List (Nat × Nat × HC)} (hq : q ≤ q') (ha : Agr q ν ν') (M : Mem ν' q' w0 X H' w') : Rep ν' q' w0 X N ⟨S.F, H'⟩ a w' :=
  ⟨R.size, R.df, fun t u h => by
    obtain ⟨h1, h2⟩ := R.fr t u h
    exact ⟨by rw [cv_agr ha h2]; exact h1, ok_mono hq u (ok_agr ha u h2).1⟩, M⟩
theorem run_panic (t : Nat) (v : Value) : (Instr.panic (.iface t v)).run P w = .halt (.panic (.iface t v)) w := rfl
theorem exec1_ok (hT : TDok P D) (hN : N ≤ 4000) {E : Env} (hE : E.D = D) {h : Hnd} (hh : HndOk P E h) {τ : Type} {o : Oper} {k pn : Nat → St → Option τ} {r : τ} (hd : ∀ t, o.dst = some t → t < N)
    (he : exec1 E h o q S k pn = some r) : ∃ q' S', (k q' S' = some r ∧ Stp P N o q S q' S') ∨ (pn q' S' = some r ∧ StpP P E N o q S q' S') := by
  subst hE
  unfold exec1 at he
  split at he
  · rename_i f args tys hop
    split at he
    · rename_i g fi cap l hf hl
      obtain ⟨q', H', h2, h3, hres⟩ := hh _ _ _ _ _ _ _ _ he
      have hrun : ∀ (ν : NV) (w0 : World) (X : XS) (a : Act) (w : World), Rep ν q w0 X N S a w → (∀ u, u ∈ app fi.items (app l cap.items) → u.ok ν q) ∧ (execOp a.eval { o with guard := none }).run P w = (callFunc g ((app fi.items (app l cap.items)).map (cv ν)).toArray).run P w := by
        intro ν w0 X a w R
        obtain ⟨e1, e2⟩ := R.op hf
        obtain ⟨e3, e4⟩ := R.ops hl
        obtain ⟨i1, i2⟩ := items_cv (q := q) ν fi
        obtain ⟨j1, j2⟩ := items_cv (q := q) ν cap
        refine ⟨fun u hu => ?_, ?_⟩
        · rw [app_eq, app_eq] at hu
          rcases List.mem_append.1 hu with hu | hu
          · exact i2 e2.1 u hu
          · rcases List.mem_append.1 hu with hu | hu
            · exact e4 u hu
            · exact j2 e2.2 u hu
        · have hm' : args.map a.eval = (l.map (cv ν)).toArray := by apply Array.toList_inj.1; rw [Array.toList_map]; exact e3
          have hfe : a.eval f = .func (.func g) (itv ν fi).toArray (itv ν cap).toArray := e1
          simp only [execOp, hop, resolve, hfe, Deferred.ofValue, hm', invoke, app_eq, List.map_append, i1, j1]
          simp [invoke]
      rcases hres with ⟨v, h1, h4⟩ | ⟨h1, h4⟩
      · refine ⟨q', _, .inl ⟨h1, h2, by rw [putD_H]; exact h3, ?_⟩⟩
        intro ν w0 X a w ops Q KK R hK
        obtain ⟨hargs, hrun⟩ := hrun ν w0 X a w R
        rcases h4 ν w0 X w hargs R.mem with ⟨c1, c2⟩ | ⟨u, w', c1, ν', c2, c3, c4, c5⟩
        · unfold One
          rw [if_pos (by simp [Region.wanted])]
          refine .inl ?_
          unfold Oper.wp
          rw [hrun, c1]
          simp only [Oper.upon]
          refine c2.mono fun e w' hq => ?_
          obtain ⟨u, rfl, ν', c2, c3, c4, c5⟩ := hq
          subst c3
          exact hK ν' _ w' _ c2 rfl (R.step hN h2 c2 c5 c4 hd)
        · subst c3
          exact One.val rfl (hrun.trans c1) (hK ν' _ w' _ c2 rfl (R.step hN h2 c2 c5 c4 hd))
      · refine ⟨q', _, .inr ⟨h1, h2, h3, ?_⟩⟩
        intro ν w0 X a w ops Q KK R hK
        obtain ⟨hargs, hrun⟩ := hrun ν w0 X a w R
        obtain ⟨c1, c2⟩ := h4 ν w0 X w hargs R.mem
        unfold One
        rw [if_pos (by simp [Region.wanted])]
        refine .inl ?_
        unfold Oper.wp
        rw [hrun, c1]
        simp only [Oper.upon]
        refine c2.mono fun e w' hq => ?_
        obtain ⟨rfl, ν', c2, c3⟩ := hq
        exact hK ν' w' c2 (R.world h2 c2 c3)
    · cases he
  · rename_i x hop
    cases hb : isPan E.pt (opS S.get x) with
    | false => rw [hb] at he; cases he
    | true =>
      rw [hb] at he
      refine ⟨q, S, .inr ⟨he, Nat.le_refl _, Frz.refl _ _, ?_⟩⟩
      intro ν w0 X a w ops Q KK R hK
      have hx : opS S.get x = some (.ov (.iface E.pt (.agg ⟨[]⟩))) := by
        unfold isPan at hb
        split at hb
        · rename_i t' heq; rw [heq, beqT hb]
        · cases hb
      obtain ⟨e1, _⟩ := R.op hx
      have hrun : (execOp a.eval { o with guard := none }).run P w = .halt (.panic (.iface E.pt (.agg ⟨[]⟩))) w := by
        simp only [execOp, hop, e1]
        rfl
      unfold One
      rw [if_pos (by simp [Region.wanted])]
      refine .inl ?_
      unfold Oper.wp
      rw [hrun]
      exact hK ν w (Agr.refl _ _) R
  · rename_i t x y hop
    split at he
    · rename_i v hv
      obtain ⟨b, hb, hr⟩ := ifv_ok he
      have hev : evK E.D o q (S.put t (b2 b)) k = some r := by cases b <;> exact hr
      obtain ⟨q', S', h1, h2, h3, h4⟩ := evK_ok hT hN hd hev
      refine ⟨q', S', .inl ⟨h1, h2, h3, fun ν w0 X a w ops Q KK R hK => h4 ν w0 X a w ops Q KK ?_ hK⟩⟩
      exact R.narrow hN hv (by rw [b2_cv, hb]) (b2_ok _ _ _)
    · cases he
  · obtain ⟨q', S', h1, h2⟩ := evK_ok hT hN hd he
    exact ⟨q', S', .inl ⟨h1, h2⟩⟩
end
end Go.Proofs.Ytnagkhofkjjajaa

/- The symbolic walk is sound: regions in order. Lemmas, no statement of the claim. -/
set_option linter.unusedVariables false
set_option linter.unusedSimpArgs false
namespace Go.Proofs.Ytnagkhofkjjajaa
open Go.RowKit
/-- ways out of a part of code -/
inductive XT where
  | nr | ex (i : Nat) | rt | pn
def XT.e (E : Env) : XT → Exit
  | .nr => .normal
  | .ex i => .exit i
  | .rt => .ret
  | .pn => .panic (pch E)
def KT.at {τ : Type} (k : KT τ) : XT → Nat → St → Option τ
  | .nr => k.nr
  | .ex i => exAt k.ex i
  | .rt => k.rt
  | .pn => k.pn
/-- What a part of code does, whatever the world is: it is left by e, and then the state is S'. -/
structure Rn (E : Env) (N : Nat) (V : List Nat) (W : (Exit → Act → World → Prop) → Act → World → Prop) (q : Nat) (S : St) (e : XT) (q' : Nat) (S' : St) : Prop where
  le : q ≤ q'
  frz : Frz q S.H S'.H
  go : ∀ (ν : NV) (w0 : World) (X : XS) (a : Act) (w : World) (Q : Exit → Act → World → Prop), Rep ν q w0 X N S a w →
    (∀ ν' a' w', Agr q ν ν' → Kp V a a' → Rep ν' q' w0 X N S' a' w' → Q (e.e E) a' w') → W Q a w
section
variable {P : Program} {D : List (Nat × TD)} {ν : NV} {q : Nat} {w0 : World} {X : XS} {N : Nat} {S : St} {a : Act} {w : World}
theorem ifg_ok {α : Type} {w : Bool} {v : SV} {Y Z : Bool → Option α} {r : α} (h : ifg w v Y Z = some r) : (v = .ud ∧ Z w = some r) ∨ (v ≠ .ud ∧ ∃ b : Bool, (∀ ν, cv ν v = .bool b) ∧ (bif b == w then Y b else Z b) = some r) := by
  unfold ifg at h
  split at h
  · exact .inl ⟨rfl, h⟩
  · rename_i hne
    refine .inr ⟨fun e => hne e, ?_⟩
    cases w with
    | true =>
      obtain ⟨b, h1, h2⟩ := ifv_ok (show ifv _ _ _ = _ from h)
      refine ⟨b, h1, ?_⟩
      cases b <;> exact h2
    | false =>
      obtain ⟨b, h1, h2⟩ := ifv_ok (show ifv _ _ _ = _ from h)
      refine ⟨b, h1, ?_⟩
      cases b <;> exact h2
theorem wanted_of {ops : Array Oper} {o : Oper} {j t : Nat} {want : Bool} (hg : o.guard = some (j, want)) (hj : (ops[j]?).bind (·.dst) = some t) {a : Act} {v : Value} (ht : a.tmps[t]? = some v) :
    (∀ b, v = .bool b → Region.wanted o (yielded ops a.tmps) = (b == want)) ∧ (v = undef → Region.wanted o (yielded ops a.tmps) = false) := by
  refine ⟨fun b hb => ?_, fun hu => ?_⟩
  · subst hb
    simp only [Region.wanted, hg, yielded, hj, Option.bind_some, ht]
    cases b <;> cases want <;> rfl
  · subst hu
    simp only [Region.wanted, hg, yielded, hj, Option.bind_some, ht]
    rfl
theorem One.bare' {ops : Array Oper} {Q : Exit → Act → World → Prop} {o : Oper} {KK : Act → World → Prop} {w : World} {a : Act} (h1 : Region.wanted o (yielded ops a.tmps) = true) (k : One P ops Q { o with guard := none } KK a w) : One P ops Q o KK a w := by
  unfold One at *
  rw [if_pos h1]
  rw [if_pos (by simp [Region.wanted])] at k
  exact k
theorem sxO_ok (hT : TDok P D) (hN : N ≤ 4000) {E : Env} (hE : E.D = D) {h : Hnd} (hh : HndOk P E h) {ops : Array Oper} {τ : Type} {k : KT τ} {r : τ} :
    ∀ (l : List Oper) (q : Nat) (S : St), (∀ o, o ∈ l → ∀ t, o.dst = some t → t < N) → sxO E h ops l q S k.nr k.pn = some r → ∃ e q' S', k.at e q' S' = some r ∧ Rn E N (wrO l) (fun Q a w => wpList P ops Q l a w) q S e q' S'
  | [], q, S, _, hs => ⟨.nr, q, S, hs, Nat.le_refl _, Frz.refl _ _, fun ν w0 X a w Q R hQ => hQ ν a w (Agr.refl _ _) (Kp.refl _ _) R⟩
  | o :: l, q, S, hd, hs => by
    have hd1 := hd o (by simp)
    have hd2 : ∀ o, o ∈ l → ∀ t, o.dst = some t → t < N := fun o ho => hd o (by simp [ho])
    have hw1 : ∀ t, t ∈ wrO l → t ∈ wrO (o :: l) := fun t ht => by
      unfold wrO
      split
      · exact List.mem_cons_of_mem _ ht
      · exact ht
    have hw2 : ∀ t, o.dst = some t → t ∈ wrO (o :: l) := fun t ht => by unfold wrO; rw [ht]; exact List.mem_cons_self
    -- the operation is carried out
    have run : ∀ (S1 : St), S1.H = S.H → exec1 E h o q S1 (fun q S => sxO E h ops l q S k.nr k.pn) k.pn = some r →
        (∀ (ν : NV) (w0 : World) (X : XS) (a : Act) (w : World), Rep ν q w0 X N S a w → Rep ν q w0 X N S1 a w ∧ Region.wanted o (yielded ops a.tmps) = true) →
        ∃ e q' S', k.at e q' S' = some r ∧ Rn E N (wrO (o :: l)) (fun Q a w => wpList P ops Q (o :: l) a w) q S e q' S' := by
      intro S1 hH hx hR
      obtain ⟨q1, S2, ⟨h1, h2, h3, h4⟩ | ⟨h1, h2, h3, h4⟩⟩ := exec1_ok hT hN hE hh hd1 hx
      · obtain ⟨e, q', S', g1, g2, g3, g4⟩ := sxO_ok hT hN hE hh l q1 S2 hd2 h1
        rw [hH] at h3
        refine ⟨e, q', S', g1, Nat.le_trans h2 g2, h3.trans g3 h2, fun ν w0 X a w Q R hQ => wl ?_⟩
        obtain ⟨R1, hw⟩ := hR ν w0 X a w R
        refine One.bare' hw (h4 ν w0 X a w ops Q _ R1 fun ν' a' w' u hag ha' R' => ?_)
        refine g4 ν' w0 X a' w' Q R' (fun ν'' a'' w'' hag2 hk R'' => hQ ν'' a'' w'' (hag.trans hag2 h2) ?_ R'')
        rw [ha'] at hk
        exact (Kp.put a hw2 u).trans (hk.mono hw1)
      · rw [hH] at h3
        refine ⟨.pn, q1, S2, h1, h2, h3, fun ν w0 X a w Q R hQ => wl ?_⟩
        obtain ⟨R1, hw⟩ := hR ν w0 X a w R
        exact One.bare' hw (h4 ν w0 X a w ops Q _ R1 fun ν' w' hag R' => hQ ν' a w' hag (Kp.refl _ _) R')
    -- the operation is passed by
    have pass : ∀ (S1 : St), S1.H = S.H → sxO E h ops l q (putD S1 o.dst .ud) k.nr k.pn = some r →
        (∀ (ν : NV) (w0 : World) (X : XS) (a : Act) (w : World), Rep ν q w0 X N S a w → Rep ν q w0 X N S1 a w ∧ Region.wanted o (yielded ops a.tmps) = false) →
        ∃ e q' S', k.at e q' S' = some r ∧ Rn E N (wrO (o :: l)) (fun Q a w => wpList P ops Q (o :: l) a w) q S e q' S' := by
      intro S1 hH hx hR
      obtain ⟨e, q', S', g1, g2, g3, g4⟩ := sxO_ok hT hN hE hh l q _ hd2 hx
      rw [putD_H, hH] at g3
      refine ⟨e, q', S', g1, g2, g3, fun ν w0 X a w Q R hQ => wl ?_⟩
      obtain ⟨R1, hw⟩ := hR ν w0 X a w R
      refine One.off hw ?_
      exact g4 ν w0 X _ w Q (R1.step hN (Nat.le_refl _) (Agr.refl _ _) (by have := R1.mem; rwa [hH] at this ⊢) (v := .ud) trivial hd1) (fun ν' a' w' hag hk R' => hQ ν' a' w' hag ((Kp.put a hw2 undef).trans (hk.mono hw1)) R')
    simp only [sxO] at hs
    split at hs
    · rename_i hg
      exact run S rfl hs (fun ν w0 X a w R => ⟨R, by simp [Region.wanted, hg]⟩)
    · rename_i j want hg
      split at hs
      · rename_i t hj
        split at hs
        · rename_i v hv
          rcases ifg_ok hs with ⟨rfl, hs'⟩ | ⟨hne, b, hb, hs'⟩
          · refine pass S rfl hs' (fun ν w0 X a w R => ⟨R, ?_⟩)
            exact (wanted_of hg hj (R.fr t _ hv).1).2 rfl
          · have hnar : ∀ (ν : NV) (w0 : World) (X : XS) (a : Act) (w : World), Rep ν q w0 X N S a w → Rep ν q w0 X N (S.put t (b2 b)) a w := fun ν w0 X a w R => R.narrow hN hv (by rw [b2_cv, hb]) (b2_ok _ _ _)
            have hwant : ∀ (ν : NV) (w0 : World) (X : XS) (a : Act) (w : World), Rep ν q w0 X N S a w → Region.wanted o (yielded ops a.tmps) = (b == want) := fun ν w0 X a w R => (wanted_of hg hj (R.fr t _ hv).1).1 b (hb ν)
            cases hbw : (b == want) with
            | true =>
              rw [hbw] at hs'
              exact run (S.put t (b2 b)) rfl hs' (fun ν w0 X a w R => ⟨hnar ν w0 X a w R, by rw [hwant ν w0 X a w R, hbw]⟩)
            | false =>
              rw [hbw] at hs'
              have hs'' : sxO E h ops l q (putD (S.put t (b2 b)) o.dst .ud) k.nr k.pn = some r := by
                cases v <;> first | exact hs' | exact absurd rfl hne
              exact pass (S.put t (b2 b)) rfl hs'' (fun ν w0 X a w R => ⟨hnar ν w0 X a w R, by rw [hwant ν w0 X a w R, hbw]⟩)
        · cases hs
      · cases hs
end
end Go.Proofs.Ytnagkhofkjjajaa

/- The symbolic walk is sound: data taken out of memory, and laid into it anew. Lemmas, no statement of the claim. -/
set_option linter.unusedVariables false
set_option linter.unusedSimpArgs false
namespace Go.Proofs.Ytnagkhofkjjajaa
open Go.RowKit
def lftS : SV → SV
  | .pr p _ => p
  | w => w
def rgtS : SV → SV
  | .pr _ q => q
  | w => w
def oneS : SV → SV
  | .one p => p
  | w => w
section
variable {ν : NV} {q : Nat} {w0 u0 : World} {X Y : XS} {H : List (Nat × Nat × HC)} {w : World}
theorem tcat_fst : ∀ (l m : List Type) (x : Tup l) (y : Tup m), tfst l m (tcat l m x y) = x
  | [], _, _, _ => rfl
  | [_], [], _, _ => rfl
  | [_], _ :: _, _, _ => rfl
  | a :: b :: l, m, x, y => by
    show (x.1, tfst (b :: l) m (tcat (b :: l) m x.2 y)) = x
    rw [tcat_fst (b :: l) m x.2 y]
    rfl
theorem tcat_snd : ∀ (l m : List Type) (x : Tup l) (y : Tup m), tsnd l m (tcat l m x y) = y
  | [], _, _, _ => rfl
  | [_], [], _, _ => rfl
  | [_], _ :: _, _, _ => rfl
  | a :: b :: l, m, x, y => by
    show tsnd (b :: l) m (tcat (b :: l) m x.2 y) = y
    rw [tcat_snd (b :: l) m x.2 y]
theorem sameP_eq (ν : NV) {l : Lay} : ∀ {a b : List PS}, sameP a b = true → ∀ l, poffP a l = poffP b l := by
  intro a
  induction a with
  | nil => intro b h l; cases b <;> first | rfl | cases h
  | cons s r ih =>
    intro b h l
    cases b with
    | nil => cases s <;> cases h
    | cons s' r' =>
      cases s <;> cases s' <;> (try (cases h; done))
      · simp only [poffP]; cases y2 l <;> first | rfl | exact ih h _
      · simp only [poffP]
        cases y2 l with
        | none => rfl
        | some w => simp only; rw [ih h]
      · simp only [poffP]; cases y1 l <;> first | rfl | exact ih h _
      · simp only [sameP, Bool.and_eq_true] at h
        have := beqT h.1.2
        simp only [poffP]
        cases l <;> simp only [this]
        rw [ih h.2]
theorem same_ok (ν : NV) : ∀ (a b : SV), same a b = true → a.ok ν q → b.ok ν q → cv3 ν a = cv3 ν b ∧ a.lay = b.lay ∧ a.st = b.st
  | .tt, .tt, _, _, _ => ⟨rfl, rfl, rfl⟩
  | .ff, .ff, _, _, _ => ⟨rfl, rfl, rfl⟩
  | .U, .U, _, _, _ => ⟨rfl, rfl, rfl⟩
  | .nl, .nl, _, _, _ => ⟨rfl, rfl, rfl⟩
  | .np, .np, _, _, _ => ⟨rfl, rfl, rfl⟩
  | .N k x, .N k' y, h, _, _ => by
    simp only [same, Bool.and_eq_true] at h
    have h1 := kq_eq h.1.1.1
    have h2 := beqT h.2
    subst h1
    exact ⟨by simp only [cv3, h2], rfl, rfl⟩
  | .ptr c l p, .ptr c' l' p', h, _, _ => by
    simp only [same, Bool.and_eq_true] at h
    have h1 := beqT h.1.1
    have h2 := lay_q h.1.2
    subst h1 h2
    exact ⟨by simp only [cv3, poff, sameP_eq (l := l) ν h.2 l], rfl, rfl⟩
  | .pr a b, .pr c d, h, ha, hb => by
    simp only [same, Bool.and_eq_true] at h
    obtain ⟨e1, e2, e3⟩ := same_ok ν a c h.1 ha.1 hb.1
    obtain ⟨f1, f2, f3⟩ := same_ok ν b d h.2 ha.2 hb.2
    exact ⟨by simp only [cv3, e1, f1], by simp only [SV.lay, e2, f2], by simp only [SV.st, e3, f3]⟩
  | .one a, .one b, h, ha, hb => by
    obtain ⟨e1, e2, e3⟩ := same_ok ν a b h ha hb
    exact ⟨by simp only [cv3, e1], by simp only [SV.lay, e2], e3⟩
  | .fn f a b, .fn g c d, h, ha, hb => by
    simp only [same, Bool.and_eq_true] at h
    have h1 := beqT h.1.1
    subst h1
    obtain ⟨e1, e2, e3⟩ := same_ok ν a c h.1.2 ha.1 hb.1
    obtain ⟨f1, f2, f3⟩ := same_ok ν b d h.2 ha.2 hb.2
    exact ⟨by simp only [cv3, e1, f1], rfl, rfl⟩
  | .sl c [] v lo n tl mx, .sl c' [] v' lo' n' tl' mx', h, ha, hb => by
    simp only [same, Bool.and_eq_true] at h
    have h1 := beqT h.1
    have h2 := beqT h.2
    subst h1 h2
    have h1 := ha.2.2.len
    have h2 := hb.2.2.len
    have hn : n.x = n'.x := h1.symm.trans h2
    exact ⟨by simp only [cv3, hn], rfl, rfl⟩
theorem cv_of (ν ν' : NV) {a b : SV} (h : cls ν a = cls ν' b) (hl : a.lay = b.lay) (ha : a.st = true) (hb : b.st = true) : cv ν a = cv ν' b := by
  cases hg : a.lay.agg with
  | true => rw [cv_agg ν hg, cv_agg ν' (by rw [← hl]; exact hg), h]
  | false =>
    have h1 := cv_one ν hg ha
    have h2 := cv_one ν' (v := b) (by rw [← hl]; exact hg) hb
    rw [h1, h2] at h
    exact List.cons.inj h |>.1
/-- what is asked of the memory into which data are laid -/
structure Room (ν ν1 : NV) (x : VS) (v : SV) (H1 : List (Nat × Nat × HC)) : Prop where
  ro : ∀ c, c ∈ roN x v → ∀ d y, hget H1 d = some y → y.wt = true → ∀ b, b ∈ (ν c).D → b ∉ (ν1 d).D
  rw : ∀ c, c ∈ rwN x v → ∀ d y, hget H1 d = some y → ∀ b, b ∈ (ν c).D → b ∉ (ν1 d).D
/-- what data laid into memory are -/
structure Laid (ν ν1 : NV) (n m : Nat) (u0 : World) (Y : XS) (w : World) (H1 : List (Nat × Nat × HC)) (x : VS) (v : SV) (e : EV) (ν2 : NV) : Prop where
  agr : Agr n ν1 ν2
  mem : Mem ν2 m u0 Y e.H w
  ok : e.v.ok ν2 m
  cv : cv ν2 e.v = cv ν v
  cls : cls ν2 e.v = cls ν v
  lay : e.v.lay = v.lay
  st : e.v.st = v.st
  new : ∀ d y, hget e.H d = some y → hget H1 d = some y ∨ (ν2 d).D = [] ∨ ∃ c, (c ∈ rwN x v ∨ (y.wt = false ∧ c ∈ roN x v)) ∧ ∀ b, b ∈ (ν2 d).D → b ∈ (ν c).D
/-- a new piece under a new name -/
theorem piece_new {ν1 : NV} {n s : Nat} {H1 : List (Nat × Nat × HC)} (M1 : Mem ν1 n u0 Y H1 w) {A : Option Addr} {cap m : Nat} {DD : List Nat} {l : Lay} {h : HC} (hok : ∀ ν2 : NV, ν2 n = ⟨A, cap, m, DD, .rw l⟩ → h.ok ν2 (n + 1) n w)
    (hlt : ∀ b, b ∈ DD → b < w.heap.size) (hw : h.wt = true → ∀ b, b ∈ DD → (u0.heap.size ≤ b ∨ b ∈ Y.x) ∧ ∀ d y, hget H1 d = some y → b ∉ (ν1 d).D) (hr : ∀ d y, hget H1 d = some y → y.wt = true → ∀ b, b ∈ (ν1 d).D → b ∉ DD)
    (hs : h.wt = false → ∀ b, b ∈ DD → Vis u0 Y b) (h1 : m ≤ cap) (h2 : cap ≤ maxLen) (h3 : 0 < cap → flat A) {lo' : Bool} :
    ∃ ν2, Agr n ν1 ν2 ∧ ν2 n = ⟨A, cap, m, DD, .rw l⟩ ∧ Mem ν2 (n + 1) u0 Y ((n, s, h) :: H1) w ∧ SV.ok ν2 (n + 1) (.sl n [] n ⟨true, 0⟩ ⟨lo', m⟩ true false) ∧ cv ν2 (.sl n [] n ⟨true, 0⟩ ⟨lo', m⟩ true false) = .slice A m cap := by
  let x : NmS := ⟨A, cap, m, DD, .rw l⟩
  have hself : upN ν1 n x n = ⟨A, cap, m, DD, .rw l⟩ := upN_self ν1 n x
  refine ⟨upN ν1 n x, upN_agr _ _ _, hself, ?_, ?_, ?_⟩
  · refine M1.add (Nat.le_refl _) (upN_agr _ _ _) (hok _ hself) ?_ ?_ ?_ ?_
    · rw [hself]; exact hlt
    · rw [hself]; exact hw
    · rw [hself]; exact hr
    · rw [hself]; exact hs
  · refine ⟨Nat.lt_succ_self _, Nat.lt_succ_self _, ?_⟩
    exact slok_self (e := l) (by rw [hself]) (by rw [hself]; exact h1) (by rw [hself]; exact h2) (by rw [hself]; exact h3) (by rw [hself])
  · show Value.slice (upN ν1 n x n).A m (upN ν1 n x n).c = _
    rw [hself]
/-- a row that is read -/
theorem lay_ro (M : Mem ν q w0 X H w) {a : Sh} {v : SV} {xs : List a.T} (e : cont a H v = some xs) (hv : v.ok ν q) {s n : Nat} {ν1 : NV} {H1 : List (Nat × Nat × HC)} (M1 : Mem ν1 n u0 Y H1 w) (R : Room ν ν1 (.ro a) v H1) (hz : ∀ c, c ∈ roN (.ro a) v → ∀ b, b ∈ (ν c).D → Vis u0 Y b) :
    ∃ ν2, Laid ν ν1 n (n + 1) u0 Y w H1 (.ro a) v ⟨.sl n [] n ⟨true, 0⟩ ⟨false, xs.length⟩ true false, (n, s, .ro a ⟨false, xs.length⟩ xs) :: H1⟩ ν2 := by
  obtain ⟨A, m, c, j1, j2, j3, j4, j5, j6, j7, j8⟩ := cont_ok M e hv
  obtain ⟨DD, d1, d2⟩ : ∃ DD : List Nat, (rowC a xs ≠ [] → ∀ b, oblk A = some b → b ∈ DD) ∧ (DD = [] ∨ ∃ c h, c ∈ svN v ∧ hget H c = some h ∧ ∀ b, b ∈ DD → b ∈ (ν c).D) := by
    by_cases hz : rowC a xs = []
    · exact ⟨[], fun h => absurd hz h, .inl rfl⟩
    · cases ho : oblk A with
      | none => exact ⟨[], (by intro _ b hb; cases hb), .inl rfl⟩
      | some b0 =>
        obtain ⟨c, h, k1, k2, k3⟩ := j8 hz b0 ho
        exact ⟨[b0], (by intro _ b hb; cases hb; simp), .inr ⟨c, h, k1, k2, fun b hb => by rw [List.mem_singleton.1 hb]; exact k3⟩⟩
  have hro : ∀ c, c ∈ svN v → c ∈ roN (.ro a) v := by
    unfold cont at e
    split at e
    · intro c hc; cases hc
    · intro c hc; exact hc
    · cases e
  have hst : v.st = true ∧ v.lay = .C := by
    unfold cont at e
    split at e
    · exact ⟨rfl, rfl⟩
    · exact ⟨rfl, rfl⟩
    · cases e
  obtain ⟨ν2, g1, g2, g3, g4, g5⟩ := piece_new (s := s) (h := .ro a ⟨false, xs.length⟩ xs) (A := A) (cap := c) (m := xs.length) (DD := DD) (l := a.lay) (lo' := false) M1
    (fun ν2 h => ⟨⟨rfl, j4, by rw [h], by rw [h], by rw [h, j3]; exact j5, by rw [h]; exact j6, by rw [h]; exact j7⟩, by rw [h]; exact j2, by rw [h]; exact d1⟩)
    (fun b hb => by
      rcases d2 with d2 | ⟨c, h, k1, k2, k3⟩
      · rw [d2] at hb; cases hb
      · exact M.lt c h k2 b (k3 b hb))
    (by intro h; cases h)
    (fun d y hd hy b hb hb2 => by
      rcases d2 with d2 | ⟨c, h, k1, k2, k3⟩
      · rw [d2] at hb2; cases hb2
      · exact R.ro c (hro c k1) d y hd hy b (k3 b hb2) hb)
    (fun _ b hb => by
      rcases d2 with d2 | ⟨c, h, k1, k2, k3⟩
      · rw [d2] at hb; cases hb
      · exact hz c (hro c k1) b (k3 b hb))
    (by rw [j3]; exact j5) j6 j7
  have hcv : cv ν2 (.sl n [] n ⟨true, 0⟩ ⟨false, xs.length⟩ true false) = cv ν v := by rw [g5, j1, j3]
  refine ⟨ν2, g1, g3, g4, hcv, ?_, hst.2.symm, hst.1.symm, fun d y hd => ?_⟩
  · show [cv ν2 (.sl n [] n ⟨true, 0⟩ ⟨false, xs.length⟩ true false)] = _
    rw [hcv, cv_one ν (by rw [hst.2]; rfl) hst.1]
  · rw [hget_cons] at hd
    split at hd
    · rename_i e2
      subst e2
      cases hd
      rcases d2 with d2 | ⟨c, h, k1, k2, k3⟩
      · exact .inr (.inl (by rw [g2]; exact d2))
      · exact .inr (.inr ⟨c, .inr ⟨rfl, hro c k1⟩, by rw [g2]; exact k3⟩)
    · exact .inl hd
/-- a row that is handed over -/
theorem lay_rw (M : Mem ν q w0 X H w) {T : Nat} {a : Sh} {v old : SV} {xs : List a.T} (e : extV H (.rw T a) v old = some xs) (hv : v.ok ν q) {s n : Nat} {ν1 : NV} {H1 : List (Nat × Nat × HC)} (M1 : Mem ν1 n u0 Y H1 w) (R : Room ν ν1 (.rw T a) v H1) (hm : ∀ c, c ∈ rwN (.rw T a) v → ∀ b, b ∈ (ν c).D → u0.heap.size ≤ b ∨ b ∈ Y.x) :
    ∃ ν2, Laid ν ν1 n (n + 1) u0 Y w H1 (.rw T a) v ⟨.sl n [] n ⟨true, 0⟩ ⟨false, xs.length⟩ true false, (n, s, .rw T a ⟨false, xs.length⟩ xs) :: H1⟩ ν2 := by
  have fin : ∀ (A : Option Addr) (cap : Nat) (DD : List Nat), xs.length ≤ cap → cap ≤ maxLen → (0 < cap → flat A) → (∀ x, x ∈ xs → okS a x) →
      ((Own w 0 T a.lay.sz A xs.length cap (rowC a xs) ∧ DD = (oblk A).toList) ∨ (xs.length = 0 ∧ cap = 0 ∧ DD = [])) →
      (DD = [] ∨ ∃ c h, c ∈ rwN (.rw T a) v ∧ hget H c = some h ∧ h.wt = true ∧ ∀ b, b ∈ DD → b ∈ (ν c).D) → cv ν v = .slice A xs.length cap → v.st = true ∧ v.lay = .C →
      ∃ ν2, Laid ν ν1 n (n + 1) u0 Y w H1 (.rw T a) v ⟨.sl n [] n ⟨true, 0⟩ ⟨false, xs.length⟩ true false, (n, s, .rw T a ⟨false, xs.length⟩ xs) :: H1⟩ ν2 := by
    intro A cap DD h1 h2 h3 hall hO hD hcv0 hst
    obtain ⟨ν2, g1, g2, g3, g4, g5⟩ := piece_new (s := s) (h := .rw T a ⟨false, xs.length⟩ xs) (A := A) (cap := cap) (m := xs.length) (DD := DD) (l := a.lay) (lo' := false) M1
      (fun ν2 h => ⟨⟨rfl, hall, by rw [h], by rw [h], by rw [h]; exact h1, by rw [h]; exact h2, by rw [h]; exact h3⟩, by rw [h]; exact hO⟩)
      (fun b hb => by
        rcases hD with d2 | ⟨c, h, k1, k2, k3, k4⟩
        · rw [d2] at hb; cases hb
        · exact M.lt c h k2 b (k4 b hb))
      (fun _ b hb => by
        rcases hD with d2 | ⟨c, h, k1, k2, k3, k4⟩
        · rw [d2] at hb; cases hb
        · exact ⟨hm c k1 b (k4 b hb), fun d y hd => R.rw c k1 d y hd b (k4 b hb)⟩)
      (fun d y hd hy b hb hb2 => by
        rcases hD with d2 | ⟨c, h, k1, k2, k3, k4⟩
        · rw [d2] at hb2; cases hb2
        · exact R.rw c k1 d y hd b (k4 b hb2) hb)
      (by intro h; cases h) h1 h2 h3
    have hcv : cv ν2 (.sl n [] n ⟨true, 0⟩ ⟨false, xs.length⟩ true false) = cv ν v := by rw [g5, hcv0]
    refine ⟨ν2, g1, g3, g4, hcv, ?_, hst.2.symm, hst.1.symm, fun d y hd => ?_⟩
    · show [cv ν2 (.sl n [] n ⟨true, 0⟩ ⟨false, xs.length⟩ true false)] = _
      rw [hcv, cv_one ν (by rw [hst.2]; rfl) hst.1]
    · rw [hget_cons] at hd
      split at hd
      · rename_i e2
        subst e2
        cases hd
        rcases hD with d2 | ⟨c, h, k1, k2, k3, k4⟩
        · exact .inr (.inl (by rw [g2]; exact d2))
        · exact .inr (.inr ⟨c, .inl k1, by rw [g2]; exact k4⟩)
      · exact .inl hd
  have key : v = .nl ∧ xs = [] ∨ ∃ c v' lo m tl, v = .sl c [] v' lo m tl false ∧ (match hget H c with
      | some (.rw T' b _ xs) => bif lo.l && Nat.beq lo.x 0 && Nat.beq T T' then (match castL b a xs with
        | some xs => some (bif tl then xs else xs.take m.x)
        | none => none) else none
      | _ => none) = some xs := by
    cases v <;> (try (cases e; done))
    · rename_i c pa v' lo m tl mx
      cases pa <;> (try (cases e; done))
      cases mx <;> (try (cases e; done))
      exact .inr ⟨c, v', lo, m, tl, rfl, e⟩
    · cases e; exact .inl ⟨rfl, rfl⟩
  clear e
  rcases key with ⟨rfl, rfl⟩ | ⟨c, v', lo, m, tl, rfl, e⟩
  · exact fin none 0 [] (Nat.le_refl _) (Nat.zero_le _) (by intro h; omega) (by intro x hx; cases hx) (.inr ⟨rfl, rfl, rfl⟩) (.inl rfl) rfl ⟨rfl, rfl⟩
  · split at e
    · rename_i T' b k ys hh
      cases hb : lo.l && Nat.beq lo.x 0 && Nat.beq T T' with
      | false => rw [hb] at e; cases e
      | true =>
        rw [hb] at e
        simp only [cond_true] at e
        simp only [Bool.and_eq_true] at hb
        have hlo := beqT hb.1.2
        have hT := beqT hb.2
        subst hT
        split at e
        · rename_i zs hz
          have hba := castL_sh hz
          subst hba
          have := castL_self hz
          subst this
          cases e
          obtain ⟨hx1, hx2, hS⟩ := hv
          obtain ⟨hI, hO⟩ := M.ok _ _ hh
          obtain ⟨A, L, K, sz, i1, i2, i3, i4, i5, i6, i7⟩ := hS.bas
          have hb0 : bas ν c [] = some ((ν c).A, (ν c).n, (ν c).c, b.lay.sz) := by unfold bas; rw [hI.lay]
          rw [hb0] at i1
          cases i1
          have hA := i3 hlo
          have hcc : (ν v').c = (ν c).c := by have := i5 rfl; omega
          have hle : m.x ≤ k.x := by rw [← hI.nn]; omega
          have hcut : (bif tl then ys else ys.take m.x) = ys.take m.x := by
            cases tl with
            | true =>
              have := i7 rfl
              rw [List.take_of_length_le (by rw [hI.len, ← hI.nn]; omega)]; rfl
            | false => rfl
          have hlen : (bif tl then ys else ys.take m.x).length = m.x := by
            rw [hcut, List.length_take, hI.len, Nat.min_eq_left hle]
          have hall : ∀ y, y ∈ (bif tl then ys else ys.take m.x) → okS b y := by
            rw [hcut]; exact fun y hy => hI.all y (List.mem_of_mem_take hy)
          have hcv : cv ν (.sl c [] v' lo m tl false) = .slice (ν c).A m.x (ν c).c := by
            show Value.slice (ν v').A m.x (ν v').c = _
            rw [hA, hcc]
          have hcap : m.x ≤ (ν c).c := by have := hI.cap; omega
          rcases hO with ⟨hO, hD⟩ | ⟨h0, hc0, hD⟩
          · have hO' := hO.cut hle
            rw [← rowC_take b ys m.x hI.all, ← hcut] at hO'
            refine fin (ν c).A (ν c).c (ν c).D (by rw [hlen]; exact hcap) hI.max hI.adr hall (.inl ⟨by rw [hlen]; exact hO', hD⟩) (.inr ⟨c, _, List.mem_singleton.2 rfl, hh, rfl, fun b hb => hb⟩) (by rw [hlen]; exact hcv) ⟨rfl, rfl⟩
          · refine fin (ν c).A (ν c).c [] (by rw [hlen]; exact hcap) hI.max hI.adr hall (.inr ⟨by rw [hlen]; omega, hc0, rfl⟩) (.inl rfl) (by rw [hlen]; exact hcv) ⟨rfl, rfl⟩
        · cases e
    · cases e
/-- a view -/
theorem lay_vw (M : Mem ν q w0 X H w) {c : Nat} {tl : Bool} {v old : SV} {xs : Tup [Nat, Nat]} (e : extV H (.vw c tl) v old = some xs) (hv : v.ok ν q) {n q0 : Nat} (hcq : c < q0) {ν1 : NV} {H1 : List (Nat × Nat × HC)} (hqn : q0 ≤ n) (hag : Agr q0 ν ν1) (M1 : Mem ν1 n u0 Y H1 w) :
    ∃ ν2, Laid ν ν1 n (n + 1) u0 Y w H1 (.vw c tl) v ⟨.sl c [] n ⟨false, xs.1⟩ ⟨false, xs.2⟩ tl false, H1⟩ ν2 := by
  have key : ∃ c' v' lo m tl', v = .sl c' [] v' lo m tl' false ∧ (bif Nat.beq c c' && (!tl || tl') then some ((lo.x, m.x) : Nat × Nat) else none) = some xs := by
    cases v <;> (try (cases e; done))
    rename_i c' pa v' lo m tl' mx
    cases pa <;> (try (cases e; done))
    cases mx <;> (try (cases e; done))
    exact ⟨c', v', lo, m, tl', rfl, e⟩
  clear e
  obtain ⟨c', v', lo, m, tl', rfl, e⟩ := key
  · cases hb : Nat.beq c c' && (!tl || tl') with
    | false => rw [hb] at e; cases e
    | true =>
      rw [hb] at e
      cases e
      simp only [Bool.and_eq_true] at hb
      have := beqT hb.1
      subst this
      obtain ⟨hx1, hx2, hS⟩ := hv
      have hself := upN_self ν1 n (ν v')
      have hagn := upN_agr ν1 n (ν v')
      obtain ⟨A, L, K, sz, i1, i2, i3, i4, i5, i6, i7⟩ := hS.bas
      have hb0 : bas (upN ν1 n (ν v')) c [] = bas ν c [] := by
        rw [bas_agr (hagn.mono hqn) hcq, bas_agr hag hcq]
      have hpk : pok (upN ν1 n (ν v') c).n (upN ν1 n (ν v') c).lay [] := trivial
      refine ⟨upN ν1 n (ν v'), hagn, (M1.agr hagn).mono (Nat.le_succ _), ⟨by omega, Nat.lt_succ_self _, ?_⟩, ?_, ?_, rfl, rfl, fun d y hd => .inl hd⟩
      · refine ⟨by rw [hself]; exact hS.len, by rw [hself]; exact hS.cap, by rw [hself]; exact hS.max, (by intro h; cases h), hpk, by rw [hself]; exact hS.adr, A, L, K, sz, by rw [hb0]; exact i1, by rw [hself]; exact i2, by rw [hself]; exact i3, by rw [hself]; exact i4, by rw [hself]; exact i5, i6, fun h => ?_⟩
        refine i7 ?_
        subst h
        simpa using hb.2
      · show Value.slice (upN ν1 n (ν v') n).A m.x (upN ν1 n (ν v') n).c = _
        rw [hself]; rfl
      · show [Value.slice (upN ν1 n (ν v') n).A m.x (upN ν1 n (ν v') n).c] = _
        rw [hself]; rfl
/-- a view from the beginning on -/
theorem lay_vh (M : Mem ν q w0 X H w) {c : Nat} {v old : SV} {x : Nat} (e : extV H (.vh c) v old = some x) (hv : v.ok ν q) {n q0 : Nat} (hcq : c < q0) {ν1 : NV} {H1 : List (Nat × Nat × HC)} (hqn : q0 ≤ n) (hag : Agr q0 ν ν1) (M1 : Mem ν1 n u0 Y H1 w) :
    ∃ ν2, Laid ν ν1 n (n + 1) u0 Y w H1 (.vh c) v ⟨.sl c [] n ⟨true, 0⟩ ⟨false, x⟩ false false, H1⟩ ν2 := by
  have key : ∃ c' v' lo m tl', v = .sl c' [] v' lo m tl' false ∧ (bif Nat.beq c c' && lo.l && Nat.beq lo.x 0 then some m.x else none) = some x := by
    cases v <;> (try (cases e; done))
    rename_i c' pa v' lo m tl' mx
    cases pa <;> (try (cases e; done))
    cases mx <;> (try (cases e; done))
    exact ⟨c', v', lo, m, tl', rfl, e⟩
  clear e
  obtain ⟨c', v', lo, m, tl', rfl, e⟩ := key
  cases hb : Nat.beq c c' && lo.l && Nat.beq lo.x 0 with
  | false => rw [hb] at e; cases e
  | true =>
    rw [hb] at e
    cases e
    simp only [Bool.and_eq_true] at hb
    have := beqT hb.1.1
    subst this
    have hlo := beqT hb.2
    obtain ⟨hx1, hx2, hS⟩ := hv
    have hself := upN_self ν1 n (ν v')
    have hagn := upN_agr ν1 n (ν v')
    obtain ⟨A, L, K, sz, i1, i2, i3, i4, i5, i6, i7⟩ := hS.bas
    rw [hlo] at i3 i4 i5 i6 i7
    have hb0 : bas (upN ν1 n (ν v')) c [] = bas ν c [] := by
      rw [bas_agr (hagn.mono hqn) hcq, bas_agr hag hcq]
    have hpk : pok (upN ν1 n (ν v') c).n (upN ν1 n (ν v') c).lay [] := trivial
    refine ⟨upN ν1 n (ν v'), hagn, (M1.agr hagn).mono (Nat.le_succ _), ⟨by omega, Nat.lt_succ_self _, ?_⟩, ?_, ?_, rfl, rfl, fun d y hd => .inl hd⟩
    · exact ⟨by rw [hself]; exact hS.len, by rw [hself]; exact hS.cap, by rw [hself]; exact hS.max, (by intro h; cases h), hpk, by rw [hself]; exact hS.adr, A, L, K, sz, by rw [hb0]; exact i1, by rw [hself]; exact i2, by rw [hself]; exact i3, by rw [hself]; exact i4, by rw [hself]; exact i5, i6, by intro h; cases h⟩
    · show Value.slice (upN ν1 n (ν v') n).A m.x (upN ν1 n (ν v') n).c = _
      rw [hself]; rfl
    · show [Value.slice (upN ν1 n (ν v') n).A m.x (upN ν1 n (ν v') n).c] = _
      rw [hself]; rfl
theorem EachQ.drop {D : List Nat} {a : Sh} : ∀ (k : Nat) {ps : List (Option Addr × Nat)} {xss : List (List a.T)}, EachQ w D a ps xss → EachQ w D a (ps.drop k) (xss.drop k)
  | 0, _, _, h => h
  | k + 1, [], [], _ => trivial
  | k + 1, p :: ps, x :: xss, h => EachQ.drop k h.2
  | k + 1, [], _ :: _, h => h.elim
  | k + 1, _ :: _, [], h => h.elim
theorem EachQ.take {D : List Nat} {a : Sh} : ∀ (k : Nat) {ps : List (Option Addr × Nat)} {xss : List (List a.T)}, EachQ w D a ps xss → EachQ w D a (ps.take k) (xss.take k)
  | 0, _, _, _ => trivial
  | k + 1, [], [], _ => trivial
  | k + 1, p :: ps, x :: xss, h => ⟨h.1, EachQ.take k h.2⟩
  | k + 1, [], _ :: _, h => h.elim
  | k + 1, _ :: _, [], h => h.elim
theorem EachQ.len {D : List Nat} {a : Sh} : ∀ {ps : List (Option Addr × Nat)} {xss : List (List a.T)}, EachQ w D a ps xss → ps.length = xss.length
  | [], [], _ => rfl
  | p :: ps, x :: xss, h => by simp [EachQ.len h.2]
  | [], _ :: _, h => h.elim
  | _ :: _, [], h => h.elim
theorem lay_rq (M : Mem ν q w0 X H w) {a : Sh} {v : SV} {xss : List (List a.T)} (e : contq a H v = some xss) (hv : v.ok ν q) {s n : Nat} {ν1 : NV} {H1 : List (Nat × Nat × HC)} (M1 : Mem ν1 n u0 Y H1 w) (R : Room ν ν1 (.rq a) v H1) (hz : ∀ c, c ∈ roN (.rq a) v → ∀ b, b ∈ (ν c).D → Vis u0 Y b) :
    ∃ ν2, Laid ν ν1 n (n + 1) u0 Y w H1 (.rq a) v ⟨.sl n [] n ⟨true, 0⟩ ⟨false, xss.length⟩ true false, (n, s, .rq a ⟨false, xss.length⟩ xss) :: H1⟩ ν2 := by
  have fin : ∀ (A : Option Addr) (cap : Nat) (DD : List Nat) (ps : List (Option Addr × Nat)), xss.length ≤ cap → cap ≤ maxLen → (0 < cap → flat A) → Rd w A (hdq ps xss) → EachQ w DD a ps xss → (∀ b, oblk A = some b → b ∈ DD) →
      (DD = [] ∨ ∃ c h, c ∈ roN (.rq a) v ∧ hget H c = some h ∧ ∀ b, b ∈ DD → b ∈ (ν c).D) → cv ν v = .slice A xss.length cap → v.st = true ∧ v.lay = .C →
      ∃ ν2, Laid ν ν1 n (n + 1) u0 Y w H1 (.rq a) v ⟨.sl n [] n ⟨true, 0⟩ ⟨false, xss.length⟩ true false, (n, s, .rq a ⟨false, xss.length⟩ xss) :: H1⟩ ν2 := by
    intro A cap DD ps h1 h2 h3 hR hE hA hD hcv0 hst
    obtain ⟨ν2, g1, g2, g3, g4, g5⟩ := piece_new (s := s) (h := .rq a ⟨false, xss.length⟩ xss) (A := A) (cap := cap) (m := xss.length) (DD := DD) (l := .C) (lo' := false) M1
      (fun ν2 h => ⟨by rw [h], by rw [h], rfl, by rw [h]; exact h1, by rw [h]; exact h2, by rw [h]; exact h3, ps, by rw [h]; exact hR, by rw [h]; exact hE, by rw [h]; exact hA⟩)
      (fun b hb => by
        rcases hD with d2 | ⟨c, h, k1, k2, k3⟩
        · rw [d2] at hb; cases hb
        · exact M.lt c h k2 b (k3 b hb))
      (by intro h; cases h)
      (fun d y hd hy b hb hb2 => by
        rcases hD with d2 | ⟨c, h, k1, k2, k3⟩
        · rw [d2] at hb2; cases hb2
        · exact R.ro c k1 d y hd hy b (k3 b hb2) hb)
      (fun _ b hb => by
        rcases hD with d2 | ⟨c, h, k1, k2, k3⟩
        · rw [d2] at hb; cases hb
        · exact hz c k1 b (k3 b hb))
      h1 h2 h3
    have hcv : cv ν2 (.sl n [] n ⟨true, 0⟩ ⟨false, xss.length⟩ true false) = cv ν v := by rw [g5, hcv0]
    refine ⟨ν2, g1, g3, g4, hcv, ?_, hst.2.symm, hst.1.symm, fun d y hd => ?_⟩
    · show [cv ν2 (.sl n [] n ⟨true, 0⟩ ⟨false, xss.length⟩ true false)] = _
      rw [hcv, cv_one ν (by rw [hst.2]; rfl) hst.1]
    · rw [hget_cons] at hd
      split at hd
      · rename_i e2
        subst e2
        cases hd
        rcases hD with d2 | ⟨c, h, k1, k2, k3⟩
        · exact .inr (.inl (by rw [g2]; exact d2))
        · exact .inr (.inr ⟨c, .inr ⟨rfl, k1⟩, by rw [g2]; exact k3⟩)
      · exact .inl hd
  unfold contq at e
  split at e
  · cases e
    exact fin none 0 [] [] (Nat.le_refl _) (Nat.zero_le _) (by intro h; omega) (Rd.nil _ _) trivial (by intro b hb; cases hb) (.inl rfl) rfl ⟨rfl, rfl⟩
  · rename_i c v' lo m tl mx
    split at e
    · rename_i b k ys hh
      split at e
      · rename_i hba
        subst hba
        cases e
        obtain ⟨hx1, hx2, hS⟩ := hv
        obtain ⟨h1, h2, h3, h4, h5, h0, ps, h6, h7, h8⟩ := M.ok _ _ hh
        obtain ⟨A, L, K, sz, i1, i2, i3, i4, i5, i6, i7⟩ := hS.bas
        have hb0 : bas ν c [] = some ((ν c).A, (ν c).n, (ν c).c, 1) := by unfold bas; rw [h1]; rfl
        have i1' := i1
        rw [hb0] at i1
        cases i1
        have hyl : ys.length = (ν c).n := by rw [h3, h2]
        have hcut := cutL_eq (lo := lo) (n := m) (tl := tl) (xs := ys) (by rw [hyl]; exact i6) (by rw [hyl]; exact i7)
        have hhl : (hdq ps ys).length = (ν c).n * 1 := by
          rw [Nat.mul_one, ← hyl]; simp [hdq, h7.len]
        have hrd := slok_rd hS i1' hhl h6
        rw [Nat.mul_one, Nat.mul_one] at hrd
        have hq : ((hdq ps ys).drop lo.x).take m.x = hdq ((ps.drop lo.x).take m.x) ((ys.drop lo.x).take m.x) := by
          simp only [hdq, List.drop_zipWith, List.take_zipWith]
        rw [hq] at hrd
        have hlen : ((ys.drop lo.x).take m.x).length = m.x := by rw [List.length_take, List.length_drop, hyl]; omega
        show ∃ ν2, Laid ν ν1 n (n + 1) u0 Y w H1 (.rq b) _ ⟨.sl n [] n ⟨true, 0⟩ ⟨false, (cutL lo m tl ys).length⟩ true false, (n, s, .rq b ⟨false, (cutL lo m tl ys).length⟩ (cutL lo m tl ys)) :: H1⟩ ν2
        have fin' := fin
        simp only [hcut] at fin' ⊢
        exact fin' (ν v').A (ν v').c (ν c).D ((ps.drop lo.x).take m.x) (by rw [hlen]; exact hS.cap) hS.max hS.adr hrd ((h7.drop _).take _) (fun b hb => h8 b (by rw [← i2]; exact hb)) (.inr ⟨c, _, List.mem_singleton.2 rfl, hh, fun b hb => hb⟩) (by rw [hlen]; rfl) ⟨rfl, rfl⟩
      · cases e
    · cases e
  · cases e
/-- the block of what lies at a place is among the piece's -/
theorem HC.blk_in {c : Nat} {h : HC} (k : h.ok ν q c w) {pa : List PS} {o : SV} (e : h.at pa = some o) (hp : pok (ν c).n h.lay pa) (hne : cls ν o ≠ []) : ablk (ν c).A ∈ (ν c).D := by
  have row : ∀ (a : Sh) (n : Nat) (xs : List a.T), RowI ν c a n xs → h.lay = .rw a.lay → (∃ i r, pa = .ix i :: r ∧ (emb a (xs.getD i.x a.d)).get r = some o) → rowC a xs ≠ [] := by
    intro a n xs hI hl hx hz
    obtain ⟨i, r, rfl, hg⟩ := hx
    rw [hl] at hp
    have hi : i.x < xs.length := by rw [hI.len, ← hI.nn]; exact hp.1
    obtain ⟨p, r', h1, _⟩ := part_ok ν q (ν c).n r (emb a (xs.getD i.x a.d)) o hg ((emb_ok ν q _ _).2 (all_get hI.all hi)) (by rw [emb_lay]; exact hp.2)
    rw [emb_cls] at h1
    rw [rowC_split a xs hi hI.all, h1] at hz
    simp only [List.append_eq_nil_iff] at hz
    exact hne hz.1.2.1.2
  have flatD : ∀ A : Option Addr, A = some ⟨ablk A, aoff A, none⟩ → oblk A = some (ablk A) := fun A h => by rw [h]; rfl
  cases h with
  | bk T v =>
    obtain ⟨b, h1, h2, _⟩ := k
    rw [h1, h2]; exact List.mem_singleton.2 rfl
  | rw T a n xs =>
    obtain ⟨hI, hO⟩ := k
    have hz := row a n.x xs hI rfl (by
      cases pa with
      | nil => cases e
      | cons i r => cases i <;> first | cases e | exact ⟨_, _, rfl, e⟩)
    rcases hO with ⟨hO, hD⟩ | ⟨h0, _⟩
    · have := hO.rd.some_ hz
      rw [hD, flatD _ this]; simp
    · have : xs = [] := List.length_eq_zero_iff.1 (by rw [hI.len, h0])
      rw [this] at hz; exact absurd rfl hz
  | ro a n xs =>
    obtain ⟨hI, hR, hD⟩ := k
    have hz := row a n.x xs hI rfl (by
      cases pa with
      | nil => cases e
      | cons i r => cases i <;> first | cases e | exact ⟨_, _, rfl, e⟩)
    exact hD hz _ (flatD _ (hR.some_ hz))
  | rs l =>
    obtain ⟨h1, h2, h3, h4, h0, h5, h6, h7⟩ := k
    have hl : l ≠ [] := by
      rintro rfl
      cases pa with
      | nil => cases e
      | cons i r =>
        cases i <;> (try (cases e; done))
        rename_i i
        cases r <;> (try (cases e; done))
        replace e : (bif i.l then ([] : List SV)[i.x]? else none) = some o := e
        cases hb : i.l with
        | true => rw [hb] at e; simp at e
        | false => rw [hb] at e; cases e
    exact h7 _ (flatD _ (h6.some_ (by simpa using hl)))
  | rq a n xss =>
    cases pa with
    | nil => cases e
    | cons i r => cases i <;> cases e
/-- a pointer to what is read -/
theorem lay_rp (M : Mem ν q w0 X H w) {a : Sh} {v old : SV} {x : a.T} (e : extV H (.rp a) v old = some x) (hv : v.ok ν q) {s n : Nat} {ν1 : NV} {H1 : List (Nat × Nat × HC)} (M1 : Mem ν1 n u0 Y H1 w) (R : Room ν ν1 (.rp a) v H1) (hz : ∀ c, c ∈ roN (.rp a) v → ∀ b, b ∈ (ν c).D → Vis u0 Y b) :
    ∃ ν2, Laid ν ν1 n (n + 1) u0 Y w H1 (.rp a) v ⟨.ptr n (.rw a.lay) [.ix ⟨true, 0⟩], (n, s, .ro a ⟨true, 1⟩ ([x] : List a.T)) :: H1⟩ ν2 := by
  have key : ∃ c lay pa h u, v = .ptr c lay pa ∧ hget H c = some h ∧ h.lay.q lay = true ∧ h.at pa = some u ∧ ext a u = some x := by
    cases v <;> (try (cases e; done))
    rename_i c lay pa
    replace e : (match hget H c with
      | some h => bif h.lay.q lay then (match h.at pa with
        | some u => ext a u
        | none => none) else none
      | none => none) = some x := e
    split at e
    · rename_i h hh
      cases hq : h.lay.q lay with
      | false => rw [hq] at e; cases e
      | true =>
        rw [hq] at e
        simp only [cond_true] at e
        split at e
        · rename_i u hu
          exact ⟨c, lay, pa, h, u, rfl, hh, hq, hu, e⟩
        · cases e
    · cases e
  clear e
  obtain ⟨c, lay, pa, h, u, rfl, hh, hq, hu, e⟩ := key
  have hl := lay_q hq
  obtain ⟨hc, hlay, hp⟩ := hv
  have hok := M.ok c h hh
  subst hl
  obtain ⟨g1, g2, g3, g4⟩ := HC.at_ok hok hu hp
  obtain ⟨f1, f2, f3, f4⟩ := ext_ok ν a u x e g1
  let A : Option Addr := some ⟨ablk (ν c).A, aoff (ν c).A + poff h.lay pa, none⟩
  have hrow : rowC a [x] = cls ν u := by rw [f2]; exact List.append_nil _
  have hblk : rowC a [x] ≠ [] → ∀ b, oblk A = some b → b ∈ (ν c).D := by
    intro hne b hb
    have hb' : ablk (ν c).A = b := by
      have : oblk A = some (ablk (ν c).A) := rfl
      rw [this] at hb; exact Option.some.inj hb
    subst hb'
    refine HC.blk_in hok hu hp ?_
    rwa [hrow] at hne
  obtain ⟨ν2, k1, k2, k3, k4, k5⟩ := piece_new (s := s) (h := .ro a ⟨true, 1⟩ [x]) (A := A) (cap := 1) (m := 1) (DD := (ν c).D) (l := a.lay) (lo' := true) M1
    (fun ν2 h2 => ⟨⟨rfl, (by intro y hy; rw [List.mem_singleton.1 hy]; exact f1), by rw [h2], by rw [h2], by rw [h2]; exact Nat.le_refl _, by rw [h2]; show 1 ≤ maxLen; decide, by rw [h2]; exact fun _ => rfl⟩, by rw [h2]; exact ⟨fun _ => rfl, by show Cells w _ _ (rowC a [x]); rw [hrow]; exact g4⟩, by rw [h2]; exact hblk⟩)
    (fun b hb => M.lt c h hh b hb)
    (by intro h; cases h)
    (fun d y hd hy b hb hb2 => R.ro c (List.mem_singleton.2 rfl) d y hd hy b hb2 hb)
    (fun _ b hb => hz c (List.mem_singleton.2 rfl) b hb)
    (Nat.le_refl _) (by show 1 ≤ maxLen; decide) (fun _ => rfl)
  have hcv : cv ν2 (.ptr n (.rw a.lay) [.ix ⟨true, 0⟩]) = cv ν (.ptr c h.lay pa) := by
    show Value.pointer (some ⟨ablk (ν2 n).A, aoff (ν2 n).A + (0 * a.lay.sz + 0), none⟩) = Value.pointer (some ⟨ablk (ν c).A, aoff (ν c).A + poff h.lay pa, none⟩)
    rw [k2, Nat.zero_mul]; rfl
  refine ⟨ν2, k1, k3, ⟨Nat.lt_succ_self _, by rw [k2], by rw [k2]; exact ⟨Nat.zero_lt_one, trivial⟩⟩, hcv, ?_, rfl, rfl, fun d y hd => ?_⟩
  · show [cv ν2 (.ptr n (.rw a.lay) [.ix ⟨true, 0⟩])] = [cv ν (.ptr c h.lay pa)]
    rw [hcv]
  · rw [hget_cons] at hd
    split at hd
    · rename_i e2
      subst e2
      cases hd
      exact .inr (.inr ⟨c, .inr ⟨rfl, List.mem_singleton.2 rfl⟩, by rw [k2]; exact fun b hb => hb⟩)
    · exact .inl hd
end
end Go.Proofs.Ytnagkhofkjjajaa

/- The symbolic walk is sound: data laid anew, all shapes. Lemmas, no statement of the claim. -/
set_option linter.unusedVariables false
set_option linter.unusedSimpArgs false
namespace Go.Proofs.Ytnagkhofkjjajaa
open Go.RowKit
section
variable {ν : NV} {q : Nat} {w0 u0 : World} {X Y : XS} {H : List (Nat × Nat × HC)} {w : World}
theorem mem_app {α : Type} {a b : List α} {c : α} : c ∈ app a b ↔ c ∈ a ∨ c ∈ b := by rw [app_eq]; exact List.mem_append
theorem memN_iff {l : List Nat} {c : Nat} : memN l c = true ↔ c ∈ l := by
  induction l with
  | nil => simp [memN]
  | cons a r ih =>
    simp only [memN, Bool.or_eq_true, ih, List.mem_cons]
    constructor
    · rintro (h | h)
      · exact .inl (beqT h).symm
      · exact .inr h
    · rintro (h | h)
      · subst h; exact .inl (Nat.beq_refl _)
      · exact .inr h
theorem nodup_app {a b : List Nat} : nodup (app a b) = true ↔ nodup a = true ∧ nodup b = true ∧ ∀ c, c ∈ a → c ∉ b := by
  induction a with
  | nil => simp [app, nodup]
  | cons x r ih =>
    simp only [app, nodup, Bool.and_eq_true, Bool.not_eq_true', ih]
    have hm : ∀ l, memN l x = false ↔ x ∉ l := fun l => by
      rw [← memN_iff]; simp
    rw [hm, hm, mem_app]
    constructor
    · rintro ⟨h1, h2, h3, h4⟩
      refine ⟨⟨fun h => h1 (.inl h), h2⟩, h3, fun c hc => ?_⟩
      rcases List.mem_cons.1 hc with rfl | hc
      · exact fun h => h1 (.inr h)
      · exact h4 c hc
    · rintro ⟨⟨h1, h2⟩, h3, h4⟩
      exact ⟨fun h => h.elim h1 (h4 x (by simp)), h2, h3, fun c hc => h4 c (by simp [hc])⟩
theorem extV_pr (H : List (Nat × Nat × HC)) (a b : VS) (x y old : SV) : extV H (.pr a b) (.pr x y) old = (match extV H a x (lftS old), extV H b y (rgtS old) with
    | some p, some q => some (tcat a.lv b.lv p q)
    | _, _ => none) := by cases old <;> rfl
theorem extV_one (H : List (Nat × Nat × HC)) (a : VS) (x old : SV) : extV H (.one a) (.one x) old = extV H a x (oneS old) := by cases old <;> rfl
theorem extV_pr_some {a b : VS} {x y old : SV} {d : Tup (VS.pr a b).lv} (h : extV H (.pr a b) (.pr x y) old = some d) : ∃ p r, extV H a x (lftS old) = some p ∧ extV H b y (rgtS old) = some r ∧ d = tcat a.lv b.lv p r := by
  rw [extV_pr] at h
  split at h
  · rename_i p r hp hr
    exact ⟨p, r, hp, hr, (Option.some.inj h).symm⟩
  · cases h
/-- pieces that are handed over are there, to be written -/
theorem rwN_get : ∀ (x : VS) (v old : SV) (d : Tup x.lv), extV H x v old = some d → ∀ c, c ∈ rwN x v → ∃ h, hget H c = some h ∧ h.wt = true := by
  intro x
  induction x with
  | rw T a =>
    intro v old d e c hc
    cases v <;> (try (cases hc; done))
    rename_i c' pa v' lo m tl mx
    have := List.mem_singleton.1 (show c ∈ [c'] from hc)
    subst this
    cases pa <;> (try (cases e; done))
    cases mx <;> (try (cases e; done))
    replace e : (match hget H c with
      | some (.rw T' b _ xs) => bif lo.l && Nat.beq lo.x 0 && Nat.beq T T' then (match castL b a xs with
        | some xs => some (bif tl then xs else xs.take m.x)
        | none => none) else none
      | _ => none) = some d := e
    split at e
    · rename_i T' b k ys hh
      exact ⟨_, hh, rfl⟩
    · cases e
  | pr a b iha ihb =>
    intro v old d e c hc
    cases v <;> (try (cases hc; done))
    rename_i x y
    have hc := mem_app.1 (show c ∈ app (rwN a x) (rwN b y) from hc)
    obtain ⟨p, r, h1, h2, _⟩ := extV_pr_some e
    rcases hc with hc | hc
    · exact iha x _ p h1 c hc
    · exact ihb y _ r h2 c hc
  | one a ih =>
    intro v old d e c hc
    cases v <;> (try (cases hc; done))
    rename_i x
    rw [extV_one] at e
    exact ih x _ d e c hc
  | v a => intro v old d e c hc; cases v <;> cases hc
  | ro a => intro v old d e c hc; cases v <;> cases hc
  | rq a => intro v old d e c hc; cases v <;> cases hc
  | vw c tl => intro v old d e c hc; cases v <;> cases hc
  | vh c => intro v old d e c hc; cases v <;> cases hc
  | k => intro v old d e c hc; cases v <;> cases hc
  | rp a => intro v old d e c hc; cases v <;> cases hc
theorem roN_get : ∀ (x : VS) (v old : SV) (d : Tup x.lv), extV H x v old = some d → ∀ c, c ∈ roN x v → ∃ h, hget H c = some h := by
  intro x
  induction x with
  | ro a =>
    intro v old d e c hc
    cases v <;> (try (cases hc; done))
    rename_i c' pa v' lo m tl mx
    have := List.mem_singleton.1 (show c ∈ [c'] from hc)
    subst this
    replace e : (match hget H c with | some h => (match h.row a pa with | some xs => some (cutL lo m tl xs) | none => none) | none => none) = some d := e
    split at e
    · rename_i h hh; exact ⟨h, hh⟩
    · cases e
  | rq a =>
    intro v old d e c hc
    cases v <;> (try (cases hc; done))
    rename_i c' pa v' lo m tl mx
    have := List.mem_singleton.1 (show c ∈ [c'] from hc)
    subst this
    cases pa <;> (try (cases e; done))
    replace e : (match hget H c with | some (.rq b _ xs) => if h : b = a then some (cutL lo m tl (h ▸ xs)) else none | _ => none) = some d := e
    split at e
    · rename_i b n xs hh; exact ⟨_, hh⟩
    · cases e
  | rp a =>
    intro v old d e c hc
    cases v <;> (try (cases hc; done))
    rename_i c' lay pa
    have := List.mem_singleton.1 (show c ∈ [c'] from hc)
    subst this
    replace e : (match hget H c with
      | some h => bif h.lay.q lay then (match h.at pa with
        | some u => ext a u
        | none => none) else none
      | none => none) = some d := e
    split at e
    · rename_i h hh; exact ⟨h, hh⟩
    · cases e
  | pr a b iha ihb =>
    intro v old d e c hc
    cases v <;> (try (cases hc; done))
    rename_i x y
    have hc := mem_app.1 (show c ∈ app (roN a x) (roN b y) from hc)
    obtain ⟨p, r, h1, h2, _⟩ := extV_pr_some e
    rcases hc with hc | hc
    · exact iha x _ p h1 c hc
    · exact ihb y _ r h2 c hc
  | one a ih =>
    intro v old d e c hc
    cases v <;> (try (cases hc; done))
    rename_i x
    rw [extV_one] at e
    exact ih x _ d e c hc
  | v a => intro v old d e c hc; cases v <;> cases hc
  | rw T a => intro v old d e c hc; cases v <;> cases hc
  | vw c tl => intro v old d e c hc; cases v <;> cases hc
  | vh c => intro v old d e c hc; cases v <;> cases hc
  | k => intro v old d e c hc; cases v <;> cases hc
/-- the pieces of views -/
def vwN : VS → List Nat
  | .vw c _ => [c]
  | .vh c => [c]
  | .pr a b => app (vwN a) (vwN b)
  | .one a => vwN a
  | _ => []
theorem lftS_ok {v : SV} (h : v.ok ν q) : (lftS v).ok ν q := by cases v <;> first | exact h | exact h.1
theorem rgtS_ok {v : SV} (h : v.ok ν q) : (rgtS v).ok ν q := by cases v <;> first | exact h | exact h.2
theorem oneS_ok {v : SV} (h : v.ok ν q) : (oneS v).ok ν q := by cases v <;> exact h
theorem embV_pr (s : Nat) (a b : VS) (x : Tup (VS.pr a b).lv) (w : SV) (H : List (Nat × Nat × HC)) (n : Nat) : embV s (.pr a b) x w H n =
    ⟨.pr (embV s a (tfst a.lv b.lv x) (lftS w) H n).v (embV s b (tsnd a.lv b.lv x) (rgtS w) (embV s a (tfst a.lv b.lv x) (lftS w) H n).H (n + a.nm)).v, (embV s b (tsnd a.lv b.lv x) (rgtS w) (embV s a (tfst a.lv b.lv x) (lftS w) H n).H (n + a.nm)).H⟩ := by cases w <;> rfl
theorem embV_one (s : Nat) (a : VS) (x : Tup a.lv) (w : SV) (H : List (Nat × Nat × HC)) (n : Nat) : embV s (.one a) x w H n = ⟨.one (embV s a x (oneS w) H n).v, (embV s a x (oneS w) H n).H⟩ := by cases w <;> rfl
theorem embV_ok (M : Mem ν q w0 X H w) {q0 : Nat} (hqq : q0 ≤ q) : ∀ (x : VS) (v old : SV) (d : Tup x.lv), extV H x v old = some d → v.ok ν q → old.ok ν q0 → (∀ c, c ∈ vwN x → c < q0) → (∀ c, c ∈ rwN x v → ∀ b, b ∈ (ν c).D → u0.heap.size ≤ b ∨ b ∈ Y.x) → (∀ c, c ∈ roN x v → ∀ b, b ∈ (ν c).D → Vis u0 Y b) → ∀ (s n : Nat) (ν1 : NV) (H1 : List (Nat × Nat × HC)), q0 ≤ n → Agr q0 ν ν1 → Mem ν1 n u0 Y H1 w → Room ν ν1 x v H1 →
    nodup (rwN x v) = true → (∀ c, c ∈ rwN x v → c ∉ roN x v) → ∃ ν2, Laid ν ν1 n (n + x.nm) u0 Y w H1 x v (embV s x d old H1 n) ν2 := by
  intro x
  induction x with
  | v a =>
    intro v old d e hv ho hvw hm hz s n ν1 H1 hqn hag M1 R _ _
    have key : ∀ d' : a.T, ext a v = some d' → ∃ ν2, Laid ν ν1 n (n + (VS.v a).nm) u0 Y w H1 (.v a) v ⟨emb a d', H1⟩ ν2 := by
      intro d' e
      obtain ⟨g1, g2, g3, g4⟩ := ext_ok ν a v d' e hv
      have hc : cls ν1 (emb a d') = cls ν v := by rw [emb_cls, g2]
      exact ⟨ν1, Agr.refl _ _, M1, (emb_ok _ _ a d').2 g1, cv_of ν1 ν hc (by rw [emb_lay, g3]) (emb_st a d') g4, hc, (emb_lay a d').trans g3.symm, (emb_st a d').trans g4.symm, fun _ _ h => .inl h⟩
    exact key d e
  | ro a =>
    intro v old d e hv ho hvw hm hz s n ν1 H1 hqn hag M1 R _ _
    exact lay_ro M e hv M1 R hz
  | rq a =>
    intro v old d e hv ho hvw hm hz s n ν1 H1 hqn hag M1 R _ _
    exact lay_rq M e hv M1 R hz
  | rw T a =>
    intro v old d e hv ho hvw hm hz s n ν1 H1 hqn hag M1 R _ _
    exact lay_rw M e hv M1 R hm
  | vw c tl =>
    intro v old d e hv ho hvw hm hz s n ν1 H1 hqn hag M1 R _ _
    exact lay_vw M e hv (hvw c (List.mem_singleton.2 rfl)) hqn hag M1
  | vh c =>
    intro v old d e hv ho hvw hm hz s n ν1 H1 hqn hag M1 R _ _
    exact lay_vh M e hv (hvw c (List.mem_singleton.2 rfl)) hqn hag M1
  | k =>
    intro v old d e hv ho hvw hm hz s n ν1 H1 hqn hag M1 R _ _
    have hs : same v old = true := by
      have e' : (bif same v old then some () else none) = some d := e
      cases h : same v old with
      | true => rfl
      | false => rw [h] at e'; cases e'
    obtain ⟨g1, g2, g3⟩ := same_ok ν v old hs hv (ok_mono hqq old ho)
    have hoo := ok_agr hag old ho
    refine ⟨ν1, Agr.refl _ _, M1, ok_mono hqn old hoo.1, ?_, ?_, g2.symm, g3.symm, fun _ _ h => .inl h⟩
    · show (cv3 ν1 old).1 = (cv3 ν v).1
      rw [hoo.2, g1]
    · show (cv3 ν1 old).2.1 = (cv3 ν v).2.1
      rw [hoo.2, g1]
  | pr a b iha ihb =>
    intro v old d e hv ho hvw hm hz s n ν1 H1 hqn hag M1 R hnd hdis
    cases v <;> (try (cases e; done))
    rename_i x y
    obtain ⟨p, r, h1, h2, rfl⟩ := extV_pr_some e
    have hnd' := nodup_app.1 (show nodup (app (rwN a x) (rwN b y)) = true from hnd)
    have hdis' : ∀ c, c ∈ rwN a x ∨ c ∈ rwN b y → ¬ (c ∈ roN a x ∨ c ∈ roN b y) := fun c hc h => hdis c (mem_app.2 hc) (mem_app.2 h)
    obtain ⟨ν2, L1⟩ := iha x (lftS old) p h1 hv.1 (lftS_ok ho) (fun c hc => hvw c (mem_app.2 (.inl hc))) (fun c hc => hm c (mem_app.2 (.inl hc))) (fun c hc => hz c (mem_app.2 (.inl hc))) s n ν1 H1 hqn hag M1 ⟨fun c hc => R.ro c (mem_app.2 (.inl hc)), fun c hc => R.rw c (mem_app.2 (.inl hc))⟩ hnd'.1 (fun c hc h => hdis' c (.inl hc) (.inl h))
    have hag2 : Agr q0 ν ν2 := hag.trans L1.agr hqn
    have hroom : Room ν ν2 b y (embV s a p (lftS old) H1 n).H := by
      refine ⟨fun c hc d' y' hd hy b' hb hb2 => ?_, fun c hc d' y' hd b' hb hb2 => ?_⟩
      · rcases L1.new d' y' hd with h | h | ⟨c', hc', h⟩
        · rw [L1.agr d' (M1.nm d' y' h)] at hb2
          exact R.ro c (mem_app.2 (.inr hc)) d' y' h hy b' hb hb2
        · rw [h] at hb2; cases hb2
        · rcases hc' with hc' | ⟨hw, _⟩
          · obtain ⟨hp, k1, k2⟩ := rwN_get a x _ p h1 c' hc'
            obtain ⟨hp2, k3⟩ := roN_get b y _ r h2 c hc
            refine M.ne c' c hp hp2 k1 k3 (fun q => ?_) k2 b' (h b' hb2) hb
            subst q
            exact hdis' c' (.inl hc') (.inr hc)
          · rw [hy] at hw; cases hw
      · obtain ⟨hp, k1, k2⟩ := rwN_get b y _ r h2 c hc
        rcases L1.new d' y' hd with h | h | ⟨c', hc', h⟩
        · rw [L1.agr d' (M1.nm d' y' h)] at hb2
          exact R.rw c (mem_app.2 (.inr hc)) d' y' h b' hb hb2
        · rw [h] at hb2; cases hb2
        · rcases hc' with hc' | ⟨_, hc'⟩
          · obtain ⟨hp2, k3, k4⟩ := rwN_get a x _ p h1 c' hc'
            refine M.ne c c' hp hp2 k1 k3 (fun q => ?_) k2 b' hb (h b' hb2)
            subst q
            exact hnd'.2.2 c hc' hc
          · obtain ⟨hp2, k3⟩ := roN_get a x _ p h1 c' hc'
            refine M.ne c c' hp hp2 k1 k3 (fun q => ?_) k2 b' hb (h b' hb2)
            subst q
            exact hdis' c (.inr hc) (.inl hc')
    obtain ⟨ν3, L2⟩ := ihb y (rgtS old) r h2 hv.2 (rgtS_ok ho) (fun c hc => hvw c (mem_app.2 (.inr hc))) (fun c hc => hm c (mem_app.2 (.inr hc))) (fun c hc => hz c (mem_app.2 (.inr hc))) s (n + a.nm) ν2 _ (by omega) hag2 L1.mem hroom hnd'.2.1 (fun c hc h => hdis' c (.inr hc) (.inr h))
    have hE : embV s (.pr a b) (tcat a.lv b.lv p r) old H1 n = ⟨.pr (embV s a p (lftS old) H1 n).v (embV s b r (rgtS old) (embV s a p (lftS old) H1 n).H (n + a.nm)).v, (embV s b r (rgtS old) (embV s a p (lftS old) H1 n).H (n + a.nm)).H⟩ := by
      refine (embV_pr s a b (tcat a.lv b.lv p r) old H1 n).trans ?_
      have t1 := tcat_fst a.lv b.lv p r
      have t2 := tcat_snd a.lv b.lv p r
      rw [t1, t2]
    rw [hE]
    have hagL : Agr (n + a.nm) ν2 ν3 := L2.agr
    have hx := ok_agr hagL _ L1.ok
    refine ⟨ν3, L1.agr.trans hagL (by omega), ?_, ⟨ok_mono (by simp only [VS.nm]; omega) _ hx.1, ?_⟩, ?_, ?_, ?_, ?_, ?_⟩
    · have := L2.mem
      rw [show n + (VS.pr a b).nm = n + a.nm + b.nm by simp only [VS.nm]; omega]
      exact this
    · have := L2.ok
      rw [show n + (VS.pr a b).nm = n + a.nm + b.nm by simp only [VS.nm]; omega]
      exact this
    · have e1 : cls ν3 (embV s a p (lftS old) H1 n).v = cls ν x := by rw [← L1.cls]; exact cls_agr hagL L1.ok
      show Value.agg (cls ν3 _ ++ cls ν3 _).toArray = Value.agg (cls ν x ++ cls ν y).toArray
      rw [e1, L2.cls]
    · have e1 : cls ν3 (embV s a p (lftS old) H1 n).v = cls ν x := by rw [← L1.cls]; exact cls_agr hagL L1.ok
      show cls ν3 _ ++ cls ν3 _ = cls ν x ++ cls ν y
      rw [e1, L2.cls]
    · show Lay.pr _ _ = Lay.pr _ _
      rw [L1.lay, L2.lay]
    · show (_ && _) = (_ && _)
      rw [L1.st, L2.st]
    · intro d' y' hd
      rcases L2.new d' y' hd with h | h | ⟨c', hc', h⟩
      · rcases L1.new d' y' h with h' | h' | ⟨c', hc', h'⟩
        · exact .inl h'
        · exact .inr (.inl (by rw [hagL d' (L1.mem.nm d' y' h)]; exact h'))
        · refine .inr (.inr ⟨c', ?_, by rw [hagL d' (L1.mem.nm d' y' h)]; exact h'⟩)
          rcases hc' with hc' | ⟨hw, hc'⟩
          · exact .inl (mem_app.2 (.inl hc'))
          · exact .inr ⟨hw, mem_app.2 (.inl hc')⟩
      · exact .inr (.inl h)
      · refine .inr (.inr ⟨c', ?_, h⟩)
        rcases hc' with hc' | ⟨hw, hc'⟩
        · exact .inl (mem_app.2 (.inr hc'))
        · exact .inr ⟨hw, mem_app.2 (.inr hc')⟩
  | one a ih =>
    intro v old d e hv ho hvw hm hz s n ν1 H1 hqn hag M1 R hnd hdis
    cases v <;> (try (cases e; done))
    rename_i x
    rw [extV_one] at e
    obtain ⟨ν2, L⟩ := ih x (oneS old) d e hv (oneS_ok ho) hvw hm hz s n ν1 H1 hqn hag M1 ⟨R.ro, R.rw⟩ hnd hdis
    have hE : embV s (.one a) d old H1 n = ⟨.one (embV s a d (oneS old) H1 n).v, (embV s a d (oneS old) H1 n).H⟩ := embV_one s a d old H1 n
    rw [hE]
    refine ⟨ν2, L.agr, L.mem, L.ok, ?_, L.cls, ?_, L.st, L.new⟩
    · show Value.agg (cls ν2 _).toArray = Value.agg (cls ν x).toArray
      rw [L.cls]
    · show Lay.one _ = Lay.one _
      rw [L.lay]
  | rp a =>
    intro v old d e hv ho hvw hm hz s n ν1 H1 hqn hag M1 R _ _
    exact lay_rp M e hv M1 R hz
end
end Go.Proofs.Ytnagkhofkjjajaa

/- The symbolic walk is sound: where ways join. Lemmas, no statement of the claim. -/
set_option linter.unusedVariables false
set_option linter.unusedSimpArgs false
namespace Go.Proofs.Ytnagkhofkjjajaa
open Go.RowKit
theorem HC.lower {ν ν' : NV} {q q' c : Nat} {w w' : World} {h : HC} (k : h.ok ν' q' c w') (k0 : h.ok ν q c w) (ha : Agr q ν ν') : h.ok ν' q c w' := by
  cases h with
  | bk T v =>
    obtain ⟨b, h1, h2, h3, h4, h5, h6⟩ := k
    obtain ⟨_, _, _, _, g4, _⟩ := k0
    exact ⟨b, h1, h2, h3, (ok_agr ha v g4).1, h5, h6⟩
  | rw T a n xs => exact k
  | ro a n xs => exact k
  | rs l =>
    obtain ⟨h1, h2, h3, h4, h0, h5, h6, h7⟩ := k
    obtain ⟨_, _, _, _, _, g5, _⟩ := k0
    exact ⟨h1, h2, h3, h4, h0, fun v hv => ⟨(ok_agr ha v (g5 v hv).1).1, (h5 v hv).2⟩, h6, h7⟩
  | rq a n xss => exact k
theorem HC.sealC {ν : NV} {q c : Nat} {w : World} {T : Nat} {a : Sh} {n : NT} {xs : List a.T} (k : (HC.rw T a n xs).ok ν q c w) : (HC.ro a n xs).ok ν q c w := by
  obtain ⟨h1, h2⟩ := k
  rcases h2 with ⟨h2, h3⟩ | ⟨h2, h3, h4⟩
  · exact ⟨h1, h2.rd, fun _ b hb => by rw [h3, hb]; simp⟩
  · have : xs = [] := List.length_eq_zero_iff.1 (by rw [h1.len, h2])
    subst this
    exact ⟨h1, Rd.nil _ _, fun h => absurd rfl h⟩
theorem del_get : ∀ (W : List Nat) (F : Tr) (t : Nat), (∀ x, x ∈ W → x < 4000) → (delF W F).get t = if t ∈ W then none else F.get t
  | [], F, t, _ => by simp [delF]
  | x :: r, F, t, h => by
    unfold delF
    rw [del_get r _ t (fun y hy => h y (by simp [hy])), put_get F (h x (by simp)) none t]
    by_cases e : x = t
    · subst e; simp
    · by_cases e2 : t ∈ r
      · simp [e2]
      · rw [if_neg e2, if_neg e, if_neg]
        simp only [List.mem_cons, not_or]
        exact ⟨fun q => e q.symm, e2⟩
theorem keep_get {q : Nat} {sp : Spec} {S : St} : ∀ (H : List (Nat × Nat × HC)), kept q sp S H = true → ∀ c y, hget (keepH q sp H) c = some y → ∃ s h, hget H c = some h ∧ hst H c = some s ∧ hst S.H c = some s ∧ s < q ∧ memN sp.dl c = false ∧ keyN sp.hs c = false ∧
      ((y = h ∧ (∀ T a n xs, h = .rw T a n xs → memN sp.se c = false)) ∨ (∃ T a n xs, h = .rw T a n xs ∧ y = .ro a n xs)) ∧ (hst (keepH q sp H) c = some s → y = h)
  | [], _, c, y, h => by cases h
  | (d, s, h) :: r, hk, c, y, hy => by
    simp only [kept, Bool.and_eq_true] at hk
    obtain ⟨hk1, hk2⟩ := hk
    have ih := keep_get r hk2 c y
    unfold keepH at hy ⊢
    cases hb : memN sp.dl d || keyN sp.hs d with
    | true =>
      rw [hb] at hy
      simp only [cond_true] at hy ⊢
      have hne : d ≠ c := by
        rintro rfl
        obtain ⟨_, _, _, _, _, _, g1, g2, _⟩ := ih hy
        rw [g1, g2] at hb; cases hb
      obtain ⟨s', h', g1, g2, g3⟩ := ih hy
      exact ⟨s', h', by rw [hget_cons, if_neg hne]; exact g1, by rw [hst_cons, if_neg hne]; exact g2, g3⟩
    | false =>
      rw [hb] at hy
      simp only [cond_false] at hy ⊢
      have hb' := Bool.or_eq_false_iff.1 hb
      rw [hb'.1, hb'.2] at hk1
      simp only [Bool.false_or] at hk1
      have hst' : hst S.H d = some s ∧ s < q := by
        cases e : hst S.H d with
        | none => rw [e] at hk1; cases hk1
        | some s' =>
          rw [e] at hk1
          simp only [Bool.and_eq_true] at hk1
          have := beqT hk1.1
          subst this
          exact ⟨rfl, by simpa using hk1.2⟩
      by_cases hdc : d = c
      · subst hdc
        refine ⟨s, h, by rw [hget_cons, if_pos rfl], by rw [hst_cons, if_pos rfl], hst'.1, hst'.2, hb'.1, hb'.2, ?_, ?_⟩
        · cases hs : memN sp.se d with
          | false =>
            rw [hs] at hy
            simp only [cond_false] at hy
            rw [hget_cons, if_pos rfl] at hy
            cases hy
            exact .inl ⟨rfl, fun _ _ _ _ _ => rfl⟩
          | true =>
            rw [hs] at hy
            simp only [cond_true] at hy
            split at hy
            · rename_i T a n xs
              rw [hget_cons, if_pos rfl] at hy
              cases hy
              exact .inr ⟨_, _, _, _, rfl, rfl⟩
            · rename_i hnr
              rw [hget_cons, if_pos rfl] at hy
              cases hy
              exact .inl ⟨rfl, fun T a n xs e => absurd e (hnr T a n xs)⟩
        · intro hq
          cases hs : memN sp.se d with
          | false =>
            rw [hs] at hy
            simp only [cond_false] at hy
            rw [hget_cons, if_pos rfl] at hy
            cases hy; rfl
          | true =>
            rw [hs] at hy hq
            simp only [cond_true] at hy hq
            split at hy
            · rename_i T a n xs
              simp only [] at hq
              rw [hst_cons, if_pos rfl] at hq
              cases hq
              omega
            · rename_i hnr
              rw [hget_cons, if_pos rfl] at hy
              cases hy; rfl
      · have hget' : hget (keepH q sp r) c = some y ∧ ∀ (A : List (Nat × Nat × HC)), True := by
          refine ⟨?_, fun _ => trivial⟩
          cases hs : memN sp.se d with
          | false =>
            rw [hs] at hy
            simp only [cond_false] at hy
            rwa [hget_cons, if_neg hdc] at hy
          | true =>
            rw [hs] at hy
            simp only [cond_true] at hy
            split at hy <;> rwa [hget_cons, if_neg hdc] at hy
        obtain ⟨s', h', g1, g2, g3, g4, g5, g6, g7, g8⟩ := ih hget'.1
        refine ⟨s', h', by rw [hget_cons, if_neg hdc]; exact g1, by rw [hst_cons, if_neg hdc]; exact g2, g3, g4, g5, g6, g7, fun hq => g8 ?_⟩
        cases hs : memN sp.se d with
        | false =>
          rw [hs] at hq
          simp only [cond_false] at hq
          rwa [hst_cons, if_neg hdc] at hq
        | true =>
          rw [hs] at hq
          simp only [cond_true] at hq
          split at hq <;> rwa [hst_cons, if_neg hdc] at hq
theorem keep_stamp2 {q : Nat} {sp : Spec} : ∀ (H : List (Nat × Nat × HC)) (c s s' : Nat), hst (keepH q sp H) c = some s → hst H c = some s' → s < q → s = s'
  | [], c, s, s', h, _, _ => by cases h
  | (d, t, x) :: r, c, s, s', h, g, hlt => by
    unfold keepH at h
    rw [hst_cons] at g
    have hdrop : ∀ c s, hst (keepH q sp r) c = some s → memN sp.dl c = false ∧ keyN sp.hs c = false := by
      have : ∀ (H : List (Nat × Nat × HC)) c s, hst (keepH q sp H) c = some s → memN sp.dl c = false ∧ keyN sp.hs c = false := by
        intro H
        induction H with
        | nil => intro c s h; cases h
        | cons p r ih =>
          obtain ⟨d, t, x⟩ := p
          intro c s h
          unfold keepH at h
          cases hb : memN sp.dl d || keyN sp.hs d with
          | true => rw [hb] at h; exact ih c s h
          | false =>
            rw [hb] at h
            simp only [cond_false] at h
            have hb' := Bool.or_eq_false_iff.1 hb
            by_cases e : d = c
            · subst e; exact hb'
            · cases hs : memN sp.se d with
              | false => rw [hs] at h; simp only [cond_false] at h; rw [hst_cons, if_neg e] at h; exact ih c s h
              | true => rw [hs] at h; simp only [cond_true] at h; split at h <;> (rw [hst_cons, if_neg e] at h; exact ih c s h)
      exact this r
    cases hb : memN sp.dl d || keyN sp.hs d with
    | true =>
      rw [hb] at h
      simp only [cond_true] at h
      have hne : d ≠ c := by
        rintro rfl
        obtain ⟨g1, g2⟩ := hdrop d s h
        rw [g1, g2] at hb; cases hb
      rw [if_neg hne] at g
      exact keep_stamp2 r c s s' h g hlt
    | false =>
      rw [hb] at h
      simp only [cond_false] at h
      by_cases e : d = c
      · subst e
        rw [if_pos rfl] at g
        cases g
        cases hs : memN sp.se d with
        | false => rw [hs] at h; simp only [cond_false] at h; rw [hst_cons, if_pos rfl] at h; cases h; rfl
        | true =>
          rw [hs] at h
          simp only [cond_true] at h
          split at h
          · rw [hst_cons, if_pos rfl] at h; cases h; omega
          · rw [hst_cons, if_pos rfl] at h; cases h; rfl
      · rw [if_neg e] at g
        cases hs : memN sp.se d with
        | false => rw [hs] at h; simp only [cond_false] at h; rw [hst_cons, if_neg e] at h; exact keep_stamp2 r c s s' h g hlt
        | true => rw [hs] at h; simp only [cond_true] at h; split at h <;> (rw [hst_cons, if_neg e] at h; exact keep_stamp2 r c s s' h g hlt)
theorem Mem.put {ν : NV} {q : Nat} {w0 : World} {X : XS} {H : List (Nat × Nat × HC)} {w : World} (M : Mem ν q w0 X H w) {c s : Nat} {x : HC} (hc : c < q) (hx : x.ok ν q c w) (hlt : ∀ b, b ∈ (ν c).D → b < w.heap.size)
    (hw : x.wt = true → ∀ b, b ∈ (ν c).D → w0.heap.size ≤ b ∨ b ∈ X.x) (hne : ∀ d y, hget H d = some y → d ≠ c → (x.wt = true ∨ y.wt = true) → ∀ b, b ∈ (ν c).D → b ∉ (ν d).D) (hs : ∀ b, b ∈ (ν c).D → Vis w0 X b) : Mem ν q w0 X ((c, s, x) :: H) w := by
  refine ⟨M.keep, fun d y hy => ?_, fun d y hy => ?_, fun d y hy => ?_, fun d y hy => ?_, fun d d' y y' hy hy' hdd hwt b hb hb2 => ?_, fun d y hy => ?_⟩
  · rw [hget_cons] at hy
    split at hy
    · rename_i e; subst e; exact hc
    · exact M.nm d y hy
  · rw [hget_cons] at hy
    split at hy
    · rename_i e; subst e; cases hy; exact hx
    · exact M.ok d y hy
  · rw [hget_cons] at hy
    split at hy
    · rename_i e; subst e; exact hlt
    · exact M.lt d y hy
  · rw [hget_cons] at hy
    split at hy
    · rename_i e; subst e; cases hy; exact hw
    · exact M.mine d y hy
  · rw [hget_cons] at hy hy'
    split at hy
    · rename_i e
      subst e
      cases hy
      rw [if_neg hdd] at hy'
      exact hne d' y' hy' (fun e => hdd e.symm) (.inl hwt) b hb hb2
    · split at hy'
      · rename_i e
        subst e
        cases hy'
        exact hne d y hy hdd (.inr hwt) b hb2 hb
      · exact M.ne d d' y y' hy hy' hdd hwt b hb hb2
  · rw [hget_cons] at hy
    split at hy
    · rename_i e; subst e; exact hs
    · exact M.src d y hy

/-- The state before, the state that is told anew. -/
structure Bef (q0 : Nat) (sp : Spec) (S0 : St) (ν' : NV) (q' : Nat) (w0 : World) (X : XS) (N : Nat) (S' : St) (a' : Act) (w' : World) : Prop where
  R : Rep ν' q' w0 X N S' a' w'
  le : q0 ≤ q'
  hN : N ≤ 4000
  nm : ∀ c h, hget S0.H c = some h → c < q0
  ok : ∀ c h, hget S0.H c = some h → ∃ w, h.ok ν' q0 c w
  old : ∀ t v, S0.get t = some v → v.ok ν' q0
  frz : Frz q0 S0.H S'.H
/-- What has been told so far; PR, PW: the pieces handed over to be read, and as one's own. -/
structure Tgt (q0 : Nat) (sp : Spec) (S0 : St) (ν' : NV) (S' : St) (PR PW : Nat → Prop) (ν1 : NV) (n : Nat) (w0 : World) (X : XS) (N : Nat) (S1 : St) (a' : Act) (w' : World) : Prop where
  agr : Agr q0 ν' ν1
  le : q0 ≤ n
  rep : Rep ν1 n w0 X N S1 a' w'
  pw : ∀ c, PW c → (∃ h, hget S'.H c = some h ∧ h.wt = true) ∧ keyN sp.hs c = false
  pr : ∀ c, PR c → (∃ h, hget S'.H c = some h) ∧ stays sp S0.H c = false
  led : ∀ d y, hget S1.H d = some y → (ν1 d).D = [] ∨ (∃ c, PW c ∧ ∀ b, b ∈ (ν1 d).D → b ∈ (ν' c).D) ∨ (y.wt = false ∧ ∃ c, PR c ∧ ∀ b, b ∈ (ν1 d).D → b ∈ (ν' c).D) ∨
    (d < q0 ∧ (∃ h, hget S'.H d = some h ∧ (y.wt = true → h.wt = true)) ∧ (y.wt = true → stays sp S0.H d = true) ∧ (∃ h, hget S0.H d = some h) ∧ (memN sp.dl d = true → keyN sp.hs d = true))
section
variable {q0 : Nat} {sp : Spec} {S0 : St} {ν ν' ν1 : NV} {q' n : Nat} {w0 w w' : World} {X : XS} {N : Nat} {S' S1 : St} {a a' : Act} {PR PW : Nat → Prop}
theorem vwV_lt : ∀ (x : VS), vwV S0.H x = true → (∀ c h, hget S0.H c = some h → c < q0) → ∀ c, c ∈ vwN x → c < q0 := by
  intro x
  induction x with
  | vw c tl =>
    intro h hnm d hd
    have := List.mem_singleton.1 (show d ∈ [c] from hd)
    subst this
    have h : (hget S0.H d).isSome = true := h
    obtain ⟨y, hy⟩ := Option.isSome_iff_exists.1 h
    exact hnm d y hy
  | vh c =>
    intro h hnm d hd
    have := List.mem_singleton.1 (show d ∈ [c] from hd)
    subst this
    have h : (hget S0.H d).isSome = true := h
    obtain ⟨y, hy⟩ := Option.isSome_iff_exists.1 h
    exact hnm d y hy
  | pr a b iha ihb =>
    intro h hnm d hd
    have h : (vwV S0.H a && vwV S0.H b) = true := h
    rw [Bool.and_eq_true] at h
    rcases mem_app.1 (show d ∈ app (vwN a) (vwN b) from hd) with hd | hd
    · exact iha h.1 hnm d hd
    · exact ihb h.2 hnm d hd
  | one a ih => intro h hnm d hd; exact ih h hnm d hd
  | v _ => intro _ _ d hd; cases hd
  | ro _ => intro _ _ d hd; cases hd
  | rq _ => intro _ _ d hd; cases hd
  | rw _ _ => intro _ _ d hd; cases hd
  | k => intro _ _ d hd; cases hd
  | rp _ => intro _ _ d hd; cases hd
/-- a value is told anew -/
theorem Tgt.lay (A : Bef q0 sp S0 ν' q' w0 X N S' a' w') (T : Tgt q0 sp S0 ν' S' PR PW ν1 n w0 X N S1 a' w') {x : VS} {v old : SV} {d : Tup x.lv} (e : extV S'.H x v old = some d) (hv : v.ok ν' q') (ho : old.ok ν' q0) (hvw : vwV S0.H x = true)
    (hnd : nodup (rwN x v) = true) (hdis : ∀ c, c ∈ rwN x v → c ∉ roN x v)
    (hw : ∀ c, c ∈ rwN x v → ¬ PW c ∧ ¬ PR c ∧ keyN sp.hs c = false ∧ (memN sp.dl c = true ∨ hget S0.H c = none)) (hr : ∀ c, c ∈ roN x v → ¬ PW c ∧ stays sp S0.H c = false)
    (s : Nat) :
    ∃ ν2, Laid ν' ν1 n (n + x.nm) w0 X w' S1.H x v (embV s x d old S1.H n) ν2 ∧ Agr q0 ν' ν2 ∧
      ∀ d' y, hget (embV s x d old S1.H n).H d' = some y → (ν2 d').D = [] ∨ (∃ c, (PW c ∨ c ∈ rwN x v) ∧ ∀ b, b ∈ (ν2 d').D → b ∈ (ν' c).D) ∨ (y.wt = false ∧ ∃ c, (PR c ∨ c ∈ roN x v) ∧ ∀ b, b ∈ (ν2 d').D → b ∈ (ν' c).D) ∨
        (d' < q0 ∧ (∃ h, hget S'.H d' = some h ∧ (y.wt = true → h.wt = true)) ∧ (y.wt = true → stays sp S0.H d' = true) ∧ (∃ h, hget S0.H d' = some h) ∧ (memN sp.dl d' = true → keyN sp.hs d' = true)) := by
  have M := A.R.mem
  have hPW : ∀ c, PW c → ∃ h, hget S'.H c = some h ∧ h.wt = true := fun c h => (T.pw c h).1
  have hPR : ∀ c, PR c → ∃ h, hget S'.H c = some h := fun c h => (T.pr c h).1
  have hroom : Room ν' ν1 x v S1.H := by
    refine ⟨fun c hc d' y hd hy b hb hb2 => ?_, fun c hc d' y hd b hb hb2 => ?_⟩
    · obtain ⟨hx, hgx⟩ := roN_get x v old d e c hc
      rcases T.led d' y hd with h | ⟨c', h1, h2⟩ | ⟨h1, _⟩ | ⟨h1, ⟨h, h2, h3⟩, h4, h5, h6⟩
      · rw [h] at hb2; cases hb2
      · obtain ⟨hp, g1, g2⟩ := hPW c' h1
        refine M.ne c' c hp hx g1 hgx (fun q => ?_) g2 b (h2 b hb2) hb
        subst q; exact (hr c' hc).1 h1
      · rw [h1] at hy; cases hy
      · rw [T.agr d' h1] at hb2
        refine M.ne d' c h hx h2 hgx (fun q => ?_) (h3 hy) b hb2 hb
        subst q
        rw [(hr d' hc).2] at h4; exact absurd (h4 hy) (by simp)
    · obtain ⟨hx, hgx, hwx⟩ := rwN_get x v old d e c hc
      obtain ⟨w1, w2, w3, w4⟩ := hw c hc
      rcases T.led d' y hd with h | ⟨c', h1, h2⟩ | ⟨_, c', h1, h2⟩ | ⟨h1, ⟨h, h2, h3⟩, h4, ⟨h0, h5⟩, h6⟩
      · rw [h] at hb2; cases hb2
      · obtain ⟨hp, g1, g2⟩ := hPW c' h1
        refine M.ne c c' hx hp hgx g1 (fun q => ?_) hwx b hb (h2 b hb2)
        subst q; exact w1 h1
      · obtain ⟨hp, g1⟩ := hPR c' h1
        refine M.ne c c' hx hp hgx g1 (fun q => ?_) hwx b hb (h2 b hb2)
        subst q; exact w2 h1
      · rw [T.agr d' h1] at hb2
        refine M.ne c d' hx h hgx h2 (fun q => ?_) hwx b hb hb2
        subst q
        rcases w4 with w4 | w4
        · rw [h6 w4] at w3; cases w3
        · rw [w4] at h5; cases h5
  obtain ⟨ν2, L⟩ := embV_ok M A.le x v old d e hv ho (vwV_lt x hvw A.nm) (fun c hc b hb => by
    obtain ⟨hx, hgx, hwx⟩ := rwN_get x v old d e c hc
    exact M.mine c hx hgx hwx b hb) (fun c hc b hb => by
    obtain ⟨hx, hgx⟩ := roN_get x v old d e c hc
    exact M.src c hx hgx b hb) s n ν1 S1.H T.le T.agr T.rep.mem hroom hnd hdis
  have hag2 := T.agr.trans L.agr T.le
  refine ⟨ν2, L, hag2, fun d' y hd => ?_⟩
  rcases L.new d' y hd with h | h | ⟨c, hc, h⟩
  · have hlt := T.rep.mem.nm d' y h
    have hD : (ν2 d').D = (ν1 d').D := by rw [L.agr d' hlt]
    rw [hD]
    rcases T.led d' y h with h | ⟨c', h1, h2⟩ | ⟨h0, c', h1, h2⟩ | h
    · exact .inl h
    · exact .inr (.inl ⟨c', .inl h1, h2⟩)
    · exact .inr (.inr (.inl ⟨h0, c', .inl h1, h2⟩))
    · exact .inr (.inr (.inr h))
  · exact .inl h
  · rcases hc with hc | ⟨hy, hc⟩
    · exact .inr (.inl ⟨c, .inr hc, h⟩)
    · exact .inr (.inr (.inl ⟨hy, c, .inr hc, h⟩))
/-- the conditions that are asked of the rest -/
structure Ask (sp : Spec) (S0 S' : St) (PR PW : Nat → Prop) (rw ro : List Nat) : Prop where
  nd : nodup rw = true
  dis : ∀ c, c ∈ rw → c ∉ ro
  w : ∀ c, c ∈ rw → ¬ PW c ∧ ¬ PR c ∧ keyN sp.hs c = false ∧ (memN sp.dl c = true ∨ hget S0.H c = none)
  r : ∀ c, c ∈ ro → ¬ PW c ∧ stays sp S0.H c = false
theorem Ask.fst {rw ro rw' ro' : List Nat} (h : Ask sp S0 S' PR PW (app rw rw') (app ro ro')) : Ask sp S0 S' PR PW rw ro :=
  ⟨(nodup_app.1 h.nd).1, fun c hc hd => h.dis c (mem_app.2 (.inl hc)) (mem_app.2 (.inl hd)), fun c hc => h.w c (mem_app.2 (.inl hc)), fun c hc => h.r c (mem_app.2 (.inl hc))⟩
theorem Ask.snd {rw ro rw' ro' : List Nat} (h : Ask sp S0 S' PR PW (app rw rw') (app ro ro')) : Ask sp S0 S' (fun c => PR c ∨ c ∈ ro) (fun c => PW c ∨ c ∈ rw) rw' ro' :=
  ⟨(nodup_app.1 h.nd).2.1, fun c hc hd => h.dis c (mem_app.2 (.inr hc)) (mem_app.2 (.inr hd)), fun c hc => by
    obtain ⟨h1, h2, h3⟩ := h.w c (mem_app.2 (.inr hc))
    exact ⟨fun q => q.elim h1 (fun q => (nodup_app.1 h.nd).2.2 c q hc), fun q => q.elim h2 (fun q => h.dis c (mem_app.2 (.inr hc)) (mem_app.2 (.inl q))), h3⟩, fun c hc => by
    obtain ⟨h1, h2⟩ := h.r c (mem_app.2 (.inr hc))
    exact ⟨fun q => q.elim h1 (fun q => h.dis c (mem_app.2 (.inl q)) (mem_app.2 (.inr hc))), h2⟩⟩
theorem Ask.congr {rw ro : List Nat} {PR' PW' : Nat → Prop} (h : Ask sp S0 S' PR PW rw ro) (h1 : ∀ c, PR' c → PR c) (h2 : ∀ c, PW' c → PW c) : Ask sp S0 S' PR' PW' rw ro :=
  ⟨h.nd, h.dis, fun c hc => ⟨fun q => (h.w c hc).1 (h2 c q), fun q => (h.w c hc).2.1 (h1 c q), (h.w c hc).2.2⟩, fun c hc => ⟨fun q => (h.r c hc).1 (h2 c q), (h.r c hc).2⟩⟩
theorem extSS_some {t : Nat} {a : VS} {r : List (Nat × VS)} {x : Tup (lvP ((t, a) :: r))} (h : extSS S0 S' ((t, a) :: r) = some x) : ∃ v p y, S'.get t = some v ∧ extV S'.H a v ((S0.get t).getD .ud) = some p ∧ extSS S0 S' r = some y ∧ x = tcat a.lv (lvP r) p y := by
  unfold extSS at h
  split at h
  · rename_i v hv
    split at h
    · rename_i p y hp hy
      exact ⟨v, p, y, hv, hp, hy, (Option.some.inj h).symm⟩
    · cases h
  · cases h
theorem embSS_ok (A : Bef q0 sp S0 ν' q' w0 X N S' a' w') (s : Nat) : ∀ (l : List (Nat × VS)) (x : Tup (lvP l)) (PR PW : Nat → Prop) (ν1 : NV) (n : Nat) (S1 : St), extSS S0 S' l = some x → Tgt q0 sp S0 ν' S' PR PW ν1 n w0 X N S1 a' w' → vwP S0.H l = true →
    Ask sp S0 S' PR PW (rwP S' l) (roP S' l) → ∃ ν2, Tgt q0 sp S0 ν' S' (fun c => PR c ∨ c ∈ roP S' l) (fun c => PW c ∨ c ∈ rwP S' l) ν2 (n + nmP l) w0 X N (embSS s S0 l x S1 n) a' w'
  | [], x, PR, PW, ν1, n, S1, _, T, _, _ => ⟨ν1, ⟨T.agr, T.le, T.rep, fun c h => T.pw c (h.elim id (fun q => by cases q)), fun c h => T.pr c (h.elim id (fun q => by cases q)), fun d y h => by
      rcases T.led d y h with h | ⟨c, h1, h2⟩ | ⟨h0, c, h1, h2⟩ | h
      · exact .inl h
      · exact .inr (.inl ⟨c, .inl h1, h2⟩)
      · exact .inr (.inr (.inl ⟨h0, c, .inl h1, h2⟩))
      · exact .inr (.inr (.inr h))⟩⟩
  | (t, a) :: r, x, PR, PW, ν1, n, S1, hx, T, hvw, K => by
    obtain ⟨v, p, y, hv, hp, hy, rfl⟩ := extSS_some hx
    obtain ⟨hf1, hf2⟩ := A.R.fr t v hv
    have hvw : (vwV S0.H a && vwP S0.H r) = true := hvw
    rw [Bool.and_eq_true] at hvw
    have e1 : rwP S' ((t, a) :: r) = app (rwN a v) (rwP S' r) := by show app (match S'.get t with | some v => rwN a v | none => []) _ = _; rw [hv]
    have e2 : roP S' ((t, a) :: r) = app (roN a v) (roP S' r) := by show app (match S'.get t with | some v => roN a v | none => []) _ = _; rw [hv]
    rw [e1, e2] at K
    have ho : ((S0.get t).getD .ud).ok ν' q0 := by
      cases e : S0.get t with
      | none => exact trivial
      | some o => exact A.old t o e
    obtain ⟨ν2, L, hag2, hled⟩ := T.lay A hp hf2 ho hvw.1 K.fst.nd K.fst.dis K.fst.w K.fst.r s
    have htN := A.R.lt hv
    have hput : ∀ m, (St.mk (S1.F.put FUEL t (some (embV s a p ((S0.get t).getD .ud) S1.H n).v)) (embV s a p ((S0.get t).getD .ud) S1.H n).H).get m = if t = m then some (embV s a p ((S0.get t).getD .ud) S1.H n).v else S1.get m := fun m => put_get S1.F (by have := A.hN; omega) _ m
    have T2 : Tgt q0 sp S0 ν' S' (fun c => PR c ∨ c ∈ roN a v) (fun c => PW c ∨ c ∈ rwN a v) ν2 (n + a.nm) w0 X N ⟨S1.F.put FUEL t (some (embV s a p ((S0.get t).getD .ud) S1.H n).v), (embV s a p ((S0.get t).getD .ud) S1.H n).H⟩ a' w' := by
      refine ⟨hag2, by have := T.le; omega, ⟨T.rep.size, T.rep.df, fun m u hu => ?_, L.mem⟩, fun c hc => ?_, fun c hc => ?_, hled⟩
      · rw [hput] at hu
        split at hu
        · rename_i e
          subst e
          cases hu
          exact ⟨by rw [hf1, L.cv], L.ok⟩
        · obtain ⟨g1, g2⟩ := T.rep.fr m u hu
          exact ⟨by rw [cv_agr L.agr g2]; exact g1, ok_mono (by omega) u (ok_agr L.agr u g2).1⟩
      · rcases hc with hc | hc
        · exact T.pw c hc
        · exact ⟨rwN_get a v _ p hp c hc, (K.fst.w c hc).2.2.1⟩
      · rcases hc with hc | hc
        · exact T.pr c hc
        · exact ⟨roN_get a v _ p hp c hc, (K.fst.r c hc).2⟩
    obtain ⟨ν3, T3⟩ := embSS_ok A s r y _ _ ν2 (n + a.nm) _ hy T2 hvw.2 K.snd
    refine ⟨ν3, ?_⟩
    have hE : embSS s S0 ((t, a) :: r) (tcat a.lv (lvP r) p y) S1 n = embSS s S0 r y ⟨S1.F.put FUEL t (some (embV s a p ((S0.get t).getD .ud) S1.H n).v), (embV s a p ((S0.get t).getD .ud) S1.H n).H⟩ (n + a.nm) := by
      have t1 := tcat_fst a.lv (lvP r) p y
      have t2 := tcat_snd a.lv (lvP r) p y
      show embSS s S0 r (tsnd a.lv (lvP r) (tcat a.lv (lvP r) p y)) ⟨S1.F.put FUEL t (some (embV s a (tfst a.lv (lvP r) (tcat a.lv (lvP r) p y)) ((S0.get t).getD .ud) S1.H n).v), (embV s a (tfst a.lv (lvP r) (tcat a.lv (lvP r) p y)) ((S0.get t).getD .ud) S1.H n).H⟩ (n + a.nm) = _
      rw [t1, t2]
    rw [hE, e1, e2]
    have hn : n + nmP ((t, a) :: r) = n + a.nm + nmP r := by simp only [nmP]; omega
    rw [hn]
    refine ⟨T3.agr, T3.le, T3.rep, fun c hc => ?_, fun c hc => ?_, fun d y' h => ?_⟩
    · exact T3.pw c (by
        rcases hc with hc | hc
        · exact .inl (.inl hc)
        · rcases mem_app.1 hc with hc | hc
          · exact .inl (.inr hc)
          · exact .inr hc)
    · exact T3.pr c (by
        rcases hc with hc | hc
        · exact .inl (.inl hc)
        · rcases mem_app.1 hc with hc | hc
          · exact .inl (.inr hc)
          · exact .inr hc)
    · rcases T3.led d y' h with h | ⟨c, h1, h2⟩ | ⟨h0, c, h1, h2⟩ | h
      · exact .inl h
      · refine .inr (.inl ⟨c, ?_, h2⟩)
        rcases h1 with (h1 | h1) | h1
        · exact .inl h1
        · exact .inr (mem_app.2 (.inl h1))
        · exact .inr (mem_app.2 (.inr h1))
      · refine .inr (.inr (.inl ⟨h0, c, ?_, h2⟩))
        rcases h1 with (h1 | h1) | h1
        · exact .inl h1
        · exact .inr (mem_app.2 (.inl h1))
        · exact .inr (mem_app.2 (.inr h1))
      · exact .inr (.inr (.inr h))
theorem extHS_some {c : Nat} {a : VS} {r : List (Nat × VS)} {x : Tup (lvP ((c, a) :: r))} (h : extHS S0 S' ((c, a) :: r) = some x) : ∃ v p y, hget S'.H c = some v ∧ extC S'.H a (hget S0.H c) v = some p ∧ extHS S0 S' r = some y ∧ x = tcat a.lv (lvP r) p y := by
  unfold extHS at h
  split at h
  · rename_i v hv
    split at h
    · rename_i p y hp hy
      exact ⟨v, p, y, hv, hp, hy, (Option.some.inj h).symm⟩
    · cases h
  · cases h
theorem keyN_mem {l : List (Nat × VS)} {c : Nat} (h : keyN l c = true) : True := trivial
/-- a piece told anew is added -/
theorem Tgt.piece (A : Bef q0 sp S0 ν' q' w0 X N S' a' w') {c s n' : Nat} {h h0 y : HC} {ν2 : NV} {F : Tr} {H2 : List (Nat × Nat × HC)} (T : Tgt q0 sp S0 ν' S' PR PW ν2 n' w0 X N ⟨F, H2⟩ a' w') (hc : hget S'.H c = some h) (hc0 : hget S0.H c = some h0) (hwt : h.wt = true)
    (hk : keyN sp.hs c = true) (hst' : stays sp S0.H c = true) (hy : y.ok ν2 n' c w') : Tgt q0 sp S0 ν' S' PR PW ν2 n' w0 X N ⟨F, (c, s, y) :: H2⟩ a' w' := by
  have M := A.R.mem
  have hlt := A.nm c h0 hc0
  have hD : (ν2 c).D = (ν' c).D := by rw [T.agr c hlt]
  refine ⟨T.agr, T.le, ⟨T.rep.size, T.rep.df, T.rep.fr, ?_⟩, T.pw, T.pr, fun d z hz => ?_⟩
  · refine T.rep.mem.put (Nat.lt_of_lt_of_le hlt T.le) hy ?_ ?_ ?_ (by rw [hD]; exact M.src c h hc)
    · rw [hD]; exact M.lt c h hc
    · rw [hD]; exact fun _ => M.mine c h hc hwt
    · intro d z hz hne _ b hb hb2
      rw [hD] at hb
      rcases T.led d z hz with h1 | ⟨c', h1, h2⟩ | ⟨_, c', h1, h2⟩ | ⟨h1, ⟨h3, h4, _⟩, _⟩
      · rw [h1] at hb2; cases hb2
      · obtain ⟨⟨hp, g1, g2⟩, g3⟩ := T.pw c' h1
        refine M.ne c c' h hp hc g1 (fun q => ?_) hwt b hb (h2 b hb2)
        subst q; rw [hk] at g3; cases g3
      · obtain ⟨⟨hp, g1⟩, g3⟩ := T.pr c' h1
        refine M.ne c c' h hp hc g1 (fun q => ?_) hwt b hb (h2 b hb2)
        subst q; rw [hst'] at g3; cases g3
      · rw [T.agr d h1] at hb2
        exact M.ne c d h h3 hc h4 (fun q => hne q.symm) hwt b hb hb2
  · replace hz : hget ((c, s, y) :: H2) d = some z := hz
    rw [hget_cons] at hz
    split at hz
    · rename_i e
      subst e
      cases hz
      exact .inr (.inr (.inr ⟨hlt, ⟨h, hc, fun _ => hwt⟩, fun _ => hst', ⟨h0, hc0⟩, fun _ => hk⟩))
    · exact T.led d z hz
theorem extC_bk {H : List (Nat × Nat × HC)} {a : VS} {o : Option HC} {T : Nat} {v : SV} {p : Tup a.lv} (h : extC H a o (.bk T v) = some p) : ∃ w, o = some (.bk T w) ∧ extV H a v w = some p := by
  cases o with
  | none => cases h
  | some o =>
    cases o <;> (try (cases h; done))
    rename_i T' w
    replace h : (bif Nat.beq T T' then extV H a v w else none) = some p := h
    cases hb : Nat.beq T T' with
    | false => rw [hb] at h; cases h
    | true => rw [hb] at h; have := beqT hb; subst this; exact ⟨w, rfl, h⟩
theorem extC_rw {H : List (Nat × Nat × HC)} {a : VS} {o : Option HC} {T : Nat} {b : Sh} {n : NT} {xs : List b.T} {p : Tup a.lv} (h : extC H a o (.rw T b n xs) = some p) : (∃ T0 b0 m ys, o = some (.rw T0 b0 m ys)) ∧ ∃ e : VS.rw T b = a, p = e ▸ (show Tup (VS.rw T b).lv from xs) := by
  cases o with
  | none => cases h
  | some o =>
    cases o <;> (try (cases h; done))
    rename_i T0 b0 m ys
    refine ⟨⟨T0, b0, m, ys, rfl⟩, ?_⟩
    cases a <;> (try (cases h; done))
    rename_i T' a'
    replace h : (bif Nat.beq T T' then castL b a' xs else none) = some p := h
    cases hb : Nat.beq T T' with
    | false => rw [hb] at h; cases h
    | true =>
      rw [hb] at h
      have := beqT hb
      subst this
      replace h : castL b a' xs = some p := h
      have := castL_sh h
      subst this
      exact ⟨rfl, (castL_self h).symm⟩
theorem Tgt.mono (T : Tgt q0 sp S0 ν' S' PR PW ν1 n w0 X N S1 a' w') {m : Nat} (h : n ≤ m) : Tgt q0 sp S0 ν' S' PR PW ν1 m w0 X N S1 a' w' :=
  ⟨T.agr, Nat.le_trans T.le h, ⟨T.rep.size, T.rep.df, fun t v hv => ⟨(T.rep.fr t v hv).1, ok_mono h v (T.rep.fr t v hv).2⟩, T.rep.mem.mono h⟩, T.pw, T.pr, T.led⟩
theorem embHS_ok (A : Bef q0 sp S0 ν' q' w0 X N S' a' w') (s : Nat) : ∀ (l : List (Nat × VS)) (x : Tup (lvP l)) (PR PW : Nat → Prop) (ν1 : NV) (n : Nat) (S1 : St), extHS S0 S' l = some x → Tgt q0 sp S0 ν' S' PR PW ν1 n w0 X N S1 a' w' → vwP S0.H l = true →
    (∀ c, keyN l c = true → keyN sp.hs c = true) → Ask sp S0 S' PR PW (rwH S' l) (roH S' l) → ∃ ν2 PR' PW', Tgt q0 sp S0 ν' S' PR' PW' ν2 (n + nmP l) w0 X N (embHS s S0 l x S1 n) a' w'
  | [], x, PR, PW, ν1, n, S1, _, T, _, _, _ => ⟨ν1, PR, PW, T⟩
  | (c, a) :: r, x, PR, PW, ν1, n, S1, hx, T, hvw, hkey, K => by
    obtain ⟨h, p, y, hv, hp, hy, rfl⟩ := extHS_some hx
    have hvw : (vwV S0.H a && vwP S0.H r) = true := hvw
    rw [Bool.and_eq_true] at hvw
    have hk : keyN sp.hs c = true := hkey c (by simp [keyN, Nat.beq_refl])
    have hkey' : ∀ c, keyN r c = true → keyN sp.hs c = true := fun d hd => hkey d (by simp [keyN, hd])
    have hn : n + nmP ((c, a) :: r) = n + a.nm + nmP r := by simp only [nmP]; omega
    have t1 := tcat_fst a.lv (lvP r) p y
    have t2 := tcat_snd a.lv (lvP r) p y
    have hok := A.R.mem.ok c h hv
    cases h with
    | bk TT v =>
      obtain ⟨old, ho, hp⟩ := extC_bk hp
      obtain ⟨b, k1, k2, k3, k4, k5, k6⟩ := hok
      obtain ⟨wz, bz, j1, j2, j3, j4, j5, j6⟩ := A.ok c _ ho
      have e1 : rwH S' ((c, a) :: r) = app (rwN a v) (rwH S' r) := by show app (match hget S'.H c with | some (.bk _ v) => rwN a v | _ => []) _ = _; rw [hv]
      have e2 : roH S' ((c, a) :: r) = app (roN a v) (roH S' r) := by show app (match hget S'.H c with | some (.bk _ v) => roN a v | _ => []) _ = _; rw [hv]
      rw [e1, e2] at K
      obtain ⟨ν2, L, hag2, hled⟩ := T.lay A hp k4 j4 hvw.1 K.fst.nd K.fst.dis K.fst.w K.fst.r s
      have hlt := A.nm c _ ho
      have T2 : Tgt q0 sp S0 ν' S' (fun c => PR c ∨ c ∈ roN a v) (fun c => PW c ∨ c ∈ rwN a v) ν2 (n + a.nm) w0 X N ⟨S1.F, (embV s a p old S1.H n).H⟩ a' w' := by
        refine ⟨hag2, by have := T.le; omega, ⟨T.rep.size, T.rep.df, fun m u hu => ?_, L.mem⟩, fun c hc => ?_, fun c hc => ?_, hled⟩
        · obtain ⟨g1, g2⟩ := T.rep.fr m u hu
          exact ⟨by rw [cv_agr L.agr g2]; exact g1, ok_mono (by omega) u (ok_agr L.agr u g2).1⟩
        · rcases hc with hc | hc
          · exact T.pw c hc
          · exact ⟨rwN_get a v _ p hp c hc, (K.fst.w c hc).2.2.1⟩
        · rcases hc with hc | hc
          · exact T.pr c hc
          · exact ⟨roN_get a v _ p hp c hc, (K.fst.r c hc).2⟩
      have hstay : stays sp S0.H c = true := by unfold stays; rw [ho]; simp [hk]
      have T3 := T2.piece A (s := s) (y := .bk TT (embV s a p old S1.H n).v) hv ho rfl hk hstay (by
        have hN : ν2 c = ν' c := hag2 c hlt
        exact ⟨b, by rw [hN]; exact k1, by rw [hN]; exact k2, by rw [hN, L.lay]; exact k3, L.ok, by rw [L.st]; exact k5, by rw [L.cls]; exact k6⟩)
      obtain ⟨ν3, PR', PW', T4⟩ := embHS_ok A s r y _ _ ν2 (n + a.nm) _ hy T3 hvw.2 hkey' K.snd
      refine ⟨ν3, PR', PW', ?_⟩
      have hE : embHS s S0 ((c, a) :: r) (tcat a.lv (lvP r) p y) S1 n = embHS s S0 r y ⟨S1.F, (c, s, .bk TT (embV s a p old S1.H n).v) :: (embV s a p old S1.H n).H⟩ (n + a.nm) := by
        show embHS s S0 r (tsnd a.lv (lvP r) (tcat a.lv (lvP r) p y)) (hsS s S0 c a (tfst a.lv (lvP r) (tcat a.lv (lvP r) p y)) S1 n) (n + a.nm) = _
        rw [t1, t2]
        unfold hsS
        rw [ho]
      rw [hE, hn]
      exact T4
    | rw TT b k xs =>
      obtain ⟨⟨T0, b0, m, ys, ho⟩, e, hp⟩ := extC_rw hp
      subst e
      replace hp : p = xs := hp
      subst hp
      have e1 : rwH S' ((c, .rw TT b) :: r) = rwH S' r := by show app (match hget S'.H c with | some (.bk _ v) => rwN _ v | _ => []) _ = _; rw [hv]; rfl
      have e2 : roH S' ((c, .rw TT b) :: r) = roH S' r := by show app (match hget S'.H c with | some (.bk _ v) => roN _ v | _ => []) _ = _; rw [hv]; rfl
      rw [e1, e2] at K
      obtain ⟨wz, hI0, _⟩ := A.ok c _ ho
      have hlt := A.nm c _ ho
      have hm : m.x = k.x := by rw [← hI0.nn, ← hok.1.nn]
      have hN : ν1 c = ν' c := T.agr c hlt
      have hstay : stays sp S0.H c = true := by unfold stays; rw [ho]; simp [hk]
      have hok2 : (HC.rw TT b m p).ok ν1 (n + 1) c w' := by
        obtain ⟨hI, hO⟩ := hok
        refine ⟨⟨by rw [hm]; exact hI.len, hI.all, by rw [hN]; exact hI.lay, by rw [hN, hm]; exact hI.nn, by rw [hN, hm]; exact hI.cap, by rw [hN]; exact hI.max, by rw [hN]; exact hI.adr⟩, ?_⟩
        rw [hN, hm]; exact hO
      have T3 := (T.mono (Nat.le_succ n)).piece A (s := s) (y := .rw TT b m p) hv ho rfl hk hstay hok2
      obtain ⟨ν3, PR', PW', T4⟩ := embHS_ok A s r y _ _ ν1 (n + 1) _ hy T3 hvw.2 hkey' K
      refine ⟨ν3, PR', PW', ?_⟩
      have hE : embHS s S0 ((c, .rw TT b) :: r) (tcat (VS.rw TT b).lv (lvP r) p y) S1 n = embHS s S0 r y ⟨S1.F, (c, s, .rw TT b m p) :: S1.H⟩ (n + 1) := by
        show embHS s S0 r (tsnd (VS.rw TT b).lv (lvP r) (tcat (VS.rw TT b).lv (lvP r) p y)) (hsS s S0 c (.rw TT b) (tfst (VS.rw TT b).lv (lvP r) (tcat (VS.rw TT b).lv (lvP r) p y)) S1 n) (n + 1) = _
        rw [t1, t2]
        unfold hsS
        rw [ho]
        rfl
      rw [hE, hn]
      exact T4
    | ro b k xs => cases hp
    | rs l => cases hp
    | rq b k xss => cases hp
theorem embV_frz {q s : Nat} (hs : q ≤ s) : ∀ (x : VS) (d : Tup x.lv) (old : SV) (H : List (Nat × Nat × HC)) (n : Nat), Frz q H (embV s x d old H n).H := by
  intro x
  induction x with
  | pr a b iha ihb =>
    intro d old H n
    have h1 := iha (tfst a.lv b.lv d) (lftS old) H n
    have h2 := ihb (tsnd a.lv b.lv d) (rgtS old) (embV s a (tfst a.lv b.lv d) (lftS old) H n).H (n + a.nm)
    have := embV_pr s a b d old H n
    rw [this]
    exact h1.trans h2 (Nat.le_refl _)
  | one a ih =>
    intro d old H n
    have := embV_one s a d old H n
    rw [this]
    exact ih d (oneS old) H n
  | v a => intro d old H n; exact Frz.refl _ _
  | ro a => intro d old H n; exact (Frz.refl _ _).cons hs _ _
  | rq a => intro d old H n; exact (Frz.refl _ _).cons hs _ _
  | rw T a => intro d old H n; exact (Frz.refl _ _).cons hs _ _
  | vw c tl => intro d old H n; exact Frz.refl _ _
  | vh c => intro d old H n; exact Frz.refl _ _
  | k => intro d old H n; exact Frz.refl _ _
  | rp a => intro d old H n; exact (Frz.refl _ _).cons hs _ _
theorem embSS_frz {q s : Nat} (hs : q ≤ s) : ∀ (l : List (Nat × VS)) (x : Tup (lvP l)) (S : St) (n : Nat), Frz q S.H (embSS s S0 l x S n).H
  | [], _, S, n => Frz.refl _ _
  | (t, a) :: r, x, S, n => (embV_frz hs a (tfst a.lv (lvP r) x) ((S0.get t).getD .ud) S.H n).trans (embSS_frz hs r (tsnd a.lv (lvP r) x) ⟨S.F.put FUEL t (some (embV s a (tfst a.lv (lvP r) x) ((S0.get t).getD .ud) S.H n).v), (embV s a (tfst a.lv (lvP r) x) ((S0.get t).getD .ud) S.H n).H⟩ (n + a.nm)) (Nat.le_refl _)
theorem hsS_frz {q s : Nat} (hs : q ≤ s) (c : Nat) (a : VS) (p : Tup a.lv) (S : St) (n : Nat) : Frz q S.H (hsS s S0 c a p S n).H := by
  unfold hsS
  split
  · exact (embV_frz hs _ _ _ _ _).cons hs _ _
  · rename_i m _ _
    show Frz q S.H (rwS s c _ a p S.H)
    cases a <;> first | exact Frz.refl _ _ | exact (Frz.refl _ _).cons hs _ _
  · exact Frz.refl _ _
theorem embHS_frz {q s : Nat} (hs : q ≤ s) : ∀ (l : List (Nat × VS)) (x : Tup (lvP l)) (S : St) (n : Nat), Frz q S.H (embHS s S0 l x S n).H
  | [], _, S, n => Frz.refl _ _
  | (c, a) :: r, x, S, n => (hsS_frz hs c a (tfst a.lv (lvP r) x) S n).trans (embHS_frz hs r (tsnd a.lv (lvP r) x) _ (n + a.nm)) (Nat.le_refl _)
theorem extJ_some {x : sp.T} (h : extJ q0 sp S0 S' = some x) : kept q0 sp S' S0.H = true ∧ vwP S0.H sp.ss = true ∧ vwP S0.H sp.hs = true ∧
    Ask sp S0 S' (fun _ => False) (fun _ => False) (app (rwP S' sp.ss) (rwH S' sp.hs)) (app (roP S' sp.ss) (roH S' sp.hs)) ∧ ∃ y z, extSS S0 S' sp.ss = some y ∧ extHS S0 S' sp.hs = some z ∧ x = tcat (lvP sp.ss) (lvP sp.hs) y z := by
  unfold extJ at h
  cases hb : kept q0 sp S' S0.H && apart sp S0 S' && vwP S0.H sp.ss && vwP S0.H sp.hs with
  | false => rw [hb] at h; cases h
  | true =>
    rw [hb] at h
    simp only [cond_true] at h
    simp only [Bool.and_eq_true] at hb
    obtain ⟨⟨⟨h1, h2⟩, h3⟩, h4⟩ := hb
    refine ⟨h1, h3, h4, ?_, ?_⟩
    · simp only [apart, Bool.and_eq_true, List.all_eq_true] at h2
      obtain ⟨⟨g1, g2⟩, g3⟩ := h2
      have hno : ∀ l c, memN l c = false ↔ c ∉ l := fun l c => by rw [← memN_iff]; simp
      refine ⟨g1, fun c hc hd => ?_, fun c hc => ⟨id, id, ?_, ?_⟩, fun c hc => ⟨id, ?_⟩⟩
      · have := g2 c hc
        simp only [Bool.not_eq_true'] at this
        exact (hno _ _).1 this.1.1.1 hd
      · have := g2 c hc
        simp only [Bool.not_eq_true'] at this
        exact this.1.2
      · have := g2 c hc
        rw [Bool.or_eq_true] at this
        rcases this.2 with q | q
        · exact .inl q
        · exact .inr (by simpa using q)
      · have := g3 c hc
        simpa using this
    · split at h
      · rename_i y z hy hz
        exact ⟨y, z, hy, hz, (Option.some.inj h).symm⟩
      · cases h
/-- Where ways join: what has been told is so. -/
theorem join_ok {W : List Nat} (hN : N ≤ 4000) (hW : ∀ t, t ∈ W → t < 4000) (R0 : Rep ν q0 w0 X N S0 a w) (hag : Agr q0 ν ν') (hle : q0 ≤ q') (R : Rep ν' q' w0 X N S' a' w') (hk : Kp W a a') (hf : Frz q0 S0.H S'.H) {x : sp.T} (hx : extJ q0 sp S0 S' = some x) :
    ∃ ν2, Agr q0 ν ν2 ∧ Rep ν2 (nxJ q0 sp) w0 X N (stJ q0 sp W S0 x) a' w' := by
  obtain ⟨h1, h2, h3, K, y, z, hy, hz, rfl⟩ := extJ_some hx
  have M0 := R0.mem
  have A : Bef q0 sp S0 ν' q' w0 X N S' a' w' := ⟨R, hle, hN, M0.nm, fun c h hc => ⟨w, HC.agr hag (M0.nm c h hc) (M0.ok c h hc)⟩, fun t v hv => (ok_agr hag v (R0.fr t v hv).2).1, hf⟩
  have hkeep : ∀ c y, hget (keepH q0 sp S0.H) c = some y → ∃ h, hget S0.H c = some h ∧ hget S'.H c = some h ∧ memN sp.dl c = false ∧ keyN sp.hs c = false ∧ ((y = h ∧ (∀ T a n xs, h = .rw T a n xs → memN sp.se c = false)) ∨ (∃ T a n xs, h = .rw T a n xs ∧ y = .ro a n xs)) := by
    intro c y hc
    obtain ⟨s, h, g1, g2, g3, g4, g5, g6, g7, _⟩ := keep_get S0.H h1 c y hc
    obtain ⟨f1, f2⟩ := hf c s g3 g4
    exact ⟨h, g1, by rw [f2]; exact g1, g5, g6, g7⟩
  have hwt : ∀ {c y h}, ((y = h ∧ (∀ T a n xs, h = HC.rw T a n xs → memN sp.se c = false)) ∨ (∃ T a n xs, h = HC.rw T a n xs ∧ y = .ro a n xs)) → y.wt = true → h.wt = true := by
    intro c y h hh hy
    rcases hh with ⟨rfl, _⟩ | ⟨T, a, n, xs, rfl, rfl⟩
    · exact hy
    · cases hy
  have T0 : Tgt q0 sp S0 ν' S' (fun _ => False) (fun _ => False) ν' q0 w0 X N ⟨delF W S0.F, keepH q0 sp S0.H⟩ a' w' := by
    refine ⟨Agr.refl _ _, Nat.le_refl _, ⟨R.size, R.df, fun t v hv => ?_, ?_⟩, fun c h => h.elim, fun c h => h.elim, fun d y hd => ?_⟩
    · replace hv : (delF W S0.F).get t = some v := hv
      rw [del_get W S0.F t hW] at hv
      split at hv
      · cases hv
      · rename_i ht
        obtain ⟨g1, g2⟩ := R0.fr t v hv
        exact ⟨by rw [hk t ht, cv_agr hag g2]; exact g1, (ok_agr hag v g2).1⟩
    · have M := R.mem
      refine ⟨M.keep, fun c y hc => ?_, fun c y hc => ?_, fun c y hc => ?_, fun c y hc => ?_, fun c c' y y' hc hc' hne hw => ?_, fun c y hc => ?_⟩
      · obtain ⟨h, g1, _⟩ := hkeep c y hc
        exact M0.nm c h g1
      · obtain ⟨h, g1, g2, _, _, g5⟩ := hkeep c y hc
        have hl := HC.lower (M.ok c h g2) (M0.ok c h g1) hag
        rcases g5 with ⟨rfl, _⟩ | ⟨T, a, n, xs, rfl, rfl⟩
        · exact hl
        · exact HC.sealC hl
      · obtain ⟨h, g1, g2, _⟩ := hkeep c y hc
        exact M.lt c h g2
      · obtain ⟨h, g1, g2, _, _, g5⟩ := hkeep c y hc
        exact fun hw => M.mine c h g2 (hwt g5 hw)
      · obtain ⟨h, g1, g2, _, _, g5⟩ := hkeep c y hc
        obtain ⟨h', g1', g2', _⟩ := hkeep c' y' hc'
        exact M.ne c c' h h' g2 g2' hne (hwt g5 hw)
      · obtain ⟨h, g1, g2, _⟩ := hkeep c y hc
        exact M.src c h g2
    · obtain ⟨h, g1, g2, g3, g4, g5⟩ := hkeep d y hd
      refine .inr (.inr (.inr ⟨M0.nm d h g1, ⟨h, g2, hwt g5⟩, fun hw => ?_, ⟨h, g1⟩, fun q => by rw [g3] at q; cases q⟩))
      rcases g5 with ⟨rfl, g6⟩ | ⟨T, a, n, xs, rfl, rfl⟩
      · unfold stays
        rw [g1]
        cases y with
        | bk T v => simp [g3]
        | rw T a n xs => simp [g3, g6 T a n xs rfl]
        | ro a n xs => cases hw
        | rs l => cases hw
        | rq a n xs => cases hw
      · cases hw
  obtain ⟨ν2, T1⟩ := embSS_ok A q0 sp.ss y _ _ ν' q0 _ hy T0 h2 K.fst
  obtain ⟨ν3, PR', PW', T2⟩ := embHS_ok A q0 sp.hs z _ _ ν2 _ _ hz T1 h3 (fun _ h => h) K.snd
  refine ⟨ν3, hag.trans T2.agr (Nat.le_refl _), ?_⟩
  have hE : stJ q0 sp W S0 (tcat (lvP sp.ss) (lvP sp.hs) y z) = embHS q0 S0 sp.hs z (embSS q0 S0 sp.ss y ⟨delF W S0.F, keepH q0 sp S0.H⟩ q0) (q0 + nmP sp.ss) := by
    unfold stJ
    rw [tcat_fst, tcat_snd]
  rw [hE]
  have := (T2.mono (show q0 + nmP sp.ss + nmP sp.hs ≤ nxJ q0 sp by unfold nxJ; omega)).rep
  exact this
theorem stJ_frz {W : List Nat} {x y : sp.T} (hx : extJ q0 sp S0 S' = some x) : Frz q0 S0.H (stJ q0 sp W S0 y).H := by
  obtain ⟨h1, _⟩ := extJ_some hx
  have hb : Frz q0 S0.H (keepH q0 sp S0.H) := by
    intro c s hs hlt
    have hget' : ∃ y, hget (keepH q0 sp S0.H) c = some y := by
      have : ∀ (H : List (Nat × Nat × HC)), hst H c = some s → ∃ y, hget H c = some y := by
        intro H
        induction H with
        | nil => intro h; cases h
        | cons p r ih =>
          obtain ⟨d, t, z⟩ := p
          intro h
          rw [hst_cons] at h
          rw [hget_cons]
          split at h
          · rename_i e; rw [if_pos e]; exact ⟨_, rfl⟩
          · rename_i e; rw [if_neg e]; exact ih h
      exact this _ hs
    obtain ⟨y, hy⟩ := hget'
    obtain ⟨s', h, g1, g2, g3, g4, g5, g6, g7, g8⟩ := keep_get S0.H h1 c y hy
    have hss : s = s' := keep_stamp2 S0.H c s s' hs g2 hlt
    subst hss
    rw [hy, g8 hs]
    exact ⟨g2, g1.symm⟩
  unfold stJ
  exact (hb.trans (embSS_frz (Nat.le_refl _) _ _ _ _) (Nat.le_refl _)).trans (embHS_frz (Nat.le_refl _) _ _ _ _) (Nat.le_refl _)
end
end Go.Proofs.Ytnagkhofkjjajaa
