/- The symbolic walk is sound: calls. Lemmas, no statement of the claim. -/
import Derived.Test.YtnagkhofkjjajaaYy
import Derived.LoopN
/- The symbolic walk is sound: code. Lemmas, no statement of the claim. -/
set_option linter.unusedVariables false
set_option linter.unusedSimpArgs false
namespace Go.Proofs.Ytnagkhofkjjajaa
open Go.RowKit
section
variable {P : Program} {D : List (Nat × TD)} {E : Env} {N : Nat} {q : Nat} {S : St}
/-- What is asked of regions that draw their order. -/
def DrawOk (P : Program) (E : Env) (h : Hnd) (N : Nat) : Prop :=
  ∀ (id : Nat) (ops : Array Oper) (τ : Type) (k : KT τ) (q : Nat) (S : St) (r : τ), okDr ops = true → (∀ o, o ∈ ops.toList → ∀ t, o.dst = some t → t < N) → sxD E h ops ops.toList 0 [] [] q S k.nr k.pn = some r →
    ∃ e q' S', k.at e q' S' = some r ∧ Rn E N (wrO ops.toList) (fun Q a w => (Code.region id ops true).wp P Q a w) q S e q' S'
theorem wrO_cons (x : Oper) (l : List Oper) : wrO (x :: l) = (match x.dst with | some d => d :: wrO l | none => wrO l) := rfl
theorem wrO_mem {l : List Oper} {o : Oper} {t : Nat} (h : o ∈ l) (ht : o.dst = some t) : t ∈ wrO l := by
  induction l with
  | nil => cases h
  | cons x l ih =>
    rw [wrO_cons]
    rcases List.mem_cons.1 h with e | h
    · subst e; rw [ht]; exact List.mem_cons_self
    · have := ih h
      cases x.dst with
      | none => exact this
      | some d => exact List.mem_cons_of_mem _ this
theorem then_ne {e : XT} (he : e ≠ .nr) {nx : Act → World → Prop} {Q : Exit → Act → World → Prop} {a : Act} {w : World} (h : Q (e.e E) a w) : Exit.then nx Q (e.e E) a w := by
  cases e <;> first | exact absurd rfl he | exact h
theorem exM_at {σ τ : Type} : ∀ (l : List (Nat × (Nat → St → Option τ))) (i q : Nat) (S : St), exAt (exM (σ := σ) l) i q S = oin (exAt l i q S)
  | [], _, _, _ => rfl
  | (j, k) :: l, i, q, S => by
    unfold exM exAt
    cases Nat.beq j i with
    | true => rfl
    | false => exact exM_at l i q S
theorem sum_at {σ τ : Type} {k : KT τ} {nr : St → Option σ} {e : XT} (he : e ≠ .nr) {q : Nat} {S : St} {y : σ ⊕ τ} (h : (k.sum nr).at e q S = some y) : ∃ r, y = .inr r ∧ k.at e q S = some r := by
  have key : ∀ o : Option τ, oin (σ := σ) o = some y → ∃ r, y = .inr r ∧ o = some r := by
    intro o ho
    cases o with
    | none => cases ho
    | some r => exact ⟨r, (Option.some.inj ho).symm, rfl⟩
  cases e with
  | nr => exact absurd rfl he
  | ex i => exact key _ ((exM_at k.ex i q S).symm.trans h)
  | rt => exact key _ h
  | pn => exact key _ h
theorem sum_nr {σ τ : Type} {k : KT τ} {nr : St → Option σ} {q : Nat} {S : St} {y : σ ⊕ τ} (h : (k.sum nr).at .nr q S = some y) : ∃ s, y = .inl s ∧ nr S = some s := by
  have h : oil (nr S) = some y := h
  cases hn : nr S with
  | none => rw [hn] at h; cases h
  | some s => rw [hn] at h; exact ⟨s, (Option.some.inj h).symm, rfl⟩
/-- one part behind another -/
theorem Rn.seq {a b : Code} {V U : List Nat} {q1 q2 : Nat} {S1 S2 : St} {e : XT} (h : Rn E N V (fun Q x w => a.wp P Q x w) q S .nr q1 S1) (g : Rn E N U (fun Q x w => b.wp P Q x w) q1 S1 e q2 S2) :
    Rn E N (app V U) (fun Q x w => (Code.seq a b).wp P Q x w) q S e q2 S2 :=
  ⟨Nat.le_trans h.le g.le, h.frz.trans g.frz h.le, fun ν w0 X x w Q R hQ => wp_seq (h.go ν w0 X x w _ R fun ν' x' w' hag hk R' => by
    show b.wp P Q x' w'
    exact g.go ν' w0 X x' w' Q R' fun ν2 x2 w2 hag2 hk2 R2 => hQ ν2 x2 w2 (hag.trans hag2 h.le) ((hk.mono fun t ht => mem_app.2 (.inl ht)).trans (hk2.mono fun t ht => mem_app.2 (.inr ht))) R2)⟩
theorem Rn.seqX {a b : Code} {V U : List Nat} {q1 : Nat} {S1 : St} {e : XT} (he : e ≠ .nr) (h : Rn E N V (fun Q x w => a.wp P Q x w) q S e q1 S1) :
    Rn E N (app V U) (fun Q x w => (Code.seq a b).wp P Q x w) q S e q1 S1 :=
  ⟨h.le, h.frz, fun ν w0 X x w Q R hQ => wp_seq (h.go ν w0 X x w _ R fun ν' x' w' hag hk R' => then_ne he (hQ ν' x' w' hag (hk.mono fun t ht => mem_app.2 (.inl ht)) R'))⟩
theorem Rn.join {V : List Nat} {W : (Exit → Act → World → Prop) → Act → World → Prop} {q1 : Nat} {S1 : St} (hN : N ≤ 4000) (hV : ∀ t, t ∈ V → t < N) {sp : Spec} {s : sp.T} (h : Rn E N V W q S .nr q1 S1) (hx : extJ q sp S S1 = some s) :
    Rn E N V W q S .nr (nxJ q sp) (stJ q sp V S s) :=
  ⟨by unfold nxJ; omega, stJ_frz hx, fun ν w0 X a w Q R hQ => h.go ν w0 X a w Q R fun ν' a' w' hag hk R' => by
    obtain ⟨ν2, g1, g2⟩ := join_ok hN (fun t ht => by have := hV t ht; omega) R hag h.le R' hk h.frz hx
    exact hQ ν2 a' w' g1 hk g2⟩
theorem app_lt {V U : List Nat} (h : ∀ t, t ∈ app V U → t < N) : (∀ t, t ∈ V → t < N) ∧ ∀ t, t ∈ U → t < N :=
  ⟨fun t ht => h t (mem_app.2 (.inl ht)), fun t ht => h t (mem_app.2 (.inr ht))⟩
theorem sx_ok (hT : TDok P D) (hN : N ≤ 4000) (hE : E.D = D) {h : Hnd} (hh : HndOk P E h) (hD : DrawOk P E h N) : ∀ (c : Code) (A : An) (τ : Type) (q : Nat) (S : St) (k : KT τ) (r : τ), (∀ t, t ∈ wr c → t < N) → okCode c = true → sx E h c A τ q S k = some r →
    ∃ e q' S', k.at e q' S' = some r ∧ Rn E N (wr c) (fun Q a w => c.wp P Q a w) q S e q' S' := by
  intro c
  induction c with
  | skip =>
    intro A τ q S k r _ _ hs
    exact ⟨.nr, q, S, hs, Nat.le_refl _, Frz.refl _ _, fun ν w0 X a w Q R hQ => wp_skip (hQ ν a w (Agr.refl _ _) (Kp.refl _ _) R)⟩
  | region id ops dr =>
    intro A τ q S k r hw hok hs
    cases dr with
    | true => exact hD id ops τ k q S r (by simpa [okCode] using hok) (fun o ho t ht => hw t (wrO_mem ho ht)) hs
    | false =>
      obtain ⟨e, q', S', h1, h2⟩ := sxO_ok hT hN hE hh (ops := ops) (k := k) ops.toList q S (fun o ho t ht => hw t (wrO_mem ho ht)) hs
      exact ⟨e, q', S', h1, h2.le, h2.frz, fun ν w0 X a w Q R hQ => wp_region_list (h2.go ν w0 X a w Q R hQ)⟩
  | seq a b iha ihb =>
    intro A τ q S k r hw hok hs
    obtain ⟨hw1, hw2⟩ := app_lt hw
    have hok : (okCode a && okCode b) = true := hok
    rw [Bool.and_eq_true] at hok
    have plain : ∀ x y, sx E h a x τ q S { k with nr := fun q S => sx E h b y τ q S k } = some r → ∃ e q' S', k.at e q' S' = some r ∧ Rn E N (wr (.seq a b)) (fun Q x w => (Code.seq a b).wp P Q x w) q S e q' S' := by
      intro x y hs
      obtain ⟨e, q1, S1, h1, h2⟩ := iha x τ q S _ r hw1 hok.1 hs
      cases e with
      | nr =>
        obtain ⟨e2, q2, S2, h3, h4⟩ := ihb y τ q1 S1 k r hw2 hok.2 h1
        exact ⟨e2, q2, S2, h3, h2.seq h4⟩
      | ex i => exact ⟨.ex i, q1, S1, h1, h2.seqX (by simp)⟩
      | rt => exact ⟨.rt, q1, S1, h1, h2.seqX (by simp)⟩
      | pn => exact ⟨.pn, q1, S1, h1, h2.seqX (by simp)⟩
    cases A with
    | j w sp x y =>
      cases w with
      | true =>
        obtain ⟨t, h1, h2⟩ := bnd_some (show bnd (sx E h a x (sp.T ⊕ τ) q S (k.sum (extJ q sp S))) (sel fun s => sx E h b y τ (nxJ q sp) (stJ q sp (wr a) S s) k) = some r from hs)
        obtain ⟨e, q1, S1, h3, h4⟩ := iha x (sp.T ⊕ τ) q S _ t hw1 hok.1 h1
        by_cases he : e = .nr
        · subst he
          obtain ⟨s, rfl, hx⟩ := sum_nr h3
          rw [sel_inl] at h2
          obtain ⟨e2, q2, S2, h5, h6⟩ := ihb y τ _ _ k r hw2 hok.2 h2
          exact ⟨e2, q2, S2, h5, (h4.join hN hw1 hx).seq h6⟩
        · obtain ⟨r', rfl, h5⟩ := sum_at he h3
          rw [sel_inr] at h2
          cases h2
          exact ⟨e, q1, S1, h5, h4.seqX he⟩
      | false =>
        obtain ⟨s, h1, h2⟩ := bnd_some (show bnd (sx E h a x sp.T q S (.fst (extJ q sp S))) (fun s => sx E h b y τ (nxJ q sp) (stJ q sp (wr a) S s) k) = some r from hs)
        obtain ⟨e, q1, S1, h3, h4⟩ := iha x sp.T q S _ s hw1 hok.1 h1
        cases e with
        | nr =>
          have hx : extJ q sp S S1 = some s := h3
          obtain ⟨e2, q2, S2, h5, h6⟩ := ihb y τ _ _ k r hw2 hok.2 h2
          exact ⟨e2, q2, S2, h5, (h4.join hN hw1 hx).seq h6⟩
        | ex i => cases h3
        | rt => cases h3
        | pn => cases h3
    | s x y => exact plain x y hs
    | d => exact plain .d .d hs
    | c x y => exact plain .d .d hs
    | k x => exact plain .d .d hs
    | l sp x => exact plain .d .d hs
    | u n x => exact plain .d .d hs
  | cond c a b iha ihb =>
    intro A τ q S k r hw hok hs
    obtain ⟨hw1, hw2⟩ := app_lt hw
    have hok : (okCode a && okCode b) = true := hok
    rw [Bool.and_eq_true] at hok
    have key : ∀ v, opS S.get c = some v → ∀ x y, ifv v (sx E h a x τ q (setC S c .tt) k) (sx E h b y τ q (setC S c .ff) k) = some r → ∃ e q' S', k.at e q' S' = some r ∧ Rn E N (wr (.cond c a b)) (fun Q x w => (Code.cond c a b).wp P Q x w) q S e q' S' := by
      intro v hv x y hs
      obtain ⟨t, ht, hs⟩ := ifv_ok hs
      have hnar : ∀ (ν : NV) (w0 : World) (X : XS) (a : Act) (w : World), Rep ν q w0 X N S a w → Rep ν q w0 X N (setC S c (b2 t)) a w ∧ a.eval c = .bool t := fun ν w0 X a w R => by
        obtain ⟨e1, e2⟩ := R.op hv
        refine ⟨?_, by rw [e1, ht]⟩
        cases c with
        | tmp u => exact R.narrow hN hv (by rw [b2_cv, ht]) (b2_ok _ _ _)
        | const _ => exact R
        | func _ => exact R
        | global _ => exact R
      have hH : (setC S c (b2 t)).H = S.H := by cases c <;> rfl
      cases t with
      | true =>
        obtain ⟨e, q1, S1, h1, h2⟩ := iha x τ q (setC S c .tt) k r hw1 hok.1 hs
        refine ⟨e, q1, S1, h1, h2.le, by have := h2.frz; rwa [show (setC S c .tt).H = S.H from hH] at this, fun ν w0 X x w Q R hQ => ?_⟩
        obtain ⟨R1, hc⟩ := hnar ν w0 X x w R
        exact wp_cond_true hc (h2.go ν w0 X x w Q R1 fun ν' a' w' hag hk R' => hQ ν' a' w' hag (hk.mono fun t ht => mem_app.2 (.inl ht)) R')
      | false =>
        obtain ⟨e, q1, S1, h1, h2⟩ := ihb y τ q (setC S c .ff) k r hw2 hok.2 hs
        refine ⟨e, q1, S1, h1, h2.le, by have := h2.frz; rwa [show (setC S c .ff).H = S.H from hH] at this, fun ν w0 X x w Q R hQ => ?_⟩
        obtain ⟨R1, hc⟩ := hnar ν w0 X x w R
        exact wp_cond_false hc (h2.go ν w0 X x w Q R1 fun ν' a' w' hag hk R' => hQ ν' a' w' hag (hk.mono fun t ht => mem_app.2 (.inr ht)) R')
    simp only [sx] at hs
    split at hs
    · rename_i v hv
      cases A <;> exact key v hv _ _ hs
    · cases hs
  | block i a ih =>
    intro A τ q S k r hw hok hs
    have key : ∀ x, sx E h a x τ q S { k with ex := (i, k.nr) :: k.ex } = some r → ∃ e q' S', k.at e q' S' = some r ∧ Rn E N (wr (.block i a)) (fun Q x w => (Code.block i a).wp P Q x w) q S e q' S' := by
      intro x hs
      obtain ⟨e, q1, S1, h1, h2⟩ := ih x τ q S _ r hw hok hs
      cases e with
      | nr => exact ⟨.nr, q1, S1, h1, h2.le, h2.frz, fun ν w0 X x w Q R hQ => wp_block (h2.go ν w0 X x w _ R fun ν' a' w' hag hk R' => hQ ν' a' w' hag hk R')⟩
      | ex j =>
        by_cases e : i = j
        · subst e
          refine ⟨.nr, q1, S1, ?_, h2.le, h2.frz, fun ν w0 X x w Q R hQ => wp_block (h2.go ν w0 X x w _ R fun ν' a' w' hag hk R' => ?_)⟩
          · have h1 : (bif Nat.beq i i then k.nr q1 S1 else exAt k.ex i q1 S1) = some r := h1
            rw [Nat.beq_refl] at h1
            exact h1
          · show (if i = i then Q .normal a' w' else _)
            rw [if_pos rfl]
            exact hQ ν' a' w' hag hk R'
        · refine ⟨.ex j, q1, S1, ?_, h2.le, h2.frz, fun ν w0 X x w Q R hQ => wp_block (h2.go ν w0 X x w _ R fun ν' a' w' hag hk R' => ?_)⟩
          · have h1 : (bif Nat.beq i j then k.nr q1 S1 else exAt k.ex j q1 S1) = some r := h1
            rw [beq_false e] at h1
            exact h1
          · show (if j = i then _ else Q (.exit j) a' w')
            rw [if_neg (fun q => e q.symm)]
            exact hQ ν' a' w' hag hk R'
      | rt => exact ⟨.rt, q1, S1, h1, h2.le, h2.frz, fun ν w0 X x w Q R hQ => wp_block (h2.go ν w0 X x w _ R fun ν' a' w' hag hk R' => hQ ν' a' w' hag hk R')⟩
      | pn => exact ⟨.pn, q1, S1, h1, h2.le, h2.frz, fun ν w0 X x w Q R hQ => wp_block (h2.go ν w0 X x w _ R fun ν' a' w' hag hk R' => hQ ν' a' w' hag hk R')⟩
    cases A <;> exact key _ hs
  | loop a ih =>
    intro A τ q S k r hw hok hs
    cases A with
    | l sp x =>
      simp only [sx] at hs
      split at hs
      · rename_i s0 hs0
        obtain ⟨n, hn⟩ := run_some hs
        have key : ∀ (n : Nat) (s : sp.T), iter (fun s => sx E h a x (sp.T ⊕ τ) (nxJ q sp) (stJ q sp (wr a) S s) (k.sum (extJ q sp S))) n s = some r → ∃ e q' S', k.at e q' S' = some r ∧ q ≤ q' ∧ Frz q S.H S'.H ∧
            ∀ (ν0 : NV) (w0 : World) (X : XS) (a0 : Act) (w00 : World) (Q : Exit → Act → World → Prop), Rep ν0 q w0 X N S a0 w00 → ∀ (ν : NV) (b : Act) (w : World), Agr q ν0 ν → Kp (wr a) a0 b → Rep ν (nxJ q sp) w0 X N (stJ q sp (wr a) S s) b w →
              (∀ ν' a' w', Agr q ν0 ν' → Kp (wr a) a0 a' → Rep ν' q' w0 X N S' a' w' → Q (e.e E) a' w') → Code.rounds P a Q n b w := by
          intro n
          induction n with
          | zero => intro s hn; cases hn
          | succ n ihn =>
            intro s hn
            obtain ⟨y, hy, hx⟩ := iter_succ hn
            obtain ⟨e, q1, S1, h1, h2⟩ := ih x (sp.T ⊕ τ) _ _ _ y hw hok hy
            have hle : q ≤ q1 := by have := h2.le; unfold nxJ at this; omega
            have hfr : Frz q S.H S1.H := (stJ_frz hs0).trans h2.frz (by unfold nxJ; omega)
            by_cases he : e = .nr
            · subst he
              obtain ⟨t, rfl, hxt⟩ := sum_nr h1
              obtain ⟨e2, q2, S2, g1, g2, g3, g4⟩ := ihn t hx
              refine ⟨e2, q2, S2, g1, g2, g3, fun ν0 w0 X a0 w00 Q R0 ν b w hag hk R hQ => ?_⟩
              rw [rounds_succ]
              refine h2.go ν w0 X b w _ R fun ν' a' w' hag' hk' R' => ?_
              have hagq : Agr q ν0 ν' := hag.trans hag' (by unfold nxJ; omega)
              obtain ⟨ν2, j1, j2⟩ := join_ok hN (fun t ht => by have := hw t ht; omega) R0 hagq hle R' (hk.trans hk') hfr hxt
              exact g4 ν0 w0 X a0 w00 Q R0 ν2 a' w' j1 (hk.trans hk') j2 hQ
            · obtain ⟨r', rfl, h5⟩ := sum_at he h1
              have hx : r' = r := hx
              subst hx
              refine ⟨e, q1, S1, h5, hle, hfr, fun ν0 w0 X a0 w00 Q R0 ν b w hag hk R hQ => ?_⟩
              rw [rounds_succ]
              exact h2.go ν w0 X b w _ R fun ν' a' w' hag' hk' R' => then_ne he (hQ ν' a' w' (hag.trans hag' (by unfold nxJ; omega)) (hk.trans hk') R')
        obtain ⟨e, q', S', h1, h2, h3, h4⟩ := key n s0 hn
        refine ⟨e, q', S', h1, h2, h3, fun ν w0 X b w Q R hQ => wp_loop_rounds n ?_⟩
        obtain ⟨ν2, j1, j2⟩ := join_ok hN (fun t ht => by have := hw t ht; omega) R (Agr.refl q ν) (Nat.le_refl _) R (Kp.refl (wr a) b) (Frz.refl _ _) hs0
        exact h4 ν w0 X b w Q R ν2 b w j1 (Kp.refl _ _) j2 hQ
      · cases hs
    | u n x =>
      have hs : unr (fun q S nr => sx E h a x τ q S { k with nr := nr }) n q S = some r := hs
      have key : ∀ (n q : Nat) (S : St), unr (fun q S nr => sx E h a x τ q S { k with nr := nr }) n q S = some r → ∃ e q' S', k.at e q' S' = some r ∧ Rn E N (wr a) (fun Q b w => Code.rounds P a Q n b w) q S e q' S' := by
        intro n
        induction n with
        | zero => intro q S hs; cases hs
        | succ n ihn =>
          intro q S hs
          obtain ⟨e, q1, S1, h1, h2⟩ := ih x τ q S _ r hw hok hs
          by_cases he : e = .nr
          · subst he
            obtain ⟨e2, q2, S2, g1, g2⟩ := ihn q1 S1 h1
            refine ⟨e2, q2, S2, g1, Nat.le_trans h2.le g2.le, h2.frz.trans g2.frz h2.le, fun ν w0 X b w Q R hQ => ?_⟩
            show a.wp P (Exit.then (Code.rounds P a Q n) Q) b w
            exact h2.go ν w0 X b w _ R fun ν' a' w' hag hk R' => g2.go ν' w0 X a' w' Q R' fun ν2 a2 w2 hag2 hk2 R2 => hQ ν2 a2 w2 (hag.trans hag2 h2.le) (hk.trans hk2) R2
          · refine ⟨e, q1, S1, by cases e <;> first | exact absurd rfl he | exact h1, h2.le, h2.frz, fun ν w0 X b w Q R hQ => ?_⟩
            show a.wp P (Exit.then (Code.rounds P a Q n) Q) b w
            exact h2.go ν w0 X b w _ R fun ν' a' w' hag hk R' => then_ne he (hQ ν' a' w' hag hk R')
      obtain ⟨e, q', S', h1, h2⟩ := key n q S hs
      exact ⟨e, q', S', h1, h2.le, h2.frz, fun ν w0 X b w Q R hQ => wp_loop_rounds n (h2.go ν w0 X b w Q R hQ)⟩
    | d => cases hs
    | s _ _ => cases hs
    | j _ _ _ _ => cases hs
    | c _ _ => cases hs
    | k _ => cases hs
  | exit i =>
    intro A τ q S k r _ _ hs
    exact ⟨.ex i, q, S, hs, Nat.le_refl _, Frz.refl _ _, fun ν w0 X a w Q R hQ => wp_exit (hQ ν a w (Agr.refl _ _) (Kp.refl _ _) R)⟩
  | ret =>
    intro A τ q S k r _ _ hs
    exact ⟨.rt, q, S, hs, Nat.le_refl _, Frz.refl _ _, fun ν w0 X a w Q R hQ => wp_ret (hQ ν a w (Agr.refl _ _) (Kp.refl _ _) R)⟩
  | rangeFunc _ _ _ _ _ _ => intro A τ q S k r _ _ hs; cases hs
  | scope _ _ => intro A τ q S k r _ _ hs; cases hs
  | label _ => intro A τ q S k r _ _ hs; cases hs
  | goto _ => intro A τ q S k r _ _ hs; cases hs
  | refuse _ => intro A τ q S k r _ _ hs; cases hs
end
end Go.Proofs.Ytnagkhofkjjajaa

/- The symbolic walk is sound: regions that draw their order, the run in the text's order. Lemmas, no statement of the claim. -/
set_option linter.unusedVariables false
set_option linter.unusedSimpArgs false
namespace Go.Proofs.Ytnagkhofkjjajaa
open Go.RowKit
/-! ### Any order -/
def Clsd (ops : Array Oper) (D : Nat → Bool) : Prop := ∀ i o, ops[i]? = some o → D i = true → ∀ j, edge o j = true → D j = true
def addB (D : Nat → Bool) (k : Nat) : Nat → Bool := fun i => if k = i then true else D i
section
variable {P : Program} {ops : Array Oper} {Q : Exit → Act → World → Prop}
theorem edge_of {o : Oper} {j : Nat} (h : edge o j = true) : ∃ e, e ∈ o.after ∧ Region.binds .any e = true ∧ e.on = j := by
  obtain ⟨e, he, hb⟩ := List.any_eq_true.1 h
  simp only [Bool.and_eq_true] at hb
  exact ⟨e, by simpa using he, hb.1, Nat.eq_of_beq_eq_true hb.2⟩
theorem edge_mk {o : Oper} {e : Edge} (he : e ∈ o.after) (hb : Region.binds .any e = true) : edge o e.on = true :=
  List.any_eq_true.2 ⟨e, by simpa using he, by simp [hb]⟩
theorem region_inv {id : Nat} {a : Act} {w : World} (hm : P.follows .mixedOrders = true) (hback : ∀ i o, ops[i]? = some o → ∀ j, edge o j = true → j < i) (I : (Nat → Bool) → Act → World → Prop)
    (h0 : I (fun _ => false) a { w with drawn := w.drawn + 1 })
    (step : ∀ D a w, Clsd ops D → (∀ i, D i = true → i < ops.size) → I D a w → ∀ k o, ops[k]? = some o → D k = false → (∀ j, edge o j = true → D j = true) → ∀ KK : Act → World → Prop, (∀ a' w', I (addB D k) a' w' → KK a' w') → One P ops Q o KK a w)
    (fin : ∀ D a w, (∀ i, i < ops.size → D i = true) → (∀ i, D i = true → i < ops.size) → I D a w → Q .normal a w) : (Code.region id ops true).wp P Q a w := by
  refine wp_region_any hm ?_
  have key : ∀ (fuel : Nat) (listed : Array Bool) (a : Act) (w : World), listed.size = ops.size → Clsd ops (fun i => listed.getD i false) → I (fun i => listed.getD i false) a w → listed.toList.countP (fun b => !b) ≤ fuel → wpAny P .any ops Q fuel listed a w := by
    have hlt : ∀ (listed : Array Bool), listed.size = ops.size → ∀ i, listed.getD i false = true → i < ops.size := by
      intro listed hsz i hi
      by_cases h : i < listed.size
      · omega
      · simp [h] at hi
    have hready : ∀ (listed : Array Bool), listed.size = ops.size → Region.ready .any ops listed = [] → ∀ i, i < ops.size → listed.getD i false = true := by
      intro listed hsz hr i
      induction i using Nat.strongRecOn with
      | _ i ih =>
        intro hi
        cases hq : listed.getD i false with
        | true => rfl
        | false =>
          exfalso
          obtain ⟨o, ho⟩ : ∃ o, ops[i]? = some o := ⟨ops[i], Array.getElem?_eq_getElem hi⟩
          have hmem : i ∈ Region.ready .any ops listed := by
            rw [mem_ready]
            refine ⟨?_, o, ho, fun e he hb => ?_⟩
            · have hs : i < listed.size := by omega
              simp [hs] at hq ⊢
              exact hq
            · have := hback i o ho e.on (edge_mk he hb)
              exact ih e.on this (by omega)
          rw [hr] at hmem
          cases hmem
    intro fuel
    induction fuel with
    | zero =>
      intro listed a w hsz hcl hI hc
      have hl : ∀ i, i < ops.size → listed.getD i false = true := by
        intro i hi
        have h0 : listed.toList.countP (fun b => !b) = 0 := by omega
        rw [List.countP_eq_zero] at h0
        have hs : i < listed.size := by omega
        have := h0 listed[i] (by simp)
        simpa [hs] using this
      refine ⟨?_, fin _ a w hl (hlt listed hsz) hI⟩
      cases hr : Region.ready .any ops listed with
      | nil => rfl
      | cons i r =>
        have hmem : i ∈ Region.ready .any ops listed := by rw [hr]; simp
        rw [mem_ready] at hmem
        obtain ⟨h1, o, ho, _⟩ := hmem
        have := hl i (Array.getElem?_eq_some_iff.1 ho).1
        have hs : i < listed.size := by have := (Array.getElem?_eq_some_iff.1 ho).1; omega
        simp [hs] at h1 this
        rw [h1] at this
        cases this
    | succ fuel ih =>
      intro listed a w hsz hcl hI hc
      refine ⟨fun hr => fin _ a w (hready listed hsz hr) (hlt listed hsz) hI, fun i hi => ?_⟩
      rw [mem_ready] at hi
      obtain ⟨h1, o, ho, hall2⟩ := hi
      have hiL : i < ops.size := (Array.getElem?_eq_some_iff.1 ho).1
      have hs : i < listed.size := by omega
      have hun : listed.getD i false = false := by simp [hs] at h1 ⊢; exact h1
      have hel : ∀ j, edge o j = true → listed.getD j false = true := fun j hj => by
        obtain ⟨e, he, hb, rfl⟩ := edge_of hj
        exact hall2 e he hb
      unfold wpOp
      simp only [ho]
      refine step _ a w hcl (hlt listed hsz) hI i o ho hun hel _ fun a' w' hI' => ?_
      have hset : (fun j => (listed.setIfInBounds i true).getD j false) = addB (fun j => listed.getD j false) i := by
        funext j
        unfold addB
        by_cases q : i = j
        · subst q; simp [hs]
        · rw [if_neg q]; exact getD_set_ne false q
      refine ih _ _ _ (by simpa using hsz) ?_ ?_ ?_
      · rw [hset]
        intro k p hk hD j hj
        unfold addB at hD ⊢
        split
        · rfl
        · split at hD
          · rename_i e; subst e; rw [ho] at hk; cases hk; exact hel j hj
          · exact hcl k p hk hD j hj
      · rw [hset]; exact hI'
      · have hlen : i < listed.toList.length := by simpa using hs
        have hc2 : (listed.setIfInBounds i true).toList.countP (fun b => !b) + 1 = listed.toList.countP (fun b => !b) := by
          rw [Array.toList_setIfInBounds]
          have hsplit : listed.toList = listed.toList.take i ++ (listed.toList[i] :: listed.toList.drop (i + 1)) := by
            rw [← List.drop_eq_getElem_cons hlen, List.take_append_drop]
          have hv : listed.toList[i] = false := by simp [hs] at hun; simpa using hun
          rw [List.set_eq_take_append_cons_drop, if_pos hlen]
          conv => rhs; rw [hsplit]
          simp only [List.countP_append, List.countP_cons, hv]
          simp
          omega
        omega
  have hf : (fun i => (Array.replicate ops.size false).getD i false) = fun _ => false := by
    funext i
    by_cases q : i < ops.size
    · simp [q]
    · simp [q]
  refine key ops.size _ _ _ (by simp) ?_ ?_ ?_
  · rw [hf]; intro i o _ h; cases h
  · rw [hf]; exact h0
  · have := List.countP_le_length (p := fun b => !b) (l := (Array.replicate ops.size false).toList)
    simpa using this
end

/-! ### The run in the text's order -/
structure DRec where
  x : Bool
  m : Nat
  T : List Nat
  W : List Nat
  q : Nat
  q' : Nat
  S : St
  S1 : St
  Sr : St
def MKok (i : Nat) (MK : List (Nat × Nat)) (R : Nat → DRec) : Prop := ∀ j, lookM MK j = if j < i then (R j).m else 0
def TRok (i : Nat) (TR : List TE) (R : Nat → DRec) : Prop := ∀ j, j < i → (R j).x = true → ⟨j, (R j).T, (R j).W, (R j).q, (R j).q'⟩ ∈ TR
def nxH (W T : List Nat) (H Hr : List (Nat × Nat × HC)) : List (Nat × Nat × HC) :=
  match W with
  | [] => H
  | _ :: _ => app Hr (hout T H)
structure DEx (P : Program) (N : Nat) (R : Nat → DRec) (i : Nat) (o : Oper) : Prop where
  st : Stp P N o (R i).q ⟨fresL (opT (opR o.op)) (R i).S1.F .e, hres (R i).T (R i).S.H⟩ (R i).q' (R i).Sr
  W : (R i).W = app (newW (R i).q (R i).Sr.H (R i).Sr.H) (goneW (R i).Sr.H (R i).T)
  hit : ∀ j, j < i → (R j).x = true → bitN (R i).m j = true ∨ ((∀ c, c ∈ (R j).T → c ∉ (R i).W) ∧ (∀ c, c ∈ (R j).W → c ∉ (R i).T ∧ c ∉ (R i).W))
  nm : ∀ n, n ∈ app (nmD (R i).Sr.F o.dst) (nmWs (R i).Sr.H (R i).W) → ∀ j, j < i → (R j).x = true → n < (R j).q ∨ (R j).q' ≤ n ∨ bitN (R i).m j = true
  F : (R (i + 1)).S.F = putF (R i).S1.F o.dst (R i).Sr.F
  H : (R (i + 1)).S.H = nxH (R i).W (R i).T (R i).S.H (R i).Sr.H
structure DStep (P : Program) (N : Nat) (ops : Array Oper) (R : Nat → DRec) (i : Nat) (o : Oper) : Prop where
  mks : ∃ MK, MKok i MK R ∧ (R i).m = mskE MK o.after.toList
  s1 : (R i).S1.H = (R i).S.H
  grd : (o.guard = none ∧ (R i).x = true ∧ (R i).S1 = (R i).S) ∨ (∃ j want t v, o.guard = some (j, want) ∧ (ops[j]?).bind (·.dst) = some t ∧ (R i).S.get t = some v ∧
    ((v = .ud ∧ (R i).x = false ∧ (R i).S1 = (R i).S) ∨ ∃ b, (∀ ν, cv ν v = .bool b) ∧ (R i).S1 = (R i).S.put t (b2 b) ∧ (R i).x = (b == want)))
  nq : (R (i + 1)).q = (R i).q'
  le : (R i).q ≤ (R i).q'
  ex : (R i).x = true → DEx P N R i o
  sk : (R i).x = false → (R (i + 1)).S = putD (R i).S1 o.dst .ud
/-- an operation that panics, and the world then -/
structure PStep (P : Program) (E : Env) (N : Nat) (ops : Array Oper) (R : Nat → DRec) (i : Nat) (o : Oper) (l : List Oper) (q' : Nat) (S' : St) : Prop where
  mks : ∃ MK TR, MKok i MK R ∧ TRok i TR R ∧ okPn ops i (mskE MK o.after.toList) MK TR l = true
  stp : ∃ S1 : St, S1.H = (R i).S.H ∧ StpP P E N o (R i).q ⟨fresL (opT (opR o.op)) S1.F .e, (R i).S.H⟩ q' S' ∧ ((o.guard = none ∧ S1 = (R i).S) ∨ (∃ j want t v, o.guard = some (j, want) ∧ (ops[j]?).bind (·.dst) = some t ∧ (R i).S.get t = some v ∧
    ∃ b, (∀ ν, cv ν v = .bool b) ∧ S1 = (R i).S.put t (b2 b) ∧ (b == want) = true))
def DRes {τ : Type} (P : Program) (E : Env) (N : Nat) (ops : Array Oper) (l : List Oper) (i : Nat) (R : Nat → DRec) (k pn : Nat → St → Option τ) (r : τ) : Prop :=
  ((∀ j o, l[j]? = some o → DStep P N ops R (i + j) o) ∧ k (R (i + l.length)).q (R (i + l.length)).S = some r) ∨
  ∃ n o q' S', l[n]? = some o ∧ (∀ j p, j < n → l[j]? = some p → DStep P N ops R (i + j) p) ∧ PStep P E N ops R (i + n) o (l.drop (n + 1)) q' S' ∧ pn q' S' = some r
theorem DRes.cons {τ : Type} {P : Program} {E : Env} {N : Nat} {ops : Array Oper} {o : Oper} {l : List Oper} {i : Nat} {R : Nat → DRec} {k pn : Nat → St → Option τ} {r : τ} (h0 : DStep P N ops R i o) (h : DRes P E N ops l (i + 1) R k pn r) : DRes P E N ops (o :: l) i R k pn r := by
  rcases h with ⟨h1, h2⟩ | ⟨n, p, q', S', h1, h2, h3, h4⟩
  · refine .inl ⟨fun j p hj => ?_, ?_⟩
    · cases j with
      | zero => cases hj; exact h0
      | succ j =>
        have := h1 j p (by simpa using hj)
        rwa [show i + 1 + j = i + (j + 1) by omega] at this
    · rw [List.length_cons, show i + (l.length + 1) = i + 1 + l.length by omega]
      exact h2
  · refine .inr ⟨n + 1, p, q', S', by simpa using h1, fun j p hj hp => ?_, ?_, h4⟩
    · cases j with
      | zero => cases hp; exact h0
      | succ j =>
        have := h2 j p (by omega) (by simpa using hp)
        rwa [show i + 1 + j = i + (j + 1) by omega] at this
    · rw [show i + (n + 1) = i + 1 + n by omega, show (o :: l).drop (n + 1 + 1) = l.drop (n + 1) from rfl]
      exact h3
theorem nrm_eq {α β : Type} : ∀ (l : List α) (k : List α → β), nrm l k = k l
  | [], k => rfl
  | x :: r, k => by
    show nrm r (fun r' => k (x :: r')) = k (x :: r)
    rw [nrm_eq r]
theorem hitN_no {a l : List Nat} (h : hitN a l = false) : ∀ c, c ∈ a → c ∉ l := by
  induction a with
  | nil => intro c hc; cases hc
  | cons x r ih =>
    have h : (memN l x || hitN r l) = false := h
    rw [Bool.or_eq_false_iff] at h
    intro c hc
    rcases List.mem_cons.1 hc with rfl | hc
    · rw [← memN_iff]; simp [h.1]
    · exact ih h.2 c hc
theorem okTR_mem {m : Nat} {T W : List Nat} : ∀ {TR : List TE}, okTR m T W TR = true → ∀ e, e ∈ TR → bitN m e.i = true ∨ ((∀ c, c ∈ e.t → c ∉ W) ∧ (∀ c, c ∈ e.w → c ∉ T ∧ c ∉ W))
  | x :: r, h, e, he => by
    have h : ((bitN m x.i || (!hitN x.t W && !hitN x.w T && !hitN x.w W)) && okTR m T W r) = true := h
    rw [Bool.and_eq_true] at h
    rcases List.mem_cons.1 he with rfl | he
    · rcases Bool.or_eq_true_iff.1 h.1 with h1 | h1
      · exact .inl h1
      · simp only [Bool.and_eq_true, Bool.not_eq_true'] at h1
        exact .inr ⟨hitN_no h1.1.1, fun c hc => ⟨hitN_no h1.1.2 c hc, hitN_no h1.2 c hc⟩⟩
    · exact okTR_mem h.2 e he
theorem nmIn_mem {m n : Nat} : ∀ {TR : List TE}, nmIn m n TR = true → ∀ e, e ∈ TR → n < e.lo ∨ e.hi ≤ n ∨ bitN m e.i = true
  | x :: r, h, e, he => by
    have h : ((Nat.blt n x.lo || Nat.ble x.hi n || bitN m x.i) && nmIn m n r) = true := h
    rw [Bool.and_eq_true] at h
    rcases List.mem_cons.1 he with rfl | he
    · rcases Bool.or_eq_true_iff.1 h.1 with h1 | h1
      · rcases Bool.or_eq_true_iff.1 h1 with h1 | h1
        · exact .inl (by simpa using h1)
        · exact .inr (.inl (Nat.le_of_ble_eq_true h1))
      · exact .inr (.inr h1)
    · exact nmIn_mem h.2 e he
theorem nmAll_mem {m : Nat} {TR : List TE} : ∀ {l : List Nat}, nmAll m TR l = true → ∀ n, n ∈ l → nmIn m n TR = true
  | x :: r, h, n, hn => by
    have h : (nmIn m x TR && nmAll m TR r) = true := h
    rw [Bool.and_eq_true] at h
    rcases List.mem_cons.1 hn with rfl | hn
    · exact h.1
    · exact nmAll_mem h.2 n hn
section
variable {P : Program} {D : List (Nat × TD)} {N : Nat}
theorem sxD_run (hT : TDok P D) (hN : N ≤ 4000) {E : Env} (hE : E.D = D) {h : Hnd} (hh : HndOk P E h) {ops : Array Oper} {τ : Type} {k pn : Nat → St → Option τ} {r : τ} :
    ∀ (l : List Oper) (i : Nat) (MK : List (Nat × Nat)) (TR : List TE) (q : Nat) (S : St) (R0 : Nat → DRec), MKok i MK R0 → TRok i TR R0 → (∀ o, o ∈ l → ∀ t, o.dst = some t → t < N) → sxD E h ops l i MK TR q S k pn = some r →
    ∃ R : Nat → DRec, (∀ j, j < i → R j = R0 j) ∧ (R i).q = q ∧ (R i).S = S ∧ DRes P E N ops l i R k pn r
  | [], i, MK, TR, q, S, R0, _, _, _, hs => by
    refine ⟨fun j => if j = i then ⟨false, 0, [], [], q, q, S, S, S⟩ else R0 j, fun j hj => if_neg (by omega), by simp, by simp, .inl ⟨(fun j o hj => by simp at hj), ?_⟩⟩
    have hs : k q S = some r := hs
    simpa using hs
  | o :: l, i, MK, TR, q, S, R0, hMK, hTR, hd, hs => by
    have hd1 := hd o (by simp)
    have hd2 : ∀ o, o ∈ l → ∀ t, o.dst = some t → t < N := fun o ho => hd o (by simp [ho])
    have hMK' : ∀ (rc : DRec), rc.m = mskE MK o.after.toList → MKok (i + 1) ((i, mskE MK o.after.toList) :: MK) (fun j => if j = i then rc else R0 j) := by
      intro rc hrc j
      show (bif Nat.beq i j then _ else _) = _
      by_cases e : i = j
      · subst e; rw [Nat.beq_refl]; simp [hrc]
      · rw [beq_false e]
        show lookM MK j = _
        rw [hMK j]
        by_cases e2 : j < i
        · rw [if_pos e2, if_pos (by omega)]
          show _ = (if j = i then rc else R0 j).m
          rw [if_neg (by omega)]
        · rw [if_neg e2, if_neg (by omega)]
    have hTR' : ∀ (rc : DRec) (TR' : List TE), (∀ e, e ∈ TR → e ∈ TR') → (rc.x = true → ⟨i, rc.T, rc.W, rc.q, rc.q'⟩ ∈ TR') → TRok (i + 1) TR' (fun j => if j = i then rc else R0 j) := by
      intro rc TR' h1 h2 j hj hx
      by_cases e : j = i
      · subst e
        simp only [if_true] at hx ⊢
        exact h2 hx
      · simp only [if_neg e] at hx ⊢
        exact h1 _ (hTR j (by omega) hx)
    -- from the rest's run
    have fin : ∀ (rc : DRec) (R : Nat → DRec), rc.m = mskE MK o.after.toList → rc.q = q → rc.S = S → (∀ j, j < i + 1 → R j = if j = i then rc else R0 j) → DRes P E N ops l (i + 1) R k pn r →
        ((∀ j, j < i → R j = R0 j) → R i = rc → DStep P N ops R i o) →
        ∃ R : Nat → DRec, (∀ j, j < i → R j = R0 j) ∧ (R i).q = q ∧ (R i).S = S ∧ DRes P E N ops (o :: l) i R k pn r := by
      intro rc R h1 h2 h3 h4 h5 h7
      have hR : ∀ j, j < i → R j = R0 j := fun j hj => by rw [h4 j (by omega), if_neg (by omega)]
      have hi : R i = rc := by rw [h4 i (by omega), if_pos rfl]
      exact ⟨R, hR, by rw [hi, h2], by rw [hi, h3], DRes.cons (h7 hR hi) h5⟩
    have mkOf : ∀ (R : Nat → DRec), (∀ j, j < i → R j = R0 j) → MKok i MK R := fun R hR j => by
      rw [hMK j]
      split
      · rename_i hj; rw [hR j hj]
      · rfl
    -- carried out
    have run : ∀ (S1 : St), S1.H = S.H → (nrm (tchd S1 o.op) fun T =>
        exec1 E h o q ⟨fresL (opT (opR o.op)) S1.F .e, hres T S1.H⟩ (fun q' S' =>
        nrm (app (newW q S'.H S'.H) (goneW S'.H T)) fun W =>
        bif okTR (mskE MK o.after.toList) T W TR && nmAll (mskE MK o.after.toList) TR (app (nmD S'.F o.dst) (nmWs S'.H W)) then (match W with
          | [] => sxD E h ops l (i + 1) ((i, mskE MK o.after.toList) :: MK) (⟨i, T, W, q, q'⟩ :: TR) q' ⟨putF S1.F o.dst S'.F, S1.H⟩ k pn
          | _ :: _ => nrm (app S'.H (hout T S1.H)) fun H => sxD E h ops l (i + 1) ((i, mskE MK o.after.toList) :: MK) (⟨i, T, W, q, q'⟩ :: TR) q' ⟨putF S1.F o.dst S'.F, H⟩ k pn) else none)
        (fun _ _ => bif okPn ops i (mskE MK o.after.toList) MK TR l then exec1 E h o q ⟨fresL (opT (opR o.op)) S1.F .e, S1.H⟩ (fun _ _ => none) pn else none)) = some r →
        ((o.guard = none ∧ true = true ∧ S1 = S) ∨ (∃ j want t v, o.guard = some (j, want) ∧ (ops[j]?).bind (·.dst) = some t ∧ S.get t = some v ∧ ((v = .ud ∧ true = false ∧ S1 = S) ∨ ∃ b, (∀ ν, cv ν v = .bool b) ∧ S1 = S.put t (b2 b) ∧ true = (b == want)))) →
        ∃ R : Nat → DRec, (∀ j, j < i → R j = R0 j) ∧ (R i).q = q ∧ (R i).S = S ∧ DRes P E N ops (o :: l) i R k pn r := by
      intro S1 hS1 hx hg
      rw [nrm_eq] at hx
      obtain ⟨q', S', ⟨h1, h2⟩ | ⟨h1, _⟩⟩ := exec1_ok hT hN hE hh hd1 hx
      · rw [nrm_eq] at h1
        generalize hTT : tchd S1 o.op = T at h1 h2
        generalize hWW : app (newW q S'.H S'.H) (goneW S'.H T) = W at h1
        cases hb : okTR (mskE MK o.after.toList) T W TR && nmAll (mskE MK o.after.toList) TR (app (nmD S'.F o.dst) (nmWs S'.H W)) with
        | false => rw [hb] at h1; cases h1
        | true =>
          rw [hb] at h1
          simp only [cond_true] at h1
          rw [Bool.and_eq_true] at hb
          let rc : DRec := ⟨true, mskE MK o.after.toList, T, W, q, q', S, S1, S'⟩
          have hnext : ∃ H', sxD E h ops l (i + 1) ((i, mskE MK o.after.toList) :: MK) (⟨i, T, W, q, q'⟩ :: TR) q' ⟨putF S1.F o.dst S'.F, H'⟩ k pn = some r ∧ H' = nxH W T S.H S'.H := by
            cases W with
            | nil => exact ⟨_, h1, hS1⟩
            | cons c W =>
              simp only [] at h1
              rw [nrm_eq] at h1
              exact ⟨_, h1, by rw [hS1]; rfl⟩
          obtain ⟨H', h3, hH'⟩ := hnext
          obtain ⟨R, g1, g2, g3, g4⟩ := sxD_run hT hN hE hh l (i + 1) _ _ q' _ (fun j => if j = i then rc else R0 j) (hMK' rc rfl) (hTR' rc _ (fun e he => List.mem_cons_of_mem _ he) (fun _ => List.mem_cons_self)) hd2 h3
          refine fin rc R rfl rfl rfl g1 g4 fun hR hi => ?_
          refine ⟨⟨MK, mkOf R hR, by rw [hi]⟩, by rw [hi]; exact hS1, by rw [hi]; exact hg, by rw [g2, hi], by rw [hi]; exact h2.le, fun _ => ?_, fun hf => by rw [hi] at hf; cases hf⟩
          refine ⟨by rw [hi]; show Stp P N o q ⟨_, hres T S.H⟩ q' S'; rw [← hS1]; exact h2, by rw [hi]; exact hWW.symm, fun j hj hx => ?_, fun n hn j hj hx => ?_, by rw [g3, hi], by rw [g3, hi]; exact hH'⟩
          · have hmem := hTR j hj (by rw [← hR j hj]; exact hx)
            rw [hi, hR j hj]
            exact okTR_mem hb.1 _ hmem
          · have hmem := hTR j hj (by rw [← hR j hj]; exact hx)
            rw [hi] at hn ⊢
            rw [hR j hj]
            exact nmIn_mem (nmAll_mem hb.2 n hn) _ hmem
      · cases hb : okPn ops i (mskE MK o.after.toList) MK TR l with
        | false => rw [hb] at h1; cases h1
        | true =>
          rw [hb] at h1
          obtain ⟨q2, S2, ⟨h3, _⟩ | ⟨h3, h4⟩⟩ := exec1_ok hT hN hE hh hd1 (show exec1 E h o q ⟨fresL (opT (opR o.op)) S1.F .e, S1.H⟩ (fun _ _ => none) pn = some r from h1)
          · cases h3
          · refine ⟨fun j => if j = i then ⟨true, mskE MK o.after.toList, [], [], q, q, S, S1, S⟩ else R0 j, fun j hj => if_neg (by omega), by simp, by simp, .inr ⟨0, o, q2, S2, rfl, fun j p hj => by omega, ?_, h3⟩⟩
            refine ⟨⟨MK, TR, mkOf _ fun j hj => if_neg (by omega), fun j hj hx => ?_, by simpa using hb⟩, S1, by simpa using hS1, ?_, ?_⟩
            · have hx : (if j = i + 0 then (⟨true, mskE MK o.after.toList, [], [], q, q, S, S1, S⟩ : DRec) else R0 j).x = true := hx
              show (⟨j, (if j = i + 0 then (⟨true, mskE MK o.after.toList, [], [], q, q, S, S1, S⟩ : DRec) else R0 j).T, (if j = i + 0 then (⟨true, mskE MK o.after.toList, [], [], q, q, S, S1, S⟩ : DRec) else R0 j).W, (if j = i + 0 then (⟨true, mskE MK o.after.toList, [], [], q, q, S, S1, S⟩ : DRec) else R0 j).q, (if j = i + 0 then (⟨true, mskE MK o.after.toList, [], [], q, q, S, S1, S⟩ : DRec) else R0 j).q'⟩ : TE) ∈ TR
              rw [if_neg (by omega)] at hx ⊢
              exact hTR j (by omega) hx
            · simp only [Nat.add_zero, if_true]
              rw [← hS1]
              exact h4
            · simp only [Nat.add_zero, if_true]
              rcases hg with ⟨g1, _, g3⟩ | ⟨j, want, t, v, g1, g2, g3, ⟨_, g4, _⟩ | ⟨b, g4, g5, g6⟩⟩
              · exact .inl ⟨g1, g3⟩
              · cases g4
              · exact .inr ⟨j, want, t, v, g1, g2, g3, b, g4, g5, g6.symm⟩
    -- passed by
    have pass : ∀ (S1 : St), S1.H = S.H → sxD E h ops l (i + 1) ((i, mskE MK o.after.toList) :: MK) TR q (putD S1 o.dst .ud) k pn = some r →
        ((∃ j want t v, o.guard = some (j, want) ∧ (ops[j]?).bind (·.dst) = some t ∧ S.get t = some v ∧ ((v = .ud ∧ false = false ∧ S1 = S) ∨ ∃ b, (∀ ν, cv ν v = .bool b) ∧ S1 = S.put t (b2 b) ∧ false = (b == want)))) →
        ∃ R : Nat → DRec, (∀ j, j < i → R j = R0 j) ∧ (R i).q = q ∧ (R i).S = S ∧ DRes P E N ops (o :: l) i R k pn r := by
      intro S1 hS1 hx hg
      let rc : DRec := ⟨false, mskE MK o.after.toList, [], [], q, q, S, S1, S⟩
      obtain ⟨R, g1, g2, g3, g4⟩ := sxD_run hT hN hE hh l (i + 1) _ _ q _ (fun j => if j = i then rc else R0 j) (hMK' rc rfl) (hTR' rc TR (fun e he => he) (fun hf => by cases hf)) hd2 hx
      refine fin rc R rfl rfl rfl g1 g4 fun hR hi => ?_
      exact ⟨⟨MK, mkOf R hR, by rw [hi]⟩, by rw [hi]; exact hS1, by rw [hi]; exact .inr hg, by rw [g2, hi], by rw [hi]; exact Nat.le_refl _, fun hf => (by rw [hi] at hf; cases hf), fun _ => by rw [g3, hi]⟩
    simp only [sxD] at hs
    split at hs
    · rename_i hg
      exact run S rfl hs (.inl ⟨hg, rfl, rfl⟩)
    · rename_i j want hg
      split at hs
      · rename_i t hj
        split at hs
        · rename_i v hv
          rcases ifg_ok hs with ⟨rfl, hs'⟩ | ⟨hne, b, hb, hs'⟩
          · exact pass S rfl hs' ⟨j, want, t, _, hg, hj, hv, .inl ⟨rfl, rfl, rfl⟩⟩
          · cases hbw : (b == want) with
            | true =>
              rw [hbw] at hs'
              exact run (S.put t (b2 b)) rfl hs' (.inr ⟨j, want, t, v, hg, hj, hv, .inr ⟨b, hb, rfl, hbw.symm⟩⟩)
            | false =>
              rw [hbw] at hs'
              have hs'' : sxD E h ops l (i + 1) ((i, mskE MK o.after.toList) :: MK) TR q (putD (S.put t (b2 b)) o.dst .ud) k pn = some r := by
                cases v <;> first | exact hs' | exact absurd rfl hne
              exact pass (S.put t (b2 b)) rfl hs'' ⟨j, want, t, v, hg, hj, hv, .inr ⟨b, hb, rfl, hbw.symm⟩⟩
        · cases hs
      · cases hs
end
end Go.Proofs.Ytnagkhofkjjajaa

/- The symbolic walk is sound: calls. Lemmas, no statement of the claim. -/
set_option linter.unusedVariables false
set_option linter.unusedSimpArgs false
namespace Go.Proofs.Ytnagkhofkjjajaa
open Go.RowKit
/-! ### What is handed over, what is handed back -/
section
variable {ν ν1 : NV} {q n : Nat} {w0 u0 : World} {X Y : XS} {H H1 : List (Nat × Nat × HC)} {w : World}
theorem extA_some {a : VS} {r : List VS} {v : SV} {vs : List SV} {x : Tup (lvs (a :: r))} (h : extA H (a :: r) (v :: vs) = some x) : ∃ p y, extV H a v .ud = some p ∧ extA H r vs = some y ∧ x = tcat a.lv (lvs r) p y := by
  simp only [extA] at h
  split at h
  · rename_i p y hp hy
    exact ⟨p, y, hp, hy, (Option.some.inj h).symm⟩
  · cases h
theorem embA_cons (s : Nat) (a : VS) (r : List VS) (p : Tup a.lv) (y : Tup (lvs r)) (H : List (Nat × Nat × HC)) (n : Nat) : embA s (a :: r) (tcat a.lv (lvs r) p y) H n =
    ⟨(embV s a p .ud H n).v :: (embA s r y (embV s a p .ud H n).H (n + a.nm)).vs, (embA s r y (embV s a p .ud H n).H (n + a.nm)).H⟩ := by
  have t1 := tcat_fst a.lv (lvs r) p y
  have t2 := tcat_snd a.lv (lvs r) p y
  show EL.mk ((embV s a (tfst a.lv (lvs r) (tcat a.lv (lvs r) p y)) .ud H n).v :: (embA s r (tsnd a.lv (lvs r) (tcat a.lv (lvs r) p y)) (embV s a (tfst a.lv (lvs r) (tcat a.lv (lvs r) p y)) .ud H n).H (n + a.nm)).vs) (embA s r (tsnd a.lv (lvs r) (tcat a.lv (lvs r) p y)) (embV s a (tfst a.lv (lvs r) (tcat a.lv (lvs r) p y)) .ud H n).H (n + a.nm)).H = _
  rw [t1, t2]
theorem embA_frz {q s : Nat} (hs : q ≤ s) : ∀ (l : List VS) (x : Tup (lvs l)) (H : List (Nat × Nat × HC)) (n : Nat), Frz q H (embA s l x H n).H
  | [], _, H, n => Frz.refl _ _
  | a :: r, x, H, n => (embV_frz hs a (tfst a.lv (lvs r) x) .ud H n).trans (embA_frz hs r (tsnd a.lv (lvs r) x) (embV s a (tfst a.lv (lvs r) x) .ud H n).H (n + a.nm)) (Nat.le_refl _)
theorem embA_ok (M : Mem ν q w0 X H w) : ∀ (l : List VS) (vs : List SV) (x : Tup (lvs l)), extA H l vs = some x → (∀ v, v ∈ vs → v.ok ν q) → (∀ a, a ∈ l → vwN a = []) → (∀ c, c ∈ rwL l vs → ∀ b, b ∈ (ν c).D → u0.heap.size ≤ b ∨ b ∈ Y.x) → (∀ c, c ∈ roL l vs → ∀ b, b ∈ (ν c).D → Vis u0 Y b) → ∀ (s n : Nat) (ν1 : NV) (H1 : List (Nat × Nat × HC)), Mem ν1 n u0 Y H1 w →
    (∀ c, c ∈ roL l vs → ∀ d y, hget H1 d = some y → y.wt = true → ∀ b, b ∈ (ν c).D → b ∉ (ν1 d).D) → (∀ c, c ∈ rwL l vs → ∀ d y, hget H1 d = some y → ∀ b, b ∈ (ν c).D → b ∉ (ν1 d).D) →
    nodup (rwL l vs) = true → (∀ c, c ∈ rwL l vs → c ∉ roL l vs) →
    ∃ ν2, Agr n ν1 ν2 ∧ Mem ν2 (n + nmA l) u0 Y (embA s l x H1 n).H w ∧ (embA s l x H1 n).vs.map (cv ν2) = vs.map (cv ν) ∧ ∀ v, v ∈ (embA s l x H1 n).vs → v.ok ν2 (n + nmA l)
  | [], vs, x, h, hv, _, _, _, s, n, ν1, H1, M1, _, _, _, _ => by
    cases vs with
    | nil => exact ⟨ν1, Agr.refl _ _, M1, rfl, fun v hv => by cases hv⟩
    | cons v vs => cases h
  | a :: r, vs, x, h, hv, hvw, hm, hz, s, n, ν1, H1, M1, hro, hrw, hnd, hdis => by
    cases vs with
    | nil => cases h
    | cons v vs =>
    obtain ⟨p, y, hp, hy, rfl⟩ := extA_some h
    have hnd' := nodup_app.1 (show nodup (app (rwN a v) (rwL r vs)) = true from hnd)
    have hdis' : ∀ c, c ∈ rwN a v ∨ c ∈ rwL r vs → ¬ (c ∈ roN a v ∨ c ∈ roL r vs) := fun c hc h => hdis c (mem_app.2 hc) (mem_app.2 h)
    obtain ⟨ν2, L1⟩ := embV_ok M (q0 := 0) (Nat.zero_le _) a v .ud p hp (hv v (by simp)) trivial (by rw [hvw a (by simp)]; intro c hc; cases hc) (fun c hc => hm c (mem_app.2 (.inl hc))) (fun c hc => hz c (mem_app.2 (.inl hc))) s n ν1 H1 (Nat.zero_le _) (fun c hc => by omega) M1 ⟨fun c hc => hro c (mem_app.2 (.inl hc)), fun c hc => hrw c (mem_app.2 (.inl hc))⟩ hnd'.1 (fun c hc h => hdis' c (.inl hc) (.inl h))
    have hro2 : ∀ c, c ∈ roL r vs → ∃ h, hget H c = some h := roL_get r vs y hy
    have hrw2 : ∀ c, c ∈ rwL r vs → ∃ h, hget H c = some h ∧ h.wt = true := rwL_get r vs y hy
    obtain ⟨ν3, g1, g2, g3, g4⟩ := embA_ok M r vs y hy (fun u hu => hv u (by simp [hu])) (fun b hb => hvw b (by simp [hb])) (fun c hc => hm c (mem_app.2 (.inr hc))) (fun c hc => hz c (mem_app.2 (.inr hc))) s (n + a.nm) ν2 _ L1.mem
      (fun c hc d' y' hd hy' b' hb hb2 => by
        rcases L1.new d' y' hd with h | h | ⟨c', hc', h⟩
        · rw [L1.agr d' (M1.nm d' y' h)] at hb2
          exact hro c (mem_app.2 (.inr hc)) d' y' h hy' b' hb hb2
        · rw [h] at hb2; cases hb2
        · rcases hc' with hc' | ⟨hw, _⟩
          · obtain ⟨hp1, k1, k2⟩ := rwN_get a v _ p hp c' hc'
            obtain ⟨hp2, k3⟩ := hro2 c hc
            refine M.ne c' c hp1 hp2 k1 k3 (fun q => ?_) k2 b' (h b' hb2) hb
            subst q
            exact hdis' c' (.inl hc') (.inr hc)
          · rw [hy'] at hw; cases hw)
      (fun c hc d' y' hd b' hb hb2 => by
        obtain ⟨hp1, k1, k2⟩ := hrw2 c hc
        rcases L1.new d' y' hd with h | h | ⟨c', hc', h⟩
        · rw [L1.agr d' (M1.nm d' y' h)] at hb2
          exact hrw c (mem_app.2 (.inr hc)) d' y' h b' hb hb2
        · rw [h] at hb2; cases hb2
        · rcases hc' with hc' | ⟨_, hc'⟩
          · obtain ⟨hp2, k3, k4⟩ := rwN_get a v _ p hp c' hc'
            refine M.ne c c' hp1 hp2 k1 k3 (fun q => ?_) k2 b' hb (h b' hb2)
            subst q
            exact hnd'.2.2 c hc' hc
          · obtain ⟨hp2, k3⟩ := roN_get a v _ p hp c' hc'
            refine M.ne c c' hp1 hp2 k1 k3 (fun q => ?_) k2 b' hb (h b' hb2)
            subst q
            exact hdis' c (.inr hc) (.inl hc'))
      hnd'.2.1 (fun c hc h => hdis' c (.inr hc) (.inr h))
    have hn : n + nmA (a :: r) = n + a.nm + nmA r := by simp only [nmA]; omega
    rw [embA_cons, hn]
    refine ⟨ν3, L1.agr.trans g1 (by omega), g2, ?_, fun u hu => ?_⟩
    · show cv ν3 _ :: _ = cv ν v :: _
      rw [cv_agr g1 L1.ok, L1.cv, g3]
    · rcases List.mem_cons.1 hu with rfl | hu
      · exact ok_mono (by omega) _ (ok_agr g1 _ L1.ok).1
      · exact g4 u hu
where
  roL_get : ∀ (l : List VS) (vs : List SV) (x : Tup (lvs l)), extA H l vs = some x → ∀ c, c ∈ roL l vs → ∃ h, hget H c = some h
    | [], _, _, _, c, hc => by cases hc
    | _ :: _, [], _, _, c, hc => by cases hc
    | a :: r, v :: vs, x, h, c, hc => by
      obtain ⟨p, y, hp, hy, _⟩ := extA_some h
      rcases mem_app.1 (show c ∈ app (roN a v) (roL r vs) from hc) with hc | hc
      · exact roN_get a v _ p hp c hc
      · exact roL_get r vs y hy c hc
  rwL_get : ∀ (l : List VS) (vs : List SV) (x : Tup (lvs l)), extA H l vs = some x → ∀ c, c ∈ rwL l vs → ∃ h, hget H c = some h ∧ h.wt = true
    | [], _, _, _, c, hc => by cases hc
    | _ :: _, [], _, _, c, hc => by cases hc
    | a :: r, v :: vs, x, h, c, hc => by
      obtain ⟨p, y, hp, hy, _⟩ := extA_some h
      rcases mem_app.1 (show c ∈ app (rwN a v) (rwL r vs) from hc) with hc | hc
      · exact rwN_get a v _ p hp c hc
      · exact rwL_get r vs y hy c hc
theorem pOk_rw : ∀ (a : VS), a.pOk = true → (∀ v, rwN a v = []) ∧ vwN a = [] := by
  intro a
  induction a with
  | pr a b iha ihb =>
    intro h
    have h : (a.pOk && b.pOk) = true := h
    rw [Bool.and_eq_true] at h
    refine ⟨fun v => ?_, by show app _ _ = _; rw [(iha h.1).2, (ihb h.2).2]; rfl⟩
    cases v <;> try rfl
    show app _ _ = _
    rw [(iha h.1).1, (ihb h.2).1]; rfl
  | one a ih =>
    intro h
    refine ⟨fun v => ?_, (ih h).2⟩
    cases v <;> try rfl
    exact (ih h).1 _
  | v _ => intro _; exact ⟨fun v => by cases v <;> rfl, rfl⟩
  | ro _ => intro _; exact ⟨fun v => by cases v <;> rfl, rfl⟩
  | rq _ => intro _; exact ⟨fun v => by cases v <;> rfl, rfl⟩
  | rp _ => intro _; exact ⟨fun v => by cases v <;> rfl, rfl⟩
  | rw _ _ => intro h; cases h
  | vw _ _ => intro h; cases h
  | vh _ => intro h; cases h
  | k => intro h; cases h
theorem rOk_ro : ∀ (a : VS), a.rOk = true → (∀ v, roN a v = []) ∧ vwN a = [] := by
  intro a
  induction a with
  | pr a b iha ihb =>
    intro h
    have h : (a.rOk && b.rOk) = true := h
    rw [Bool.and_eq_true] at h
    refine ⟨fun v => ?_, by show app _ _ = _; rw [(iha h.1).2, (ihb h.2).2]; rfl⟩
    cases v <;> try rfl
    show app _ _ = _
    rw [(iha h.1).1, (ihb h.2).1]; rfl
  | one a ih =>
    intro h
    refine ⟨fun v => ?_, (ih h).2⟩
    cases v <;> try rfl
    exact (ih h).1 _
  | v _ => intro _; exact ⟨fun v => by cases v <;> rfl, rfl⟩
  | rw _ _ => intro _; exact ⟨fun v => by cases v <;> rfl, rfl⟩
  | ro _ => intro h; cases h
  | rq _ => intro h; cases h
  | rp _ => intro h; cases h
  | vw _ _ => intro h; cases h
  | vh _ => intro h; cases h
  | k => intro h; cases h
theorem allV_mem {f : VS → Bool} : ∀ {l : List VS}, allV f l = true → ∀ a, a ∈ l → f a = true
  | x :: l, h, a, ha => by
    have h : (f x && allV f l) = true := h
    rw [Bool.and_eq_true] at h
    rcases List.mem_cons.1 ha with rfl | ha
    · exact h.1
    · exact allV_mem h.2 a ha
theorem rwL_nil : ∀ {l : List VS} {vs : List SV}, allV VS.pOk l = true → rwL l vs = []
  | [], _, _ => rfl
  | _ :: _, [], _ => rfl
  | a :: l, v :: vs, h => by
    have h : (a.pOk && allV VS.pOk l) = true := h
    rw [Bool.and_eq_true] at h
    show app _ _ = _
    rw [(pOk_rw a h.1).1, rwL_nil h.2]; rfl
theorem roL_nil : ∀ {l : List VS} {vs : List SV}, allV VS.rOk l = true → roL l vs = []
  | [], _, _ => rfl
  | _ :: _, [], _ => rfl
  | a :: l, v :: vs, h => by
    have h : (a.rOk && allV VS.rOk l) = true := h
    rw [Bool.and_eq_true] at h
    show app _ _ = _
    rw [(rOk_ro a h.1).1, roL_nil h.2]; rfl
end
end Go.Proofs.Ytnagkhofkjjajaa
