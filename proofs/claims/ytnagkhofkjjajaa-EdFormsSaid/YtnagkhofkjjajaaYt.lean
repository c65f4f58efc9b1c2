/- The symbolic walk is sound: what was not touched; frames; data laid into memory. Lemmas, no statement of the claim. -/
import Derived.Test.YtnagkhofkjjajaaYr
/- The symbolic walk is sound: one operation. Lemmas, no statement of the claim. -/
set_option linter.unusedVariables false
set_option linter.unusedSimpArgs false
namespace Go.Proofs.Ytnagkhofkjjajaa
open Go.RowKit
/-- What an operation leaves. -/
def OpOk (P : Program) (ν : NV) (q : Nat) (w0 : World) (X : XS) (w : World) (s : Sem Next) (e : Ef) : Prop :=
  ∃ ν' w' r, Agr q ν ν' ∧ s.run P w = .ok r w' ∧ ((r = .value (cv ν' e.v)) ∨ (r = .skip ∧ e.v = .ud)) ∧ Mem ν' (q + 1) w0 X e.H w' ∧ e.v.ok ν' (q + 1)
section
variable {P : Program} {D : List (Nat × TD)} {ν : NV} {q : Nat} {w0 : World} {X : XS} {H : List (Nat × Nat × HC)} {w : World}
theorem VOk.op {s : Sem Value} {e : Ef} (h : VOk P ν q w0 X w s e) : OpOk P ν q w0 X w (do Pure.pure (.value (← s))) e := by
  obtain ⟨ν', w', g1, g2, g3, g4⟩ := h
  exact ⟨ν', w', _, g1, by rw [Sem.run_bind, g2]; rfl, .inl rfl, g3, g4⟩
theorem OpOk.pure (M : Mem ν q w0 X H w) {s : Sem Next} {v : SV} {cs : List Cnd} (hr : s.run P w = .ok (.value (cv ν v)) w) (hv : v.ok ν q) : OpOk P ν q w0 X w s ⟨cs, v, H⟩ :=
  ⟨ν, w, _, Agr.refl _ _, hr, .inl rfl, M.mono (Nat.le_succ _), ok_mono (Nat.le_succ _) v hv⟩
theorem OpOk.pv (M : Mem ν q w0 X H w) {s : Sem Value} {v : SV} {cs : List Cnd} (hr : s.run P w = .ok (cv ν v) w) (hv : v.ok ν q) : OpOk P ν q w0 X w (do Pure.pure (.value (← s))) ⟨cs, v, H⟩ :=
  (VOk.pure M hr hv).op
theorem OpOk.congr {s s' : Sem Next} {e : Ef} (h : OpOk P ν q w0 X w s' e) (hs : s.run P w = s'.run P w) : OpOk P ν q w0 X w s e := by
  obtain ⟨ν', w', r, g1, g2, g3⟩ := h
  exact ⟨ν', w', r, g1, hs.trans g2, g3⟩
theorem efP_some {S : St} {p : PE} {e : Ef} (h : efP S p = some e) : ∃ cs v, p = some (cs, v) ∧ e = ⟨cs, v, S.H⟩ := by
  unfold efP at h
  split at h
  · cases h; exact ⟨_, _, rfl, rfl⟩
  · cases h
theorem itv_mk : ∀ (l : List SV), itv ν (mkItems l) = l.map (cv ν)
  | [] => rfl
  | v :: r => by show cv ν v :: itv ν (mkItems r) = _; rw [itv_mk r]; rfl
theorem mk_ok : ∀ (l : List SV), (∀ v, v ∈ l → v.ok ν q) → (mkItems l).ok ν q
  | [], _ => trivial
  | v :: r, h => ⟨h v (by simp), mk_ok r (fun u hu => h u (by simp [hu]))⟩
theorem sameO_ok {ev : Operand → Value} {x y : Operand} (h : sameO x y = true) (hc : ∀ c, ev (.const c) = c) : ev x = ev y := by
  unfold sameO at h
  split at h
  · rw [beqT h]
  · rw [hc, hc, beqT h]
  · cases h
theorem ev_ok (hT : TDok P D) (M : Mem ν q w0 X H w) {S : St} (hS : S.H = H) {ev' : Operand → Value} (hev : ∀ x v, opS S.get x = some v → ev' x = cv ν v ∧ v.ok ν q) (hcst : ∀ c, ev' (.const c) = c) {o : Oper} {e : Ef} (h : ev D q S o.op = some e) (hc : allC e.cs) : OpOk P ν q w0 X w (execOp ev' o) e := by
  have hops : ∀ xs l, opsS S.get xs = some l → xs.map ev' = l.map (cv ν) ∧ ∀ v, v ∈ l → v.ok ν q := by
    intro xs
    induction xs with
    | nil => intro l h; cases h; exact ⟨rfl, by intro v hv; cases hv⟩
    | cons x r ih =>
      intro l h
      simp only [opsS] at h
      split at h
      · rename_i v m hv hm
        cases h
        obtain ⟨h1, h2⟩ := hev _ _ hv
        obtain ⟨h3, h4⟩ := ih _ hm
        exact ⟨by simp [h1, h3], fun u hu => by
          rcases List.mem_cons.1 hu with rfl | hu
          · exact h2
          · exact h4 u hu⟩
      · cases h
  subst hS
  obtain ⟨dst, op, ty, pos, aft, gd⟩ := o
  simp only at h
  cases op with
  | move x =>
    simp only [ev] at h
    split at h
    · rename_i v hv
      cases h
      obtain ⟨e1, e2⟩ := hev _ _ hv
      refine OpOk.pure M ?_ e2
      simp [execOp, e1]
    · cases h
  | assign x =>
    simp only [ev] at h
    split at h
    · rename_i v hv
      cases h
      obtain ⟨e1, e2⟩ := hev _ _ hv
      refine OpOk.pure M ?_ e2
      simp [execOp, e1]
    · cases h
  | pick c x y =>
    simp only [ev] at h
    split at h
    · rename_i hcc
      split at h
      · rename_i v hv
        cases h
        obtain ⟨e1, e2⟩ := hev _ _ hv
        obtain ⟨e3, _⟩ := hev _ _ hcc
        refine OpOk.pure M ?_ e2
        simp [execOp, e1, e3, cv, cv3, asBool]
      · cases h
    · rename_i hcc
      split at h
      · rename_i v hv
        cases h
        obtain ⟨e1, e2⟩ := hev _ _ hv
        obtain ⟨e3, _⟩ := hev _ _ hcc
        refine OpOk.pure M ?_ e2
        simp [execOp, e1, e3, cv, cv3, asBool]
      · cases h
    · cases h
  | binOp op t x y t' =>
    simp only [ev] at h
    split at h
    · rename_i a b ha hb
      obtain ⟨cs, v, hp, rfl⟩ := efP_some h
      obtain ⟨e1, e2⟩ := hev _ _ ha
      obtain ⟨e3, e4⟩ := hev _ _ hb
      obtain ⟨g1, g2⟩ := evBin_ok (xo := x) (yo := y) hT ν q hp hc e2 e4
      refine OpOk.pv (s := do eqGuard op t x y (ev' x) (ev' y); binOp op t (ev' x) (ev' y)) M ?_ g2
      rw [e1, e3]; exact g1 w
    · cases h
  | unOp op t x =>
    simp only [ev] at h
    split at h
    · rename_i a ha
      obtain ⟨cs, v, hp, rfl⟩ := efP_some h
      obtain ⟨e1, e2⟩ := hev _ _ ha
      obtain ⟨g1, g2⟩ := unS_ok ν q hp hc e2 P w
      exact OpOk.pv (s := Op.unary op (ev' x)) M (by rw [e1]; exact g1) g2
    · cases h
  | convert src dst x =>
    simp only [ev] at h
    split at h
    · rename_i a ha
      obtain ⟨e1, e2⟩ := hev _ _ ha
      have := (evConvert_ok hT M rfl h hc e2).op
      rw [← e1] at this
      exact this
    · cases h
  | extract x i =>
    simp only [ev] at h
    split at h
    · rename_i l ha
      split at h
      · rename_i v hv
        cases h
        obtain ⟨e1, e2⟩ := hev _ _ ha
        obtain ⟨g1, g2⟩ := cv3_item (q := q) ν l i v hv
        refine OpOk.pv (s := Instr.extract (ev' x) i) M ?_ (g2 e2)
        rw [e1]
        have : (itv ν l).toArray[i]? = some (cv ν v) := by rw [List.getElem?_toArray]; exact g1
        show (Instr.extract (.tuple (itv ν l).toArray) i).run P w = _
        simp [Instr.extract, g1]
      · cases h
    · cases h
  | nilCheck x =>
    simp only [ev] at h
    split at h
    · rename_i c l p ha
      cases h
      obtain ⟨e1, e2⟩ := hev _ _ ha
      refine OpOk.pure M ?_ e2
      simp [execOp, e1, cv, cv3]
    · rename_i c p v lo m ha
      cases h
      obtain ⟨e1, e2⟩ := hev _ _ ha
      refine OpOk.pure M ?_ e2
      obtain ⟨_, _, n, tl, mx, hS, hm, h0⟩ := e2
      have hA := hS.adr (by have := hS.cap; omega)
      simp only [execOp, e1, cv, cv3]
      rw [hA]
      simp
    · cases h
  | fieldAddr s x f =>
    simp only [ev] at h
    split at h
    · rename_i a ha
      obtain ⟨cs, v, hp, rfl⟩ := efP_some h
      obtain ⟨e1, e2⟩ := hev _ _ ha
      obtain ⟨g1, g2⟩ := evFieldAddr_ok hT hp e2
      exact OpOk.pv (s := Instr.fieldAt s (ev' x) f) M (by rw [e1]; exact g2 w) g1
    · cases h
  | field s x f =>
    simp only [ev] at h
    split at h
    · rename_i a ha
      obtain ⟨cs, v, hp, rfl⟩ := efP_some h
      obtain ⟨e1, e2⟩ := hev _ _ ha
      obtain ⟨g1, g2⟩ := evField_ok hT hp e2 w
      exact OpOk.pv (s := Instr.field s (ev' x) f) M (by rw [e1]; exact g2) g1
    · cases h
  | indexAddr t x i =>
    simp only [ev] at h
    split at h
    · rename_i a b ha hb
      obtain ⟨cs, v, hp, rfl⟩ := efP_some h
      obtain ⟨e1, e2⟩ := hev _ _ ha
      obtain ⟨e3, e4⟩ := hev _ _ hb
      obtain ⟨g1, g2⟩ := evIndexAddr_ok hT M hp hc e2 e4
      exact OpOk.pv (s := Instr.indexAt t (ev' x) (ev' i)) M (by rw [e1, e3]; exact g2) g1
    · cases h
  | index t x i =>
    simp only [ev] at h
    split at h
    · rename_i a b ha hb
      obtain ⟨cs, v, hp, rfl⟩ := efP_some h
      obtain ⟨e1, e2⟩ := hev _ _ ha
      obtain ⟨e3, e4⟩ := hev _ _ hb
      obtain ⟨g1, g2⟩ := evIndex_ok hT hp hc e2 e4 w
      exact OpOk.pv (s := Instr.index t (ev' x) (ev' i)) M (by rw [e1, e3]; exact g2) g1
    · cases h
  | load t x =>
    simp only [ev] at h
    split at h
    · rename_i a ha
      obtain ⟨e1, e2⟩ := hev _ _ ha
      have := (evLoad_ok hT M rfl h e2).op
      rw [← e1] at this
      exact this
    · cases h
  | store t x y =>
    simp only [ev] at h
    split at h
    · rename_i a b ha hb
      obtain ⟨e1, e2⟩ := hev _ _ ha
      obtain ⟨e3, e4⟩ := hev _ _ hb
      obtain ⟨g0, w', g1, g2⟩ := evStore_ok hT M rfl h e2 e4
      refine ⟨ν, w', .skip, Agr.refl _ _, ?_, .inr ⟨rfl, g0⟩, g2, by rw [g0]; trivial⟩
      show ((do Instr.storeAt t (ev' x) (ev' y); Pure.pure .skip : Sem Next)).run P w = _
      rw [e1, e3, Sem.run_bind, g1]; rfl
    · cases h
  | alloc t =>
    simp only [ev] at h
    split at h
    · rename_i z hz
      obtain ⟨y1, y2, y3⟩ := zsv_ok _ _ _ hz
      unfold evBox at h
      rw [y3] at h
      cases h
      obtain ⟨d, hd⟩ : ∃ d, lookD D t = some d := by
        cases hd : lookD D t with
        | none => simp only [zsv, hd] at hz; cases hz
        | some d => exact ⟨d, rfl⟩
      obtain ⟨zv, g1, g2, g3⟩ := hT.zero hd hz w
      refine (run_new (s := Instr.alloc t true (.tuple #[])) M (y2 ν q) y3 ?_).op
      have : cls ν z = cls ν0 z := by unfold cls; rw [y1 ν]
      rw [this, ← g2]
      simp [Instr.alloc, g1, newVar, newRow]
    · cases h
  | box t x =>
    simp only [ev] at h
    split at h
    · rename_i v hv
      cases hf : fits D t v with
      | false => rw [hf] at h; cases h
      | true =>
        rw [hf] at h
        obtain ⟨e1, e2⟩ := hev _ _ hv
        have := (evBox_ok (P := P) M rfl h e2).op
        rw [← e1] at this
        exact this
    · cases h
  | build t ps =>
    simp only [ev] at h
    split at h
    · rename_i z hz
      cases hb : okB D t && z.lay.agg with
      | false => rw [hb] at h; cases h
      | true =>
        rw [hb] at h
        simp only [cond_true] at h
        split at h
        · rename_i v hv
          cases h
          obtain ⟨g1, g2⟩ := build_ok hT hev hz hb hv w
          exact OpOk.pv (s := Instr.build t (ps.map fun (i, x) => (i, ev' x))) M g2 g1
        · cases h
    · cases h
  | buildSlice t len ps =>
    simp only [ev] at h
    exact (buildSlice_ok hT M rfl hev (fun xs l hl => (hops xs l hl).2) h).op
  | makeSlice t x y =>
    simp only [ev] at h
    cases hs : sameO x y with
    | false =>
      rw [hs] at h
      simp only [cond_false] at h
      split at h
      · rename_i v u hv hu
        obtain ⟨e1, e2⟩ := hev _ _ hv
        obtain ⟨f1, f2⟩ := hev _ _ hu
        have := (evMakeC_ok hT M rfl h).op
        show OpOk P ν q w0 X w (do Pure.pure (.value (← Instr.makeSlice t (ev' x) (ev' y)))) e
        rw [e1, f1]
        exact this
      · cases h
    | true =>
      rw [hs] at h
      simp only [cond_true] at h
      split at h
      · rename_i v hv
        obtain ⟨e1, e2⟩ := hev _ _ hv
        have hxy := sameO_ok (ev := ev') hs hcst
        have := (evMake_ok hT M rfl h hc e2).op
        show OpOk P ν q w0 X w (do Pure.pure (.value (← Instr.makeSlice t (ev' x) (ev' y)))) e
        rw [← hxy, e1]
        exact this
      · cases h
  | slice t x lo hi mx =>
    simp only [ev] at h
    split at h
    · rename_i v hv
      obtain ⟨e1, e2⟩ := hev _ _ hv
      have := (evSlice_ok hT M rfl hev h hc e2).op
      rw [← e1] at this
      exact this
    · cases h
  | sliceToArrayPointer t x =>
    simp only [ev] at h
    split at h
    · rename_i a ha
      obtain ⟨cs, v, hp, rfl⟩ := efP_some h
      obtain ⟨e1, e2⟩ := hev _ _ ha
      obtain ⟨g1, g2⟩ := evSap_ok hT hp hc e2 w
      exact OpOk.pv (s := Instr.arrayAt t (ev' x)) M (by rw [e1]; exact g2) g1
    · cases h
  | makeInterface t x =>
    simp only [ev] at h
    split at h
    · rename_i nn bb ee hd hx
      cases h
      obtain ⟨e1, _⟩ := hev _ _ hx
      obtain ⟨fs, hu, _⟩ := hT.un t _ hd
      refine OpOk.pv (v := .ov (.iface t (.agg ⟨[]⟩))) (s := Instr.makeInterface t (ev' x)) M ?_ rfl
      rw [e1]
      simp only [Instr.makeInterface, Sem.run_bind, run_underlying hu, Result.andThen_ok]
      rfl
    · cases h
  | makeFunc f fi cap =>
    cases f with
    | func f =>
      simp only [ev] at h
      split at h
      · rename_i l m hl hm
        cases h
        obtain ⟨h1, h2⟩ := hops _ _ hl
        obtain ⟨h3, h4⟩ := hops _ _ hm
        refine OpOk.pv (s := Instr.makeFunc (.func f) (fi.map ev') (cap.map ev')) M ?_ ⟨mk_ok l h2, mk_ok m h4⟩
        have e1 : fi.map ev' = (l.map (cv ν)).toArray := by apply Array.toList_inj.1; rw [Array.toList_map]; exact h1
        have e2 : cap.map ev' = (m.map (cv ν)).toArray := by apply Array.toList_inj.1; rw [Array.toList_map]; exact h3
        show (Instr.makeFunc (.func f) (fi.map ev') (cap.map ev')).run P w = .ok (.func (.func f) (itv ν (mkItems l)).toArray (itv ν (mkItems m)).toArray) w
        rw [itv_mk, itv_mk, e1, e2]
        rfl
      · cases h
    | _ => simp only [ev] at h; cases h
  | call c =>
    obtain ⟨f, ⟨args⟩, ⟨ts⟩⟩ := c
    cases f with
    | builtin b =>
      cases b <;> (try (simp only [ev] at h; cases h; done))
      · -- append
        rcases args with _ | ⟨x, _ | ⟨y, _ | ⟨z, args⟩⟩⟩ <;> (try (simp only [ev] at h; cases h; done))
        rcases ts with _ | ⟨t, _ | ⟨t', _ | ⟨t2, ts⟩⟩⟩ <;> (try (simp only [ev] at h; cases h; done))
        simp only [ev] at h
        split at h
        · rename_i v u hv hu
          obtain ⟨e1, e2⟩ := hev _ _ hv
          obtain ⟨e3, e4⟩ := hev _ _ hu
          have := (evAppend_ok hT M rfl ty h hc e2 e4).op
          rw [← e1, ← e3] at this
          exact this.congr (by simp [execOp, resolve, invoke, builtin])
        · cases h
      · -- copy
        rcases args with _ | ⟨x, _ | ⟨y, _ | ⟨z, args⟩⟩⟩ <;> (try (simp only [ev] at h; cases h; done))
        rcases ts with _ | ⟨t, _ | ⟨t', _ | ⟨t2, ts⟩⟩⟩ <;> (try (simp only [ev] at h; cases h; done))
        simp only [ev] at h
        split at h
        · rename_i v u hv hu
          obtain ⟨e1, e2⟩ := hev _ _ hv
          obtain ⟨e3, e4⟩ := hev _ _ hu
          have := (evCopy_ok hT M rfl (t' := t') ty h e2 e4).op
          rw [← e1, ← e3] at this
          exact this.congr (by simp [execOp, resolve, invoke, builtin])
        · cases h
      · -- len
        rcases args with _ | ⟨x, _ | ⟨y, args⟩⟩ <;> (try (simp only [ev] at h; cases h; done))
        rcases ts with _ | ⟨t, _ | ⟨t', ts⟩⟩ <;> (try (simp only [ev] at h; cases h; done))
        simp only [ev] at h
        split at h
        · rename_i v hv
          obtain ⟨cs, v', hp, rfl⟩ := efP_some h
          obtain ⟨e1, e2⟩ := hev _ _ hv
          obtain ⟨g1, g2⟩ := evLen_ok hT hp hc e2 ty w
          exact (OpOk.pv (s := Builtin.len_ #[t] ty #[ev' x]) M (by rw [e1]; exact g2) g1).congr (by simp [execOp, resolve, invoke, builtin])
        · cases h
      · -- max
        rcases args with _ | ⟨x, _ | ⟨y, _ | ⟨z, args⟩⟩⟩ <;> (try (simp only [ev] at h; cases h; done))
        simp only [ev] at h
        split at h
        · rename_i a b hv hu
          cases h
          obtain ⟨e1, e2⟩ := hev _ _ hv
          obtain ⟨e3, e4⟩ := hev _ _ hu
          have h1 : a.x < lim .i64 := e2
          have h2 : b.x < lim .i64 := e4
          refine (OpOk.pv (v := .N .i64 ⟨a.l && b.l, max a.x b.x⟩) (s := Builtin.max_ ⟨ts⟩ ty #[ev' x, ev' y]) M ?_ (show max a.x b.x < lim .i64 by omega)).congr (by simp [execOp, resolve, invoke, builtin])
          rw [e1, e3]
          show (Builtin.max_ ⟨ts⟩ ty #[.int .i64 ((a.x : Nat) : Int), .int .i64 ((b.x : Nat) : Int)]).run P w = .ok (.int .i64 ((max a.x b.x : Nat) : Int)) w
          rw [run_max_int2]
          congr 2
          simp only [Nat.max_def]
          split <;> split <;> first | rfl | omega
        · cases h
    | value f => simp only [ev] at h; cases h
    | invoke a b => simp only [ev] at h; cases h
  | _ => simp only [ev] at h; cases h
end
end Go.Proofs.Ytnagkhofkjjajaa

/- The symbolic walk is sound: what was not touched; frames; data laid into memory. Lemmas, no statement of the claim. -/
set_option linter.unusedVariables false
set_option linter.unusedSimpArgs false
namespace Go.Proofs.Ytnagkhofkjjajaa
open Go.RowKit
/-- what has an old stamp is as it was -/
def Frz (q : Nat) (H H' : List (Nat × Nat × HC)) : Prop := ∀ c s, hst H' c = some s → s < q → hst H c = some s ∧ hget H' c = hget H c
theorem Frz.refl (q : Nat) (H : List (Nat × Nat × HC)) : Frz q H H := fun _ _ h _ => ⟨h, rfl⟩
theorem Frz.trans {q q' : Nat} {A B C : List (Nat × Nat × HC)} (h : Frz q A B) (g : Frz q' B C) (hq : q ≤ q') : Frz q A C := fun c s h1 h2 => by
  obtain ⟨g1, g2⟩ := g c s h1 (by omega)
  obtain ⟨g3, g4⟩ := h c s g1 h2
  exact ⟨g3, g2.trans g4⟩
theorem Frz.cons {q s : Nat} {H H' : List (Nat × Nat × HC)} (h : Frz q H H') (hs : q ≤ s) (c : Nat) (x : HC) : Frz q H ((c, s, x) :: H') := fun d t h1 h2 => by
  rw [hst_cons] at h1
  rw [hget_cons]
  split at h1
  · cases h1; omega
  · rename_i hne; rw [if_neg hne]; exact h d t h1 h2
theorem Frz.del {q : Nat} {H H' : List (Nat × Nat × HC)} (h : Frz q H H') (c : Nat) : Frz q H (hdel H' c) := fun d t h1 h2 => by
  rw [hst_del] at h1
  rw [hget_del]
  split at h1
  · cases h1
  · rename_i hne; rw [if_neg hne]; exact h d t h1 h2
theorem Frz.put {q s : Nat} {H H' : List (Nat × Nat × HC)} (h : Frz q H H') (hs : q ≤ s) (c : Nat) (x : HC) : Frz q H (hput H' c s x) := (h.del c).cons hs c x
theorem roAll_frz {q : Nat} : ∀ {l : List SV} {H H' : List (Nat × Nat × HC)}, roAll q H l = some H' → Frz q H H'
  | [], H, H', h => by cases h; exact Frz.refl _ _
  | v :: r, H, H', h => by
    unfold roAll at h
    split at h
    · cases h; exact Frz.refl _ _
    · rename_i heq; cases heq; exact roAll_frz h
    · rename_i heq
      cases heq
      split at h
      · exact ((Frz.refl _ _).put (Nat.le_refl _) _ _).trans (roAll_frz h) (Nat.le_refl _)
      · exact roAll_frz h
      · cases h
    · cases h
section
variable {D : List (Nat × TD)} {q : Nat} {S : St} {e : Ef}
theorem efP_frz {p : PE} (h : efP S p = some e) : Frz q S.H e.H := by
  obtain ⟨_, _, _, rfl⟩ := efP_some h
  exact Frz.refl _ _
theorem evLoad_frz {t : Nat} {x : SV} (h : evLoad D q S t x = some e) : Frz q S.H e.H := by
  unfold evLoad at h
  simp only [Bool.cond_eq_ite] at h
  repeat' (first | (cases h; done) | (cases h; (first | exact Frz.refl _ _ | exact (Frz.refl _ _).cons (Nat.le_refl _) _ _ | exact (Frz.refl _ _).put (Nat.le_refl _) _ _ | exact ((Frz.refl _ _).del _).cons (Nat.le_refl _) _ _)) | split at h)
theorem evStore_frz {t : Nat} {x v : SV} (h : evStore D q S t x v = some e) : Frz q S.H e.H := by
  unfold evStore at h
  simp only [Bool.cond_eq_ite] at h
  repeat' (first | (cases h; done) | (cases h; (first | exact Frz.refl _ _ | exact (Frz.refl _ _).cons (Nat.le_refl _) _ _ | exact (Frz.refl _ _).put (Nat.le_refl _) _ _ | exact ((Frz.refl _ _).del _).cons (Nat.le_refl _) _ _)) | split at h)
theorem evBox_frz {t : Nat} {x : SV} (h : evBox q S t x = some e) : Frz q S.H e.H := by
  unfold evBox at h
  simp only [Bool.cond_eq_ite] at h
  repeat' (first | (cases h; done) | (cases h; (first | exact Frz.refl _ _ | exact (Frz.refl _ _).cons (Nat.le_refl _) _ _ | exact (Frz.refl _ _).put (Nat.le_refl _) _ _ | exact ((Frz.refl _ _).del _).cons (Nat.le_refl _) _ _)) | split at h)
theorem evBuildSlice_frz {t len : Nat} {ps : List (Nat × Operand)} (h : evBuildSlice D q S t len ps = some e) : Frz q S.H e.H := by
  unfold evBuildSlice at h
  simp only [Bool.cond_eq_ite] at h
  repeat' (first | (cases h; done) | (cases h; first | (first | exact Frz.refl _ _ | exact (Frz.refl _ _).cons (Nat.le_refl _) _ _ | exact (Frz.refl _ _).put (Nat.le_refl _) _ _ | exact ((Frz.refl _ _).del _).cons (Nat.le_refl _) _ _) | (rename_i hr _; exact (roAll_frz hr).cons (Nat.le_refl _) _ _) | (rename_i hr; exact (roAll_frz hr).cons (Nat.le_refl _) _ _)) | split at h)
theorem evMake_frz {t : Nat} {x : SV} (h : evMake D q S t x = some e) : Frz q S.H e.H := by
  unfold evMake at h
  simp only [Bool.cond_eq_ite] at h
  repeat' (first | (cases h; done) | (cases h; (first | exact Frz.refl _ _ | exact (Frz.refl _ _).cons (Nat.le_refl _) _ _ | exact (Frz.refl _ _).put (Nat.le_refl _) _ _ | exact ((Frz.refl _ _).del _).cons (Nat.le_refl _) _ _)) | split at h)
theorem evMakeC_frz {t : Nat} {x y : SV} (h : evMakeC D q S t x y = some e) : Frz q S.H e.H := by
  unfold evMakeC at h
  simp only [Bool.cond_eq_ite] at h
  repeat' (first | (cases h; done) | (cases h; (first | exact Frz.refl _ _ | exact (Frz.refl _ _).cons (Nat.le_refl _) _ _ | exact (Frz.refl _ _).put (Nat.le_refl _) _ _ | exact ((Frz.refl _ _).del _).cons (Nat.le_refl _) _ _)) | split at h)
theorem evSlice_frz {t : Nat} {x : SV} {lo hi mx : Option Operand} (h : evSlice D q S t x lo hi mx = some e) : Frz q S.H e.H := by
  unfold evSlice at h
  simp only [Bool.cond_eq_ite] at h
  repeat' (first | (cases h; done) | (cases h; (first | exact Frz.refl _ _ | exact (Frz.refl _ _).cons (Nat.le_refl _) _ _ | exact (Frz.refl _ _).put (Nat.le_refl _) _ _ | exact ((Frz.refl _ _).del _).cons (Nat.le_refl _) _ _)) | split at h)
theorem evConvert_frz {s t : Nat} {x : SV} (h : evConvert D q S s t x = some e) : Frz q S.H e.H := by
  unfold evConvert at h
  simp only [Bool.cond_eq_ite] at h
  split at h
  · exact efP_frz h
  all_goals repeat' (first | (cases h; done) | (cases h; (first | exact Frz.refl _ _ | exact (Frz.refl _ _).cons (Nat.le_refl _) _ _ | exact (Frz.refl _ _).put (Nat.le_refl _) _ _ | exact ((Frz.refl _ _).del _).cons (Nat.le_refl _) _ _)) | split at h)
theorem appS_frz {T b : Nat} {a : Sh} {v : SV} {m : NT} {ys : List a.T} (h : appS q S T b a v m ys = some e) : Frz q S.H e.H := by
  unfold appS at h
  simp only [Bool.cond_eq_ite] at h
  repeat' (first | (cases h; done) | (cases h; (first | exact Frz.refl _ _ | exact (Frz.refl _ _).cons (Nat.le_refl _) _ _ | exact (Frz.refl _ _).put (Nat.le_refl _) _ _ | exact ((Frz.refl _ _).del _).cons (Nat.le_refl _) _ _)) | split at h)
theorem evAppend_frz {t t' : Nat} {v x : SV} (h : evAppend D q S t t' v x = some e) : Frz q S.H e.H := by
  unfold evAppend at h
  simp only [Bool.cond_eq_ite] at h
  repeat' (first | (cases h; done) | exact appS_frz h | (have := Option.some.inj h; subst this; rename_i hf; have h9 := appS_frz hf; exact h9) | split at h)
theorem evCopy_frz {t : Nat} {v x : SV} (h : evCopy D q S t v x = some e) : Frz q S.H e.H := by
  unfold evCopy at h
  simp only [Bool.cond_eq_ite] at h
  repeat' (first | (cases h; done) | (cases h; (first | exact Frz.refl _ _ | exact (Frz.refl _ _).cons (Nat.le_refl _) _ _ | exact (Frz.refl _ _).put (Nat.le_refl _) _ _ | exact ((Frz.refl _ _).del _).cons (Nat.le_refl _) _ _)) | split at h)
theorem ev_frz {op : Op} (h : ev D q S op = some e) : Frz q S.H e.H := by
  unfold ev at h
  simp only [Bool.cond_eq_ite] at h
  repeat' (first | (cases h; done) | (cases h; (first | exact Frz.refl _ _ | exact (Frz.refl _ _).cons (Nat.le_refl _) _ _ | exact (Frz.refl _ _).put (Nat.le_refl _) _ _ | exact ((Frz.refl _ _).del _).cons (Nat.le_refl _) _ _)) | exact efP_frz h | exact evLoad_frz h | exact evStore_frz h | exact evBox_frz h | exact evBuildSlice_frz h | exact evMake_frz h | exact evMakeC_frz h | exact evSlice_frz h | exact evConvert_frz h | exact evAppend_frz h | exact evCopy_frz h | split at h)
end
/-! ### Slots -/
theorem tr_put : ∀ (k n : Nat) (v : Option SV) (t : Tr) (m : Nat), n + 1 < 2 ^ k → (Tr.put k n v t).get m = if n = m then v else t.get m
  | 0, n, v, t, m, h => by simp at h
  | k + 1, n, v, t, m, h => by
    have hd : ∀ a b, Nat.div a b = a / b := fun _ _ => rfl
    have key : ∀ (n : Nat), n + 1 + 1 < 2 ^ (k + 1) → n / 2 + 1 < 2 ^ k := fun n h => by
      rw [Nat.pow_succ] at h; omega
    cases t with
    | e =>
      cases n with
      | zero =>
        cases m with
        | zero => simp [Tr.put, Tr.get]
        | succ m => simp only [Tr.put, Tr.get]; cases hb : Nat.beq (Nat.mod m 2) 0 <;> simp [Tr.get]
      | succ n =>
        have hk := key n h
        simp only [Tr.put]
        cases hb : Nat.beq (Nat.mod n 2) 0 with
        | true =>
          have e1 := beqT hb
          cases m with
          | zero => simp [Tr.get]
          | succ m =>
            simp only [cond_true, Tr.get]
            cases hm : Nat.beq (Nat.mod m 2) 0 with
            | true =>
              have e2 := beqT hm
              have e1 : n % 2 = 0 := e1
              have e2 : m % 2 = 0 := e2
              simp only [cond_true]
              simp only [hd]
              rw [tr_put k (n / 2) v .e (m / 2) hk]
              by_cases q : n = m
              · subst q; simp
              · rw [if_neg (by omega), if_neg (by omega)]; try rfl
            | false =>
              have e1 : n % 2 = 0 := e1
              simp only [cond_false, Tr.get]
              rw [if_neg]
              intro q
              have : n = m := by omega
              subst this
              rw [hb] at hm; cases hm
        | false =>
          cases m with
          | zero => simp [Tr.get]
          | succ m =>
            simp only [cond_false, Tr.get]
            cases hm : Nat.beq (Nat.mod m 2) 0 with
            | true =>
              simp only [cond_true, Tr.get]
              rw [if_neg]
              intro q
              have : n = m := by omega
              subst this
              rw [hb] at hm; cases hm
            | false =>
              have h1 : n % 2 ≠ 0 := fun q => by
                have : Nat.beq (Nat.mod n 2) 0 = true := by show Nat.beq (n % 2) 0 = true; rw [q]; rfl
                rw [hb] at this; cases this
              have h2 : m % 2 ≠ 0 := fun q => by
                have : Nat.beq (Nat.mod m 2) 0 = true := by show Nat.beq (m % 2) 0 = true; rw [q]; rfl
                rw [hm] at this; cases this
              simp only [cond_false]
              simp only [hd]
              rw [tr_put k (n / 2) v .e (m / 2) hk]
              by_cases q : n = m
              · subst q; simp
              · rw [if_neg (by omega), if_neg (by omega)]; try rfl
    | nd u l r =>
      cases n with
      | zero =>
        cases m with
        | zero => simp [Tr.put, Tr.get]
        | succ m => simp [Tr.put, Tr.get]
      | succ n =>
        have hk := key n h
        simp only [Tr.put]
        cases hb : Nat.beq (Nat.mod n 2) 0 with
        | true =>
          have e1 : n % 2 = 0 := beqT hb
          cases m with
          | zero => simp [Tr.get]
          | succ m =>
            simp only [cond_true, Tr.get]
            cases hm : Nat.beq (Nat.mod m 2) 0 with
            | true =>
              have e2 : m % 2 = 0 := beqT hm
              simp only [cond_true]
              simp only [hd]
              rw [tr_put k (n / 2) v l (m / 2) hk]
              by_cases q : n = m
              · subst q; simp
              · rw [if_neg (by omega), if_neg (by omega)]; try rfl
            | false =>
              simp only [cond_false]
              rw [if_neg]
              intro q
              have : n = m := by omega
              subst this
              rw [hb] at hm; cases hm
        | false =>
          cases m with
          | zero => simp [Tr.get]
          | succ m =>
            simp only [cond_false, Tr.get]
            cases hm : Nat.beq (Nat.mod m 2) 0 with
            | true =>
              simp only [cond_true]
              rw [if_neg]
              intro q
              have : n = m := by omega
              subst this
              rw [hb] at hm; cases hm
            | false =>
              have h1 : n % 2 ≠ 0 := fun q => by
                have : Nat.beq (Nat.mod n 2) 0 = true := by show Nat.beq (n % 2) 0 = true; rw [q]; rfl
                rw [hb] at this; cases this
              have h2 : m % 2 ≠ 0 := fun q => by
                have : Nat.beq (Nat.mod m 2) 0 = true := by show Nat.beq (m % 2) 0 = true; rw [q]; rfl
                rw [hm] at this; cases this
              simp only [cond_false]
              simp only [hd]
              rw [tr_put k (n / 2) v r (m / 2) hk]
              by_cases q : n = m
              · subst q; simp
              · rw [if_neg (by omega), if_neg (by omega)]; try rfl
theorem put_get (F : Tr) {n : Nat} (hn : n < 4000) (v : Option SV) (m : Nat) : (F.put FUEL n v).get m = if n = m then v else F.get m := tr_put FUEL n v F m (by show n + 1 < 2 ^ 12; omega)
end Go.Proofs.Ytnagkhofkjjajaa
