/- The symbolic walk is sound: copies; one operation. Lemmas, no statement of the claim. -/
import Derived.Test.YtnagkhofkjjajaaYo
/- The symbolic walk is sound: literal values. Lemmas, no statement of the claim. -/
set_option linter.unusedVariables false
set_option linter.unusedSimpArgs false
namespace Go.Proofs.Ytnagkhofkjjajaa
open Go.RowKit

/-! ### Cells put in one by one -/
theorem fold_seg (off : Nat) : ∀ (l : List Value) (k : Nat) (cs : Array Value), off + k + l.length ≤ cs.size → (l.zipIdx k).foldl (fun (cs : Array Value) (x : Value × Nat) => cs.setIfInBounds (off + x.2) x.1) cs = (cs.toList.take (off + k) ++ l ++ cs.toList.drop (off + k + l.length)).toArray
  | [], k, cs, h => by simp
  | v :: r, k, cs, h => by
    rw [List.zipIdx_cons, List.foldl_cons, fold_seg off r (k + 1) (cs.setIfInBounds (off + k) v) (by simp at h ⊢; omega)]
    congr 1
    have e := list_seg_step cs.toList (off + k) v r (by simp at h ⊢; omega)
    simpa [Array.toList_setIfInBounds, Nat.add_assoc] using e
theorem fill_step (place : Nat → Option (Nat × Nat)) (cs : Array Value) (i : Nat) (v : Value) (rest : List (Nat × Value)) {off size : Nat} (hp : place i = some (off, size)) {l : List Value} (hv : v.cells = l.toArray) (hl : l.length = size) (hb : off + size ≤ cs.size) :
    Instr.fill place cs ((i, v) :: rest) = Instr.fill place (cs.toList.take off ++ l ++ cs.toList.drop (off + size)).toArray rest := by
  have hsz : v.cells.size = size := by rw [hv]; simpa using hl
  simp only [Instr.fill, hp, hsz]
  rw [if_neg (by simp; omega)]
  congr 1
  rw [hv, ← Array.foldl_toList, Array.toList_zipIdx]
  have := fold_seg off l 0 cs (by omega)
  rw [Nat.add_zero, hl] at this
  exact this
section
variable {P : Program} {D : List (Nat × TD)} {ν : NV} {q : Nat} {w0 : World} {X : XS} {H : List (Nat × Nat × HC)} {w : World}
/-- where a type's parts lie -/
def plD (D : List (Nat × TD)) (t i : Nat) : Option (Nat × Nat) :=
  match lookD D t with
  | some ⟨.ar _ e, _, _, _⟩ => (lookD D e).map fun d => (i * d.n, d.n)
  | some ⟨.st l, _, _, _⟩ => match l[i]? with
    | some x => (lookD D x.1).map fun d => (x.2, d.n)
    | none => none
  | _ => none
theorem setAt_ok {t i : Nat} {z v z' : SV} (h : setAt D t z i v = some z') (hz : z.ok ν q) (hs : z.st = true) (hv : v.ok ν q) :
    ∃ off, plD D t i = some (off, v.lay.sz) ∧ z'.ok ν q ∧ z'.st = true ∧ z'.lay = z.lay ∧ v.st = true ∧ off + v.lay.sz ≤ (cls ν z).length ∧ cls ν z' = (cls ν z).take off ++ cls ν v ++ (cls ν z).drop (off + v.lay.sz) := by
  have fin : ∀ (pa : List PS) (o : SV), z.get pa = some o → pok 0 z.lay pa → z.set pa v = some z' → o.lay = v.lay → v.st = true →
      z'.ok ν q ∧ z'.st = true ∧ z'.lay = z.lay ∧ poff z.lay pa + v.lay.sz ≤ (cls ν z).length ∧ cls ν z' = (cls ν z).take (poff z.lay pa) ++ cls ν v ++ (cls ν z).drop (poff z.lay pa + v.lay.sz) := by
    intro pa o ho hp hset hl hst
    obtain ⟨p, r, g1, g2, g3, g4, g5, g6⟩ := part_ok ν q 0 pa z o ho hz hp
    obtain ⟨i1, i2, i3, i4⟩ := g6 v z' hset hv hl
    have hlo := cls_len ν o g3
    rw [hl] at hlo
    refine ⟨i1, i4 hs hst, i2, by rw [g1]; simp only [List.length_append]; omega, ?_⟩
    rw [i3, g1, ← g2, ← hlo, List.append_assoc p (cls ν o), List.take_left' rfl, ← List.drop_drop, List.drop_left' rfl, List.drop_left' rfl]
  unfold setAt at h
  split at h
  · rename_i n e n' b' e' ht
    split at h
    · rename_i d m hd hm
      cases hb : Nat.beq d.n 1 && Nat.blt i m && v.st && !v.lay.agg with
      | false => rw [hb] at h; cases h
      | true =>
        rw [hb] at h
        simp only [cond_true] at h
        simp only [Bool.and_eq_true] at hb
        have h1 := beqT hb.1.1.1
        have him : i < m := by simpa using hb.1.1.2
        have hvl : v.lay = .C := by
          have := hb.2
          cases hl : v.lay <;> rw [hl] at this <;> first | rfl | cases this
        obtain ⟨o, ho, hol⟩ : ∃ o, z.get [.ix ⟨true, i⟩] = some o ∧ o.lay = .C := by
          cases z <;> first | (cases hm; done) | exact ⟨_, rfl, rfl⟩
        obtain ⟨g1, g2, g3, g4, g5⟩ := fin [.ix ⟨true, i⟩] o ho (by rw [hm]; exact ⟨him, rfl⟩) h (by rw [hol, hvl]) hb.1.2
        refine ⟨i, ?_, g1, g2, g3, hb.1.2, ?_, ?_⟩
        · unfold plD
          rw [ht]
          simp only [hd, Option.map_some, h1, hvl, Nat.mul_one]
          rfl
        · rw [hm] at g4; exact g4
        · rw [hm] at g5; exact g5
    · cases h
  · rename_i l n' b' e' ht
    split at h
    · rename_i x p hx hp
      split at h
      · rename_i d o hd ho
        cases hb : Nat.beq (poff z.lay p) x.2 && o.lay.q v.lay && Nat.beq d.n o.lay.sz && v.st with
        | false => rw [hb] at h; cases h
        | true =>
          rw [hb] at h
          simp only [cond_true] at h
          simp only [Bool.and_eq_true] at hb
          have h1 := beqT hb.1.1.1
          have h2 := lay_q hb.1.1.2
          have h3 := beqT hb.1.2
          obtain ⟨g1, g2, g3, g4, g5⟩ := fin p o ho (fpath_pok _ _ _ hp) h h2 hb.2
          rw [h1] at g4 g5
          refine ⟨x.2, ?_, g1, g2, g3, hb.2, g4, g5⟩
          unfold plD
          rw [ht]
          simp only [hx, hd, Option.map_some, h3, h2]
      · cases h
    · cases h
  · cases h
theorem buildS_ok {S : St} {ev : Operand → Value} (hev : ∀ x v, opS S.get x = some v → ev x = cv ν v ∧ v.ok ν q) {t : Nat} : ∀ (ps : List (Nat × Operand)) (z v : SV), buildS D S.get t ps z = some v → z.ok ν q → z.st = true →
    v.ok ν q ∧ v.st = true ∧ v.lay = z.lay ∧ Instr.fill (plD D t) (cls ν z).toArray (ps.map fun (i, x) => (i, ev x)) = some (cls ν v).toArray
  | [], z, v, h, hz, hs => by cases h; exact ⟨hz, hs, rfl, rfl⟩
  | (i, x) :: r, z, v, h, hz, hs => by
    simp only [buildS] at h
    split at h
    · rename_i u hu
      split at h
      · rename_i z' hz'
        obtain ⟨e1, e2⟩ := hev _ _ hu
        obtain ⟨off, g1, g2, g3, g4, g5, g6, g7⟩ := setAt_ok hz' hz hs e2
        obtain ⟨k1, k2, k3, k4⟩ := buildS_ok hev r z' v h g2 g3
        refine ⟨k1, k2, by rw [k3, g4], ?_⟩
        show Instr.fill _ _ ((i, ev x) :: r.map fun (i, x) => (i, ev x)) = _
        rw [e1]
        have hst := fill_step (plD D t) (cls ν z).toArray i (cv ν u) (r.map fun (i, x) => (i, ev x)) g1 (cv_cells ν u e2 g5) (cls_len ν u e2) (by simpa using g6)
        refine hst.trans ?_
        rw [← k4, g7]
      · cases h
    · cases h
theorem mapM_places (hT : TDok P D) : ∀ (fs : List Field), allL D (fs.map fun f => (f.type, f.offset)) = true → fs.mapM (fun f => (P.info? f.type).map fun i => (f.offset, i.size)) = some (fs.map fun f => (f.offset, ((lookD D f.type).map (·.n)).getD 0))
  | [], _ => rfl
  | f :: r, h => by
    simp only [List.map_cons, allL, Bool.and_eq_true] at h
    have ih := mapM_places hT r h.2
    cases hd : lookD D f.type with
    | none => rw [hd] at h; cases h.1
    | some d =>
      obtain ⟨j, h1, h2, _⟩ := hT.inf _ _ hd
      simp [List.mapM_cons, h1, ih, hd, h2]
theorem fill_congr {p p' : Nat → Option (Nat × Nat)} : ∀ (parts : List (Nat × Value)) (cs r : Array Value), (∀ i off s, p i = some (off, s) → p' i = some (off, s)) → Instr.fill p cs parts = some r → Instr.fill p' cs parts = some r
  | [], cs, r, _, h => h
  | (i, v) :: rest, cs, r, hp, h => by
    unfold Instr.fill at h ⊢
    cases hi : p i with
    | none => rw [hi] at h; cases h
    | some x =>
      obtain ⟨off, s⟩ := x
      rw [hi] at h
      rw [hp _ _ _ hi]
      simp only at h ⊢
      split at h
      · cases h
      · rename_i hn
        rw [if_neg hn]
        exact fill_congr rest _ r hp h
theorem build_ok (hT : TDok P D) {S : St} {ev : Operand → Value} (hev : ∀ x v, opS S.get x = some v → ev x = cv ν v ∧ v.ok ν q) {t : Nat} {ps : Array (Nat × Operand)} {z v : SV} (hz : zsv D 9 t = some z) (hb : (okB D t && z.lay.agg) = true) (h : buildS D S.get t ps.toList z = some v) (w : World) :
    v.ok ν q ∧ (Instr.build t (ps.map fun (i, x) => (i, ev x))).run P w = .ok (cv ν v) w := by
  obtain ⟨y1, y2, y3⟩ := zsv_ok _ _ _ hz
  obtain ⟨g1, g2, g3, g4⟩ := buildS_ok hev ps.toList z v h (y2 _ _) y3
  simp only [Bool.and_eq_true] at hb
  refine ⟨g1, ?_⟩
  rw [cv_agg ν (by rw [g3]; exact hb.2)]
  refine run_build w t _ _ ?_
  have hzc : cls ν z = cls ν0 z := by unfold cls; rw [y1 ν]
  have hpm : (ps.map fun (i, x) => (i, ev x)).toList = ps.toList.map fun (i, x) => (i, ev x) := by simp
  rw [hpm]
  have hb1 := hb.1
  unfold okB at hb1
  split at hb1
  · rename_i n e n' b' e' ht
    cases hd : lookD D e with
    | none => rw [hd] at hb1; cases hb1
    | some d =>
      obtain ⟨j, h1, h2, h3, h4⟩ := hT.inf t _ ht
      obtain ⟨zv, h5, h6, h7⟩ := h4 z hz
      obtain ⟨je, i1, i2, _⟩ := hT.inf e _ hd
      have hu := hT.un t _ ht
      unfold Program.built
      have hu' : P.underlying t = some (.array n e) := hu
      simp only [h1, hu', h5, i1]
      rw [h6, ← hzc]
      refine fill_congr _ _ _ (fun i off s hp => ?_) g4
      unfold plD at hp
      rw [ht] at hp
      simp only [hd, Option.map_some, Option.some.injEq, Prod.mk.injEq] at hp
      obtain ⟨rfl, rfl⟩ := hp
      show some (i * je.size, je.size) = _
      rw [i2]
  · rename_i l n' b' e' ht
    obtain ⟨j, h1, h2, h3, h4⟩ := hT.inf t _ ht
    obtain ⟨zv, h5, h6, h7⟩ := h4 z hz
    obtain ⟨fs, hu, hfs⟩ := hT.un t _ ht
    unfold Program.built
    have hm := mapM_places hT fs.toList (by rw [hfs]; exact hb1)
    simp only [h1, hu, h5, hm]
    rw [h6, ← hzc]
    refine fill_congr _ _ _ (fun i off s hp => ?_) g4
    unfold plD at hp
    rw [ht] at hp
    simp only at hp
    split at hp
    · rename_i x hx
      rw [← hfs, List.getElem?_map] at hx
      cases hf : fs.toList[i]? with
      | none => rw [hf] at hx; cases hx
      | some f =>
        rw [hf] at hx
        cases hx
        cases hd : lookD D f.type with
        | none => simp only [hd] at hp; cases hp
        | some d =>
          simp only [hd, Option.map_some, Option.some.injEq, Prod.mk.injEq] at hp
          rw [List.getElem?_toArray, List.getElem?_map, hf]
          simp [hd, hp.1, hp.2]
    · cases hp
  · cases hb1
end
end Go.Proofs.Ytnagkhofkjjajaa

/- The symbolic walk is sound: literal rows, conversions, copies. Lemmas, no statement of the claim. -/
set_option linter.unusedVariables false
set_option linter.unusedSimpArgs false
namespace Go.Proofs.Ytnagkhofkjjajaa
open Go.RowKit
section
variable {P : Program} {D : List (Nat × TD)} {ν : NV} {q : Nat} {w0 : World} {X : XS} {H : List (Nat × Nat × HC)} {w : World}
theorem fill_all {S : St} {ev : Operand → Value} (hev : ∀ x v, opS S.get x = some v → ev x = cv ν v ∧ v.ok ν q) {sz : Nat} : ∀ (ps : List (Nat × Operand)) (k : Nat) (l : List SV) (cs : Array Value), opsS S.get (ps.map (·.2)) = some l → inOrder k ps = true → (∀ v, v ∈ l → v.st = true ∧ v.lay.sz = sz) → (k + ps.length) * sz ≤ cs.size →
    Instr.fill (fun i => some (i * sz, sz)) cs (ps.map fun (i, x) => (i, ev x)) = some (cs.toList.take (k * sz) ++ l.flatMap (cls ν) ++ cs.toList.drop ((k + ps.length) * sz)).toArray
  | [], k, l, cs, h, _, _, _ => by
    cases h
    simp [Instr.fill]
  | (i, x) :: r, k, l, cs, h, ho, hl, hb => by
    simp only [List.map_cons, opsS] at h
    split at h
    · rename_i v m hv hm
      cases h
      simp only [inOrder, Bool.and_eq_true] at ho
      have hi := beqT ho.1
      subst hi
      obtain ⟨e1, e2⟩ := hev _ _ hv
      obtain ⟨s1, s2⟩ := hl v (by simp)
      have hlv := cls_len ν v e2
      have hb' : i * sz + sz + r.length * sz ≤ cs.size := by
        have : (i + (r.length + 1)) * sz = i * sz + sz + r.length * sz := by rw [Nat.add_mul, Nat.add_mul, Nat.one_mul]; omega
        simp only [List.length_cons] at hb
        omega
      show Instr.fill _ _ ((i, ev x) :: r.map fun (i, x) => (i, ev x)) = _
      rw [e1]
      refine (fill_step (fun i => some (i * sz, sz)) cs i (cv ν v) _ rfl (cv_cells ν v e2 s1) (by rw [hlv, s2]) (by omega)).trans ?_
      rw [fill_all hev r (i + 1) m _ hm ho.2 (fun u hu => hl u (by simp [hu])) (by
        rw [Nat.add_mul, Nat.add_mul, Nat.one_mul]
        simp
        omega)]
      have hln : (cls ν v).length = sz := by rw [hlv, s2]
      have t1 : ((cs.toList.take (i * sz) ++ cls ν v ++ cs.toList.drop (i * sz + sz)).take ((i + 1) * sz)) = cs.toList.take (i * sz) ++ cls ν v := by
        rw [List.take_left']
        rw [List.length_append, List.length_take, hln, Nat.min_eq_left (by simp; omega), Nat.add_mul, Nat.one_mul]
      have t2 : ((cs.toList.take (i * sz) ++ cls ν v ++ cs.toList.drop (i * sz + sz)).drop ((i + 1 + r.length) * sz)) = cs.toList.drop ((i + (r.length + 1)) * sz) := by
        have e : (i + 1 + r.length) * sz = (cs.toList.take (i * sz) ++ cls ν v).length + r.length * sz := by
          rw [List.length_append, List.length_take, hln, Nat.min_eq_left (by simp; omega), Nat.add_mul, Nat.add_mul, Nat.one_mul]
        rw [e, ← List.drop_drop, List.drop_left' rfl, List.drop_drop]
        congr 1
        rw [Nat.add_mul, Nat.add_mul, Nat.one_mul]; omega
      congr 2
      simp only
      rw [t1, t2]
      simp
    · cases h
theorem new_row_own (w : World) (T sz n : Nat) (l : List Value) (hl : l.length = n * sz) (hn : n ≤ maxLen) : Own (w.alloc (.cells l.toArray T)) 0 T sz (some ⟨w.heap.size, 0, none⟩) n n l :=
  ⟨hl, .inr ⟨w.heap.size, n, l.toArray, rfl, Nat.zero_le _, .of (heap_alloc_new w _), Nat.le_refl _, hn, by simpa using hl, by rw [← hl]; simp⟩⟩
theorem extL_ok {a : Sh} : ∀ {l : List SV} {xs : List a.T}, extL a l = some xs → (∀ v, v ∈ l → v.ok ν q) → l.flatMap (cls ν) = rowC a xs ∧ xs.length = l.length ∧ (∀ x, x ∈ xs → okS a x) ∧ ∀ v, v ∈ l → v.st = true ∧ v.lay.sz = a.lay.sz
  | [], xs, h, _ => by cases h; exact ⟨rfl, rfl, (by intro x hx; cases hx), (by intro v hv; cases hv)⟩
  | v :: r, xs, h, hl => by
    simp only [extL] at h
    split at h
    · rename_i x l' hx hl'
      cases h
      obtain ⟨g1, g2, g3, g4⟩ := ext_ok ν a v x hx (hl v (by simp))
      obtain ⟨i1, i2, i3, i4⟩ := extL_ok hl' (fun u hu => hl u (by simp [hu]))
      refine ⟨?_, by simp [i2], ?_, ?_⟩
      · rw [List.flatMap_cons, i1, g2]; rfl
      · intro y hy
        rcases List.mem_cons.1 hy with rfl | hy
        · exact g1
        · exact i3 y hy
      · intro u hu
        rcases List.mem_cons.1 hu with rfl | hu
        · exact ⟨g4, by rw [g3]⟩
        · exact i4 u hu
    · cases h
theorem EachQ.more {D D' : List Nat} (hD : ∀ b, b ∈ D → b ∈ D') {a : Sh} : ∀ {ps : List (Option Addr × Nat)} {xss : List (List a.T)}, EachQ w D a ps xss → EachQ w D' a ps xss
  | [], [], _ => trivial
  | p :: ps, x :: xss, h => ⟨⟨h.1.1, h.1.2.1, h.1.2.2.1, h.1.2.2.2.1, h.1.2.2.2.2.1, fun hne b hb => hD b (h.1.2.2.2.2.2 hne b hb)⟩, EachQ.more hD h.2⟩
  | [], _ :: _, h => h
  | _ :: _, [], h => h
theorem svN_mem {v : SV} {l : List SV} (hv : v ∈ l) {c : Nat} (hc : c ∈ svN v) : c ∈ svL l := by
  induction l with
  | nil => cases hv
  | cons u r ih =>
    have app_mem : ∀ (a b : List Nat), c ∈ app a b ↔ c ∈ a ∨ c ∈ b := by
      intro a b
      induction a with
      | nil => simp [app]
      | cons x y ih => simp [app, ih, or_assoc]
    rw [svL, app_mem]
    rcases List.mem_cons.1 hv with rfl | hv
    · exact .inl hc
    · exact .inr (ih hv)
theorem contL_ok (M : Mem ν q w0 X H w) {a : Sh} : ∀ {l : List SV} {xss : List (List a.T)}, contL a H l = some xss → (∀ v, v ∈ l → v.ok ν q) → xss.length = l.length ∧ (∀ v, v ∈ l → v.st = true ∧ v.lay = .C) ∧
    ∃ ps DD, l.map (cv ν) = hdq ps xss ∧ EachQ w DD a ps xss ∧ ∀ b, b ∈ DD → ∃ c h, c ∈ svL l ∧ hget H c = some h ∧ b ∈ (ν c).D
  | [], xss, h, _ => by cases h; exact ⟨rfl, (by intro v hv; cases hv), [], [], rfl, trivial, (by intro b hb; cases hb)⟩
  | v :: r, xss, h, hl => by
    simp only [contL] at h
    split at h
    · rename_i x l' hx hl'
      cases h
      obtain ⟨A, k, cc, j1, j2, j3, j4, j5, j6, j7, j8⟩ := cont_ok M hx (hl v (by simp))
      obtain ⟨i1, i2, ps, DD, i3, i4, i5⟩ := contL_ok M hl' (fun u hu => hl u (by simp [hu]))
      have hv : v.st = true ∧ v.lay = .C := by
        unfold cont at hx
        split at hx
        · exact ⟨rfl, rfl⟩
        · exact ⟨rfl, rfl⟩
        · cases hx
      obtain ⟨D1, d1, d2⟩ : ∃ D1 : List Nat, (rowC a x ≠ [] → ∀ b, oblk A = some b → b ∈ D1) ∧ ∀ b, b ∈ D1 → ∃ c h, c ∈ svL (v :: r) ∧ hget H c = some h ∧ b ∈ (ν c).D := by
        by_cases hz : rowC a x = []
        · exact ⟨[], fun h => absurd hz h, by intro b hb; cases hb⟩
        · refine ⟨(oblk A).toList, fun _ b hb => by rw [hb]; simp, fun b hb => ?_⟩
          obtain ⟨c, h, k1, k2, k3⟩ := j8 hz b (by simpa using hb)
          exact ⟨c, h, svN_mem (List.mem_cons_self ..) k1, k2, k3⟩
      refine ⟨by simp [i1], ?_, (A, cc) :: ps, D1 ++ DD, ?_, ⟨⟨j2, j4, by rw [j3]; exact j5, j6, j7, fun hne b hb => List.mem_append.2 (.inl (d1 hne b hb))⟩, EachQ.more (fun b hb => List.mem_append.2 (.inr hb)) i4⟩, ?_⟩
      · intro u hu
        rcases List.mem_cons.1 hu with rfl | hu
        · exact hv
        · exact i2 u hu
      · rw [List.map_cons, i3, j1, ← j3]; rfl
      · intro b hb
        rcases List.mem_append.1 hb with hb | hb
        · exact d2 b hb
        · obtain ⟨c, h, k1, k2, k3⟩ := i5 b hb
          refine ⟨c, h, ?_, k2, k3⟩
          have app_mem : ∀ (a b : List Nat), c ∈ b → c ∈ app a b := by
            intro a b hb
            induction a with
            | nil => exact hb
            | cons x y ih => exact List.mem_cons.2 (.inr ih)
          exact app_mem _ _ k1
    · cases h
/-- a row of one's own that is only read from here on -/
theorem HC.toRo {c : Nat} {T : Nat} {a : Sh} {n : NT} {xs : List a.T} (k : (HC.rw T a n xs).ok ν q c w) : (HC.ro a n xs).ok ν q c w := by
  obtain ⟨hI, hO⟩ := k
  refine ⟨hI, ?_, ?_⟩
  · rcases hO with ⟨hO, _⟩ | ⟨h0, _⟩
    · exact hO.rd
    · have : xs = [] := List.eq_nil_of_length_eq_zero (by rw [hI.len, h0])
      subst this; exact Rd.nil _ _
  · intro hne b hb
    rcases hO with ⟨hO, hD⟩ | ⟨h0, _⟩
    · rw [hD, hb]; simp
    · have : xs = [] := List.eq_nil_of_length_eq_zero (by rw [hI.len, h0])
      subst this; exact absurd rfl hne
theorem Mem.toRo (M : Mem ν q w0 X H w) {c s : Nat} {T : Nat} {a : Sh} {n : NT} {xs : List a.T} (h : hget H c = some (.rw T a n xs)) : Mem ν q w0 X (hput H c s (.ro a n xs)) w :=
  M.upd' h rfl (grown_refl w none) (by intro b hb; cases hb) (HC.toRo (M.ok _ _ h))
theorem roAll_ok {s : Nat} : ∀ {l : List SV} {H H' : List (Nat × Nat × HC)}, Mem ν q w0 X H w → roAll s H l = some H' → Mem ν q w0 X H' w ∧ (∀ c h, hget H' c = some h → h.wt = true → hget H c = some h) ∧ ∀ c h, c ∈ svL l → hget H' c = some h → h.wt = false
  | [], H, H', M, h => by cases h; exact ⟨M, fun _ _ h _ => h, (by intro c h hc; cases hc)⟩
  | v :: r, H, H', M, h => by
    have app_mem : ∀ (a b : List Nat) (c : Nat), c ∈ app a b → c ∈ a ∨ c ∈ b := by
      intro a b c
      induction a with
      | nil => intro h; exact .inr h
      | cons x y ih =>
        intro h
        rcases List.mem_cons.1 h with rfl | h
        · exact .inl (by simp)
        · rcases ih h with h | h
          · exact .inl (by simp [h])
          · exact .inr h
    unfold roAll at h
    split at h
    · cases h; exact ⟨M, fun _ _ h _ => h, (by rename_i heq; cases heq)⟩
    · rename_i heq
      cases heq
      obtain ⟨g1, g2, g3⟩ := roAll_ok M h
      exact ⟨g1, g2, fun c h hc => g3 c h (by simpa [svL, svN, app] using hc)⟩
    · rename_i c _ _ _ _ _ _ _ heq
      cases heq
      split at h
      · rename_i T a n xs hh
        obtain ⟨g1, g2, g3⟩ := roAll_ok (M.toRo (s := s) hh) h
        refine ⟨g1, fun d y hy hw => ?_, fun d y hd hy => ?_⟩
        · have := g2 d y hy hw
          rw [hget_put] at this
          split at this
          · cases this; cases hw
          · exact this
        · rcases app_mem _ _ _ hd with hd | hd
          · have hd := List.mem_singleton.1 (show d ∈ [c] from hd)
            subst hd
            cases hw : y.wt with
            | false => rfl
            | true =>
              have := g2 d y hy hw
              rw [hget_put, if_pos rfl] at this
              cases this; cases hw
          · exact g3 d y hd hy
      · rename_i a n xs hh
        obtain ⟨g1, g2, g3⟩ := roAll_ok M h
        refine ⟨g1, g2, fun d y hd hy => ?_⟩
        rcases app_mem _ _ _ hd with hd | hd
        · have hd := List.mem_singleton.1 (show d ∈ [c] from hd)
          subst hd
          cases hw : y.wt with
          | false => rfl
          | true =>
            have := g2 d y hy hw
            rw [hh] at this
            cases this; cases hw
        · exact g3 d y hd hy
      · cases h
    · cases h
theorem cellL_ok : ∀ {l : List SV}, cellL l = true → ∀ v, v ∈ l → v.st = true ∧ v.lay.agg = false
  | [], _, v, hv => by cases hv
  | u :: r, h, v, hv => by
    simp only [cellL, Bool.and_eq_true] at h
    rcases List.mem_cons.1 hv with rfl | hv
    · exact ⟨h.1.1, by simpa using h.1.2⟩
    · exact cellL_ok h.2 v hv
theorem noagg {l : Lay} (h : l.agg = false) : l = .C := by cases l <;> first | rfl | cases h
theorem flat_cv : ∀ {l : List SV}, (∀ v, v ∈ l → v.st = true ∧ v.lay.agg = false) → l.flatMap (cls ν) = l.map (cv ν)
  | [], _ => rfl
  | v :: r, h => by
    rw [List.flatMap_cons, List.map_cons, flat_cv (fun u hu => h u (by simp [hu])), cv_one ν (h v (by simp)).2 (h v (by simp)).1]
    rfl
theorem buildSlice_ok (hT : TDok P D) (M : Mem ν q w0 X H w) {S : St} (hS : S.H = H) {ev : Operand → Value} (hev : ∀ x v, opS S.get x = some v → ev x = cv ν v ∧ v.ok ν q) (hop : ∀ xs l, opsS S.get xs = some l → ∀ v, v ∈ l → v.ok ν q) {t len : Nat} {ps : Array (Nat × Operand)} {e : Ef} (h : evBuildSlice D q S t len ps.toList = some e) :
    VOk P ν q w0 X w (Instr.buildSlice t len (ps.map fun (i, x) => (i, ev x))) e := by
  subst hS
  unfold evBuildSlice at h
  split at h
  · rename_i el n' b' e' l ht hl
    split at h
    · rename_i z d hz hd
      cases hb : inOrder 0 ps.toList && Nat.beq ps.toList.length len && Nat.beq d.n z.lay.sz && Nat.ble (len * d.n) 16777216 && Nat.ble len 16777216 with
      | false => rw [hb] at h; cases h
      | true =>
        rw [hb] at h
        simp only [cond_true] at h
        simp only [Bool.and_eq_true] at hb
        have ho := hb.1.1.1.1
        have hlen := beqT hb.1.1.1.2
        have hdz := beqT hb.1.1.2
        have hcap : len * d.n ≤ 16777216 := Nat.le_of_ble_eq_true hb.1.2
        have hcap2 : len ≤ 16777216 := Nat.le_of_ble_eq_true hb.2
        have hmax : len ≤ maxLen := by unfold maxLen; omega
        have hok := hop _ _ hl
        have hll : l.length = len := by
          have : ∀ (xs : List Operand) (l : List SV), opsS S.get xs = some l → l.length = xs.length := by
            intro xs
            induction xs with
            | nil => intro l h; cases h; rfl
            | cons x r ih =>
              intro l h
              simp only [opsS] at h
              split at h
              · rename_i v m hv hm; cases h; simp [ih _ hm]
              · cases h
          rw [this _ _ hl, List.length_map, hlen]
        have hu := hT.un t _ ht
        obtain ⟨zv, hzr, hzc, _⟩ := hT.zero hd hz w
        -- the run
        have run : (∀ v, v ∈ l → v.st = true ∧ v.lay.sz = d.n) → (Instr.buildSlice t len (ps.map fun (i, x) => (i, ev x))).run P w = .ok (.slice (some ⟨w.heap.size, 0, none⟩) len len) (w.alloc (.cells (l.flatMap (cls ν)).toArray el)) := by
          intro hst
          have hfl : ∀ z : Array Value, Instr.fill (fun i => some (i * d.n, d.n)) ((Array.range (len * d.n)).map (z[· % z.size]!)) (ps.map fun (i, x) => (i, ev x)).toList = some (l.flatMap (cls ν)).toArray := by
            intro z
            have hpm : (ps.map fun (i, x) => (i, ev x)).toList = ps.toList.map fun (i, x) => (i, ev x) := by simp
            rw [hpm, fill_all hev ps.toList 0 l _ hl ho hst (by rw [Nat.zero_add, hlen]; simp)]
            rw [Nat.zero_mul, Nat.zero_add, hlen]
            simp
          have hu' : P.underlying t = some (.slice el) := hu
          simp only [Instr.buildSlice, Sem.run_bind, run_underlying hu', Result.andThen_ok, hT.size hd]
          rw [if_neg (by omega)]
          split
          · simp only [Sem.run_bind, Sem.run_pure, Result.andThen_ok, hfl]
            simp [newRow]
          · simp only [Sem.run_bind, Sem.run_pure, Result.andThen_ok, hzr, hfl]
            simp [newRow]
        have g := grown_alloc w (.cells (l.flatMap (cls ν)).toArray el)
        have hsz : (w.alloc (.cells (l.flatMap (cls ν)).toArray el)).heap.size = w.heap.size + 1 := by simp
        split at h
        · rename_i a ha
          split at h
          · rename_i xs hx
            cases hq : a.lay.q z.lay with
            | false => rw [hq] at h; cases h
            | true =>
              rw [hq] at h
              cases h
              have hal := lay_q hq
              obtain ⟨i1, i2, i3, i4⟩ := extL_ok (ν := ν) hx hok
              have hr := run (fun v hv => ⟨(i4 v hv).1, by rw [(i4 v hv).2, hal, hdz]⟩)
              have hO := new_row_own w el a.lay.sz len (l.flatMap (cls ν)) (by rw [i1, rowC_len a xs i3, i2, hll]) hmax
              rw [i1] at hO
              rw [i1] at g hr
              obtain ⟨ν', g1, g2, g3, g4⟩ := own_new (T := el) (n := ⟨true, len⟩) (M.growN g) (by rw [i2, hll]) i3 hO (fun b hb => by
                cases hb
                exact ⟨.inl M.keep.size, fun d y hd hb2 => Nat.lt_irrefl _ (M.lt d y hd _ hb2)⟩)
              exact ⟨ν', _, g1, by rw [g4]; exact hr, g2, g3⟩
          · cases h
        · cases hza : z.lay.agg with
          | true => rw [hza] at h; cases h
          | false =>
            rw [hza] at h
            simp only [Bool.not_false, cond_true] at h
            have hz1 : d.n = 1 := by rw [hdz, noagg hza]; rfl
            have hcell : ∀ {e : Ef}, (bif cellL l then some ⟨[], .sl q [] q ⟨true, 0⟩ ⟨true, len⟩ true false, (q, q, .rs l) :: S.H⟩ else none) = some e → VOk P ν q w0 X w (Instr.buildSlice t len (ps.map fun (i, x) => (i, ev x))) e := by
              intro e h
              cases hce : cellL l with
              | false => rw [hce] at h; cases h
              | true =>
                rw [hce] at h
                cases h
                have hst := cellL_ok hce
                have hr := run (fun v hv => ⟨(hst v hv).1, by rw [noagg (hst v hv).2, hz1]; rfl⟩)
                rw [flat_cv hst] at hr g
                let x : NmS := ⟨some ⟨w.heap.size, 0, none⟩, len, len, [w.heap.size], .rw .C⟩
                have hself := upN_self ν q x
                have hagr := upN_agr ν q x
                refine ⟨upN ν q x, w.alloc (.cells (l.map (cv ν)).toArray el), hagr, ?_, ?_, ?_⟩
                · show _ = Result.ok (Value.slice (upN ν q x q).A len (upN ν q x q).c) _
                  rw [hself]; exact hr
                · refine (M.growN g).add (Nat.le_refl _) hagr ?_ ?_ (by intro h; cases h) ?_ (by rw [hself]; exact fun _ b hb => .inl (by have h1 : b = w.heap.size := (by simpa [x] using hb); have h2 := M.keep.size; omega))
                  · refine ⟨by rw [hself], by rw [hself]; exact hll.symm, by rw [hself, hll]; exact Nat.le_refl _, by rw [hself]; exact hmax, by rw [hself]; intro _; rfl, fun v hv => ⟨ok_mono (Nat.le_succ _) v (ok_agr hagr v (hok v hv)).1, (hst v hv).1, (hst v hv).2⟩, ?_, ?_⟩
                    · rw [hself]
                      have : l.map (cv (upN ν q x)) = l.map (cv ν) := List.map_congr_left fun v hv => cv_agr hagr (hok v hv)
                      rw [this]
                      exact (Blk.new w el (l.map (cv ν))).rd
                    · rw [hself]; intro b hb; cases hb; simp [x]
                  · rw [hself]
                    intro b hb
                    have : b = w.heap.size := by simpa [x] using hb
                    subst this; simp
                  · rw [hself]
                    intro d y hd hy b hb hb2
                    have : b = w.heap.size := by simpa [x] using hb2
                    subst this
                    exact Nat.lt_irrefl _ (M.lt d y hd _ hb)
                · refine ⟨Nat.lt_succ_self _, Nat.lt_succ_self _, ?_⟩
                  exact slok_self (e := .C) (by rw [hself]) (by rw [hself]; exact Nat.le_refl _) (by rw [hself]; exact hmax) (by rw [hself]; intro _; rfl) (by rw [hself])
            split at h
            · rename_i e2 hk
              split at h
              · rename_i a ha
                split at h
                · rename_i xss H' hx hro
                  cases h
                  obtain ⟨i1, i2, psA, DD, i3, i4, i5⟩ := contL_ok M hx hok
                  have hst : ∀ v, v ∈ l → v.st = true ∧ v.lay.agg = false := fun v hv => ⟨(i2 v hv).1, by rw [(i2 v hv).2]; rfl⟩
                  have hr := run (fun v hv => ⟨(i2 v hv).1, by rw [(i2 v hv).2, hz1]; rfl⟩)
                  obtain ⟨r1, r2, r3⟩ := roAll_ok M hro
                  rw [flat_cv hst, i3] at hr g
                  let x : NmS := ⟨some ⟨w.heap.size, 0, none⟩, len, len, w.heap.size :: DD, .rw .C⟩
                  have hself := upN_self ν q x
                  have hlt : ∀ b, b ∈ DD → b < w.heap.size := fun b hb => by
                    obtain ⟨c, h, k1, k2, k3⟩ := i5 b hb
                    exact M.lt c h k2 b k3
                  refine ⟨upN ν q x, w.alloc (.cells (hdq psA xss).toArray el), upN_agr _ _ _, ?_, ?_, ?_⟩
                  · show _ = Result.ok (Value.slice (upN ν q x q).A len (upN ν q x q).c) _
                    rw [hself]; exact hr
                  · refine (r1.growN g).add (Nat.le_refl _) (upN_agr _ _ _) ?_ ?_ (by intro h; cases h) ?_ ?_
                    · refine ⟨by rw [hself], by rw [hself], by rw [i1, hll], by rw [hself]; exact Nat.le_refl _, by rw [hself]; exact hmax, by rw [hself]; intro _; rfl, psA, ?_, ?_, ?_⟩
                      · rw [hself]
                        exact (Blk.new w el (hdq psA xss)).rd
                      · rw [hself]
                        exact EachQ.more (fun b hb => List.mem_cons.2 (.inr hb)) (i4.keep g (by intro b hb; cases hb))
                      · rw [hself]; intro b hb; cases hb; simp [x]
                    · rw [hself]
                      intro b hb
                      rcases List.mem_cons.1 hb with rfl | hb
                      · simp
                      · have := hlt b hb; simp; omega
                    · rw [hself]
                      intro d y hd hy b hb hb2
                      rcases List.mem_cons.1 hb2 with rfl | hb2
                      · exact Nat.lt_irrefl _ (r1.lt d y hd _ hb)
                      · obtain ⟨c, h, k1, k2, k3⟩ := i5 b hb2
                        have hd' := r2 d y hd hy
                        by_cases hdc : d = c
                        · subst hdc
                          have := r3 d y k1 hd
                          rw [hy] at this; cases this
                        · exact M.ne d c y h hd' k2 hdc hy b hb k3
                    · rw [hself]
                      intro _ b hb
                      rcases List.mem_cons.1 hb with rfl | hb
                      · exact .inl M.keep.size
                      · obtain ⟨c, h, k1, k2, k3⟩ := i5 b hb
                        exact M.src c h k2 b k3
                  · refine ⟨Nat.lt_succ_self _, Nat.lt_succ_self _, ?_⟩
                    exact slok_self (e := .C) (by rw [hself]) (by rw [hself]; exact Nat.le_refl _) (by rw [hself]; exact hmax) (by rw [hself]; intro _; rfl) (by rw [hself])
                · exact hcell h
              · cases h
            · exact hcell h
    · cases h
  · cases h
/-! ### Conversions -/
theorem evConvert_ok (hT : TDok P D) (M : Mem ν q w0 X H w) {S : St} (hS : S.H = H) {src dst : Nat} {x : SV} {e : Ef} (h : evConvert D q S src dst x = some e) (hc : allC e.cs) (hx : x.ok ν q) : VOk P ν q w0 X w (convert src dst (cv ν x)) e := by
  subst hS
  unfold evConvert at h
  split at h
  · rename_i k1 n1 b1 e1 k n2 b2 e2 hs hd
    unfold efP at h
    split at h
    · rename_i cs v hv
      cases h
      obtain ⟨⟨k', y, g1, g2⟩, g3⟩ := convS_ok ν q hv hc hx
      refine VOk.pure M ?_ g3
      rw [g1]
      simp [convert, run_underlying (hT.un _ _ hs), run_underlying (hT.un _ _ hd), g2]
    · cases h
  · rename_i el n1 b1 e1 n2 b2 e2 hs hd
    split at h
    · rename_i n3 b3 e3 xs he hy
      cases h
      obtain ⟨A, k, cc, j1, j2, j3, j4, j5, j6, j7, j8⟩ := cont_ok M hy hx
      have hs' : P.underlying src = some (.slice el) := hT.un _ _ hs
      have hd' : P.underlying dst = some .string := hT.un _ _ hd
      have he' : P.underlying el = some (.int .u8) := hT.un _ _ he
      obtain ⟨ys, rfl⟩ : ∃ ys : List Nat, ys = xs := ⟨xs, rfl⟩
      rw [rowC_N] at j2
      have j3 : ys.length = k := j3
      refine VOk.pure M ?_ (show LB 256 ys from fun y hy => j4 y hy)
      rw [j1]
      show _ = Result.ok (Value.string (str ys)) w
      by_cases h0 : ys = []
      · subst h0
        simp at j3
        subst j3
        have e0 : str [] = ByteArray.empty := rfl
        cases A with
        | none => rw [run_convert_bytes_nil w src el hs' he' 0 cc dst hd', e0]
        | some ad =>
          simp only [convert, Sem.run_bind, run_underlying hs', run_underlying hd', run_underlying he', Result.andThen_ok, Conv.bytesToString]
          obtain ⟨b, off, sp⟩ := ad
          rfl
      · have hA := j2.some_ (fun q => h0 (by simpa [vs] using q))
        have := run_convert_bytes_arg (P := P) w src el hs' he' (ablk A) (aoff A) k cc (ys.map fun n : Nat => (n : Int)) (by simpa using j3)
          (fun i hi => by
            rw [j2.num (by omega) rfl]
            simp [List.getD_eq_getElem?_getD]
            cases hq : ys[i]? <;> simp) dst hd'
        rw [← hA] at this
        rw [this, str_nums]
    · cases h
  · rename_i n1 b1 e1 el n2 b2 e2 hs hd
    split at h
    · rename_i n3 b3 e3 xs he
      cases h
      have hs' : P.underlying src = some .string := hT.un _ _ hs
      have hd' : P.underlying dst = some (.slice el) := hT.un _ _ hd
      have he' : P.underlying el = some (.int .u8) := hT.un _ _ he
      have hb : LB 256 xs := hx
      have hr := run_bytes_of_string (P := P) w src dst el (str xs) hs' hd' he'
      rw [str_size] at hr
      have hge := grownCap_ge w xs.length 0 el
      have hlen : xs.length ≤ 9223372036854775807 := hc.1
      have hmax := grownCap_le_maxLen w xs.length 0 el (by unfold maxLen; omega)
      generalize hcap : grownCap w xs.length 0 el = cap at hr hge hmax
      let ob : Obj := .cells (bytesRow (str xs) cap) el ((bytesRow (str xs) cap).size, (bytesRow (str xs) cap).size + 1)
      have g : w.grownBy (w.drew.alloc ob) none := grown_drew w ob
      have hcs : (bytesRow (str xs) cap).size = cap := by
        simp only [bytesRow, Array.size_append, Array.size_map, Array.size_replicate]
        have e1 : (str xs).data.size = xs.length := by rw [← str_size xs]; rfl
        have e2 := str_size xs
        omega
      have hO : Own (w.drew.alloc ob) 0 el 1 (some ⟨w.heap.size, 0, none⟩) xs.length cap (rowC (.N .u8) xs) := by
        rw [rowC_N]
        refine ⟨by rw [vs_length, Nat.mul_one], .inr ⟨w.heap.size, cap, _, rfl, Nat.zero_le _, ⟨_, heap_alloc_new w.drew ob, .inr (Nat.le_refl _)⟩, hge, hmax, by rw [hcs, Nat.mul_one], ?_⟩⟩
        rw [Nat.mul_one]
        simp only [bytesRow, Array.toList_append, Array.toList_map]
        rw [str_data hb, List.take_append_of_le_length (by rw [vs_length]; exact Nat.le_refl _), List.take_of_length_le (by rw [vs_length]; exact Nat.le_refl _)]
      obtain ⟨ν', g1, g2, g3, g4⟩ := row_new (M.growN g) (T := el) (a := .N .u8) (n := ⟨false, xs.length⟩) (xs := xs) (A := some ⟨w.heap.size, 0, none⟩) (c := cap) rfl (fun y hy => hb y hy) hge hmax (fun _ => rfl)
        (.inl ⟨hO, fun b hb => by
          cases hb
          exact ⟨.inl M.keep.size, fun d y hd hb2 => Nat.lt_irrefl _ (M.lt d y hd _ hb2)⟩⟩)
      exact ⟨ν', w.drew.alloc ob, g1, by rw [g4]; exact hr, g2, g3⟩
    · cases h
  · rename_i el n1 b1 e1 e2 n2 b2 e3 hs hd
    split at h
    · rename_i n3 b3 e4 c v lo n he
      split at h
      · rename_i T a m xs hh
        cases hb : Nat.beq src dst && lo.l && Nat.beq lo.x 0 && n.l && Nat.blt 0 n.x with
        | false => rw [hb] at h; cases h
        | true =>
          rw [hb] at h
          cases h
          simp only [Bool.and_eq_true] at hb
          have hsd := beqT hb.1.1.1.1
          subst hsd
          have hlo := beqT hb.1.1.2
          have hn0 : 0 < n.x := by simpa using hb.2
          have hx' := hx
          obtain ⟨hx1, hx2, hS⟩ := hx
          have hok := M.ok _ _ hh
          have hok' := hok
          obtain ⟨hI, hO⟩ := hok
          obtain ⟨A, L, K, s, i1, i2, i3, i4, i5, i6, i7⟩ := hS.bas
          have hb0 : bas ν c [] = some ((ν c).A, (ν c).n, (ν c).c, a.lay.sz) := by unfold bas; rw [hI.lay]
          rw [hb0] at i1
          cases i1
          have hA := i3 hlo
          have hs' : P.underlying src = some (.slice el) := hT.un _ _ hs
          have hd' : P.underlying src = some (.slice e2) := hT.un _ _ hd
          have hee : el = e2 := by have := hs'.symm.trans hd'; simpa using this
          subst hee
          have he' : P.underlying el = some (.int .u8) := hT.un _ _ he
          rcases hO with ⟨hO, hD⟩ | ⟨h0, hc0, _⟩
          · rcases hO.2 with ⟨h1, h2⟩ | ⟨g, cap, cur, h1, h2, h3, h4, h5, h6, h7⟩
            · have := hI.nn; omega
            · injection h1 with a1 a2 a3
              have hshape : w.shape? g = some (T, cur.size) := by obtain ⟨_, h3, _⟩ := h3; simp [World.shape?, h3]
              have gr : w.grownBy (w.freeze ⟨g, cur.size, none⟩ 1) (some g) := by
                unfold World.freeze
                rw [if_neg (by decide)]
                refine ⟨rfl, rfl, rfl, by simp, fun k hk hne => ?_⟩
                show (w.heap.modify g _)[k]? = _
                rw [Array.getElem?_modify, if_neg (fun q => hne (by rw [q]))]
              have hDg : (ν c).D = [g] := by rw [hD, a1]; rfl
              refine ⟨ν, w.freeze ⟨g, cur.size, none⟩ 1, Agr.refl _ _, ?_, ?_, ok_mono (Nat.le_succ _) _ hx'⟩
              · show (convert src src (.slice (ν v).A n.x (ν v).c)).run P w = .ok (.slice (ν v).A n.x (ν v).c) _
                rw [hA, a1]
                simp only [Sem.run_bind, convert, run_underlying hs', run_underlying he', Result.andThen_ok, beq_self_eq_true, markStringish]
                simp [hshape]
              · refine Mem.mono (M.upd' hh rfl gr (fun b hb => by cases hb; rw [hDg]; simp) ?_) (Nat.le_succ q)
                exact ⟨hI, .inl ⟨⟨hO.1, .inr ⟨g, cap, cur, by rw [a1, a3], h2, h3.freeze, h4, h5, h6, h7⟩⟩, hD⟩⟩
          · have := hI.nn; omega
      · cases h
    · cases h
  · cases h
end
end Go.Proofs.Ytnagkhofkjjajaa

/- The symbolic walk is sound: copies; one operation. Lemmas, no statement of the claim. -/
set_option linter.unusedVariables false
set_option linter.unusedSimpArgs false
namespace Go.Proofs.Ytnagkhofkjjajaa
open Go.RowKit
section
variable {P : Program} {D : List (Nat × TD)} {ν : NV} {q : Nat} {w0 : World} {X : XS} {H : List (Nat × Nat × HC)} {w : World}
theorem HC.len_ok {c : Nat} {h : HC} (k : h.ok ν q c w) {a : Sh} {pa : List PS} {xs : List a.T} (e : h.row a pa = some xs) {n : NT} (hn : h.len pa = some n) : xs.length = n.x ∨ (∃ o, h.at pa = some o ∧ o.lay = .ar n.x) := by
  unfold HC.len at hn
  split at hn
  · rename_i T b m ys
    cases hn
    obtain ⟨rfl, rfl⟩ := castL_ok (show castL b a ys = some xs from e)
    exact .inl k.1.len
  · split at hn
    · rename_i k' m ys ho
      cases hn
      exact .inr ⟨_, ho, rfl⟩
    · cases hn
theorem rowC_seg (a : Sh) (xs ys : List a.T) (lo j : Nat) (hx : ∀ x, x ∈ xs → okS a x) (hy : ∀ x, x ∈ ys → okS a x) (hj : j ≤ ys.length) : rowC a (xs.take lo ++ ys.take j ++ xs.drop (lo + j)) = (rowC a xs).take (lo * a.lay.sz) ++ rowC a (ys.take j) ++ (rowC a xs).drop (lo * a.lay.sz + (rowC a (ys.take j)).length) := by
  rw [rowC_app, rowC_app, rowC_take a xs lo hx, rowC_drop a xs _ hx, rowC_len a (ys.take j) (fun x h => hy x (List.mem_of_mem_take h)), List.length_take, Nat.min_eq_left hj, Nat.add_mul]
theorem HC.wr_ok {c : Nat} {h h' : HC} (k : h.ok ν q c w) {a : Sh} {pa : List PS} {xs ys : List a.T} {lo j : Nat} (e : h.row a pa = some xs) (hp : pok (ν c).n h.lay pa) (hy : ∀ y, y ∈ ys → okS a y) (hj : j ≤ ys.length) (hlo : lo + j ≤ xs.length)
    (u : h.wr a pa (xs.take lo ++ ys.take j ++ xs.drop (lo + j)) = some h') {A : Option Addr} {L K s : Nat} (hb : bas ν c pa = some (A, L, K, s)) :
    ∃ w' r, (j = 0 → w' = w) ∧ (0 < j → (storeCells ⟨ablk A, aoff A + lo * s, none⟩ (rowC a (ys.take j))).run P w = .ok () w') ∧ h'.ok ν q c w' ∧ w.grownBy w' r ∧ (∀ b, r = some b → b ∈ (ν c).D) ∧ h.wt = true := by
  have hyt : ∀ y, y ∈ ys.take j → okS a y := fun y h => hy y (List.mem_of_mem_take h)
  have h1 := rowC_one a (ys.take j) hyt
  have hln : (rowC a (ys.take j)).length = j * a.lay.sz := by rw [rowC_len a _ hyt, List.length_take, Nat.min_eq_left hj]
  have hzl : (xs.take lo ++ ys.take j ++ xs.drop (lo + j)).length = xs.length := by simp; omega
  cases h with
  | rw T b n zs =>
    cases pa with
    | cons s r => cases (show HC.row a (.rw T b n zs) (s :: r) = some xs from e)
    | nil =>
      have hz : castL b a zs = some xs := e
      have hba := castL_sh hz
      subst hba
      have := castL_self hz
      subst this
      simp only [HC.wr] at u
      split at u
      · rename_i zs' hz'
        have := castL_self hz'
        subst this
        cases u
        obtain ⟨hI, hO⟩ := k
        have hb0 : bas ν c [] = some ((ν c).A, (ν c).n, (ν c).c, b.lay.sz) := by unfold bas; rw [hI.lay]
        rw [hb0] at hb
        cases hb
        have hI' : RowI ν c b n.x (zs.take lo ++ ys.take j ++ zs.drop (lo + j)) := by
          refine ⟨by rw [hzl]; exact hI.len, fun x hx => ?_, hI.lay, hI.nn, hI.cap, hI.max, hI.adr⟩
          rcases List.mem_append.1 hx with hx | hx
          · rcases List.mem_append.1 hx with hx | hx
            · exact hI.all x (List.mem_of_mem_take hx)
            · exact hyt x hx
          · exact hI.all x (List.mem_of_mem_drop hx)
        rcases Nat.eq_zero_or_pos j with h0 | h0
        · subst h0
          have hsame : zs.take lo ++ ys.take 0 ++ zs.drop (lo + 0) = zs := by simp
          refine ⟨w, none, fun _ => rfl, fun h => absurd h (by omega), ?_, grown_refl w _, (by intro b hb; cases hb), rfl⟩
          rw [hsame]
          exact ⟨hI, hO⟩
        · rcases hO with ⟨hO, hD⟩ | ⟨hz0, _⟩
          · have hn0 : 0 < n.x := by rw [← hI.len]; omega
            obtain ⟨w', j1, j2, j3⟩ := Own.storeL (P := P) (cs := rowC b (ys.take j)) hO hn0 (lo * b.lay.sz) (by
              rw [hln, rowC_len b zs hI.all, ← Nat.add_mul]
              exact Nat.mul_le_mul_right _ hlo) h1
            refine ⟨w', oblk (ν c).A, fun h => absurd h (by omega), fun _ => j1, ?_, j3, fun b hb => by rw [hD, hb]; simp, rfl⟩
            rw [← rowC_seg b zs ys lo j hI.all hy hj] at j2
            exact ⟨hI', .inl ⟨j2, hD⟩⟩
          · have := hI.len; omega
      · cases u
  | ro b n zs =>
    cases pa with
    | cons s r =>
      simp only [HC.wr] at u
      split at u
      · cases u
      · cases u
    | nil => simp [HC.wr, HC.at] at u
  | rs l => cases (show HC.row a (.rs l) pa = some xs from e)
  | rq b n l => cases (show HC.row a (.rq b n l) pa = some xs from e)
  | bk T x =>
    simp only [HC.wr] at u
    split at u
    · rename_i m old zs ho hz
      have ho' : x.get pa = some (.an .u8 m old) := ho
      have e0 : HC.row a (.bk T x) pa = some xs := e
      simp only [HC.row] at e0
      rw [ho'] at e0
      have e1 : castL (.N .u8) a old = some xs := e0
      have hab := castL_sh e1
      subst hab
      have := castL_self e1
      subst this
      have hzs := castL_self hz
      obtain ⟨ys, rfl⟩ : ∃ ys' : List Nat, ys' = ys := ⟨ys, rfl⟩
      obtain ⟨zs, rfl⟩ : ∃ zs' : List Nat, zs' = zs := ⟨zs, rfl⟩
      simp only [HC.upd] at u
      split at u
      · rename_i y hy'
        cases u
        obtain ⟨b, k1, k2, k3, k4, k5, k6⟩ := k
        obtain ⟨p, r, g1, g2, g3, g4, g5, g6⟩ := part_ok ν q (ν c).n pa x _ ho' k4 hp
        have hxok : ∀ z, z ∈ old → okS (.N .u8) z := fun z hz => g3.2 z hz
        have hol : old.length = m := g3.1
        have hlo' : lo + j ≤ old.length := hlo
        have hvz : SV.ok ν q (.an .u8 m zs) := by
          rw [← hzs]
          refine ⟨?_, fun z hz => ?_⟩
          · show (old.take lo ++ ys.take j ++ old.drop (lo + j)).length = m
            rw [← hol]; exact hzl
          · rcases List.mem_append.1 hz with hz | hz
            · rcases List.mem_append.1 hz with hz | hz
              · exact hxok z (List.mem_of_mem_take hz)
              · exact hyt z hz
            · exact hxok z (List.mem_of_mem_drop hz)
        obtain ⟨i1, i2, i3, i4⟩ := g6 _ y hy' hvz rfl
        have hbs := bas_ar' (ν := ν) (c := c) (pa := pa) k3 g5
        rw [hbs] at hb
        cases hb
        have hsz1 : (Sh.N .u8).lay.sz = 1 := rfl
        have hseg : rowC (.N .u8) (old.take lo ++ ys.take j ++ old.drop (lo + j)) = (rowC (.N .u8) old).take lo ++ rowC (.N .u8) (ys.take j) ++ (rowC (.N .u8) old).drop (lo + (rowC (.N .u8) (ys.take j)).length) := by
          have := rowC_seg (.N .u8) old ys lo j hxok hy hj
          rw [hsz1, Nat.mul_one] at this
          exact this
        rw [hsz1, Nat.mul_one] at hln
        obtain ⟨w', j1, j2, j3⟩ := Blk.storeL (P := P) (cs := rowC (.N .u8) (ys.take j)) k6 (poff x.lay pa + lo) (by
          rw [g1, hln, ← g2]
          have : (cls ν (.an .u8 L old)).length = L := by show (vs .u8 old).length = L; rw [vs_length, hol]
          simp only [List.length_append, this]
          omega) h1
        have hkeep : (cls ν x).take (poff x.lay pa + lo) ++ rowC (.N .u8) (ys.take j) ++ (cls ν x).drop (poff x.lay pa + lo + (rowC (.N .u8) (ys.take j)).length) = cls ν y := by
          rw [i3, g1, ← g2]
          have ec : cls ν (.an .u8 L old) = rowC (.N .u8) old := (rowC_N .u8 old).symm
          have ez : cls ν (.an .u8 L zs) = rowC (.N .u8) (old.take lo ++ ys.take j ++ old.drop (lo + j)) := by
            rw [← hzs]; exact (rowC_N .u8 _).symm
          have hro : (rowC (.N .u8) old).length = L := by rw [rowC_len (.N .u8) old hxok, hsz1, Nat.mul_one]; exact hol
          rw [ec, ez, hseg]
          generalize rowC (.N .u8) old = R at hro ⊢
          generalize hQ : rowC (.N .u8) (ys.take j) = Q at hln ⊢
          have t1 : (p ++ R ++ r).take (p.length + lo) = p ++ R.take lo := by
            rw [List.append_assoc, List.take_length_add_append, List.take_append_of_le_length (by omega)]
          have t2 : (p ++ R ++ r).drop (p.length + lo + Q.length) = R.drop (lo + Q.length) ++ r := by
            rw [List.append_assoc, Nat.add_assoc, ← List.drop_drop, List.drop_left' rfl, List.drop_append_of_le_length (by omega)]
          rw [t1, t2]
          simp
        rw [hkeep] at j2
        refine ⟨if j = 0 then w else w', if j = 0 then none else some b, fun h => if_pos h, fun h => ?_, ?_, ?_, ?_, rfl⟩
        · rw [if_neg (by omega)]
          simp only [ablk, aoff, Nat.mul_one]
          rw [k1]
          simpa [ablk, aoff, HC.lay, Nat.add_assoc] using j1
        · split
          · rename_i hj0
            refine ⟨b, k1, k2, by rw [i2]; exact k3, i1, i4 k5 rfl, ?_⟩
            rw [← hkeep]
            have hq : rowC (Sh.N .u8) (@List.take (Sh.N .u8).T j ys) = [] := List.eq_nil_of_length_eq_zero (hln.trans hj0)
            rw [hq]
            simp only [List.length_nil, Nat.add_zero, List.append_nil, List.take_append_drop]
            exact k6
          · exact ⟨b, k1, k2, by rw [i2]; exact k3, i1, i4 k5 rfl, j2⟩
        · split
          · exact grown_refl w _
          · exact j3
        · intro b' hb'
          split at hb'
          · cases hb'
          · cases hb'; rw [k2]; simp
      · cases u
    · cases u
theorem take_all {α : Type} {l : List α} {n : Nat} (h : l.length ≤ n) : l.take n = l := List.take_of_length_le h
theorem evCopy_ok (hT : TDok P D) (M : Mem ν q w0 X H w) {S : St} (hS : S.H = H) {t t' : Nat} {v x : SV} {e : Ef} (ty : TypeId) (h : evCopy D q S t v x = some e) (hv : v.ok ν q) (hx : x.ok ν q) : VOk P ν q w0 X w (Builtin.copy_ #[t, t'] ty #[cv ν v, cv ν x]) e := by
  subst hS
  unfold evCopy at h
  split at h
  · rename_i c pa v' lo n tl mx el n' b' e' ht
    split at h
    · rename_i hh a hc ha
      split at h
      · rename_i xs N m ys hr hN hm hy
        cases hb : tn D el a.lay.sz && Nat.blt 0 a.lay.sz with
        | false => rw [hb] at h; cases h
        | true =>
          rw [hb] at h
          simp only [cond_true] at h
          simp only [Bool.and_eq_true] at hb
          have hs0 : 0 < a.lay.sz := by simpa using hb.2
          obtain ⟨A2, k, cc, j1, j2, j3, j4, j5, j6, j7, j8⟩ := cont_ok M hy hx
          have hmk : m.x = k := by
            unfold slLen at hm
            split at hm
            · cases hm; injection j1
            · cases hm; injection j1
            · cases hm
          obtain ⟨hv1, hv2, hS⟩ := hv
          have hok := M.ok _ _ hc
          have hp := hS.pok
          rw [HC.lay_ok hok] at hp
          obtain ⟨A, L, K, g1, g2, g3, g4, g5, g6⟩ := HC.row_ok hok hr hp
          obtain ⟨A', L', K', s', i1, i2, i3, i4, i5, i6, i7⟩ := hS.bas
          rw [g1] at i1
          cases i1
          obtain ⟨b1, b2, b3, b4⟩ := HC.bas_ok hok g1
          -- how many
          generalize hj : (bif m.l && n.l then (⟨true, Nat.min m.x n.x⟩ : NT) else ⟨false, min m.x n.x⟩) = j at h
          have hjx : j.x = min m.x n.x := by
            rw [← hj]
            cases hml : m.l && n.l <;> rfl
          have hjy : j.x ≤ ys.length := by rw [j3, ← hmk, hjx]; omega
          have hjx2 : lo.x + j.x ≤ xs.length := by rw [g3, hjx]; omega
          have hys : (bif m.l && n.l && Nat.ble m.x n.x then ys else ys.take j.x) = ys.take j.x := by
            cases hq : m.l && n.l && Nat.ble m.x n.x with
            | false => rfl
            | true =>
              simp only [Bool.and_eq_true] at hq
              have := Nat.le_of_ble_eq_true hq.2
              rw [take_all (by rw [j3, ← hmk, hjx]; omega)]; rfl
          have hNx : N.x = xs.length := by
            rcases HC.len_ok hok hr hN with q1 | ⟨o, q1, q2⟩
            · exact q1.symm
            · obtain ⟨k1, k2, k3, k4⟩ := HC.at_ok hok q1 hp
              rw [q2] at k3
              have := bas_ar' (HC.lay_ok hok) k3
              rw [g1] at this
              simp only [Option.some.injEq, Prod.mk.injEq] at this
              exact (g3.trans this.2.1).symm
          have hzs : (bif N.l && lo.l && j.l && Nat.ble N.x (lo.x + j.x) then (bif lo.l && Nat.beq lo.x 0 then (bif m.l && n.l && Nat.ble m.x n.x then ys else ys.take j.x) else xs.take lo.x ++ (bif m.l && n.l && Nat.ble m.x n.x then ys else ys.take j.x)) else
              (bif lo.l && Nat.beq lo.x 0 then (bif m.l && n.l && Nat.ble m.x n.x then ys else ys.take j.x) else xs.take lo.x ++ (bif m.l && n.l && Nat.ble m.x n.x then ys else ys.take j.x)) ++ xs.drop (addN lo j).x) = xs.take lo.x ++ ys.take j.x ++ xs.drop (lo.x + j.x) := by
            rw [hys, addN_x]
            have h1 : (bif lo.l && Nat.beq lo.x 0 then ys.take j.x else xs.take lo.x ++ ys.take j.x) = xs.take lo.x ++ ys.take j.x := by
              cases hq : lo.l && Nat.beq lo.x 0 with
              | false => rfl
              | true =>
                simp only [Bool.and_eq_true] at hq
                rw [beqT hq.2]; rfl
            rw [h1]
            cases hq : N.l && lo.l && j.l && Nat.ble N.x (lo.x + j.x) with
            | false => rfl
            | true =>
              simp only [Bool.and_eq_true] at hq
              have := Nat.le_of_ble_eq_true hq.2
              rw [List.drop_eq_nil_of_le (by omega), List.append_nil]; rfl
          rw [hzs] at h
          split at h
          · rename_i h' hw
            cases h
            obtain ⟨w', r, k1, k2, k3, k4, k5, k6⟩ := HC.wr_ok (P := P) hok hr hp j4 hjy hjx2 hw g1
            have hjl : j.x < 9223372036854775808 := by
              have := hS.max; have := hS.cap
              unfold maxLen at this
              have := hS.max
              unfold maxLen at this
              omega
            refine ⟨ν, w', Agr.refl _ _, ?_, Mem.mono (M.upd' hc k6 k4 k5 k3) (Nat.le_succ _), hjl⟩
            have hu : P.underlying t = some (.slice el) := hT.un t _ ht
            have hsz := tn_ok hT hb.1 w
            rw [j1]
            show (Builtin.copy_ #[t, t'] ty #[.slice (ν v').A n.x (ν v').c, .slice A2 k cc]).run P w = .ok (.int .i64 ((j.x : Nat) : Int)) w'
            have hmin : Nat.min k n.x = j.x := by rw [hjx, hmk]
            rcases Nat.eq_zero_or_pos j.x with h0 | h0
            · have hf : (Builtin.firstCells a.lay.sz 0 (.slice A2 k cc)).run P w = .ok #[] w := by
                cases A2 <;> simp [Builtin.firstCells, loadCells, loadCellsFrom]
              rw [k1 h0]
              rw [h0] at hmin ⊢
              cases hA : (ν v').A <;> simp [Builtin.copy_, run_underlying hu, Builtin.lenOf, hmin, hsz, hf, storeCells, goInt]
            · have hne : rowC a ys ≠ [] := fun q => by
                have z1 := rowC_len a ys j4
                rw [q, List.length_nil] at z1
                have z2 : 0 < ys.length * a.lay.sz := Nat.mul_pos (by omega) hs0
                omega
              have hA2 := j2.some_ hne
              have hcs := rowC_take a ys j.x j4
              have hf : (Builtin.firstCells a.lay.sz j.x (.slice (some ⟨ablk A2, aoff A2, none⟩) k cc)).run P w = .ok (rowC a (ys.take j.x)).toArray w := by
                refine run_firstCells_some w a.lay.sz j.x _ k cc _ ?_ (fun i u hu => ?_)
                · rw [hcs, List.length_take, rowC_len a ys j4]
                  exact Nat.min_eq_left (Nat.mul_le_mul_right _ hjy)
                · rw [add_flat]
                  have := (j2.take (j.x * a.lay.sz)).cells i u (by rw [← hcs]; exact hu)
                  exact this
              have hcap := hS.cap
              have hAA := i4 (by omega)
              have hA0 := b2 (by omega)
              have hst := k2 h0
              have e1 : (⟨ablk A, aoff A + lo.x * a.lay.sz, none⟩ : Addr) = ⟨ablk (ν c).A, aoff (ν c).A + poff hh.lay pa + lo.x * a.lay.sz, none⟩ := by rw [hA0]; simp [ablk, aoff]
              rw [hAA, hA0, hA2]
              rw [e1] at hst
              simp [Builtin.copy_, run_underlying hu, Builtin.lenOf, hmin, hsz, hf, add_flat, hst, goInt]
          · cases h
      · cases h
    · cases h
  · cases h
end
end Go.Proofs.Ytnagkhofkjjajaa
