/- The symbolic walk is sound: reading and writing memory. Lemmas, no statement of the claim. -/
import Derived.Test.YtnagkhofkjjajaaYi
import Derived.Test.YtnagkhofkjjajaaKg
/- The symbolic walk is sound: two values, told apart or put together. Lemmas, no statement of the claim. -/
set_option linter.unusedVariables false
set_option linter.unusedSimpArgs false
namespace Go.Proofs.Ytnagkhofkjjajaa
open Go.RowKit
theorem xB_ok {a : SV} {x : Bool} (h : xB a = some x) (ν : NV) : cv ν a = .bool x := by
  cases a <;> simp only [xB, Option.some.injEq, reduceCtorEq] at h <;> subst h <;> rfl
section
variable {P : Program} {D : List (Nat × TD)}
theorem eqR_ok {op : BinOp} {c : Option Cnd} {cs : List Cnd} {v : SV} (h : eqR op c = some (cs, v)) (ν : NV) (q : Nat) : ∃ d, c = some d ∧ ((op = .eql ∧ cv ν v = .bool (@decide d.q d.d)) ∨ (op = .neq ∧ cv ν v = .bool (!(@decide d.q d.d)))) ∧ v.ok ν q := by
  unfold eqR at h
  cases c with
  | none => cases h
  | some d =>
    refine ⟨d, rfl, ?_⟩
    cases op <;> simp only [reduceCtorEq] at h <;> cases h
    · exact ⟨.inl ⟨rfl, rfl⟩, trivial⟩
    · exact ⟨.inr ⟨rfl, rfl⟩, trivial⟩
theorem run_np {t : Nat} {e : Nat} (hu : P.underlying t = some (.pointer e)) (x : Option Addr) (w : World) (d : Nat) : (Op.equalIn (d + 1) t (.pointer x) (.pointer none)).run P w = .ok (x.isNone) w ∧ (Op.equalIn (d + 1) t (.pointer none) (.pointer x)).run P w = .ok (x.isNone) w := by
  constructor <;> (simp only [Op.equalIn, Sem.run_bind, run_underlying hu, Result.andThen_ok]; cases x <;> rfl)
theorem eqGuard_ptr (op : BinOp) (t : TypeId) (x y : Operand) (p r : Option Addr) (w : World) : (eqGuard op t x y (.pointer p) (.pointer r)).run P w = .ok () w := by
  cases op <;> rfl
theorem eqNp_ok {a b : SV} {r : Bool} (h : eqNp a b = some r) (ν : NV) : ∃ x y, cv ν a = .pointer x ∧ cv ν b = .pointer y ∧ ((y = none ∧ r = x.isNone) ∨ (x = none ∧ r = y.isNone)) := by
  unfold eqNp at h
  split at h
  · split at h <;> cases h
    exact ⟨_, _, rfl, rfl, .inl ⟨rfl, rfl⟩⟩
  · split at h <;> cases h
    · exact ⟨_, _, rfl, rfl, .inl ⟨rfl, rfl⟩⟩
    · exact ⟨_, _, rfl, rfl, .inr ⟨rfl, rfl⟩⟩
  · cases h
theorem binS_ok {op : BinOp} {t : TypeId} {xo yo : Operand} {k : TK} (hk : k.ok P t) {a b : SV} {cs : List Cnd} {v : SV} (ν : NV) (q : Nat) (h : binS op k a b = some (cs, v)) (hc : allC cs) (ha : a.ok ν q) (hb : b.ok ν q) (hag : a.lay.agg = false) :
    RunB P op t xo yo (cv ν a) (cv ν b) (cv ν v) ∧ v.ok ν q := by
  have other : binO op k a b = some (cs, v) → RunB P op t xo yo (cv ν a) (cv ν b) (cv ν v) ∧ v.ok ν q := by
    intro h
    cases k with
    | pt =>
      obtain ⟨e, hu⟩ := hk
      simp only [binO] at h
      split at h
      · rename_i r hr
        obtain ⟨x, y, e1, e2, e3⟩ := eqNp_ok hr ν
        have key : ∀ w, (Op.equal t (.pointer x) (.pointer y)).run P w = .ok r w := fun w => by
          rcases e3 with ⟨rfl, rfl⟩ | ⟨rfl, rfl⟩
          · exact (run_np hu x w (Op.maxDepth - 1)).1
          · exact (run_np hu y w (Op.maxDepth - 1)).2
        rw [e1, e2]
        split at h <;> cases h
        · refine ⟨fun w => ?_, b2_ok _ _ _⟩
          rw [b2_cv]
          simp only [Sem.run_bind, eqGuard_ptr, Result.andThen_ok, binOp, key]
          rfl
        · refine ⟨fun w => ?_, b2_ok _ _ _⟩
          rw [b2_cv]
          simp only [Sem.run_bind, eqGuard_ptr, Result.andThen_ok, binOp, key]
          rfl
      · cases h
    | b =>
      simp only [binO] at h
      split at h
      · rename_i x y hx hy
        obtain ⟨d, hd, h1, h2⟩ := eqR_ok h ν q
        cases hd
        refine ⟨fun w => ?_, h2⟩
        rw [xB_ok hx ν, xB_ok hy ν]
        rcases h1 with ⟨rfl, h1⟩ | ⟨rfl, h1⟩
        · rw [h1]
          simp only [Sem.run_bind, eqGuard_at_bool, Sem.run_pure, Result.andThen_ok]
          rw [run_eql_bool w t x y hk]
          cases x <;> cases y <;> rfl
        · rw [h1]
          simp only [Sem.run_bind, eqGuard_at_bool, Sem.run_pure, Result.andThen_ok]
          rw [run_neq_bool w t x y hk]
          cases x <;> cases y <;> rfl
      · cases h
    | _ => cases h
  cases a <;> (try exact other h)
  · cases b <;> simp only [binS, reduceCtorEq] at h
    · exact binNN_ok ν q h hc ha hb
    · exact binNZ_ok ν q h hc ha hb
  · cases b <;> simp only [binS, reduceCtorEq] at h
    · exact binZN_ok ν q h hc ha hb
    · exact binZZ_ok ν q h hc ha hb
  · cases b <;> simp only [binS, reduceCtorEq] at h
    rename_i x y
    have hx : LB 256 x := ha
    have hy : LB 256 y := hb
    by_cases hop : op = .add
    · subst hop
      cases h
      refine ⟨fun w => ?_, LB.app hx hy⟩
      have hle : x.length + y.length ≤ 9223372036854775807 := hc.1
      simp only [Sem.run_bind, cv, cv3, eqGuard_string, Result.andThen_ok, binOp, Op.stringOp, str_size]
      rw [if_neg (by
        have : IntKind.i64.max = 9223372036854775807 := by decide
        rw [this]; omega)]
      simp only [run_ok]
      congr 2
      apply ByteArray.ext
      simp [str, ByteArray.data_append]
    · have h' : eqR op (some (cn (x = y))) = some (cs, v) := by cases op <;> first | exact h | exact absurd rfl hop
      obtain ⟨d, hd, h1, h2⟩ := eqR_ok h' ν q
      cases hd
      refine ⟨?_, h2⟩
      have e := str_beq hx hy
      rcases h1 with ⟨rfl, h1⟩ | ⟨rfl, h1⟩
      · rw [h1]
        refine RunB.p (cs := []) ?_ trivial
        show some (Value.bool ((str x).toList == (str y).toList), ([] : List Prop)) = _
        rw [e]; rfl
      · rw [h1]
        refine RunB.p (cs := []) ?_ trivial
        show some (Value.bool (!((str x).toList == (str y).toList)), ([] : List Prop)) = _
        rw [e]; rfl
end
end Go.Proofs.Ytnagkhofkjjajaa

/- The symbolic walk is sound: reading and writing memory. Lemmas, no statement of the claim. -/
set_option linter.unusedVariables false
set_option linter.unusedSimpArgs false
namespace Go.Proofs.Ytnagkhofkjjajaa
open Go.RowKit
theorem lay_q : ∀ {a b : Lay}, a.q b = true → a = b
  | .C, .C, _ => rfl
  | .U, .U, _ => rfl
  | .one a, .one b, h => by rw [lay_q (a := a) (b := b) h]
  | .pr a b, .pr c d, h => by
    simp only [Lay.q, Bool.and_eq_true] at h
    rw [lay_q h.1, lay_q h.2]
  | .ar n, .ar m, h => by rw [Nat.eq_of_beq_eq_true h]
  | .rw a, .rw b, h => by rw [lay_q (a := a) (b := b) h]
  | .C, .U, h | .C, .one _, h | .C, .pr _ _, h | .C, .ar _, h | .C, .rw _, h => by cases h
  | .U, .C, h | .U, .one _, h | .U, .pr _ _, h | .U, .ar _, h | .U, .rw _, h => by cases h
  | .one _, .C, h | .one _, .U, h | .one _, .pr _ _, h | .one _, .ar _, h | .one _, .rw _, h => by cases h
  | .pr _ _, .C, h | .pr _ _, .U, h | .pr _ _, .one _, h | .pr _ _, .ar _, h | .pr _ _, .rw _, h => by cases h
  | .ar _, .C, h | .ar _, .U, h | .ar _, .one _, h | .ar _, .pr _ _, h | .ar _, .rw _, h => by cases h
  | .rw _, .C, h | .rw _, .U, h | .rw _, .one _, h | .rw _, .pr _ _, h | .rw _, .ar _, h => by cases h
theorem Cells.mid {w : World} {b o : Nat} {p c r : List Value} (h : Cells w b o (p ++ c ++ r)) : Cells w b (o + p.length) c := by
  have := h.sub p.length c.length
  rw [List.append_assoc, List.drop_left' rfl, List.take_left' rfl] at this
  exact this
theorem HC.lay_ok {ν : NV} {q c : Nat} {w : World} {h : HC} (k : h.ok ν q c w) : (ν c).lay = h.lay := by
  cases h with
  | bk T v => obtain ⟨b, _, _, h3, _⟩ := k; exact h3
  | rw T a n xs => exact k.1.lay
  | ro a n xs => exact k.1.lay
  | rs l => exact k.1
  | rq a n xss => exact k.1
theorem all_get {a : Sh} {xs : List a.T} (h : ∀ x, x ∈ xs → okS a x) {i : Nat} (hi : i < xs.length) : okS a (xs.getD i a.d) := h _ (mem_getD hi _)
/-- what lies at a place -/
theorem HC.at_ok {ν : NV} {q c : Nat} {w : World} {h : HC} (k : h.ok ν q c w) {pa : List PS} {o : SV} (e : h.at pa = some o) (hp : pok (ν c).n h.lay pa) :
    o.ok ν q ∧ o.st = true ∧ h.lay.sub pa = some o.lay ∧ Cells w (ablk (ν c).A) (aoff (ν c).A + poff h.lay pa) (cls ν o) := by
  have row : ∀ (a : Sh) (n : Nat) (xs : List a.T), RowI ν c a n xs → Rd w (ν c).A (rowC a xs) → h.lay = .rw a.lay → (∃ i r, pa = .ix i :: r ∧ (emb a (xs.getD i.x a.d)).get r = some o) →
      o.ok ν q ∧ o.st = true ∧ h.lay.sub pa = some o.lay ∧ Cells w (ablk (ν c).A) (aoff (ν c).A + poff h.lay pa) (cls ν o) := by
    intro a n xs hI hR hl hx
    obtain ⟨i, r, rfl, hg⟩ := hx
    rw [hl] at hp ⊢
    have hi : i.x < xs.length := by rw [hI.len, ← hI.nn]; exact hp.1
    have hok := all_get hI.all hi
    obtain ⟨p, r', h1, h2, h3, h4, h5, _⟩ := part_ok ν q (ν c).n r (emb a (xs.getD i.x a.d)) o hg ((emb_ok ν q _ _).2 hok) (by rw [emb_lay]; exact hp.2)
    rw [emb_lay] at h2 h5
    rw [emb_cls] at h1
    refine ⟨h3, h4 (emb_st _ _), h5, ?_⟩
    have hc := hR.cells
    rw [rowC_split a xs hi hI.all, h1] at hc
    have hc1 : Cells w (ablk (ν c).A) (aoff (ν c).A) (((rowC a xs).take (i.x * a.lay.sz) ++ p) ++ cls ν o ++ (r' ++ (rowC a xs).drop ((i.x + 1) * a.lay.sz))) := by simpa [List.append_assoc] using hc
    have hc2 := hc1.mid
    have hlen : ((rowC a xs).take (i.x * a.lay.sz) ++ p).length = i.x * a.lay.sz + poffP r a.lay := by
      rw [List.length_append, List.length_take, rowC_len a xs hI.all, h2, Nat.min_eq_left (Nat.mul_le_mul_right _ (Nat.le_of_lt hi))]
    rw [hlen] at hc2
    exact hc2
  cases h with
  | bk T v =>
    obtain ⟨b, h1, h2, h3, h4, h5, h6⟩ := k
    obtain ⟨p, r, g1, g2, g3, g4, g5, _⟩ := part_ok ν q (ν c).n pa v o e h4 hp
    refine ⟨g3, g4 h5, g5, ?_⟩
    have hc := h6.cells
    rw [g1] at hc
    have := hc.mid
    rw [g2] at this
    rw [h1]
    exact this
  | rw T a n xs =>
    obtain ⟨hI, hO⟩ := k
    cases pa with
    | nil => cases e
    | cons s r =>
      cases s <;> try (cases e; done)
      rename_i i
      refine row a n.x xs hI ?_ rfl ⟨i, r, rfl, e⟩
      rcases hO with ⟨hO, _⟩ | ⟨h0, _⟩
      · exact hO.rd
      · exact absurd hp.1 (by rw [hI.nn, h0]; omega)
  | ro a n xs =>
    obtain ⟨hI, hR, _⟩ := k
    cases pa with
    | nil => cases e
    | cons s r =>
      cases s <;> try (cases e; done)
      rename_i i
      exact row a n.x xs hI hR rfl ⟨i, r, rfl, e⟩
  | rs l =>
    obtain ⟨h1, h2, h3, h4, _, h5, h6, h7⟩ := k
    cases pa with
    | nil => cases e
    | cons s r =>
      cases s <;> try (cases e; done)
      rename_i i
      cases r with
      | cons _ _ => cases e
      | nil =>
        replace e : (bif i.l then l[i.x]? else none) = some o := e
        cases hl : i.l with
        | false => rw [hl] at e; cases e
        | true =>
          rw [hl] at e
          replace e : l[i.x]? = some o := e
          obtain ⟨g1, g2, g3⟩ := h5 o (List.mem_of_getElem? e)
          have hlay : o.lay = .C := by
            have := g3
            cases ho : o.lay <;> rw [ho] at this <;> first | rfl | cases this
          refine ⟨g1, g2, by rw [hlay]; rfl, ?_⟩
          have hc := h6.cells i.x (cv ν o) (by rw [List.getElem?_map, e]; rfl)
          intro j v hj
          rw [cv_one ν g3 g2] at hj
          cases j with
          | succ j => simp at hj
          | zero =>
            simp at hj
            subst hj
            show w.cell? ⟨_, _ + (i.x * 1 + 0) + 0, none⟩ = _
            rw [Nat.mul_one]; exact hc
  | rq a n xss =>
    cases pa with
    | nil => cases e
    | cons s r => cases s <;> cases e
/-- a row's content -/
theorem castL_ok {a b : Sh} {xs : List a.T} {ys : List b.T} (h : castL a b xs = some ys) : ∃ e : a = b, e ▸ xs = ys := by
  unfold castL at h
  split at h
  · rename_i e
    exact ⟨e, Option.some.inj h⟩
  · cases h
theorem castL_sh {a b : Sh} {xs : List a.T} {ys : List b.T} (h : castL a b xs = some ys) : a = b := (castL_ok h).1
theorem castL_self {a : Sh} {xs ys : List a.T} (h : castL a a xs = some ys) : xs = ys := by
  unfold castL at h
  rw [dif_pos rfl] at h
  exact Option.some.inj h
theorem lay_nrw : ∀ (v : SV) (e : Lay), v.lay ≠ .rw e := by
  intro v e h
  cases v <;> cases h
theorem bas_ar {ν : NV} {c : Nat} {l : Lay} {pa : List PS} {m : Nat} (hc : (ν c).lay = l) (h : l.sub pa = some (.ar m)) (hl : ∀ e, l ≠ .rw e) : bas ν c pa = some (some ⟨ablk (ν c).A, aoff (ν c).A + poff l pa, none⟩, m, m, 1) := by
  unfold bas
  rw [hc]
  cases l <;> first | (exact absurd rfl (hl _)) | (simp only [h])
theorem HC.row_ok {ν : NV} {q c : Nat} {w : World} {h : HC} (k : h.ok ν q c w) {a : Sh} {pa : List PS} {xs : List a.T} (e : h.row a pa = some xs) (hp : pok (ν c).n h.lay pa) :
    ∃ A L K, bas ν c pa = some (A, L, K, a.lay.sz) ∧ Rd w A (rowC a xs) ∧ xs.length = L ∧ (∀ x, x ∈ xs → okS a x) ∧ L ≤ K ∧ (rowC a xs ≠ [] → ∀ b, oblk A = some b → b ∈ (ν c).D) := by
  have hlay := HC.lay_ok k
  unfold HC.row at e
  split at e
  · rename_i T b n ys
    obtain ⟨rfl, rfl⟩ := castL_ok e
    obtain ⟨hI, hO⟩ := k
    have hz : n.x = 0 → rowC b ys = [] := fun h0 => by
      have : ys = [] := List.eq_nil_of_length_eq_zero (by rw [hI.len, h0])
      subst this; rfl
    refine ⟨(ν c).A, (ν c).n, (ν c).c, by unfold bas; rw [hI.lay], ?_, by rw [hI.nn]; exact hI.len, hI.all, by rw [hI.nn]; exact hI.cap, fun hne x hx => ?_⟩
    · rcases hO with ⟨hO, _⟩ | ⟨h0, _⟩
      · exact hO.rd
      · rw [hz h0]; exact Rd.nil _ _
    · rcases hO with ⟨hO, hD⟩ | ⟨h0, _⟩
      · rw [hD, hx]; simp
      · exact absurd (hz h0) hne
  · rename_i b n ys
    obtain ⟨rfl, rfl⟩ := castL_ok e
    obtain ⟨hI, hR, hD⟩ := k
    exact ⟨(ν c).A, (ν c).n, (ν c).c, by unfold bas; rw [hI.lay], hR, by rw [hI.nn]; exact hI.len, hI.all, by rw [hI.nn]; exact hI.cap, hD⟩
  · rename_i T v
    have hD : ∀ o b, oblk (some ⟨ablk (ν c).A, o, none⟩) = some b → b ∈ (ν c).D := fun o b hb => by
      obtain ⟨b', h1, h2, _⟩ := k
      rw [h1] at hb
      rw [h2]
      simpa [oblk, ablk, eq_comm] using hb
    split at e
    · rename_i k' m ys he
      obtain ⟨g1, g2, g3, g4⟩ := HC.at_ok (h := .bk T v) k he hp
      obtain ⟨rfl, rfl⟩ := castL_ok e
      refine ⟨_, m, m, bas_ar hlay g3 (lay_nrw v), ?_, g1.1, fun x hx => g1.2 x hx, Nat.le_refl _, fun _ => hD _⟩
      rw [rowC_N]; exact g4.rd
    · rename_i m ys he
      obtain ⟨g1, g2, g3, g4⟩ := HC.at_ok (h := .bk T v) k he hp
      obtain ⟨rfl, rfl⟩ := castL_ok e
      refine ⟨_, m, m, bas_ar hlay g3 (lay_nrw v), ?_, g1.1, fun x hx => g1.2 x hx, Nat.le_refl _, fun _ => hD _⟩
      rw [rowC_Z]; exact g4.rd
    · cases e
  · rename_i b n ys i r
    obtain ⟨hI, hR, hD⟩ := id k
    have hi : i.x < ys.length := by
      rw [hI.len, ← hI.nn]
      exact hp.1
    have hok := all_get hI.all hi
    have fin : ∀ o, getP r (emb b (ys.getD i.x b.d)) = some o → ∀ m, o.lay = .ar m → ∀ l : List Value, l.length = m → l ≠ [] → ∀ o' b', oblk (some ⟨ablk (ν c).A, o', none⟩) = some b' → b' ∈ (ν c).D := by
      intro o he m hm l hl hne o' b' hb
      obtain ⟨p, r', h1, _, h3, _, _, _⟩ := part_ok ν q (ν c).n r (emb b (ys.getD i.x b.d)) o he ((emb_ok ν q _ _).2 hok) (by rw [emb_lay]; exact hp.2)
      have hlo := cls_len ν o h3
      rw [hm] at hlo
      have hlo : (cls ν o).length = m := hlo
      rw [emb_cls] at h1
      have hrow : rowC b ys ≠ [] := fun h0 => by
        have hsp := rowC_split b ys hi hI.all
        rw [h0, h1] at hsp
        have := congrArg List.length hsp
        simp only [List.length_nil, List.length_append] at this
        have : l.length = 0 := by omega
        exact hne (List.eq_nil_of_length_eq_zero this)
      refine hD hrow b' ?_
      rw [hR.some_ hrow]
      exact hb
    have bas' : ∀ {m : Nat}, (HC.ro b n ys).lay.sub (.ix i :: r) = some (.ar m) → bas ν c (.ix i :: r) = some (some ⟨ablk (ν c).A, aoff (ν c).A + poff (HC.ro b n ys).lay (.ix i :: r), none⟩, m, m, 1) := by
      intro m h
      unfold bas
      rw [hlay]
      have h : (Lay.rw b.lay).sub (.ix i :: r) = some (.ar m) := h
      show (match (Lay.rw b.lay).sub (.ix i :: r) with | some (.ar m) => (some ((some (⟨ablk (ν c).A, aoff (ν c).A + poff (Lay.rw b.lay) (.ix i :: r), none⟩ : Addr) : Option Addr), m, m, 1) : Option (Option Addr × Nat × Nat × Nat)) | _ => none) = _
      rw [h]; rfl
    split at e
    · rename_i k' m zs he
      obtain ⟨g1, g2, g3, g4⟩ := HC.at_ok (h := .ro b n ys) (pa := .ix i :: r) k he hp
      obtain ⟨rfl, rfl⟩ := castL_ok e
      refine ⟨_, m, m, bas' g3, ?_, g1.1, fun x hx => g1.2 x hx, Nat.le_refl _, fun hne => fin _ he m rfl _ (by rw [rowC_N, vs_length]; exact g1.1) hne _⟩
      rw [rowC_N]; exact g4.rd
    · rename_i m zs he
      obtain ⟨g1, g2, g3, g4⟩ := HC.at_ok (h := .ro b n ys) (pa := .ix i :: r) k he hp
      obtain ⟨rfl, rfl⟩ := castL_ok e
      refine ⟨_, m, m, bas' g3, ?_, g1.1, fun x hx => g1.2 x hx, Nat.le_refl _, fun hne => fin _ he m rfl _ (by rw [rowC_Z, vi_length]; exact g1.1) hne _⟩
      rw [rowC_Z]; exact g4.rd
    · cases e
  · cases e
theorem cutL_eq {α : Type} {lo n : NT} {tl : Bool} {xs : List α} (h : lo.x + n.x ≤ xs.length) (ht : tl = true → lo.x + n.x = xs.length) : cutL lo n tl xs = (xs.drop lo.x).take n.x := by
  have h2 : tl = true → (xs.drop lo.x).take n.x = xs.drop lo.x := fun e => List.take_of_length_le (by rw [List.length_drop]; have := ht e; omega)
  unfold cutL
  cases hb : lo.l && Nat.beq lo.x 0 with
  | true =>
    simp only [Bool.and_eq_true] at hb
    have h0 := Nat.eq_of_beq_eq_true hb.2
    cases tl with
    | true => rw [h2 rfl, h0]; rfl
    | false => rw [h0]; rfl
  | false =>
    cases tl with
    | true => rw [h2 rfl]; rfl
    | false => rfl
/-- a slice's address within its row -/
theorem slok_rd {ν : NV} {c : Nat} {pa : List PS} {v lo n : Nat} {tl mx : Bool} (k : SlOk ν c pa v lo n tl mx) {A : Option Addr} {L K s : Nat} (hb : bas ν c pa = some (A, L, K, s)) {w : World} {l : List Value} (hl : l.length = L * s) (hR : Rd w A l) :
    Rd w (ν v).A ((l.drop (lo * s)).take (n * s)) := by
  obtain ⟨A', L', K', s', h1, h2, h3, h4, h5, h6, h7⟩ := k.bas
  rw [hb] at h1
  cases h1
  by_cases h0 : (l.drop (lo * s)).take (n * s) = []
  · rw [h0]; exact Rd.nil _ _
  · have hn : 0 < n := by
      rcases Nat.eq_zero_or_pos n with q | q
      · subst q; exact absurd (by simp) h0
      · exact q
    have hc := k.cap
    have hne : l ≠ [] := fun q => h0 (by rw [q]; simp)
    rw [h4 (by omega), hR.some_ hne]
    simp only [Option.map_some, add_flat]
    exact (hR.cells.sub (lo * s) (n * s)).rd
section
variable {ν : NV} {q : Nat} {w0 : World} {X : XS} {H : List (Nat × Nat × HC)} {w : World}
theorem cut_ok {a : Sh} {xs : List a.T} {lo n : Nat} (h : ∀ x, x ∈ xs → okS a x) (hl : lo + n ≤ xs.length) : rowC a ((xs.drop lo).take n) = ((rowC a xs).drop (lo * a.lay.sz)).take (n * a.lay.sz) ∧ ((xs.drop lo).take n).length = n ∧ ∀ x, x ∈ (xs.drop lo).take n → okS a x := by
  have h' : ∀ x, x ∈ xs.drop lo → okS a x := fun x hx => h x (List.mem_of_mem_drop hx)
  refine ⟨by rw [rowC_take a _ _ h', rowC_drop a _ _ h], ?_, fun x hx => h' x (List.mem_of_mem_take hx)⟩
  rw [List.length_take, List.length_drop]; omega
/-- the content of a slice -/
theorem cont_ok (M : Mem ν q w0 X H w) {a : Sh} {v : SV} {xs : List a.T} (e : cont a H v = some xs) (hv : v.ok ν q) :
    ∃ A m c, cv ν v = .slice A m c ∧ Rd w A (rowC a xs) ∧ xs.length = m ∧ (∀ x, x ∈ xs → okS a x) ∧ m ≤ c ∧ c ≤ maxLen ∧ (0 < c → flat A) ∧ (rowC a xs ≠ [] → ∀ b, oblk A = some b → ∃ c h, c ∈ svN v ∧ hget H c = some h ∧ b ∈ (ν c).D) := by
  unfold cont at e
  split at e
  · cases e
    exact ⟨none, 0, 0, rfl, Rd.nil _ _, rfl, (by intro x hx; cases hx), Nat.le_refl _, by decide, (by intro h; omega), (by intro _ b hb; cases hb)⟩
  · rename_i c pa v lo n tl mx
    split at e
    · rename_i h hh
      split at e
      · rename_i ys hy
        cases e
        obtain ⟨hc, hv1, hS⟩ := hv
        have hok := M.ok c h hh
        have hp := hS.pok
        rw [HC.lay_ok hok] at hp
        obtain ⟨A, L, K, g1, g2, g3, g4, g5, g6⟩ := HC.row_ok hok hy hp
        obtain ⟨A', L', K', s', h1, h2, h3, h4, h5, h6, h7⟩ := hS.bas
        have hb := g1
        rw [h1] at g1
        cases g1
        rw [cutL_eq (by rw [g3]; exact h6) (by rw [g3]; exact h7)]
        obtain ⟨k1, k2, k3⟩ := cut_ok (n := n.x) g4 (by rw [g3]; exact h6)
        refine ⟨(ν v).A, n.x, (ν v).c, rfl, ?_, k2, k3, hS.cap, hS.max, hS.adr, fun hne b hb2 => ⟨c, h, List.mem_singleton.2 rfl, hh, g6 (fun hz => hne (by rw [k1, hz]; simp)) b (by rw [← h2]; exact hb2)⟩⟩
        rw [k1]
        exact slok_rd hS hb (by rw [rowC_len a ys g4, g3]) g2
      · cases e
    · cases e
  · cases e
end
end Go.Proofs.Ytnagkhofkjjajaa
