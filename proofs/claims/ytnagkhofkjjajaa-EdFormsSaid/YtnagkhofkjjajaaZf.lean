/- The symbolic walk is sound: functions of the machine's own that touch memory; what runs a function once. Lemmas, no statement of the claim. -/
import Derived.Test.YtnagkhofkjjajaaZc
set_option linter.unusedVariables false
set_option linter.unusedSimpArgs false
namespace Go.Proofs.Ytnagkhofkjjajaa
open Go.RowKit
/-- a load of a whole number at once -/
def LdOk (P : Program) (g : Nat) (k : IntKind) : Prop := ∀ (a : Addr) (x : Int) (w : World), w.cell? a = some (.int k x) → (callFunc g #[.pointer (some a)]).run P w = .ok (.value (.int k x)) w
/-- a sum at once -/
def AdOk (P : Program) (g : Nat) : Prop := ∀ (a : Addr) (x y : Int) (w : World), w.cell? a = some (.int .i64 x) → w.frozen? a = false →
  (callFunc g #[.pointer (some a), .int .i64 y]).run P w = .ok (.value (.int .i64 (IntKind.wrap .i64 (x + y)))) (w.setCell a (.int .i64 (IntKind.wrap .i64 (x + y))))
/-- what runs a function once, when it was not run yet and nobody holds the lock -/
def OsOk (P : Program) (g : Nat) : Prop := callable P g ∧ ∀ (b off f : Nat) (fi cap : Array Value) (w : World) (R : World → Prop), callable P f →
  w.cell? ⟨b, off, none⟩ = some (.int .u32 0) → w.cell? ⟨b, off + 1, none⟩ = some (.int .i32 0) → w.frozen? ⟨b, off, none⟩ = false → w.frozen? ⟨b, off + 1, none⟩ = false →
  Calls P f (fi ++ cap) (w.setCell ⟨b, off + 1, none⟩ (.int .i32 1)) (fun e w' => (∃ v, e = .returned v) ∧ w'.cell? ⟨b, off, none⟩ = some (.int .u32 0) ∧ w'.cell? ⟨b, off + 1, none⟩ = some (.int .i32 1) ∧ w'.frozen? ⟨b, off, none⟩ = false ∧ w'.frozen? ⟨b, off + 1, none⟩ = false ∧
    R ((w'.drew.setCell ⟨b, off, none⟩ (.int .u32 1)).setCell ⟨b, off + 1, none⟩ (.int .i32 0))) →
  Calls P g #[.pointer (some ⟨b, off, none⟩), .func (.func f) fi cap] w (fun e w' => e = .returned (.tuple #[]) ∧ R w')
def SpOk (P : Program) (g : Nat) : Sp → Prop
  | .ld k => LdOk P g k
  | .ad _ => AdOk P g
  | .os _ _ _ _ => OsOk P g
theorem pok_get {n : Nat} : ∀ (p : List PS) (v u : SV), getP p v = some u → noIx p = true → pokP n p v.lay
  | [], _, _, _, _ => trivial
  | .L :: r, v, u, h, hn => by
    cases v <;> first | (cases h; done) | exact pok_get r _ u h hn
  | .R :: r, v, u, h, hn => by
    cases v <;> first | (cases h; done) | exact pok_get r _ u h hn
  | .O :: r, v, u, h, hn => by
    cases v <;> first | (cases h; done) | exact pok_get r _ u h hn
  | .ix i :: r, v, u, h, hn => by cases hn
theorem app_nil {α : Type} : ∀ l : List α, app l [] = l
  | [] => rfl
  | a :: l => by show a :: app l [] = _; rw [app_nil l]
theorem setCell_id {w : World} {a : Addr} {x : Value} (h : w.cell? a = some x) : w.setCell a x = w := by
  have e : (w.setCell a x).heap = w.heap := by
    apply Array.ext_getElem?
    intro i
    simp only [World.setCell, Array.getElem?_modify]
    split
    · rename_i hi
      subst hi
      unfold World.cell? at h
      split at h
      · rename_i c el fz hb
        rw [hb]
        split at h
        · cases h
        · rename_i hs
          simp only [Option.map_some, hs]
          congr 2
          apply Array.ext_getElem?
          intro j
          simp only [Bool.false_eq_true, if_false, Array.getElem?_setIfInBounds]
          split
          · rename_i hj; subst hj; rw [h]; split <;> simp_all
          · rfl
      · cases h
    · rfl
  have k : w.setCell a x = { w with heap := (w.setCell a x).heap } := rfl
  rw [k, e]
section
variable {P : Program} {D : List (Nat × TD)} {ν : NV} {q : Nat} {w0 : World} {X : XS} {w : World} {S : St}
theorem intV_ok {k : IntKind} {u : SV} (h : intV k u = true) : (∃ z, cv ν u = .int k z) ∧ cls ν u = [cv ν u] ∧ u.st = true ∧ u.lay = .C := by
  cases u <;> try (cases h; done)
  · rename_i k' x
    have : k = k' := by
      have h : kq k k' = true := h
      cases k <;> cases k' <;> first | rfl | cases h
    subst this
    exact ⟨⟨_, rfl⟩, rfl, rfl, rfl⟩
  · have : k = .i64 := by
      have h : kq k .i64 = true := h
      cases k <;> first | rfl | cases h
    subst this
    exact ⟨⟨_, rfl⟩, rfl, rfl, rfl⟩
theorem place_ok (M : Mem ν q w0 X S.H w) {c : Nat} {lay : Lay} {pa : List PS} {o : SV} (hs : plAt S c lay pa = some o) (hx : (SV.ptr c lay pa).ok ν q) :
    ∃ b off, cv ν (.ptr c lay pa) = .pointer (some ⟨b, off, none⟩) ∧ o.ok ν q ∧ ∀ (p : List PS) (u : SV), o.get p = some u → noIx p = true → cls ν u = [cv ν u] →
      cv ν (.ptr c lay (app pa p)) = .pointer (some ⟨b, off + poff o.lay p, none⟩) ∧ (SV.ptr c lay (app pa p)).ok ν q ∧ u.ok ν q ∧ w.cell? ⟨b, off + poff o.lay p, none⟩ = some (cv ν u) ∧ w.frozen? ⟨b, off + poff o.lay p, none⟩ = false := by
  unfold plAt at hs
  split at hs
  · rename_i T v hc
    cases hq : v.lay.q lay with
    | false => rw [hq] at hs; cases hs
    | true =>
      rw [hq] at hs
      have hs : v.get pa = some o := hs
      have hl := lay_q hq
      subst hl
      obtain ⟨b, k1, k2, k3, k4, k5, k6⟩ := M.ok _ _ hc
      obtain ⟨p0, r0, g1, g2, g3, g4, g5, _⟩ := part_ok ν q (ν c).n pa v o hs k4 hx.2.2
      have hcv : ∀ p, cv ν (.ptr c v.lay p) = .pointer (some ⟨b, poff v.lay p, none⟩) := fun p => by
        show Value.pointer (some ⟨ablk (ν c).A, aoff (ν c).A + poff v.lay p, none⟩) = _
        rw [k1]; simp [ablk, aoff]
      refine ⟨b, poff v.lay pa, hcv pa, g3, fun p u hu hn hcl => ?_⟩
      have hp := pok_get (n := (ν c).n) p o u hu hn
      obtain ⟨p1, r1, f1, f2, f3, _, _, _⟩ := part_ok ν q (ν c).n p o u hu g3 hp
      have hof : poff v.lay (app pa p) = poff v.lay pa + poff o.lay p := poff_app _ _ _ _ g5
      refine ⟨by rw [hcv, hof], ⟨hx.1, hx.2.1, pok_app _ _ _ _ g5 hx.2.2 hp⟩, f3, k6.at ?_, k6.free _⟩
      rw [g1, f1, hcl, ← g2]
      have f2 : p1.length = poff o.lay p := f2
      rw [← f2]
      simp
  · cases hs
theorem plAt_F (F G : Tr) (H : List (Nat × Nat × HC)) (c : Nat) (lay : Lay) (pa : List PS) : plAt ⟨F, H⟩ c lay pa = plAt ⟨G, H⟩ c lay pa := rfl
theorem store_fits {t : Nat} {x v : SV} {e : Ef} (h : evStore D q S t x v = some e) : fits D t v = true := by
  unfold evStore at h
  split at h
  · split at h
    · rename_i hh _
      rename_i c lay pa _ _
      cases hb : hh.lay.q lay && fits D t v with
      | false => rw [hb] at h; cases h
      | true => simp only [Bool.and_eq_true] at hb; exact hb.2
    · cases h
  · cases h
theorem spStore_ok (hT : TDok P D) (M : Mem ν q w0 X S.H w) {t c : Nat} {lay : Lay} {pa : List PS} {v : SV} {e : Ef} (h : evStore D q S t (.ptr c lay pa) v = some e) (hx : (SV.ptr c lay pa).ok ν q) (hv : v.ok ν q) {k : IntKind} (hk : intV k v = true)
    {a : Addr} {u : Value} (ha : cv ν (.ptr c lay pa) = .pointer (some a)) (h1 : w.cell? a = some u) (h2 : w.frozen? a = false) : Mem ν (q + 1) w0 X e.H (w.setCell a (cv ν v)) := by
  obtain ⟨⟨z, hz⟩, k2, k3, k4⟩ := intV_ok (ν := ν) hk
  obtain ⟨_, w', j1, j2⟩ := evStore_ok hT M rfl h hx hv
  obtain ⟨f1, f2, f3⟩ := fits_ok hT (store_fits h)
  have hst := run_store P w a (cv ν v) .plain (by rw [hz]; rfl)
  simp only [h1, h2] at hst
  have hr : (Instr.storeAt t (cv ν (.ptr c lay pa)) (cv ν v)).run P w = .ok () (w.setCell a (cv ν v)) := by
    rw [ha, hz]
    rw [hz] at hst
    simp [Instr.storeAt, Instr.sureAddr, storeVar, f3, k4, Lay.sz, Value.cells, storeCells, Addr.add_zero', hst]
  rw [hr] at j1
  cases j1
  exact j2
theorem zrC_ok {x : NT} {cs : List Cnd} (h : zrC x = some cs) (hc : allC cs) : x.x = 0 := by
  unfold zrC at h
  cases hl : x.l with
  | true =>
    rw [hl] at h
    cases hb : Nat.beq x.x 0 with
    | true => exact Nat.eq_of_beq_eq_true hb
    | false => rw [hb] at h; cases h
  | false => rw [hl] at h; cases h; exact hc.1
theorem litN_ok {v : Option SV} {k : IntKind} {n : Nat} (h : litN v k n = true) : ∃ x : NT, v = some (.N k x) ∧ x.x = n := by
  unfold litN at h
  split at h
  · rename_i k' x
    simp only [Bool.and_eq_true] at h
    have : k = k' := by
      have h := h.1.1
      cases k <;> cases k' <;> first | rfl | cases h
    subst this
    exact ⟨x, rfl, Nat.eq_of_beq_eq_true h.2⟩
  · cases h
theorem kq_ok {k k' : IntKind} (h : kq k k' = true) : k = k' := by cases k <;> cases k' <;> first | rfl | cases h
theorem spH_ok {E : Env} (hT : TDok P E.D) {rec : Hnd} (hr : HndOk P E rec) (hfi : ∀ f F, look0 E.fi f = some F → callable P f) {g : Nat} {s : Sp} (hs : SpOk P g s) (τ : Type) (args : List SV) (q : Nat) (S : St) (k : SV → Nat → St → Option τ) (pn : Nat → St → Option τ) (r : τ)
    (h : spH E rec s τ g args q S k pn = some r) : ∃ q' H', q ≤ q' ∧ Frz q S.H H' ∧ ((∃ v, k v q' ⟨S.F, H'⟩ = some r ∧ ∀ (ν : NV) (w0 : World) (X : XS) (w : World), (∀ v, v ∈ args → v.ok ν q) → Mem ν q w0 X S.H w →
      CallOk P g (args.map (cv ν)).toArray w (fun u w' => ∃ ν', Agr q ν ν' ∧ u = cv ν' v ∧ v.ok ν' q' ∧ Mem ν' q' w0 X H' w')) ∨
     (pn q' ⟨S.F, H'⟩ = some r ∧ ∀ (ν : NV) (w0 : World) (X : XS) (w : World), (∀ v, v ∈ args → v.ok ν q) → Mem ν q w0 X S.H w →
      callable P g ∧ Calls P g (args.map (cv ν)).toArray w (fun e w' => e = .panicked (pch E) ∧ ∃ ν', Agr q ν ν' ∧ Mem ν' q' w0 X H' w'))) := by
  cases s with
  | ld kd =>
    simp only [spH] at h
    split at h
    · rename_i c lay pa
      split at h
      · rename_i u hp
        cases hi : intV kd u with
        | false => rw [hi] at h; cases h
        | true =>
          rw [hi] at h
          refine ⟨q, S.H, Nat.le_refl _, Frz.refl _ _, .inl ⟨u, h, fun ν w0 X w ha M => .inr ?_⟩⟩
          obtain ⟨b, off, e1, _, e3⟩ := place_ok M hp (ha _ (by simp))
          obtain ⟨⟨z, hz⟩, k2, _, _⟩ := intV_ok (ν := ν) hi
          obtain ⟨_, _, f3, f4, _⟩ := e3 [] u rfl rfl k2
          have f4 : w.cell? ⟨b, off, none⟩ = some (cv ν u) := f4
          refine ⟨cv ν u, w, ?_, ν, Agr.refl _ _, rfl, f3, M⟩
          show (callFunc g #[cv ν (.ptr c lay pa)]).run P w = _
          rw [e1, hz]
          exact hs _ _ _ (by rw [f4, hz])
      · cases h
    · cases h
  | ad T =>
    simp only [spH] at h
    split at h
    · rename_i c lay pa d
      split at h
      · rename_i u hp
        cases hi : intV .i64 u && intV .i64 d with
        | false => rw [hi] at h; cases h
        | true =>
          rw [hi] at h
          simp only [cond_true] at h
          rw [Bool.and_eq_true] at hi
          split at h
          · rename_i cs s hb
            split at h
            · rename_i e he
              cases hi3 : intV .i64 s with
              | false => rw [hi3] at h; cases h
              | true =>
                rw [hi3] at h
                obtain ⟨h1, h2⟩ := gds_some h
                refine ⟨q + 1, e.H, Nat.le_succ _, evStore_frz he, .inl ⟨s, h2, fun ν w0 X w ha M => .inr ?_⟩⟩
                have hx := ha (.ptr c lay pa) (by simp)
                obtain ⟨b, off, e1, _, e3⟩ := place_ok M hp hx
                obtain ⟨⟨z, hz⟩, k2, _, _⟩ := intV_ok (ν := ν) hi.1
                obtain ⟨⟨z', hz'⟩, _, _, _⟩ := intV_ok (ν := ν) hi.2
                obtain ⟨⟨z3, hz3⟩, _, _, _⟩ := intV_ok (ν := ν) hi3
                obtain ⟨_, _, f3, f4, f5⟩ := e3 [] u rfl rfl k2
                have f4 : w.cell? ⟨b, off, none⟩ = some (cv ν u) := f4
                have f5 : w.frozen? ⟨b, off, none⟩ = false := f5
                obtain ⟨r1, r2⟩ := evBin_ok (xo := .const .nilFunc) (yo := .const .nilFunc) hT ν q hb h1 f3 (ha d (by simp))
                have r1 := r1 w
                rw [hz, hz', hz3] at r1
                have r3 : IntKind.wrap .i64 (z + z') = z3 := by
                  simp [eqGuard, binOp, Op.intArith] at r1
                  exact r1
                have M' := spStore_ok hT M he hx r2 hi3 e1 f4 f5
                rw [hz3] at M'
                refine ⟨cv ν s, w.setCell ⟨b, off, none⟩ (.int .i64 z3), ?_, ν, Agr.refl _ _, rfl, ok_mono (Nat.le_succ _) _ r2, M'⟩
                show (callFunc g #[cv ν (.ptr c lay pa), cv ν d]).run P w = _
                rw [e1, hz', hz3, ← r3]
                exact hs _ _ _ _ (by rw [f4, hz]) f5
            · cases h
          · cases h
      · cases h
    · cases h
  | os T1 T2 pd pm =>
    simp only [spH] at h
    split at h
    · rename_i c lay pa f fi cap
      split at h
      · rename_i o hp
        split at h
        · rename_i kd x km y hpd hpm
          cases hb : kq .u32 kd && (kq .i32 km && (noIx pd && (noIx pm && (Nat.beq (poff o.lay pd) 0 && (Nat.beq (poff o.lay pm) 1 && (look0 E.fi f).isSome))))) with
          | false => rw [hb] at h; cases h
          | true =>
            rw [hb] at h
            simp only [cond_true] at h
            simp only [Bool.and_eq_true] at hb
            obtain ⟨b1, b2, b3, b4, b5, b6, b7⟩ := hb
            have b1 := kq_ok b1
            have b2 := kq_ok b2
            subst b1
            subst b2
            have b5 := Nat.eq_of_beq_eq_true b5
            have b6 := Nat.eq_of_beq_eq_true b6
            obtain ⟨F, hF⟩ := Option.isSome_iff_exists.1 b7
            have hcal := hfi f F hF
            split at h
            · rename_i c1 c2 H hz1 hz2 hO
              obtain ⟨hc, h⟩ := gds_some h
              obtain ⟨hc1, hc2⟩ := allC_app.1 hc
              have x0 := zrC_ok hz1 hc1
              have y0 := zrC_ok hz2 hc2
              unfold spO at hO
              split at hO
              · rename_i e1 he1
                split at hO
                · rename_i e2 he2
                  cases hO
                  obtain ⟨q1, H1, l1, l2, ⟨v, l3, l4⟩ | ⟨l3, _⟩⟩ := hr τ f _ _ _ _ _ r h
                  · split at l3
                    · rename_i o' hp'
                      cases hb' : litN (o'.get pd) .u32 0 && (litN (o'.get pm) .i32 1 && o'.lay.q o.lay) with
                      | false => rw [hb'] at l3; cases l3
                      | true =>
                        rw [hb'] at l3
                        simp only [cond_true] at l3
                        simp only [Bool.and_eq_true] at hb'
                        obtain ⟨n1, n2, n3⟩ := hb'
                        obtain ⟨x', hgx, x1⟩ := litN_ok n1
                        obtain ⟨y', hgy, y1⟩ := litN_ok n2
                        have n3 := lay_q n3
                        split at l3
                        · rename_i H' hO'
                          unfold spO at hO'
                          split at hO'
                          · rename_i e3 he3
                            split at hO'
                            · rename_i e4 he4
                              cases hO'
                              refine ⟨q1 + 2, e4.H, by omega, (((evStore_frz he1).trans (evStore_frz he2) (Nat.le_succ _)).trans l2 (by omega)).trans ((evStore_frz he3).trans (evStore_frz he4) (Nat.le_succ _)) (by omega), .inl ⟨_, l3, fun ν w0 X w ha M => .inl ⟨hs.1, ?_⟩⟩⟩
                              have hx := ha (.ptr c lay pa) (by simp)
                              have hfn := ha (.fn f fi cap) (by simp)
                              obtain ⟨b, off, m1, m2, m3⟩ := place_ok M hp hx
                              obtain ⟨d1, d2, d3, d4, d5⟩ := m3 pd _ hpd b3 rfl
                              obtain ⟨g1, g2, g3, g4, g5⟩ := m3 pm _ hpm b4 rfl
                              rw [b5] at d1 d4 d5
                              rw [b6] at g1 g4 g5
                              have d4 : w.cell? ⟨b, off, none⟩ = some (.int .u32 0) := by
                                have : cv ν (.N .u32 x) = .int .u32 0 := by show Value.int .u32 ((x.x : Nat) : Int) = _; rw [x0]; rfl
                                rw [← this]; exact d4
                              have g4 : w.cell? ⟨b, off + 1, none⟩ = some (.int .i32 0) := by
                                have : cv ν (.N .i32 y) = .int .i32 0 := by show Value.int .i32 ((y.x : Nat) : Int) = _; rw [y0]; rfl
                                rw [← this]; exact g4
                              obtain ⟨i1, i2⟩ := items_cv (q := q) ν fi
                              obtain ⟨j1, j2⟩ := items_cv (q := q) ν cap
                              have M1 := spStore_ok (v := .N .u32 ⟨true, 0⟩) hT M he1 d2 (by show (0 : Nat) < lim .u32; decide) (k := .u32) rfl d1 d4 d5
                              have M1 : Mem ν (q + 1) w0 X e1.H w := by
                                have e : w.setCell ⟨b, off + 0, none⟩ (cv ν (.N .u32 ⟨true, 0⟩)) = w := setCell_id d4
                                rw [e] at M1; exact M1
                              have M2 := spStore_ok (S := ⟨S.F, e1.H⟩) (v := .N .i32 ⟨true, 1⟩) hT M1 he2 (ok_mono (Nat.le_succ _) _ g2) (by show (1 : Nat) < lim .i32; decide) (k := .i32) rfl g1 g4 g5
                              have hargs : ∀ v, v ∈ app fi.items cap.items → v.ok ν q := fun v hv => by
                                rw [app_eq] at hv
                                rcases List.mem_append.1 hv with hv | hv
                                · exact i2 hfn.1 v hv
                                · exact j2 hfn.2 v hv
                              have hA : ((app fi.items cap.items).map (cv ν)).toArray = (itv ν fi).toArray ++ (itv ν cap).toArray := by
                                rw [app_eq, List.map_append, i1, j1]; simp
                              show Calls P g #[cv ν (.ptr c lay pa), .func (.func f) (itv ν fi).toArray (itv ν cap).toArray] w _
                              rw [m1]
                              refine (hs.2 b off f _ _ w (fun w' => ∃ ν', Agr q ν ν' ∧ Mem ν' (q1 + 2) w0 X e4.H w') hcal d4 g4 d5 g5 ?_).mono fun e w' hq => ?_
                              rotate_left
                              · obtain ⟨rfl, ν', hag, M'⟩ := hq
                                exact ⟨_, rfl, ν', hag, rfl, trivial, M'⟩
                              rw [← hA]
                              rcases l4 ν w0 X _ (fun v hv => ok_mono (by omega) _ (hargs v hv)) M2 with ⟨_, t2⟩ | ⟨u, w', t1, _⟩
                              · refine t2.mono fun e w' hq => ?_
                                obtain ⟨u, rfl, ν', hag, _, _, M3⟩ := hq
                                have hagq : Agr q ν ν' := (Agr.refl q ν).trans hag (by omega)
                                have hx' : (SV.ptr c lay pa).ok ν' q1 := ok_mono (by omega) _ (ok_agr hagq _ hx).1
                                obtain ⟨b', off', p1, p2, p3⟩ := place_ok M3 hp' hx'
                                rw [cv_agr hagq hx, m1] at p1
                                injection p1 with p1
                                injection p1 with p1
                                injection p1 with pb po _
                                subst pb
                                subst po
                                obtain ⟨s1, s2, s3, s4, s5⟩ := p3 pd _ hgx b3 rfl
                                obtain ⟨u1, u2, u3, u4, u5⟩ := p3 pm _ hgy b4 rfl
                                rw [n3, b5] at s1 s4 s5
                                rw [n3, b6] at u1 u4 u5
                                have s4 : w'.cell? ⟨b, off, none⟩ = some (.int .u32 0) := by
                                  have : cv ν' (.N .u32 x') = .int .u32 0 := by show Value.int .u32 ((x'.x : Nat) : Int) = _; rw [x1]; rfl
                                  rw [← this]; exact s4
                                have u4 : w'.cell? ⟨b, off + 1, none⟩ = some (.int .i32 1) := by
                                  have : cv ν' (.N .i32 y') = .int .i32 1 := by show Value.int .i32 ((y'.x : Nat) : Int) = _; rw [y1]; rfl
                                  rw [← this]; exact u4
                                refine ⟨⟨u, rfl⟩, s4, u4, s5, u5, ν', hagq, ?_⟩
                                have M4 := M3.growN (w' := w'.drew) ⟨rfl, rfl, rfl, Nat.le_refl _, fun _ _ _ => rfl⟩
                                have M5 := spStore_ok (S := ⟨S.F, H1⟩) (v := .N .u32 ⟨true, 1⟩) hT M4 he3 s2 (by show (1 : Nat) < lim .u32; decide) (k := .u32) rfl s1 s4 s5
                                exact spStore_ok (S := ⟨S.F, e3.H⟩) (v := .N .i32 ⟨true, 0⟩) hT M5 he4 (ok_mono (Nat.le_succ _) _ u2) (by show (0 : Nat) < lim .i32; decide) (k := .i32) rfl u1
                                  (by rw [World.cell?_setCell_other _ _ _ _ (by intro hh; injection hh with _ hh _; omega)]; exact u4) (by rw [World.frozen?_setCell]; exact u5)
                              · exact absurd (t1.symm.trans (hcal _ _)) (by simp)
                            · cases hO'
                          · cases hO'
                        · cases l3
                    · cases l3
                  · cases l3
                · cases hO
              · cases hO
            · cases h
        · cases h
      · cases h
    · cases h
end
end Go.Proofs.Ytnagkhofkjjajaa
