/- The symbolic walk is sound: operations that read memory, slices, conversions. Lemmas, no statement of the claim. -/
import Derived.Test.YtnagkhofkjjajaaYk
/- The symbolic walk is sound: operations that touch no memory. Lemmas, no statement of the claim. -/
set_option linter.unusedVariables false
set_option linter.unusedSimpArgs false
namespace Go.Proofs.Ytnagkhofkjjajaa
open Go.RowKit

/-! ### Ways -/
theorem poff_app : ∀ (pa p : List PS) (l l' : Lay), l.sub pa = some l' → poffP (app pa p) l = poffP pa l + poffP p l' := by
  intro pa
  induction pa with
  | nil => intro p l l' h; cases h; simp [app, poffP]
  | cons s r ih =>
    intro p l l' h
    cases s with
    | L =>
      simp only [Lay.sub, subP] at h
      cases hw : y2 l with
      | none => rw [hw] at h; cases h
      | some w =>
        rw [hw] at h
        simp only [app, poffP, hw]; exact ih _ _ _ h
    | R =>
      simp only [Lay.sub, subP] at h
      cases hw : y2 l with
      | none => rw [hw] at h; cases h
      | some w =>
        rw [hw] at h
        simp only [app, poffP, hw]; rw [ih _ _ _ h, Nat.add_assoc]
    | O =>
      simp only [Lay.sub, subP] at h
      cases hw : y1 l with
      | none => rw [hw] at h; cases h
      | some w =>
        rw [hw] at h
        simp only [app, poffP, hw]; exact ih _ _ _ h
    | ix i =>
      simp only [Lay.sub, subP] at h
      cases l <;> simp only [reduceCtorEq] at h
      · split at h
        · cases h
          simp only [app, poffP]
          cases p with
          | nil => simp [poffP]
          | cons s p => cases s <;> simp [poffP, y1, y2]
        · cases h
      · simp only [app, poffP]
        rw [ih _ _ _ h, Nat.add_assoc]
theorem pok_app {n : Nat} : ∀ (pa p : List PS) (l l' : Lay), l.sub pa = some l' → pokP n pa l → pokP n p l' → pokP n (app pa p) l := by
  intro pa
  induction pa with
  | nil => intro p l l' h _ h2; cases h; exact h2
  | cons s r ih =>
    intro p l l' h h1 h2
    cases s with
    | L =>
      simp only [Lay.sub, subP] at h
      cases hw : y2 l with
      | none => rw [hw] at h; cases h
      | some w =>
        rw [hw] at h
        simp only [app, pokP, hw] at h1 ⊢; exact ih _ _ _ h h1 h2
    | R =>
      simp only [Lay.sub, subP] at h
      cases hw : y2 l with
      | none => rw [hw] at h; cases h
      | some w =>
        rw [hw] at h
        simp only [app, pokP, hw] at h1 ⊢; exact ih _ _ _ h h1 h2
    | O =>
      simp only [Lay.sub, subP] at h
      cases hw : y1 l with
      | none => rw [hw] at h; cases h
      | some w =>
        rw [hw] at h
        simp only [app, pokP, hw] at h1 ⊢; exact ih _ _ _ h h1 h2
    | ix i =>
      simp only [Lay.sub, subP] at h
      cases l <;> simp only [reduceCtorEq] at h
      · split at h
        · cases h
          cases p with
          | nil => simp only [app]; exact h1
          | cons s p => cases s <;> simp [pokP, y1, y2] at h2
        · cases h
      · simp only [app, pokP] at h1 ⊢
        exact ⟨h1.1, ih _ _ _ h h1.2 h2⟩
theorem fpath_pok {n : Nat} : ∀ (l : Lay) (f : Nat) (p : List PS), fpath l f = some p → pokP n p l := by
  intro l f
  induction f generalizing l with
  | zero =>
    intro p h
    cases l <;> simp only [fpath, reduceCtorEq, Option.some.injEq] at h <;> subst h <;> simp [pokP, y1, y2]
  | succ f ih =>
    intro p h
    cases l <;> simp only [fpath, reduceCtorEq] at h
    split at h
    · rename_i q hq
      cases h
      simp only [pokP, y2]
      exact ih _ _ hq
    · cases h
theorem sub_app : ∀ (pa p : List PS) (l l' l'' : Lay), l.sub pa = some l' → l'.sub p = some l'' → l.sub (app pa p) = some l'' := by
  intro pa
  induction pa with
  | nil => intro p l l' l'' h h2; cases h; exact h2
  | cons s r ih =>
    intro p l l' l'' h h2
    cases s with
    | L =>
      simp only [Lay.sub, subP] at h
      cases hw : y2 l with
      | none => rw [hw] at h; cases h
      | some w =>
        rw [hw] at h
        simp only [Lay.sub, subP, app, hw]; exact ih _ _ _ _ h h2
    | R =>
      simp only [Lay.sub, subP] at h
      cases hw : y2 l with
      | none => rw [hw] at h; cases h
      | some w =>
        rw [hw] at h
        simp only [Lay.sub, subP, app, hw]; exact ih _ _ _ _ h h2
    | O =>
      simp only [Lay.sub, subP] at h
      cases hw : y1 l with
      | none => rw [hw] at h; cases h
      | some w =>
        rw [hw] at h
        simp only [Lay.sub, subP, app, hw]; exact ih _ _ _ _ h h2
    | ix i =>
      simp only [Lay.sub, subP] at h
      cases l <;> simp only [reduceCtorEq] at h
      · split at h
        · cases h
          cases p with
          | nil => cases h2; rfl
          | cons s p => cases s <;> simp [Lay.sub, subP, y1, y2] at h2
        · cases h
      · simp only [Lay.sub, subP, app]
        exact ih _ _ _ _ h h2
theorem addN_x (a b : NT) : (addN a b).x = a.x + b.x := by
  unfold addN
  cases h : a.l && Nat.beq a.x 0 with
  | true =>
    simp only [Bool.and_eq_true] at h
    have := Nat.eq_of_beq_eq_true h.2
    simp [this]
  | false =>
    cases h2 : b.l && Nat.beq b.x 0 with
    | true =>
      simp only [Bool.and_eq_true] at h2
      have := Nat.eq_of_beq_eq_true h2.2
      simp [this]
    | false => rfl
theorem subN_x (a b : NT) : (subN a b).x = a.x - b.x := by
  unfold subN
  cases h2 : b.l && Nat.beq b.x 0 with
  | true =>
    simp only [Bool.and_eq_true] at h2
    have := Nat.eq_of_beq_eq_true h2.2
    simp [this]
  | false => rfl
theorem idx_ok {i : SV} {n : NT} {cs : List Cnd} {j : NT} (h : idx i n = some (cs, j)) (hc : allC cs) (ν : NV) {q : Nat} (hi : i.ok ν q) : ∃ k, cv ν i = .int k ((j.x : Nat) : Int) ∧ j.x < n.x := by
  unfold idx at h
  split at h
  · rename_i k x
    cases hl : x.l && n.l with
    | true =>
      rw [hl] at h
      cases hb : Nat.blt x.x n.x with
      | true =>
        rw [hb] at h
        cases h
        exact ⟨k, rfl, by simpa using hb⟩
      | false => rw [hb] at h; cases h
    | false =>
      rw [hl] at h
      cases h
      exact ⟨k, rfl, hc.1⟩
  · rename_i l x
    cases h
    have h0 : 0 ≤ x := hc.1
    have h1 : x < (n.x : Int) := hc.2.1
    refine ⟨.i64, ?_, ?_⟩
    · show Value.int .i64 x = .int .i64 ((x.toNat : Nat) : Int)
      rw [Int.toNat_of_nonneg h0]
    · show x.toNat < n.x
      omega
  · cases h
theorem leN_ok {a b : NT} {cs : List Cnd} (h : leN a b = some cs) (hc : allC cs) : a.x ≤ b.x := by
  unfold leN at h
  cases hl : a.l && b.l with
  | true =>
    rw [hl] at h
    cases hb : Nat.ble a.x b.x with
    | true => exact Nat.le_of_ble_eq_true hb
    | false => rw [hb] at h; cases h
  | false =>
    rw [hl] at h
    cases h0 : a.l && Nat.beq a.x 0 with
    | true =>
      simp only [Bool.and_eq_true] at h0
      have := Nat.eq_of_beq_eq_true h0.2
      omega
    | false =>
      rw [h0] at h
      cases h
      exact hc.1
theorem allC_app {a b : List Cnd} : allC (app a b) ↔ allC a ∧ allC b := by
  induction a with
  | nil => simp [app, allC]
  | cons x r ih => simp [app, allC, ih, and_assoc]

section
variable {P : Program} {D : List (Nat × TD)} (hT : TDok P D) {ν : NV} {q : Nat}
include hT
/-! ### Places -/
theorem fOff_ok {s f o : Nat} (h : fOff D s f = some o) : ∃ fs fl n, P.underlying s = some (.struct fs) ∧ fs[f]? = some fl ∧ fl.offset = o ∧ n ≠ 0 ∧ (∃ d, lookD D fl.type = some d ∧ d.n = n) ∧ ∀ w, (sizeOf fl.type).run P w = .ok n w := by
  unfold fOff at h
  split at h
  · rename_i l n b e hs
    split at h
    · rename_i x hx
      split at h
      · rename_i i hi
        cases hz : Nat.beq i.n 0 with
        | true => rw [hz] at h; cases h
        | false =>
          rw [hz] at h
          cases h
          obtain ⟨fs, h1, h2⟩ := hT.un s _ hs
          rw [← h2, List.getElem?_map] at hx
          cases hf : fs.toList[f]? with
          | none => rw [hf] at hx; cases hx
          | some fl =>
            rw [hf] at hx
            cases hx
            refine ⟨fs, fl, i.n, h1, by rw [← hf, Array.getElem?_toList], rfl, (by intro e; rw [e] at hz; cases hz), ⟨i, hi, rfl⟩, fun w => hT.size hi w⟩
      · cases h
    · cases h
  · cases h
theorem evFieldAddr_ok {s f : Nat} {x v : SV} {cs : List Cnd} (h : evFieldAddr D s x f = some (cs, v)) (hx : x.ok ν q) : v.ok ν q ∧ ∀ w, (Instr.fieldAt s (cv ν x) f).run P w = .ok (cv ν v) w := by
  unfold evFieldAddr at h
  split at h
  · rename_i o c lay pa hf
    split at h
    · rename_i l hl
      split at h
      · rename_i p hp
        cases hb : Nat.beq (poff l p) o with
        | false => rw [hb] at h; cases h
        | true =>
          rw [hb] at h
          cases h
          have := Nat.eq_of_beq_eq_true hb
          obtain ⟨fs, fl, n, h1, h2, h3, h4, _, h5⟩ := fOff_ok hT hf
          refine ⟨⟨hx.1, hx.2.1, ?_⟩, fun w => ?_⟩
          · exact pok_app _ _ _ _ hl hx.2.2 (fpath_pok _ _ _ hp)
          · have e : poff lay (app pa p) = poff lay pa + fl.offset := by rw [h3, ← this]; exact poff_app _ _ _ _ hl
            simp only [cv, cv3, e]
            simp [Instr.fieldAt, run_underlying h1, h2, Instr.sureAddr, fieldPlace, h5, h4, add_flat, Nat.add_assoc]
      · cases h
    · cases h
  · cases h
omit hT in
theorem HC.bas_ok {c : Nat} {w : World} {h : HC} (k : h.ok ν q c w) {pa : List PS} {A : Option Addr} {L K s : Nat} (hb : bas ν c pa = some (A, L, K, s)) :
    s = esz h.lay pa ∧ (0 < K → A = some ⟨ablk (ν c).A, aoff (ν c).A + poff h.lay pa, none⟩) ∧ L ≤ K ∧ ∀ i : NT, i.x < L → pok (ν c).n h.lay pa → pok (ν c).n h.lay (app pa [.ix i]) ∧ poff h.lay (app pa [.ix i]) = poff h.lay pa + i.x * s := by
  have hlay := HC.lay_ok k
  have other : ∀ m, h.lay.sub pa = some (.ar m) → (∀ e, h.lay = .rw e → pa = [] → False) → (A, L, K, s) = (some ⟨ablk (ν c).A, aoff (ν c).A + poff h.lay pa, none⟩, m, m, 1) →
      s = esz h.lay pa ∧ (0 < K → A = some ⟨ablk (ν c).A, aoff (ν c).A + poff h.lay pa, none⟩) ∧ L ≤ K ∧ ∀ i : NT, i.x < L → pok (ν c).n h.lay pa → pok (ν c).n h.lay (app pa [.ix i]) ∧ poff h.lay (app pa [.ix i]) = poff h.lay pa + i.x * s := by
    intro m hs hne e
    cases e
    refine ⟨?_, fun _ => rfl, Nat.le_refl _, fun i hi hp => ⟨pok_app _ _ _ _ hs hp ⟨hi, rfl⟩, ?_⟩⟩
    · unfold esz
      split
      · rename_i e hl; exact (hne e hl rfl).elim
      · rfl
    · show poffP _ _ = poffP _ _ + _
      rw [poff_app _ _ _ _ hs, Nat.mul_one]; rfl
  unfold bas at hb
  rw [hlay] at hb
  split at hb
  · rename_i e hl
    simp only [Option.some.injEq, Prod.mk.injEq] at hb
    obtain ⟨rfl, rfl, rfl, rfl⟩ := hb
    rw [hl]
    refine ⟨rfl, fun hK => ?_, ?_, fun i hi _ => ⟨⟨hi, trivial⟩, by simp [app, poff, poffP]⟩⟩
    · have : flat (ν c).A := by
        cases h with
        | bk T v => exact absurd hl (lay_nrw v e)
        | rw T a n xs => exact k.1.adr hK
        | ro a n xs => exact k.1.adr hK
        | rs l => exact k.2.2.2.2.1 hK
        | rq a n xss => exact k.2.2.2.2.2.1 hK
      simpa [poff, poffP, flat] using this
    · cases h with
      | bk T v => exact absurd hl (lay_nrw v e)
      | rw T a n xs => rw [k.1.nn]; exact k.1.cap
      | ro a n xs => rw [k.1.nn]; exact k.1.cap
      | rs l => rw [k.2.1]; exact k.2.2.1
      | rq a n xss => rw [k.2.1]; exact k.2.2.2.1
  · rename_i l pa' hne
    split at hb
    · rename_i m hs
      exact other m hs (fun e h1 h2 => hne e h1 h2) (Option.some.inj hb).symm
    · cases hb
theorem tn_ok {t n : Nat} (h : tn D t n = true) (w : World) : (sizeOf t).run P w = .ok n w := by
  unfold tn at h
  split at h
  · rename_i d hd
    rw [← Nat.eq_of_beq_eq_true h]
    exact hT.size hd w
  · cases h
theorem evIndexAddr_ok {H : List (Nat × Nat × HC)} {w0 w : World} {X : XS} (M : Mem ν q w0 X H w) {t : Nat} {x i v : SV} {cs : List Cnd} (h : evIndexAddr D H t x i = some (cs, v)) (hc : allC cs) (hx : x.ok ν q) (hi : i.ok ν q) :
    v.ok ν q ∧ (Instr.indexAt t (cv ν x) (cv ν i)).run P w = .ok (cv ν v) w := by
  unfold evIndexAddr at h
  split at h
  · rename_i e n' b' e' c pa v' lo n tl mx ht
    split at h
    · rename_i cs' j hh hc' hj
      cases hb : tn D e (esz hh.lay pa) with
      | false => rw [hb] at h; cases h
      | true =>
        rw [hb] at h
        cases h
        obtain ⟨kk, h1, h2⟩ := idx_ok hc' hc ν hi
        obtain ⟨hx1, hx2, hS⟩ := hx
        have hok := M.ok _ _ hj
        have hlay := HC.lay_ok hok
        have hp := hS.pok
        rw [hlay] at hp
        obtain ⟨A, L, K, s, g1, g2, g3, g4, g5, g6, g7⟩ := hS.bas
        obtain ⟨k1, k2, k3, k4⟩ := HC.bas_ok hok g1
        have hlt : lo.x + j.x < L := by omega
        have hcap := hS.cap
        have hA := k2 (by omega)
        have hA' := g4 (by omega)
        obtain ⟨k5, k6⟩ := k4 (addN lo j) (by rw [addN_x]; exact hlt) hp
        have hu := hT.un t _ ht
        refine ⟨⟨hx1, hlay, k5⟩, ?_⟩
        rw [h1]
        simp only [cv, cv3, hA', hA, Option.map_some, add_flat, k6, addN_x]
        simp only [Instr.indexAt, asIntOf, Sem.run_bind, Sem.run_pure, Result.andThen_ok, run_underlying hu]
        rw [if_pos ⟨by omega, by omega⟩]
        simp [tn_ok hT hb, add_flat, ← k1, Nat.add_mul, Nat.add_assoc]
    · cases h
  · rename_i n e n' b' e' c lay pa ht
    split at h
    · rename_i cs' j m hc' hs
      cases hb : Nat.beq n m && tn D e 1 with
      | false => rw [hb] at h; cases h
      | true =>
        rw [hb] at h
        cases h
        simp only [Bool.and_eq_true] at hb
        have := Nat.eq_of_beq_eq_true hb.1
        subst this
        obtain ⟨kk, h1, h2⟩ := idx_ok hc' hc ν hi
        have hu := hT.un t _ ht
        refine ⟨⟨hx.1, hx.2.1, pok_app _ _ _ _ hs hx.2.2 ⟨h2, rfl⟩⟩, ?_⟩
        have e : poff lay (app pa [.ix j]) = poff lay pa + j.x := poff_app _ _ _ _ hs
        rw [h1]
        simp only [cv, cv3, e]
        simp only [Instr.indexAt, asIntOf, Sem.run_bind, Sem.run_pure, Result.andThen_ok, run_underlying hu, Instr.sureAddr]
        have h2' : j.x < n := h2
        rw [if_pos ⟨by omega, by omega⟩]
        simp [tn_ok hT hb.2, add_flat, Nat.add_assoc]
    · cases h
  · cases h
theorem evIndex_ok {t : Nat} {x i v : SV} {cs : List Cnd} (h : evIndex D t x i = some (cs, v)) (hc : allC cs) (hx : x.ok ν q) (hi : i.ok ν q) (w : World) :
    v.ok ν q ∧ (Instr.index t (cv ν x) (cv ν i)).run P w = .ok (cv ν v) w := by
  unfold evIndex at h
  split at h
  · rename_i m e n' b' e' k n xs ht
    split at h
    · rename_i cs' j k' b2 e2 hc' he
      cases hb : Nat.beq n m with
      | false => rw [hb] at h; cases h
      | true =>
        rw [hb] at h
        cases h
        have := Nat.eq_of_beq_eq_true hb
        subst this
        obtain ⟨kk, h1, h2⟩ := idx_ok hc' hc ν hi
        have h2' : j.x < n := h2
        have hl : xs.length = n := hx.1
        have hu := hT.un t _ ht
        have hue := hT.un e _ he
        have hg := vs_get k xs (i := j.x) (by omega)
        refine ⟨hx.2 _ (mem_getD (by omega) 0), ?_⟩
        rw [h1]
        simp only [cv, cv3, Instr.index, asIntOf, Sem.run_bind, Sem.run_pure, run_underlying hu, Result.andThen_ok]
        rw [if_pos ⟨by omega, by omega⟩]
        simp [hT.size he, part, run_isAgg hue, aggD, hg]
    · cases h
  · rename_i n' b' e' xs ht
    split at h
    · rename_i cs' j hc'
      cases h
      obtain ⟨kk, h1, h2⟩ := idx_ok hc' hc ν hi
      have hj : j.x < xs.length := h2
      have hbt : LB 256 xs := hx
      have hu := hT.un t _ ht
      have hsz : j.x < (str xs).size := by rw [str_size]; exact hj
      have e : (str xs)[((j.x : Nat) : Int).toNat]? = some (UInt8.ofNat (xs.getD j.x 0)) := by
        rw [show ((j.x : Nat) : Int).toNat = j.x by omega, getElem?_pos (str xs) j.x hsz]
        congr 1
        show (str xs).data[j.x] = _
        simp [str, List.getD_eq_getElem?_getD, hj]
      have hlt : xs.getD j.x 0 < 256 := hbt _ (mem_getD hj 0)
      refine ⟨hlt, ?_⟩
      rw [h1]
      have e3 : (UInt8.ofNat (xs.getD j.x 0)).toNat = xs.getD j.x 0 := by simp; exact hlt
      have e4 : (if 0 ≤ ((j.x : Nat) : Int) then (str xs)[((j.x : Nat) : Int).toNat]? else none) = some (UInt8.ofNat (xs.getD j.x 0)) := by rw [if_pos (by omega), e]
      simp only [cv, cv3, Instr.index, Sem.run_bind, run_underlying hu, Result.andThen_ok, asIntOf, Sem.run_pure, e4, e3]
    · cases h
  · cases h
/-! ### Parts of a value -/
theorem fits_ok {t : Nat} {v : SV} (h : fits D t v = true) : v.st = true ∧ (∀ w, (isAgg t).run P w = .ok v.lay.agg w) ∧ ∀ w, (sizeOf t).run P w = .ok v.lay.sz w := by
  unfold fits at h
  split at h
  · rename_i d hd
    simp only [Bool.and_eq_true] at h
    refine ⟨h.1.1, fun w => ?_, fun w => ?_⟩
    · rw [hT.agg hd w]
      have := h.2
      cases h1 : agg2 d <;> cases h2 : v.lay.agg <;> rw [h1, h2] at this <;> first | rfl | cases this
    · rw [← Nat.eq_of_beq_eq_true h.1.2]
      exact hT.size hd w
  · cases h
theorem run_part {t : Nat} {v : SV} (h : fits D t v = true) (hv : v.ok ν q) {p r : List Value} (w : World) : (part t (p ++ cls ν v ++ r).toArray p.length).run P w = .ok (cv ν v) w := by
  obtain ⟨h1, h2, h3⟩ := fits_ok hT h
  have hl := cls_len ν v hv
  unfold part
  cases ha : v.lay.agg with
  | true =>
    simp only [Sem.run_bind, h2, h3, ha, Result.andThen_ok, if_true, Sem.run_pure]
    rw [cv_agg ν ha]
    congr 2
    rw [List.extract_toArray]
    congr 1
    rw [List.extract_eq_take_drop, List.append_assoc, List.drop_left' rfl, show p.length + v.lay.sz - p.length = (cls ν v).length by rw [hl]; omega, List.take_left' rfl]
  | false =>
    simp only [Sem.run_bind, h2, ha, Result.andThen_ok, Bool.false_eq_true, if_false]
    rw [cv_one ν ha h1]
    simp
theorem evField_ok {s f : Nat} {x v : SV} {cs : List Cnd} (h : evField D s x f = some (cs, v)) (hx : x.ok ν q) (w : World) : v.ok ν q ∧ (Instr.field s (cv ν x) f).run P w = .ok (cv ν v) w := by
  unfold evField at h
  split at h
  · rename_i l n b e hs
    split at h
    · rename_i y p hy hp
      split at h
      · rename_i v' hv
        cases hb : Nat.beq (poff x.lay p) y.2 && fits D y.1 v' && x.st with
        | false => rw [hb] at h; cases h
        | true =>
          rw [hb] at h
          cases h
          simp only [Bool.and_eq_true] at hb
          have ho := Nat.eq_of_beq_eq_true hb.1.1
          obtain ⟨fs, h1, h2⟩ := hT.un s _ hs
          rw [← h2, List.getElem?_map] at hy
          cases hf : fs.toList[f]? with
          | none => rw [hf] at hy; cases hy
          | some fl =>
            rw [hf] at hy
            cases hy
            obtain ⟨p', r, g1, g2, g3, g4, g5, _⟩ := part_ok ν q 0 p x v hv hx (fpath_pok _ _ _ hp)
            refine ⟨g3, ?_⟩
            have hag : x.lay.agg = true := by
              cases hl : x.lay <;> rw [hl] at hp <;> cases f <;> first | rfl | cases hp
            rw [Array.getElem?_toList] at hf
            rw [cv_agg ν hag]
            simp only [Instr.field, Sem.run_bind, run_underlying h1, Result.andThen_ok, hf, asAgg, Sem.run_pure, g1]
            have := run_part hT (p := p') (r := r) hb.1.2 g3 w
            rw [g2, ho] at this
            exact this
      · cases h
    · cases h
  · cases h
theorem run_load {t : Nat} {v : SV} (h : fits D t v = true) (hv : v.ok ν q) {w : World} {b o : Nat} (hc : Cells w b o (cls ν v)) : (Instr.loadAt t (.pointer (some ⟨b, o, none⟩))).run P w = .ok (cv ν v) w := by
  obtain ⟨h1, h2, h3⟩ := fits_ok hT h
  have hl := cls_len ν v hv
  cases ha : v.lay.agg with
  | true =>
    have hl' := run_loadCells_list (P := P) w ⟨b, o, none⟩ (cls ν v) (fun j u hu => by rw [add_flat]; exact hc j u hu)
    rw [hl] at hl'
    rw [cv_agg ν ha]
    simp [Instr.loadAt, Instr.sureAddr, loadVar, h2, ha, h3, hl']
  | false =>
    have := hc.at (j := 0) (v := cv ν v) (by rw [cv_one ν ha h1]; rfl) (o' := o) rfl
    simp [Instr.loadAt, Instr.sureAddr, loadVar, h2, ha, this]
theorem TDok.agg' {t : Nat} {d : TD} (h : lookD D t = some d) {v : SV} (hv : (match agg2 d, v.lay.agg with | true, true => true | false, false => true | _, _ => false) = true) (w : World) : (isAgg t).run P w = .ok v.lay.agg w := by
  rw [hT.agg h w]
  cases h1 : agg2 d <;> cases h2 : v.lay.agg <;> rw [h1, h2] at hv <;> first | rfl | cases hv
end
section
variable {P : Program} {D : List (Nat × TD)} {ν : NV} {q : Nat}
theorem TDok.eqOk (hT : TDok P D) {t : Nat} (h : eOk D t = true) : P.eqGuardType P.depth t = false ∧ ∀ fs, P.underlying t = some (.struct fs) → P.stoodInHeld t = false ∧ ∀ f, f ∈ fs.toList → f.name ≠ "_" := by
  unfold eOk at h
  split at h
  · rename_i d hd; exact hT.eq t d hd h
  · cases h
theorem eqL_ok (hT : TDok P D) {f : Nat → SV → SV → Option Cnd} {m : Nat} (hf : ∀ t a b c, f t a b = some c → a.ok ν q → b.ok ν q → ∀ w, (Op.equalIn m t (cv ν a) (cv ν b)).run P w = .ok (@decide c.q c.d) w) :
    ∀ (fs : List Field) (o : Nat) (a b : SV) (cs : List Cnd), (∀ x, x ∈ fs → x.name ≠ "_") → eqL D f (fs.map (fun f => (f.type, f.offset))) o a b = some cs → a.ok ν q → b.ok ν q → ∀ (p p' : List Value), p.length = o → p'.length = o →
      ∀ w, (Op.eqFields m (p ++ cls ν a).toArray (p' ++ cls ν b).toArray fs).run P w = .ok (@decide (andC cs).q (andC cs).d) w
  | [], o, a, b, cs, _, h, ha, hb, p, p', hp, hp', w => by
    cases a <;> (try (cases h; done))
    cases b <;> (try (cases h; done))
    cases h
    rfl
  | [x], o, a, b, cs, hn, h, ha, hb, p, p', hp, hp', w => by
    cases a <;> (try (cases h; done))
    cases b <;> (try (cases h; done))
    rename_i a b
    replace h : (bif Nat.beq x.offset o && fits D x.type a && fits D x.type b then (match f x.type a b with | some c => some [c] | none => none) else none) = some cs := h
    cases hq : Nat.beq x.offset o && fits D x.type a && fits D x.type b with
    | false => rw [hq] at h; cases h
    | true =>
      rw [hq] at h
      simp only [cond_true] at h
      simp only [Bool.and_eq_true] at hq
      have ho := Nat.eq_of_beq_eq_true hq.1.1
      split at h
      · rename_i c hc
        cases h
        have h1 := run_part hT (r := []) (p := p) hq.1.2 ha w
        have h2 := run_part hT (r := []) (p := p') hq.2 hb w
        rw [List.append_nil, hp, ← ho] at h1
        rw [List.append_nil, hp', ← ho] at h2
        show (Op.eqFields m (p ++ cls ν a).toArray (p' ++ cls ν b).toArray [x]).run P w = .ok (@decide c.q c.d) w
        simp only [Op.eqFields, if_pos (hn x (by simp)), Sem.run_bind, h1, h2, Result.andThen_ok, hf _ _ _ _ hc ha hb w, Sem.run_ite]
        cases @decide c.q c.d <;> simp
      · cases h
  | x :: y :: r, o, a, b, cs, hn, h, ha, hb, p, p', hp, hp', w => by
    cases a <;> (try (cases h; done))
    cases b <;> (try (cases h; done))
    rename_i a c b d
    replace h : (bif Nat.beq x.offset o && fits D x.type a && fits D x.type b then (match f x.type a b, eqL D f ((y :: r).map (fun f => (f.type, f.offset))) (o + a.lay.sz) c d with
      | some k, some l => some (k :: l)
      | _, _ => none) else none) = some cs := h
    cases hq : Nat.beq x.offset o && fits D x.type a && fits D x.type b with
    | false => rw [hq] at h; cases h
    | true =>
      rw [hq] at h
      simp only [cond_true] at h
      simp only [Bool.and_eq_true] at hq
      have ho := Nat.eq_of_beq_eq_true hq.1.1
      split at h
      · rename_i k l hk hl
        cases h
        have h1 := run_part hT (r := cls ν c) (p := p) hq.1.2 ha.1 w
        have h2 := run_part hT (r := cls ν d) (p := p') hq.2 hb.1 w
        rw [hp, ← ho] at h1
        rw [hp', ← ho] at h2
        have e1 : p ++ cls ν (.pr a c) = p ++ cls ν a ++ cls ν c := by rw [List.append_assoc]; rfl
        have e2 : p' ++ cls ν (.pr b d) = p' ++ cls ν b ++ cls ν d := by rw [List.append_assoc]; rfl
        have hsz : b.lay.sz = a.lay.sz := by
          have g1 := (fits_ok hT hq.1.2).2.2 w
          have g2 := (fits_ok hT hq.2).2.2 w
          rw [g1] at g2
          simpa using g2.symm
        have ih := eqL_ok hT hf (y :: r) (o + a.lay.sz) c d l (fun z hz => hn z (by simp [hz])) hl ha.2 hb.2 (p ++ cls ν a) (p' ++ cls ν b) (by rw [List.length_append, hp, cls_len ν a ha.1]) (by rw [List.length_append, hp', cls_len ν b hb.1, hsz]) w
        rw [e1, e2]
        have hand : @decide (andC (k :: l)).q (andC (k :: l)).d = (@decide k.q k.d && @decide (andC l).q (andC l).d) := by
          cases l with
          | nil =>
            exfalso
            have : ∀ (l : List (Nat × Nat)) (z : Nat × Nat) o c d, eqL D f (z :: l) o c d ≠ some [] := by
              intro l z o c d hh
              cases l with
              | nil =>
                cases c <;> (try (cases hh; done))
                cases d <;> (try (cases hh; done))
                simp only [eqL, Bool.cond_eq_ite] at hh
                split at hh
                · split at hh <;> cases hh
                · cases hh
              | cons z2 l =>
                cases c <;> (try (cases hh; done))
                cases d <;> (try (cases hh; done))
                simp only [eqL, Bool.cond_eq_ite] at hh
                split at hh
                · split at hh <;> cases hh
                · cases hh
            exact this _ _ _ _ _ hl
          | cons k2 l =>
            show @decide (k.q ∧ (andC (k2 :: l)).q) (@instDecidableAnd _ _ k.d (andC (k2 :: l)).d) = _
            have d1 := k.d
            have d2 := (andC (k2 :: l)).d
            by_cases q1 : k.q <;> by_cases q2 : (andC (k2 :: l)).q <;> simp [q1, q2]
        rw [hand]
        conv => lhs; unfold Op.eqFields
        simp only [if_pos (hn x (by simp)), Sem.run_bind, h1, h2, Result.andThen_ok, hf _ _ _ _ hk ha.1 hb.1 w, Sem.run_ite]
        cases @decide k.q k.d with
        | false => simp
        | true => simpa using ih
      · cases h
theorem eqT_ok (hT : TDok P D) : ∀ (f t : Nat) (a b : SV) (c : Cnd), eqT D f t a b = some c → a.ok ν q → b.ok ν q → ∀ w m, (Op.equalIn (m + 1 + f) t (cv ν a) (cv ν b)).run P w = .ok (@decide c.q c.d) w
  | 0, _, _, _, _, h => by cases h
  | f + 1, t, a, b, c, h => by
    intro ha hb w m
    simp only [eqT] at h
    split at h
    · rename_i n e nn bb ee ht
      split at h
      · rename_i k bb' ee' k1 n1 xs k2 n2 ys he
        cases hq : kq k k1 && kq k k2 && Nat.beq n n1 && Nat.beq n n2 with
        | false => rw [hq] at h; cases h
        | true =>
          rw [hq] at h
          cases h
          simp only [Bool.and_eq_true] at hq
          have h1 := kq_eq hq.1.1.1
          have h2 := kq_eq hq.1.1.2
          have h3 := Nat.eq_of_beq_eq_true hq.1.2
          have h4 := Nat.eq_of_beq_eq_true hq.2
          subst h1 h2 h3 h4
          have hu := hT.un t _ ht
          have hue := hT.un e _ he
          rw [show m + 1 + (f + 1) = m + f + 1 + 1 by omega]
          exact run_arrEq (w := w) hu hue (hT.info he) (hT.size he w) (m + f + 1) (m + f) rfl xs ys ha.1 hb.1
      · cases h
    · rename_i l nn bb ht
      split at h
      · rename_i cs hcs
        cases h
        obtain ⟨fs, hu, hl⟩ := hT.un t _ ht
        obtain ⟨_, hst⟩ := hT.eq t _ ht rfl
        obtain ⟨h1, h2⟩ := hst fs hu
        have hfo : P.fieldsOf t = fs := by unfold Program.fieldsOf; rw [hu]
        rw [← hl] at hcs
        have hag : ∀ {x y : SV} {l : List (Nat × Nat)} {o : Nat} {cs : List Cnd}, eqL D (eqT D f) l o x y = some cs → x.lay.agg = true ∧ y.lay.agg = true := by
          intro x y l o cs hh
          unfold eqL at hh
          split at hh <;> first | exact ⟨rfl, rfl⟩ | cases hh
        obtain ⟨g1, g2⟩ := hag hcs
        have key := eqL_ok (m := m + 1 + f) hT (fun t a b c hc ha hb w => eqT_ok hT f t a b c hc ha hb w m) fs.toList 0 a b cs h2 hcs ha hb [] [] rfl rfl w
        rw [cv_agg ν g1, cv_agg ν g2, show m + 1 + (f + 1) = (m + 1 + f) + 1 by omega, run_equalIn_struct w (m + 1 + f) t _ _ (by rw [hfo]; exact hu) h1, hfo]
        exact key
      · cases h
    · rename_i k nn bb ee ht
      have hu := hT.un t _ ht
      have hZ : ∀ {x : SV} {z : Int}, xZ x = some z → cv ν x = .int .i64 z := by
        intro x z hx
        unfold xZ at hx
        split at hx <;> cases hx <;> rfl
      have fin : ∀ (k' : IntKind) (x y : Int) (c : Cnd), cv ν a = .int k' x → cv ν b = .int k' y → @decide c.q c.d = (x == y) → (Op.equalIn (m + 1 + (f + 1)) t (cv ν a) (cv ν b)).run P w = .ok (@decide c.q c.d) w := by
        intro k' x y c e1 e2 e3
        rw [e1, e2, e3, show m + 1 + (f + 1) = (m + 1 + f) + 1 by omega]
        exact run_equalIn_int w _ t k' k x y hu
      split at h
      · rename_i k1 x k2 y
        cases hq : kq k1 k2 with
        | false => rw [hq] at h; cases h
        | true =>
          rw [hq] at h
          cases h
          have := kq_eq hq
          subst this
          refine fin k1 _ _ _ rfl rfl ?_
          show decide (x.x = y.x) = (((x.x : Nat) : Int) == ((y.x : Nat) : Int))
          by_cases e : x.x = y.x
          · rw [e]; simp
          · have : ¬ (((x.x : Nat) : Int) = ((y.x : Nat) : Int)) := by omega
            simp [e, this]
      · split at h
        · rename_i x y hx hy
          cases h
          refine fin .i64 x y _ (hZ hx) (hZ hy) ?_
          show decide (x = y) = (x == y)
          by_cases e : x = y
          · simp [e]
          · simp [e]
        · cases h
    · rename_i nn bb ee ht
      have hu := hT.un t _ ht
      split at h
      · rename_i x y hx hy
        cases h
        rw [xB_ok hx ν, xB_ok hy ν, show m + 1 + (f + 1) = (m + 1 + f) + 1 by omega]
        refine (run_equalIn_bool' w _ t x y hu).trans ?_
        show Result.ok (x == y) w = Result.ok (decide (x = y)) w
        cases x <;> cases y <;> rfl
      · cases h
    · rename_i nn bb ee ht
      have hu := hT.un t _ ht
      split at h
      · rename_i x y hx hy
        cases h
        have hS : ∀ {z : SV} {l : List Nat}, xS z = some l → z = .S l := by
          intro z l hz
          unfold xS at hz
          split at hz <;> cases hz <;> rfl
        have e1 := hS hx
        have e2 := hS hy
        subst e1 e2
        rw [show m + 1 + (f + 1) = (m + 1 + f) + 1 by omega]
        refine (run_equalIn_string w _ t (str x) (str y) hu).trans ?_
        rw [str_beq ha hb]
        rfl
      · cases h
    · cases h
theorem eqT_agg {f t : Nat} {a b : SV} {c : Cnd} (h : eqT D f t a b = some c) (ha : a.lay.agg = true) : b.lay.agg = true := by
  cases f with
  | zero => cases h
  | succ f =>
    simp only [eqT] at h
    split at h
    · split at h
      · rfl
      · cases h
    · split at h
      · rename_i cs hcs
        unfold eqL at hcs
        split at hcs <;> first | rfl | cases hcs
      · cases h
    · split at h
      · cases ha
      · split at h
        · rename_i x y hx hy
          unfold xZ at hx
          split at hx <;> first | (cases hx; done) | cases ha
        · cases h
    · split at h
      · rename_i x y hx hy
        unfold xB at hx
        split at hx <;> first | (cases hx; done) | cases ha
      · cases h
    · split at h
      · rename_i x y hx hy
        unfold xS at hx
        split at hx <;> first | (cases hx; done) | cases ha
      · cases h
    · cases h
theorem evBin_ok (hT : TDok P D) {op : BinOp} {t : TypeId} {xo yo : Operand} {a b : SV} {cs : List Cnd} {v : SV} (ν : NV) (q : Nat) (h : evBin D op t a b = some (cs, v)) (hc : allC cs) (ha : a.ok ν q) (hb : b.ok ν q) :
    RunB P op t xo yo (cv ν a) (cv ν b) (cv ν v) ∧ v.ok ν q := by
  unfold evBin at h
  cases hag : a.lay.agg with
  | true =>
    rw [hag] at h
    simp only [cond_true] at h
    cases heq : eOk D t with
    | false => rw [heq] at h; cases h
    | true =>
      rw [heq] at h
      obtain ⟨c, hd, h1, h2⟩ := eqR_ok (show eqR _ _ = _ from h) ν q
      refine ⟨fun w => ?_, h2⟩
      have hk := eqT_ok hT 9 t a b c hd ha hb w (Op.maxDepth - 10)
      rw [show Op.maxDepth - 10 + 1 + 9 = Op.maxDepth by decide] at hk
      have hagb : b.lay.agg = true := eqT_agg hd hag
      rw [cv_agg ν hag, cv_agg ν hagb] at hk ⊢
      have hg := (hT.eqOk heq).1
      rcases h1 with ⟨rfl, h1⟩ | ⟨rfl, h1⟩
      · rw [h1]
        simp only [Sem.run_bind, guard_agg hg, Result.andThen_ok, binOp, Op.equal, hk]
        rfl
      · rw [h1]
        simp only [Sem.run_bind, guard_agg hg, Result.andThen_ok, binOp, Op.equal, hk]
        rfl
  | false =>
    rw [hag] at h
    simp only [cond_false] at h
    split at h
    · rename_i d hd
      exact binS_ok (hT.un t d hd) ν q h hc ha hb hag
    · cases h
end
end Go.Proofs.Ytnagkhofkjjajaa

/- The symbolic walk is sound: operations that read memory, slices, conversions. Lemmas, no statement of the claim. -/
set_option linter.unusedVariables false
set_option linter.unusedSimpArgs false
namespace Go.Proofs.Ytnagkhofkjjajaa
open Go.RowKit

/-- What an operation's run leaves. -/
def VOk (P : Program) (ν : NV) (q : Nat) (w0 : World) (X : XS) (w : World) (s : Sem Value) (e : Ef) : Prop :=
  ∃ ν' w', Agr q ν ν' ∧ s.run P w = .ok (cv ν' e.v) w' ∧ Mem ν' (q + 1) w0 X e.H w' ∧ e.v.ok ν' (q + 1)
theorem EachQ.get {w : World} {D : List Nat} {a : Sh} : ∀ {ps : List (Option Addr × Nat)} {xss : List (List a.T)}, EachQ w D a ps xss → ∀ {j : Nat}, j < xss.length →
    ∃ (p : Option Addr × Nat) (x : List a.T), (hdq ps xss)[j]? = some (.slice p.1 x.length p.2) ∧ xss.getD j [] = x ∧ Rd w p.1 (rowC a x) ∧ (∀ y, y ∈ x → okS a y) ∧ x.length ≤ p.2 ∧ p.2 ≤ maxLen ∧ (0 < p.2 → flat p.1) ∧ (rowC a x ≠ [] → ∀ b, oblk p.1 = some b → b ∈ D)
  | p :: ps, x :: xss, h, 0, _ => ⟨p, x, rfl, rfl, h.1⟩
  | p :: ps, x :: xss, h, j + 1, hj => by
    obtain ⟨p', x', h1, h2, h3⟩ := EachQ.get h.2 (j := j) (by simpa using hj)
    exact ⟨p', x', by simpa [hdq] using h1, by simpa using h2, h3⟩
  | [], [], _, j, hj => by simp at hj
  | [], _ :: _, h, _, _ => h.elim
  | _ :: _, [], h, _, _ => h.elim
theorem beqT {a b : Nat} (h : Nat.beq a b = true) : a = b := Nat.eq_of_beq_eq_true h
section
variable {P : Program} {D : List (Nat × TD)} {ν : NV} {q : Nat} {w0 : World} {X : XS} {H : List (Nat × Nat × HC)} {w : World}
theorem VOk.pure (M : Mem ν q w0 X H w) {s : Sem Value} {v : SV} {cs : List Cnd} (hr : s.run P w = .ok (cv ν v) w) (hv : v.ok ν q) : VOk P ν q w0 X w s ⟨cs, v, H⟩ :=
  ⟨ν, w, Agr.refl _ _, hr, M.mono (Nat.le_succ _), ok_mono (Nat.le_succ _) v hv⟩
theorem slok_self {c : Nat} {e : Lay} (hl : (ν c).lay = .rw e) (h1 : (ν c).n ≤ (ν c).c) (h2 : (ν c).c ≤ maxLen) (h3 : 0 < (ν c).c → flat (ν c).A) {n : Nat} (hn : (ν c).n = n) : SlOk ν c [] c 0 n true false := by
  subst hn
  refine ⟨rfl, h1, h2, (by intro h; cases h), trivial, h3, (ν c).A, (ν c).n, (ν c).c, e.sz, by unfold bas; rw [hl], rfl, fun _ => rfl, fun hc => ?_, fun _ => Nat.zero_add _, by omega, fun _ => Nat.zero_add _⟩
  rw [h3 hc]; simp [add_flat]
variable (hT : TDok P D)
include hT
theorem evLoad_ok (M : Mem ν q w0 X H w) {S : St} (hS : S.H = H) {t : Nat} {x : SV} {e : Ef} (h : evLoad D q S t x = some e) (hx : x.ok ν q) : VOk P ν q w0 X w (Instr.loadAt t (cv ν x)) e := by
  subst hS
  unfold evLoad at h
  split at h
  · rename_i c pa v lo m
    split at h
    · rename_i n el dn b' e' hh ht hc
      split at h
      · rename_i k n2 b2 e2 he
        split at h
        · rename_i xs hr
          obtain ⟨ys, rfl⟩ : ∃ ys : List Nat, ys = xs := ⟨xs, rfl⟩
          cases hb : Nat.beq n m && Nat.beq dn m with
          | false => rw [hb] at h; cases h
          | true =>
            rw [hb] at h
            cases h
            simp only [Bool.and_eq_true] at hb
            obtain ⟨hx1, hx2, n0, tl, mx, hS, hm, h0⟩ := hx
            have hok := M.ok _ _ hc
            have hp := hS.pok
            rw [HC.lay_ok hok] at hp
            obtain ⟨A, L, K, g1, g2, g3, g4, g5, g6⟩ := HC.row_ok hok hr hp
            have hrd := slok_rd hS g1 (by rw [rowC_len (.N k) ys g4, g3]) g2
            obtain ⟨A', L', K', s', i1, i2, i3, i4, i5, i6, i7⟩ := hS.bas
            rw [g1] at i1
            cases i1
            have hn0 := hS.cap
            have hlen : ys.length = L := g3
            have hcut : @cutL Nat lo ⟨true, m⟩ false ys = @List.take Nat m (@List.drop Nat lo.x ys) := cutL_eq (by show lo.x + m ≤ _; omega) (by intro h; cases h)
            have hok' : SV.ok ν q (.an k m (@cutL Nat lo ⟨true, m⟩ false ys)) := by
              rw [hcut]
              obtain ⟨k1, k2, k3⟩ := cut_ok (n := m) (lo := lo.x) g4 (by omega)
              exact ⟨k2, k3⟩
            have hcell : Cells w (ablk (ν v).A) (aoff (ν v).A) (cls ν (.an k m (@cutL Nat lo ⟨true, m⟩ false ys))) := by
              have := (hrd.take m).cells
              rw [List.take_take, show min m (n0 * (Sh.N k).lay.sz) = m from by show min m (n0 * 1) = m; omega] at this
              rw [show cls ν (.an k m (@cutL Nat lo ⟨true, m⟩ false ys)) = vs k (@cutL Nat lo ⟨true, m⟩ false ys) from rfl, hcut, ← vs_take, ← vs_drop]
              rw [rowC_N] at this
              simpa [Sh.lay, Lay.sz] using this
            have hA : (ν v).A = some ⟨ablk (ν v).A, aoff (ν v).A, none⟩ := hS.adr (by omega)
            refine VOk.pure M ?_ hok'
            have hfit : fits D t (.an k m (@cutL Nat lo ⟨true, m⟩ false ys)) = true := by
              unfold fits
              rw [ht]
              simp [SV.st, SV.lay, Lay.sz, Lay.agg, agg2, beqT hb.2]
            show (Instr.loadAt t (.pointer (ν v).A)).run P w = _
            rw [hA]
            exact run_load hT hfit hok' hcell
        · cases h
      · cases h
    · cases h
  · rename_i c lay pa
    split at h
    · rename_i hh hc
      cases hq : hh.lay.q lay with
      | false => rw [hq] at h; cases h
      | true =>
        rw [hq] at h
        simp only [cond_true] at h
        have hlay := lay_q hq
        obtain ⟨hx1, hx2, hx3⟩ := hx
        have hok := M.ok _ _ hc
        split at h
        · rename_i a n xss i
          cases hag : flatT D t with
          | false => rw [hag] at h; cases h
          | true =>
            rw [hag] at h
            cases h
            have hag' : (isAgg t).run P w = .ok false w := by
              unfold flatT at hag
              split at hag
              · rename_i d hd
                rw [hT.agg hd w]
                cases h1 : agg2 d <;> rw [h1] at hag <;> first | rfl | cases hag
              · cases hag
            obtain ⟨h1, h2, h3, h4, h5, h0, ps, h6, h7, h8⟩ := hok
            have hlay' : lay = .rw .C := hlay.symm
            subst hlay'
            have hi : i.x < xss.length := by
              have := hx3.1
              rw [h3, ← h2]; exact this
            obtain ⟨p, x, g1, g2, g3, g4, g5, g6, g7, g8⟩ := h7.get hi
            rw [g2]
            have hcell := h6.cells.at g1 (o' := aoff (ν c).A + i.x) rfl
            obtain ⟨DD, hin, hDD⟩ : ∃ DD : List Nat, (∀ b, b ∈ DD → b ∈ (ν c).D) ∧ (rowC a x ≠ [] → ∀ b, oblk p.1 = some b → b ∈ DD) := by
              by_cases hz : rowC a x = []
              · exact ⟨[], (by intro b hb; cases hb), fun h => absurd hz h⟩
              · exact ⟨(oblk p.1).toList, fun b hb => g8 hz b (by simpa using hb), fun _ b hb => by rw [hb]; simp⟩
            let ν' := upN ν q ⟨p.1, p.2, x.length, DD, .rw a.lay⟩
            have hagr : Agr q ν ν' := upN_agr _ _ _
            have e1 : ν' q = ⟨p.1, p.2, x.length, DD, .rw a.lay⟩ := upN_self _ _ _
            refine ⟨ν', w, hagr, ?_, ?_, ?_⟩
            · show (Instr.loadAt t (cv ν _)).run P w = .ok (.slice (ν' q).A x.length (ν' q).c) w
              rw [e1]
              have : cv ν (.ptr c (.rw .C) [.ix i]) = .pointer (some ⟨ablk (ν c).A, aoff (ν c).A + i.x, none⟩) := by
                simp [cv, cv3, poff, poffP, Lay.sz]
              rw [this]
              simp [Instr.loadAt, Instr.sureAddr, loadVar, hag', hcell]
            · refine M.add (Nat.le_refl _) hagr ?_ ?_ (by intro h; cases h) ?_ ?_
              · exact ⟨⟨rfl, g4, by rw [e1], by rw [e1], by rw [e1]; exact g5, by rw [e1]; exact g6, by rw [e1]; exact g7⟩, by rw [e1]; exact g3, by rw [e1]; exact hDD⟩
              · rw [e1]; exact fun b hb => M.lt c _ hc b (hin b hb)
              · rw [e1]
                intro d y hd hy b hb hb2
                by_cases hdc : d = c
                · subst hdc
                  rw [hc] at hd; cases hd; cases hy
                · exact M.ne d c y _ hd hc hdc hy b hb (hin b hb2)
              · rw [e1]; exact fun _ b hb => M.src c _ hc b (hin b hb)
            · refine ⟨Nat.lt_succ_self _, Nat.lt_succ_self _, ?_⟩
              exact slok_self (e := a.lay) (by rw [e1]) (by rw [e1]; exact g5) (by rw [e1]; exact g6) (by rw [e1]; exact g7) (by rw [e1])
        · split at h
          · rename_i v hv
            cases hf : fits D t v with
            | false => rw [hf] at h; cases h
            | true =>
              rw [hf] at h
              cases h
              have hp := hx3
              rw [← hlay] at hp
              obtain ⟨g1, g2, g3, g4⟩ := HC.at_ok hok hv hp
              refine VOk.pure M ?_ g1
              rw [hlay] at g4
              exact run_load hT hf g1 g4
          · cases h
    · cases h
  · cases h
omit hT in
theorem oblk_add (A : Option Addr) (k : Nat) : oblk (A.map (·.add k)) = oblk A := by
  cases A with
  | none => rfl
  | some a => simp [oblk, Addr.add]; split <;> rfl
omit hT in
theorem bas_ar' {c : Nat} {l : Lay} {pa : List PS} {m : Nat} (hc : (ν c).lay = l) (h : l.sub pa = some (.ar m)) : bas ν c pa = some (some ⟨ablk (ν c).A, aoff (ν c).A + poff l pa, none⟩, m, m, 1) := by
  unfold bas
  rw [hc]
  cases l <;> cases pa <;> first | (simp only [h]; done) | (cases h; done)
omit hT in
theorem bnS_ok {S : St} {ev : Operand → Value} (hev : ∀ x v, opS S.get x = some v → ev x = cv ν v ∧ v.ok ν q) {o : Option Operand} {d a : NT} {cs : List Cnd} (h : bnS S.get o d = some (cs, a)) (hc : allC cs) :
    (o = none ∧ a = d) ∨ (∃ x k, o = some x ∧ ev x = .int k ((a.x : Nat) : Int)) := by
  unfold bnS at h
  split at h
  · cases h; exact .inl ⟨rfl, rfl⟩
  · split at h
    · rename_i k y hx
      cases h
      exact .inr ⟨_, k, rfl, (hev _ _ hx).1⟩
    · rename_i l y hx
      cases h
      have h0 : 0 ≤ y := hc.1
      refine .inr ⟨_, .i64, rfl, (hev _ _ hx).1.trans ?_⟩
      show Value.int .i64 y = .int .i64 ((y.toNat : Nat) : Int)
      rw [Int.toNat_of_nonneg h0]
    · cases h
omit hT in
theorem run_bnd (k : IntKind) (i y : Nat) (code : BoundsCode) (h : i ≤ y) (w : World) : (Instr.sliceBound (.int k ((i : Nat) : Int)) y code).run P w = .ok i w := run_bound k i y code h w
omit hT in
theorem bounds_ok {ev : Operand → Value} {lo hi mx : Option Operand} {b : Bool} {m0 c0 l h m : Nat} (hl : (lo = none ∧ l = 0) ∨ (∃ x k, lo = some x ∧ ev x = .int k ((l : Nat) : Int)))
    (hh : (hi = none ∧ h = m0) ∨ (∃ x k, hi = some x ∧ ev x = .int k ((h : Nat) : Int))) (hm : (mx = none ∧ m = c0) ∨ (∃ x k, mx = some x ∧ ev x = .int k ((m : Nat) : Int)))
    (h1 : l ≤ h) (h2 : h ≤ m) (h3 : m ≤ c0) (h4 : mx ≠ none → hi ≠ none) (w : World) : (Instr.sliceBounds b m0 c0 (lo.map ev) (hi.map ev) (mx.map ev)).run P w = .ok (l, h, m) w := by
  unfold Instr.sliceBounds
  rcases hm with ⟨rfl, rfl⟩ | ⟨z, kz, rfl, hz⟩
  · rcases hh with ⟨rfl, rfl⟩ | ⟨y, ky, rfl, hy⟩
    · rcases hl with ⟨rfl, rfl⟩ | ⟨x, kx, rfl, hx⟩
      · simp
      · simp [hx, run_bnd _ _ _ _ h1]
    · rcases hl with ⟨rfl, rfl⟩ | ⟨x, kx, rfl, hx⟩
      · simp [hy, run_bnd _ _ _ _ h2]
      · simp [hx, hy, run_bnd _ _ _ _ h1, run_bnd _ _ _ _ h2]
  · rcases hh with ⟨rfl, rfl⟩ | ⟨y, ky, rfl, hy⟩
    · exact absurd rfl (h4 (by simp))
    · rcases hl with ⟨rfl, rfl⟩ | ⟨x, kx, rfl, hx⟩
      · simp [hy, hz, run_bnd _ _ _ _ h2, run_bnd _ _ _ _ h3]
      · simp [hx, hy, hz, run_bnd _ _ _ _ h1, run_bnd _ _ _ _ h2, run_bnd _ _ _ _ h3]
omit hT in
theorem isNone_t {α : Type} {o : Option α} (h : o.isNone = true) : o = none := by cases o <;> first | rfl | cases h
omit hT in
/-- a new name for a value that is no piece of memory -/
theorem VOk.view (M : Mem ν q w0 X H w) {s : Sem Value} {x : NmS} {v : SV} {cs : List Cnd} (hr : s.run P w = .ok (cv (upN ν q x) v) w) (hv : v.ok (upN ν q x) (q + 1)) : VOk P ν q w0 X w s ⟨cs, v, H⟩ :=
  ⟨upN ν q x, w, upN_agr _ _ _, hr, (M.agr (upN_agr _ _ _)).mono (Nat.le_succ _), hv⟩
theorem evSlice_ok (M : Mem ν q w0 X H w) {S : St} (hS : S.H = H) {ev : Operand → Value} (hev : ∀ x v, opS S.get x = some v → ev x = cv ν v ∧ v.ok ν q) {t : Nat} {x : SV} {lo hi mx : Option Operand} {e : Ef}
    (h : evSlice D q S t x lo hi mx = some e) (hc : allC e.cs) (hx : x.ok ν q) : VOk P ν q w0 X w (Instr.sliceAt t (cv ν x) (lo.map ev) (hi.map ev) (mx.map ev)) e := by
  subst hS
  unfold evSlice at h
  split at h
  · rename_i el n' b' e' c pa v l n tl om ht
    split at h
    · rename_i c1 a c2 b c3 m h1 h2 h3
      cases hb : szOk D S.H el c pa && !(om && mx.isNone && hi.isSome) && (hi.isSome || mx.isNone) with
      | false => rw [hb] at h; cases h
      | true =>
        rw [hb] at h
        simp only [cond_true] at h
        simp only [Bool.and_eq_true] at hb
        obtain ⟨⟨hsz, hom⟩, hmh⟩ := hb
        split at h
        · rename_i d1 d2 d3 k1 k2 k3
          cases h
          rw [allC_app, allC_app, allC_app, allC_app, allC_app] at hc
          obtain ⟨g1, g2, g3, g4, g5, g6⟩ := hc
          have hlo := bnS_ok hev h1 g1
          have hhi := bnS_ok hev h2 g2
          have hmx := bnS_ok hev h3 g3
          obtain ⟨hx1, hx2, hS⟩ := hx
          obtain ⟨A, L, K, s, i1, i2, i3, i4, i5, i6, i7⟩ := hS.bas
          have hcap := hS.cap
          have hab := leN_ok k1 g4
          have hbn : b.x ≤ n.x := by
            rcases hhi with ⟨rfl, rfl⟩ | ⟨y, k, rfl, _⟩
            · exact Nat.le_refl _
            · exact leN_ok k2 g5
          have hmb : mx ≠ none → m.x = b.x := by
            intro hne
            cases hq : mx with
            | none => exact absurd hq hne
            | some z =>
              rw [hq] at k3
              simp only [mxN] at k3
              split at k3
              · rename_i p p' e1 e2
                cases k3
                rw [allC_app] at g6
                have := leN_ok e1 g6.1
                have := leN_ok e2 g6.2
                omega
              · cases k3
          -- the room that is left
          have hm : ∃ M0, ((mx = none ∧ M0 = (ν v).c) ∨ (∃ x k, mx = some x ∧ ev x = .int k ((M0 : Nat) : Int))) ∧ b.x ≤ M0 ∧ M0 ≤ (ν v).c ∧ (mx ≠ none → M0 = b.x) ∧ (mx = none → M0 = (ν v).c) := by
            rcases hmx with ⟨rfl, rfl⟩ | ⟨z, k, rfl, hz⟩
            · exact ⟨(ν v).c, .inl ⟨rfl, rfl⟩, by omega, Nat.le_refl _, fun h => absurd rfl h, fun _ => rfl⟩
            · have := hmb (by simp)
              exact ⟨m.x, .inr ⟨z, k, rfl, hz⟩, by omega, by omega, fun _ => this, fun h => by cases h⟩
          obtain ⟨M0, hM1, hM2, hM3, hM4, hM5⟩ := hm
          have hu := hT.un t _ ht
          unfold szOk at hsz
          split at hsz
          · rename_i hh hch
            have hok := M.ok _ _ hch
            obtain ⟨j1, j2, j3, _⟩ := HC.bas_ok hok i1
            have hsize := tn_ok hT hsz
            rw [← j1] at hsize
            have hlo' : (lo = none ∧ a.x = 0) ∨ (∃ x k, lo = some x ∧ ev x = .int k ((a.x : Nat) : Int)) := by
              rcases hlo with ⟨q1, q2⟩ | q
              · exact .inl ⟨q1, by rw [q2]⟩
              · exact .inr q
            have hhi' : (hi = none ∧ b.x = n.x) ∨ (∃ x k, hi = some x ∧ ev x = .int k ((b.x : Nat) : Int)) := by
              rcases hhi with ⟨q1, q2⟩ | q
              · exact .inl ⟨q1, by rw [q2]⟩
              · exact .inr q
            have hbd := bounds_ok (P := P) (b := true) hlo' hhi' hM1 hab hM2 hM3 (fun hne hn => by
              rw [hn] at hmh
              simp at hmh
              exact hne hmh) w
            let A2 : Option Addr := if M0 = a.x then (ν v).A else (ν v).A.map (·.add (a.x * s))
            have hA2 : oblk A2 = oblk A := by
              show oblk (if M0 = a.x then (ν v).A else (ν v).A.map (·.add (a.x * s))) = _
              split
              · exact i2
              · rw [oblk_add]; exact i2
            have hpos : a.x < M0 → A2 = A.map (·.add ((l.x + a.x) * s)) ∧ flat A2 := by
              intro hlt
              have hKp : 0 < K := by
                cases om with
                | false => have := i5 rfl; omega
                | true => have := hS.full rfl; omega
              have e1 : A2 = (ν v).A.map (·.add (a.x * s)) := if_neg (by omega)
              have e2 := i4 (by omega)
              have e3 := j2 hKp
              rw [e1, e2, e3]
              simp [add_flat, flat, ablk, aoff, Nat.add_mul, Nat.add_assoc]
            refine VOk.view M (x := ⟨A2, M0 - a.x, b.x - a.x, [], .C⟩) ?_ ?_
            · show (Instr.sliceAt t (.slice (ν v).A n.x (ν v).c) _ _ _).run P w = .ok (.slice (upN ν q _ q).A (subN b a).x (upN ν q _ q).c) w
              rw [upN_self, subN_x]
              simp only [Sem.run_bind, Instr.sliceAt, run_underlying hu, Result.andThen_ok, Instr.slice, hbd, hsize, Sem.run_pure]
              rfl
            · refine ⟨Nat.lt_succ_of_lt hx1, Nat.lt_succ_self _, ?_⟩
              have hagr := upN_agr ν q ⟨A2, M0 - a.x, b.x - a.x, [], .C⟩
              have hself := upN_self ν q ⟨A2, M0 - a.x, b.x - a.x, [], .C⟩
              refine ⟨by rw [hself, subN_x], by rw [hself, subN_x]; show b.x - a.x ≤ M0 - a.x; omega, by rw [hself]; have := hS.max; show M0 - a.x ≤ _; omega, fun hq => ?_, by rw [hagr c hx1]; exact hS.pok, fun hp => ?_, A, L, K, s, ?_, ?_, fun h0 => ?_, fun hp => ?_, fun hq => ?_, ?_, fun hq => ?_⟩
              · rw [hself, subN_x]
                show M0 - a.x = b.x - a.x
                cases hmm : mx with
                | some z => rw [hM4 (by rw [hmm]; simp)]
                | none =>
                  rw [hmm] at hq hom
                  have hom' : om = true := by simpa using hq
                  subst hom'
                  have := hS.full rfl
                  have hh0 : hi = none := by
                    cases hi with
                    | none => rfl
                    | some y => simp at hom
                  rcases hhi' with ⟨_, q2⟩ | ⟨y, k, q1, _⟩
                  · rw [hM5 hmm, this, q2]
                  · rw [hh0] at q1; cases q1
              · rw [hself] at hp ⊢
                exact (hpos (by have : 0 < M0 - a.x := hp; omega)).2
              · rw [bas_agr hagr hx1]; exact i1
              · rw [hself]; exact hA2
              · rw [hself]
                rw [addN_x] at h0
                show A2 = A
                have e0 : a.x = 0 := by omega
                have el0 := i3 (by omega)
                show (if M0 = a.x then (ν v).A else (ν v).A.map (·.add (a.x * s))) = A
                split
                · exact el0
                · rename_i hne
                  have hfl := hS.adr (by omega)
                  rw [e0, Nat.zero_mul, ← el0, hfl]
                  simp [add_flat]
              · rw [hself] at hp ⊢
                rw [addN_x]
                exact (hpos (by have : 0 < M0 - a.x := hp; omega)).1
              · rw [hself, addN_x]
                have hq' : mx = none ∧ om = false := by
                  cases mx with
                  | some z => simp at hq
                  | none => exact ⟨rfl, by simpa using hq⟩
                have := i5 hq'.2
                have := hM5 hq'.1
                show l.x + a.x + (M0 - a.x) = K
                omega
              · rw [addN_x, subN_x]; omega
              · rw [addN_x, subN_x]
                simp only [Bool.and_eq_true] at hq
                have := i7 hq.1
                have hh0 := isNone_t hq.2
                rcases hhi' with ⟨_, q2⟩ | ⟨y, k, q1, _⟩
                · omega
                · rw [hh0] at q1; cases q1
          · cases hsz
        · cases h
    · cases h
  · rename_i el n' b' e' ht
    split at h
    · rename_i c1 a c2 b h1 h2
      cases hb : mx.isNone && (lookD D el).isSome with
      | false => rw [hb] at h; cases h
      | true =>
        rw [hb] at h
        simp only [cond_true] at h
        simp only [Bool.and_eq_true] at hb
        have hmx := isNone_t hb.1
        subst hmx
        split at h
        · rename_i d1 d2 k1 k2
          cases h
          rw [allC_app, allC_app, allC_app] at hc
          obtain ⟨g1, g2, g3, g4⟩ := hc
          have ha : a.x ≤ 0 := leN_ok k1 g3
          have hb2 : b.x ≤ 0 := leN_ok k2 g4
          have hlo := bnS_ok hev h1 g1
          have hhi := bnS_ok hev h2 g2
          have hu := hT.un t _ ht
          have hl' : (lo = none ∧ (0 : Nat) = 0) ∨ (∃ x k, lo = some x ∧ ev x = .int k (((0 : Nat) : Nat) : Int)) := by
            rcases hlo with ⟨q1, q2⟩ | ⟨y, k, q1, q2⟩
            · exact .inl ⟨q1, rfl⟩
            · exact .inr ⟨y, k, q1, by rw [q2, show a.x = 0 by omega]⟩
          have hh' : (hi = none ∧ (0 : Nat) = 0) ∨ (∃ x k, hi = some x ∧ ev x = .int k (((0 : Nat) : Nat) : Int)) := by
            rcases hhi with ⟨q1, q2⟩ | ⟨y, k, q1, q2⟩
            · exact .inl ⟨q1, rfl⟩
            · exact .inr ⟨y, k, q1, by rw [q2, show b.x = 0 by omega]⟩
          have hbd := bounds_ok (P := P) (b := true) (mx := none) (m := 0) (c0 := 0) hl' hh' (.inl ⟨rfl, rfl⟩) (Nat.le_refl _) (Nat.le_refl _) (Nat.le_refl _) (fun h => absurd rfl h) w
          refine VOk.pure M ?_ trivial
          show (Instr.sliceAt t (.slice none 0 0) _ _ _).run P w = .ok (.slice none 0 0) w
          have hel : ∃ sz, (sizeOf el).run P w = .ok sz w := by
            cases hd : lookD D el with
            | none => rw [hd] at hb; cases hb.2
            | some d => exact ⟨_, hT.size hd w⟩
          obtain ⟨sz, hsz⟩ := hel
          simp only [Sem.run_bind, Instr.sliceAt, run_underlying hu, Result.andThen_ok, Instr.slice, hbd, hsz, Sem.run_pure]
          rfl
        · cases h
    · cases h
  · rename_i n el n' b' e' c lay pa ht
    split at h
    · rename_i m c1 a c2 b hs h1 h2
      cases hb : Nat.beq n m && mx.isNone && Nat.ble n 140737488355328 && tn D el 1 with
      | false => rw [hb] at h; cases h
      | true =>
        rw [hb] at h
        simp only [cond_true] at h
        simp only [Bool.and_eq_true] at hb
        obtain ⟨⟨⟨hb1, hb2⟩, hb3⟩, hb4⟩ := hb
        have := beqT hb1
        subst this
        have hmx := isNone_t hb2
        subst hmx
        have hn : n ≤ 140737488355328 := Nat.le_of_ble_eq_true hb3
        split at h
        · rename_i d1 d2 k1 k2
          cases h
          rw [allC_app, allC_app, allC_app] at hc
          obtain ⟨g1, g2, g3, g4⟩ := hc
          have hab := leN_ok k1 g3
          have hbn : b.x ≤ n := leN_ok k2 g4
          have hlo := bnS_ok hev h1 g1
          have hhi := bnS_ok hev h2 g2
          have hu := hT.un t _ ht
          have hlo' : (lo = none ∧ a.x = 0) ∨ (∃ x k, lo = some x ∧ ev x = .int k ((a.x : Nat) : Int)) := by
            rcases hlo with ⟨q1, q2⟩ | q
            · exact .inl ⟨q1, by rw [q2]⟩
            · exact .inr q
          have hhi' : (hi = none ∧ b.x = n) ∨ (∃ x k, hi = some x ∧ ev x = .int k ((b.x : Nat) : Int)) := by
            rcases hhi with ⟨q1, q2⟩ | q
            · exact .inl ⟨q1, by rw [q2]⟩
            · exact .inr q
          have hbd := bounds_ok (P := P) (b := false) (mx := none) (m := n) (c0 := n) hlo' hhi' (.inl ⟨rfl, rfl⟩) hab hbn (Nat.le_refl _) (fun h => absurd rfl h) w
          obtain ⟨hx1, hx2, hx3⟩ := hx
          have hbas := bas_ar' hx2 hs
          let A2 : Option Addr := some (if n = a.x then ⟨ablk (ν c).A, aoff (ν c).A + poff lay pa, none⟩ else ⟨ablk (ν c).A, aoff (ν c).A + poff lay pa + a.x, none⟩)
          refine VOk.view M (x := ⟨A2, n - a.x, b.x - a.x, [], .C⟩) ?_ ?_
          · show (Instr.sliceAt t (.pointer _) _ _ _).run P w = .ok (.slice (upN ν q _ q).A (subN b a).x (upN ν q _ q).c) w
            rw [upN_self, subN_x]
            simp only [Sem.run_bind, Instr.sliceAt, run_underlying hu, Result.andThen_ok, Instr.sureAddr, Sem.run_pure]
            simp only [Option.map_none] at hbd
            simp only [Option.map_none, hbd, Sem.run_bind, Result.andThen_ok, tn_ok hT hb4, Sem.run_pure, add_flat, Nat.mul_one]
            rfl
          · refine ⟨Nat.lt_succ_of_lt hx1, Nat.lt_succ_self _, ?_⟩
            have hagr := upN_agr ν q ⟨A2, n - a.x, b.x - a.x, [], .C⟩
            have hself := upN_self ν q ⟨A2, n - a.x, b.x - a.x, [], .C⟩
            refine ⟨by rw [hself, subN_x], by rw [hself, subN_x]; show b.x - a.x ≤ n - a.x; omega, by rw [hself]; show n - a.x ≤ maxLen; unfold maxLen; omega, (by intro h; cases h), by rw [hagr c hx1, hx2]; exact hx3, fun hp => ?_, _, n, n, 1, by rw [bas_agr hagr hx1]; exact hbas, ?_, fun h0 => ?_, fun hp => ?_, fun hq => ?_, ?_, fun hq => ?_⟩
            · rw [hself]; show flat A2; show flat (some _); split <;> simp [flat, ablk, aoff]
            · rw [hself]; show oblk (some _) = _; split <;> rfl
            · rw [hself]
              show A2 = _
              show some (if n = a.x then _ else _) = _
              rw [show a.x = 0 from h0]
              split <;> simp
            · rw [hself] at hp ⊢
              have : 0 < n - a.x := hp
              show some (if n = a.x then _ else _) = _
              rw [if_neg (by omega)]
              simp [add_flat]
            · rw [hself]; show a.x + (n - a.x) = n; omega
            · rw [subN_x]; omega
            · rw [subN_x]
              have hh0 := isNone_t hq
              rcases hhi' with ⟨_, q2⟩ | ⟨y, k, q1, _⟩
              · omega
              · rw [hh0] at q1; cases q1
        · cases h
    · cases h
  · cases h
theorem evSap_ok {t : Nat} {x v : SV} {cs : List Cnd} (h : evSap D t x = some (cs, v)) (hc : allC cs) (hx : x.ok ν q) (w : World) : v.ok ν q ∧ (Instr.arrayAt t (cv ν x)).run P w = .ok (cv ν v) w := by
  unfold evSap at h
  split at h
  · rename_i c pa v' lo n tl mx
    split at h
    · rename_i m e n' b' e' ht
      split at h
      · rename_i cs' hl
        cases hb : Nat.blt 0 m with
        | false => rw [hb] at h; cases h
        | true =>
          rw [hb] at h
          cases h
          have hle : m ≤ n.x := leN_ok hl hc
          have hu := hT.un t _ ht
          obtain ⟨hx1, hx2, hS⟩ := hx
          refine ⟨⟨hx1, hx2, n.x, tl, mx, hS, hle, by simpa using hb⟩, ?_⟩
          show (Instr.arrayAt t (.slice (ν v').A n.x (ν v').c)).run P w = .ok (.pointer (ν v').A) w
          simp only [Instr.arrayAt, Sem.run_bind, run_underlying hu, Result.andThen_ok]
          rw [if_neg (by omega)]
          rfl
      · cases h
    · cases h
  · cases h
theorem evLen_ok {t : Nat} {x v : SV} {cs : List Cnd} (h : evLen D t x = some (cs, v)) (hc : allC cs) (hx : x.ok ν q) (ty : TypeId) (w : World) : v.ok ν q ∧ (Builtin.len_ #[t] ty #[cv ν x]).run P w = .ok (cv ν v) w := by
  unfold evLen at h
  split at h
  · rename_i e n' b' e' c pa u lo n tl mx ht
    cases h
    have hu := hT.un t _ ht
    have h1 := hx.2.2.cap
    have h2 := hx.2.2.max
    refine ⟨?_, ?_⟩
    · show n.x < 9223372036854775808
      unfold maxLen at h2
      omega
    · simp [cv, cv3, Builtin.len_, run_underlying hu, goInt]
  · rename_i e n' b' e' ht
    cases h
    have hu := hT.un t _ ht
    refine ⟨(by show (0 : Nat) < 9223372036854775808; decide), ?_⟩
    simp [cv, cv3, Builtin.len_, run_underlying hu, goInt]
  · rename_i n' b' e' xs ht
    cases h
    have hu := hT.un t _ ht
    refine ⟨?_, ?_⟩
    · have : xs.length ≤ 9223372036854775807 := hc.1
      show xs.length < 9223372036854775808
      omega
    · simp [cv, cv3, Builtin.len_, run_underlying hu, goInt, str_size]
  · rename_i n e n' b' e' ht
    cases hb : Nat.ble n MAX with
    | false => rw [hb] at h; cases h
    | true =>
      rw [hb] at h
      cases h
      have hu := hT.un t _ ht
      have : n ≤ 9223372036854775807 := Nat.le_of_ble_eq_true hb
      refine ⟨?_, ?_⟩
      · show n < 9223372036854775808
        omega
      · simp [cv, cv3, Builtin.len_, run_underlying hu, goInt]
  · cases h
omit hT in
theorem cv3_item (ν : NV) : ∀ (l : SV) (i : Nat) (v : SV), item l i = some v → (itv ν l)[i]? = some (cv ν v) ∧ (l.ok ν q → v.ok ν q)
  | .pr a b, 0, v, h => by cases h; exact ⟨rfl, fun h => h.1⟩
  | .pr a b, i + 1, v, h => by
    obtain ⟨h1, h2⟩ := cv3_item ν b i v h
    exact ⟨by simpa [itv, cv3] using h1, fun h => h2 h.2⟩
  | .N _ _, i, v, h | .Z _ _, i, v, h | .B _, i, v, h | .tt, i, v, h | .ff, i, v, h | .P _ _ _, i, v, h | .S _, i, v, h | .an _ _ _, i, v, h | .az _ _, i, v, h | .one _, i, v, h | .U, i, v, h | .sl _ _ _ _ _ _ _, i, v, h | .nl, i, v, h | .ptr _ _ _, i, v, h | .av _ _ _ _ _, i, v, h | .np, i, v, h | .fn _ _ _, i, v, h | .tp _, i, v, h | .ov _, i, v, h | .ud, i, v, h => by cases i <;> cases h
end
end Go.Proofs.Ytnagkhofkjjajaa
