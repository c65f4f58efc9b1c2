/- The symbolic walk is sound: new rows, literal values, append. Lemmas, no statement of the claim. -/
import Derived.Test.YtnagkhofkjjajaaYm
/- The symbolic walk is sound: operations that write memory. Lemmas, no statement of the claim. -/
set_option linter.unusedVariables false
set_option linter.unusedSimpArgs false
namespace Go.Proofs.Ytnagkhofkjjajaa
open Go.RowKit

/-! ### Stores of several cells -/
theorem seg_take {α : Type} (cur cs : List α) (o N : Nat) (h1 : o + cs.length ≤ N) (h2 : N ≤ cur.length) : (cur.take o ++ cs ++ cur.drop (o + cs.length)).take N = (cur.take N).take o ++ cs ++ (cur.take N).drop (o + cs.length) := by
  rw [List.take_append, List.take_of_length_le (l := cur.take o ++ cs) (by simp; omega)]
  have e1 : (cur.take N).take o = cur.take o := by rw [List.take_take, Nat.min_eq_left (by omega)]
  have e2 : (cur.drop (o + cs.length)).take (N - (cur.take o ++ cs).length) = (cur.take N).drop (o + cs.length) := by
    rw [List.drop_take]
    congr 1
    simp; omega
  rw [e1, e2]
theorem Blk.storeL {P : Program} {w : World} {b T : Nat} {l cs : List Value} (h : Blk w b T l) (o : Nat) (hl : o + cs.length ≤ l.length) (h1 : ∀ v, v ∈ cs → v.oneCell' = true) :
    ∃ w', (storeCells ⟨b, o, none⟩ cs).run P w = .ok () w' ∧ Blk w' b T (l.take o ++ cs ++ l.drop (o + cs.length)) ∧ w.grownBy w' (some b) := by
  have hr := run_storeCells_at P b o T cs 0 l.toArray w h (by simpa using hl) h1
  simp only [Nat.add_zero] at hr
  refine ⟨_, hr, ?_, ⟨rfl, rfl, rfl, by simp, fun k _ hk => setRow_other w b k _ (fun e => hk (by simp [e]))⟩⟩
  have := setRow_heap w b l.toArray (l.take o ++ cs ++ l.drop (o + cs.length)).toArray T (0, 0) h
  simpa [Blk] using this
theorem Own.storeL {P : Program} {w : World} {B T sz n c : Nat} {A : Option Addr} {l cs : List Value} (h : Own w B T sz A n c l) (h0 : 0 < n) (o : Nat) (hl : o + cs.length ≤ l.length) (h1 : ∀ v, v ∈ cs → v.oneCell' = true) :
    ∃ w', (storeCells ⟨ablk A, aoff A + o, none⟩ cs).run P w = .ok () w' ∧ Own w' B T sz A n c (l.take o ++ cs ++ l.drop (o + cs.length)) ∧ w.grownBy w' (oblk A) := by
  obtain ⟨hlen, hq⟩ := h
  rcases hq with ⟨_, q⟩ | ⟨g, cap, cur, q, hB, hg, hnc, hcm, hcs, htake⟩
  · omega
  · injection q with a1 a2 a3
    subst a1 a3
    have hN : n * sz ≤ cur.toList.length := by
      rw [Array.length_toList, hcs]
      exact Nat.mul_le_mul_right _ hnc
    have hr := store_at (P := P) g o T cs 0 cur w hg (by simp at hN ⊢; omega) h1
    simp only [Nat.add_zero] at hr
    refine ⟨_, by simpa [ablk, aoff] using hr, ⟨?_, .inr ⟨g, c, _, rfl, hB, hg.setRow (by simp at hN ⊢; omega), hnc, hcm, ?_, ?_⟩⟩, ⟨rfl, rfl, rfl, by simp, fun k _ hk => setRow_other w g k _ (fun e => hk (by simp [oblk, e]))⟩⟩
    · rw [← hlen]
      simp; omega
    · rw [← hcs]
      have : o + cs.length ≤ cur.size := by simp at hN; omega
      simp; omega
    · have := seg_take cur.toList cs o (n * sz) (by omega) hN
      simpa [htake] using this
section
variable {P : Program} {D : List (Nat × TD)} {ν : NV} {q : Nat} {w0 : World} {X : XS} {H : List (Nat × Nat × HC)} {w : World}
def SOk (P : Program) (ν : NV) (q : Nat) (w0 : World) (X : XS) (w : World) (s : Sem Unit) (e : Ef) : Prop :=
  e.v = .ud ∧ ∃ w', s.run P w = .ok () w' ∧ Mem ν (q + 1) w0 X e.H w'
theorem cells_st {v : SV} (hv : v.ok ν q) (hs : v.st = true) : (cv ν v).cells.toList = cls ν v := by rw [cv_cells ν v hv hs]
/-- a piece written at a place -/
theorem HC.upd_ok {c : Nat} {h h' : HC} (k : h.ok ν q c w) {pa : List PS} {o v : SV} (e : h.at pa = some o) (u : h.upd pa v = some h') (hp : pok (ν c).n h.lay pa) (hv : v.ok ν q) (hs : v.st = true) (hl : o.lay = v.lay) :
    ∃ w' r, (storeCells ⟨ablk (ν c).A, aoff (ν c).A + poff h.lay pa, none⟩ (cls ν v)).run P w = .ok () w' ∧ h'.ok ν q c w' ∧ w.grownBy w' r ∧ (∀ b, r = some b → b ∈ (ν c).D) ∧ h.wt = true ∧ h'.wt = true := by
  have h1 := cls_one ν v hv hs
  have hlv := cls_len ν v hv
  cases h with
  | bk T x =>
    simp only [HC.upd] at u
    split at u
    · rename_i y hy
      cases u
      obtain ⟨b, k1, k2, k3, k4, k5, k6⟩ := k
      obtain ⟨p, r, g1, g2, g3, g4, g5, g6⟩ := part_ok ν q (ν c).n pa x o e k4 hp
      obtain ⟨i1, i2, i3, i4⟩ := g6 v y hy hv hl
      have hlo := cls_len ν o g3
      have hlen : (cls ν o).length = (cls ν v).length := by rw [hlo, hlv, hl]
      obtain ⟨w', j1, j2, j3⟩ := Blk.storeL (P := P) (cs := cls ν v) k6 (poff x.lay pa) (by rw [g1]; simp; omega) h1
      refine ⟨w', some b, ?_, ?_, j3, ?_, rfl, rfl⟩
      · rw [k1]; simpa [ablk, aoff, HC.lay] using j1
      · refine ⟨b, k1, k2, by rw [i2]; exact k3, i1, i4 k5 hs, ?_⟩
        have e2 : (cls ν x).take (poff x.lay pa) ++ cls ν v ++ (cls ν x).drop (poff x.lay pa + (cls ν v).length) = p ++ cls ν v ++ r := by
          have g2' : p.length = poff x.lay pa := g2
          rw [g1, List.append_assoc p, ← g2', List.take_left' rfl, ← hlen, ← List.drop_drop, List.drop_left' rfl, List.drop_left' rfl]
        rw [e2] at j2
        rw [i3]; exact j2
      · rw [k2]; intro b' hb; cases hb; simp
    · cases u
  | rw T a n xs =>
    cases pa with
    | nil => cases u
    | cons s r =>
      cases s <;> try (cases u; done)
      rename_i i
      simp only [HC.upd] at u
      split at u
      · rename_i y hy
        split at u
        · rename_i x' hx'
          cases u
          obtain ⟨hI, hO⟩ := k
          have hi : i.x < xs.length := by rw [hI.len, ← hI.nn]; exact hp.1
          rcases hO with ⟨hO, hD⟩ | ⟨h0, _⟩
          · have hok := all_get hI.all hi
            have e' : (emb a (xs.getD i.x a.d)).get r = some o := e
            obtain ⟨p, r', g1, g2, g3, g4, g5, g6⟩ := part_ok ν q (ν c).n r (emb a (xs.getD i.x a.d)) o e' ((emb_ok ν q _ _).2 hok) (by rw [emb_lay]; exact hp.2)
            obtain ⟨i1, i2, i3, i4⟩ := g6 v y hy hv hl
            obtain ⟨m1, m2, m3, m4⟩ := ext_ok ν a y x' hx' i1
            rw [emb_cls] at g1
            rw [emb_lay] at g2
            have g2 : p.length = poffP r a.lay := g2
            have hlo := cls_len ν o g3
            have hlen : (cls ν o).length = (cls ν v).length := by rw [hlo, hlv, hl]
            have hsp := rowC_split a xs hi hI.all
            have hnp : 0 < n.x := by rw [← hI.len]; omega
            have hT' : ((rowC a xs).take (i.x * a.lay.sz)).length = i.x * a.lay.sz := by
              rw [List.length_take, rowC_len a xs hI.all, Nat.min_eq_left (Nat.mul_le_mul_right _ (Nat.le_of_lt hi))]
            obtain ⟨w', j1, j2, j3⟩ := Own.storeL (P := P) (cs := cls ν v) hO hnp (i.x * a.lay.sz + poffP r a.lay) (by rw [hsp, g1]; simp only [List.length_append, hT']; omega) h1
            refine ⟨w', oblk (ν c).A, j1, ⟨⟨by rw [List.length_set]; exact hI.len, ?_, hI.lay, hI.nn, hI.cap, hI.max, hI.adr⟩, .inl ⟨?_, hD⟩⟩, j3, fun b hb => by rw [hD, hb]; simp, rfl, rfl⟩
            · intro z hz
              rcases List.mem_or_eq_of_mem_set hz with z' | z'
              · exact hI.all z z'
              · rw [z']; exact m1
            · rw [rowC_set a xs hi hI.all, ← m2, i3]
              have e2 : (rowC a xs).take (i.x * a.lay.sz + poffP r a.lay) ++ cls ν v ++ (rowC a xs).drop (i.x * a.lay.sz + poffP r a.lay + (cls ν v).length) = (rowC a xs).take (i.x * a.lay.sz) ++ (p ++ cls ν v ++ r') ++ (rowC a xs).drop ((i.x + 1) * a.lay.sz) := by
                conv => lhs; rw [hsp, g1]
                generalize (rowC a xs).take (i.x * a.lay.sz) = t1 at hT' ⊢
                generalize (rowC a xs).drop ((i.x + 1) * a.lay.sz) = t2
                have e3 : t1 ++ (p ++ cls ν o ++ r') ++ t2 = (t1 ++ p) ++ (cls ν o ++ (r' ++ t2)) := by simp
                have e4 : (t1 ++ p).length = i.x * a.lay.sz + poffP r a.lay := by rw [List.length_append, hT', g2]
                rw [e3, ← e4, List.take_left' rfl, ← hlen, ← List.drop_drop, List.drop_left' rfl, List.drop_left' rfl]
                simp
              rw [e2] at j2
              exact j2
          · exact absurd hp.1 (by rw [hI.nn, h0]; omega)
        · cases u
      · cases u
  | ro a n xs => cases pa with
    | nil => cases u
    | cons s r => cases s <;> cases u
  | rs l => cases pa with
    | nil => cases u
    | cons s r => cases s <;> cases u
  | rq a n xss => cases pa with
    | nil => cases u
    | cons s r => cases s <;> cases u
theorem Mem.upd' (h : Mem ν q w0 X H w) {c s : Nat} {x x' : HC} (hx : hget H c = some x) (hw : x.wt = true) {w' : World} {r : Option Nat} (g : w.grownBy w' r) (hr : ∀ b, r = some b → b ∈ (ν c).D) (hx' : x'.ok ν q c w') : Mem ν q w0 X (hput H c s x') w' := by
  have hot : ∀ d y, hget H d = some y → c ≠ d → y.ok ν q d w' := fun d y hy hne => HC.grow (h.ok d y hy) g (fun b hb => h.ne c d x y hx hy hne hw b (hr b hb))
  refine ⟨h.keep.grown g (fun b hb => h.mine c x hx hw b (hr b hb)), fun d y hy => ?_, fun d y hy => ?_, fun d y hy => ?_, fun d y hy => ?_, fun d d' y y' hy hy' hne hwt => ?_, fun d y hy => ?_⟩
  · rw [hget_put] at hy
    split at hy
    · rename_i e; subst e; exact h.nm c x hx
    · exact h.nm d y hy
  · rw [hget_put] at hy
    split at hy
    · rename_i e; subst e; cases hy; exact hx'
    · rename_i e; exact hot d y hy e
  · intro b hb
    rw [hget_put] at hy
    split at hy
    · rename_i e; subst e; exact Nat.lt_of_lt_of_le (h.lt c x hx b hb) g.size
    · exact Nat.lt_of_lt_of_le (h.lt d y hy b hb) g.size
  · rw [hget_put] at hy
    split at hy
    · rename_i e; subst e; exact fun _ => h.mine c x hx hw
    · exact h.mine d y hy
  · rw [hget_put] at hy hy'
    split at hy
    · rename_i e
      subst e
      rw [if_neg hne] at hy'
      exact h.ne c d' x y' hx hy' hne hw
    · split at hy'
      · rename_i e
        subst e
        exact h.ne d c y x hy hx hne hwt
      · exact h.ne d d' y y' hy hy' hne hwt
  · rw [hget_put] at hy
    split at hy
    · rename_i e; subst e; exact h.src c x hx
    · exact h.src d y hy
section
variable (hT : TDok P D)
include hT
theorem evStore_ok (M : Mem ν q w0 X H w) {S : St} (hS : S.H = H) {t : Nat} {x v : SV} {e : Ef} (h : evStore D q S t x v = some e) (hx : x.ok ν q) (hv : v.ok ν q) : SOk P ν q w0 X w (Instr.storeAt t (cv ν x) (cv ν v)) e := by
  subst hS
  unfold evStore at h
  split at h
  · rename_i c lay pa
    split at h
    · rename_i hh hc
      cases hb : hh.lay.q lay && fits D t v with
      | false => rw [hb] at h; cases h
      | true =>
        rw [hb] at h
        simp only [cond_true] at h
        simp only [Bool.and_eq_true] at hb
        have hlay := lay_q hb.1
        split at h
        · rename_i old ho
          cases hq : old.lay.q v.lay with
          | false => rw [hq] at h; cases h
          | true =>
            rw [hq] at h
            simp only [cond_true] at h
            split at h
            · rename_i h' hu
              cases h
              obtain ⟨hx1, hx2, hx3⟩ := hx
              obtain ⟨f1, f2, f3⟩ := fits_ok hT hb.2
              have hp := hx3
              rw [← hlay] at hp
              obtain ⟨w', r, j1, j2, j3, j4, j5, j6⟩ := HC.upd_ok (P := P) (M.ok _ _ hc) ho hu hp hv f1 (lay_q hq)
              refine ⟨rfl, w', ?_, (M.upd' hc j5 j3 j4 j2).mono (Nat.le_succ _)⟩
              show (Instr.storeAt t (.pointer (some _)) (cv ν v)).run P w = _
              have hcs := cells_st hv f1
              have hlv := cls_len ν v hv
              have hsz : (cv ν v).cells.size = v.lay.sz := by rw [cv_cells ν v hv f1]; simpa using hlv
              rw [hlay] at j1
              simp only [Instr.storeAt, Instr.sureAddr, Sem.run_bind, Sem.run_pure, Result.andThen_ok, storeVar, f3, hsz]
              rw [if_neg (by simp), hcs]
              simpa using j1
            · cases h
        · cases h
    · cases h
  · cases h
/-! ### New variables -/
omit hT in
theorem run_new (M : Mem ν q w0 X H w) {T : Nat} {v : SV} (hv : v.ok ν q) (hs : v.st = true) {s : Sem Value} (hr : s.run P w = .ok (.pointer (some ⟨w.heap.size, 0, none⟩)) (w.alloc (.cells (cls ν v).toArray T))) :
    VOk P ν q w0 X w s ⟨[], .ptr q v.lay [], (q, q, .bk T v) :: H⟩ := by
  let x : NmS := ⟨some ⟨w.heap.size, 0, none⟩, 0, 0, [w.heap.size], v.lay⟩
  have hagr := upN_agr ν q x
  have hself := upN_self ν q x
  have g := grown_alloc w (.cells (cls ν v).toArray T)
  have M' := M.growN g
  refine ⟨upN ν q x, w.alloc (.cells (cls ν v).toArray T), hagr, ?_, ?_, ?_⟩
  · rw [hr]
    simp [cv, cv3, hself, x, ablk, aoff, poff, poffP]
  · refine M'.add (Nat.le_refl _) hagr ?_ ?_ ?_ ?_ (by intro h; cases h)
    · refine ⟨w.heap.size, by rw [hself], by rw [hself], by rw [hself], ok_mono (Nat.le_succ _) v (ok_agr hagr v hv).1, hs, ?_⟩
      rw [cls_agr hagr hv]
      exact Blk.new w T (cls ν v)
    · rw [hself]; intro b hb
      have : b = w.heap.size := by simpa [x] using hb
      subst this; simp
    · rw [hself]; intro _ b hb
      have : b = w.heap.size := by simpa [x] using hb
      subst this
      exact ⟨.inl M.keep.size, fun d y hd hb2 => Nat.lt_irrefl _ (M.lt d y hd _ hb2)⟩
    · rw [hself]; intro d y hd hy b hb hb2
      have : b = w.heap.size := by simpa [x] using hb2
      subst this
      exact Nat.lt_irrefl _ (M.lt d y hd _ hb)
  · exact ⟨Nat.lt_succ_self _, by rw [hself], trivial⟩
omit hT in
theorem evBox_ok (M : Mem ν q w0 X H w) {S : St} (hS : S.H = H) {T : Nat} {v : SV} {e : Ef} (h : evBox q S T v = some e) (hv : v.ok ν q) : VOk P ν q w0 X w (Instr.box T (cv ν v)) e := by
  subst hS
  unfold evBox at h
  cases hs : v.st with
  | false => rw [hs] at h; cases h
  | true =>
    rw [hs] at h
    cases h
    refine run_new M hv hs ?_
    simp [Instr.box, newVar, newRow, cv_cells ν v hv hs]
end
end
end Go.Proofs.Ytnagkhofkjjajaa

/- The symbolic walk is sound: new rows, literal values, append. Lemmas, no statement of the claim. -/
set_option linter.unusedVariables false
set_option linter.unusedSimpArgs false
namespace Go.Proofs.Ytnagkhofkjjajaa
open Go.RowKit

/-! ### Noughts -/
def ZOk (z : SV) : Prop := (∀ ν, cv3 ν z = cv3 ν0 z) ∧ (∀ ν q, z.ok ν q) ∧ z.st = true
theorem zL_ok {f : Nat → Option SV} (hf : ∀ t z, f t = some z → ZOk z) : ∀ (l : List (Nat × Nat)) (z : SV), zL f l = some z → ZOk z
  | [], z, h => by cases h; exact ⟨fun _ => rfl, fun _ _ => trivial, rfl⟩
  | [x], z, h => by
    simp only [zL] at h
    split at h
    · rename_i v hv
      cases h
      obtain ⟨h1, h2, h3⟩ := hf _ _ hv
      exact ⟨fun ν => by simp only [cv3, h1 ν], fun ν q => h2 ν q, h3⟩
    · cases h
  | x :: y :: r, z, h => by
    simp only [zL] at h
    split at h
    · rename_i a c ha hc
      cases h
      obtain ⟨h1, h2, h3⟩ := hf _ _ ha
      obtain ⟨g1, g2, g3⟩ := zL_ok hf (y :: r) c hc
      exact ⟨fun ν => by simp only [cv3, h1 ν, g1 ν], fun ν q => ⟨h2 ν q, g2 ν q⟩, by simp [SV.st, h3, g3]⟩
    · cases h
theorem lim_pos (k : IntKind) : 0 < lim k := by cases k <;> decide
theorem zsv_ok {D : List (Nat × TD)} : ∀ (f t : Nat) (z : SV), zsv D f t = some z → ZOk z
  | 0, _, _, h => by cases h
  | f + 1, t, z, h => by
    simp only [zsv] at h
    split at h
    · cases h; exact ⟨fun _ => rfl, fun _ _ => trivial, rfl⟩
    · rename_i k _ _ _ _
      cases h; exact ⟨fun _ => rfl, fun _ _ => lim_pos k, rfl⟩
    · cases h; exact ⟨fun _ => rfl, fun _ _ => (by intro x hx; cases hx), rfl⟩
    · cases h; exact ⟨fun _ => rfl, fun _ _ => trivial, rfl⟩
    · cases h; exact ⟨fun _ => rfl, fun _ _ => trivial, rfl⟩
    · split at h
      · cases h
        refine ⟨fun _ => rfl, fun _ _ => ⟨by simp, fun x hx => ?_⟩, rfl⟩
        rw [(List.mem_replicate.1 hx).2]
        exact ⟨by decide, by decide⟩
      · rename_i k _ _ _ _
        cases h
        refine ⟨fun _ => rfl, fun _ _ => ⟨by simp, fun x hx => ?_⟩, rfl⟩
        rw [(List.mem_replicate.1 hx).2]
        exact lim_pos _
      · cases h
    · exact zL_ok (zsv_ok f) _ _ h
    · cases h
theorem made_flat (z : Array Value) (k : Nat) (hk : z.size = k) : ∀ m : Nat, (madeCells z (m * k)).toList = (List.replicate m z.toList).flatten
  | 0 => by simp [madeCells]
  | m + 1 => by
    have ih := made_flat z k hk m
    rw [List.replicate_succ', List.flatten_append, ← ih]
    simp only [madeCells, Array.toList_map, Array.toList_range, List.flatten_singleton, List.flatten_cons, List.flatten_nil, List.append_nil]
    rw [Nat.add_mul, Nat.one_mul, List.range_add, List.map_append, List.map_map]
    congr 1
    apply List.ext_getElem
    · simp [hk]
    · intro i h1 h2
      simp at h1 h2
      have : (m * k + i) % k = i := by rw [Nat.mul_comm, Nat.mul_add_mod, Nat.mod_eq_of_lt h1]
      simp [hk, this]
      rw [getElem!_pos z i (by omega)]
theorem rowC_rep (a : Sh) (x : a.T) : ∀ m : Nat, rowC a (List.replicate m x) = (List.replicate m (clS a x)).flatten
  | 0 => rfl
  | m + 1 => by
    rw [List.replicate_succ, List.replicate_succ, List.flatten_cons, ← rowC_rep a x m]
    rfl
theorem Own.max {w : World} {B T sz n c : Nat} {A : Option Addr} {l : List Value} (h : Own w B T sz A n c l) : c ≤ maxLen := by
  rcases h.2 with ⟨q, _⟩ | ⟨g, cap, cur, q, _, _, _, hcm, _⟩
  · injection q with _ _ q3; rw [q3]; exact Nat.zero_le _
  · injection q with _ _ q3; rw [q3]; exact hcm
section
variable {P : Program} {D : List (Nat × TD)} {ν : NV} {q : Nat} {w0 : World} {X : XS} {H : List (Nat × Nat × HC)} {w : World}
theorem roomS_ok {l : Bool} {n b : Nat} {cs : List Cnd} (h : roomS l n b = some cs) (hc : allC cs) : n * b ≤ 140737488355328 := by
  unfold roomS at h
  cases l with
  | true =>
    cases hb : Nat.ble (n * b) 140737488355328 with
    | true => exact Nat.le_of_ble_eq_true hb
    | false => rw [hb] at h; cases h
  | false => cases h; exact hc.1
/-- a new name for a row of one's own -/
theorem row_new (M : Mem ν q w0 X H w) {T : Nat} {a : Sh} {n : NT} {xs : List a.T} {A : Option Addr} {c : Nat} (hlen : xs.length = n.x) (hall : ∀ x, x ∈ xs → okS a x) (h1 : n.x ≤ c) (h2 : c ≤ maxLen) (h3 : 0 < c → flat A)
    (hO : (Own w 0 T a.lay.sz A n.x c (rowC a xs) ∧ ∀ b, oblk A = some b → (w0.heap.size ≤ b ∨ b ∈ X.x) ∧ ∀ d y, hget H d = some y → b ∉ (ν d).D) ∨ (n.x = 0 ∧ c = 0)) :
    ∃ ν', Agr q ν ν' ∧ Mem ν' (q + 1) w0 X ((q, q, .rw T a n xs) :: H) w ∧ SV.ok ν' (q + 1) (.sl q [] q ⟨true, 0⟩ n true false) ∧ cv ν' (.sl q [] q ⟨true, 0⟩ n true false) = .slice A n.x c := by
  obtain ⟨DD, hD⟩ : ∃ DD : List Nat, ((Own w 0 T a.lay.sz A n.x c (rowC a xs) ∧ DD = (oblk A).toList) ∨ (n.x = 0 ∧ c = 0 ∧ DD = [])) ∧ ∀ b, b ∈ DD → b < w.heap.size ∧ (w0.heap.size ≤ b ∨ b ∈ X.x) ∧ ∀ d y, hget H d = some y → b ∉ (ν d).D := by
    rcases hO with ⟨hO, hf⟩ | ⟨g1, g2⟩
    · exact ⟨(oblk A).toList, .inl ⟨hO, rfl⟩, fun b hb => ⟨(hO.base b (by simpa using hb)).2, hf b (by simpa using hb)⟩⟩
    · exact ⟨[], .inr ⟨g1, g2, rfl⟩, by intro b hb; cases hb⟩
  let x : NmS := ⟨A, c, n.x, DD, .rw a.lay⟩
  have hself := upN_self ν q x
  refine ⟨upN ν q x, upN_agr _ _ _, ?_, ?_, ?_⟩
  · refine M.add (Nat.le_refl _) (upN_agr _ _ _) ?_ ?_ ?_ ?_ (by intro h; cases h)
    · refine ⟨⟨hlen, hall, by rw [hself], by rw [hself], by rw [hself]; exact h1, by rw [hself]; exact h2, by rw [hself]; exact h3⟩, ?_⟩
      rw [hself]; exact hD.1
    · rw [hself]; exact fun b hb => (hD.2 b hb).1
    · rw [hself]; exact fun _ b hb => (hD.2 b hb).2
    · rw [hself]
      exact fun d y hd hy b hb hb2 => (hD.2 b hb2).2.2 d y hd hb
  · refine ⟨Nat.lt_succ_self _, Nat.lt_succ_self _, ?_⟩
    exact slok_self (e := a.lay) (by rw [hself]) (by rw [hself]; exact h1) (by rw [hself]; exact h2) (by rw [hself]; exact h3) (by rw [hself])
  · show Value.slice (upN ν q x q).A n.x (upN ν q x q).c = _
    rw [hself]
theorem own_new (M : Mem ν q w0 X H w) {T : Nat} {a : Sh} {n : NT} {xs : List a.T} {A : Option Addr} {c : Nat} (hlen : xs.length = n.x) (hall : ∀ x, x ∈ xs → okS a x)
    (hO : Own w 0 T a.lay.sz A n.x c (rowC a xs)) (hf : ∀ b, oblk A = some b → (w0.heap.size ≤ b ∨ b ∈ X.x) ∧ ∀ d y, hget H d = some y → b ∉ (ν d).D) :
    ∃ ν', Agr q ν ν' ∧ Mem ν' (q + 1) w0 X ((q, q, .rw T a n xs) :: H) w ∧ SV.ok ν' (q + 1) (.sl q [] q ⟨true, 0⟩ n true false) ∧ cv ν' (.sl q [] q ⟨true, 0⟩ n true false) = .slice A n.x c := by
  refine row_new M hlen hall hO.cap hO.max (fun hc => ?_) (.inl ⟨hO, hf⟩)
  rcases hO.form with ⟨_, _, q3, _⟩ | ⟨b, rfl, _⟩
  · omega
  · simp [flat, ablk, aoff]
section
variable (hT : TDok P D)
include hT
theorem TDok.row {t : Nat} {d : TD} (h : lookD D t = some d) {z : SV} (hz : zsv D 9 t = some z) : ∃ j zv, P.info? t = some j ∧ j.zero = some zv ∧ j.size = d.n ∧ j.bytes = d.b ∧ zv.cells = (cls ν0 z).toArray ∧ zv = cv ν0 z := by
  obtain ⟨j, h1, h2, h3, h4⟩ := hT.inf t d h
  obtain ⟨zv, h5, h6, h7⟩ := h4 z hz
  exact ⟨j, zv, h1, h5, h2, h3, h6, h7⟩
omit hT in
/-- noughts of a row's elements -/
theorem zrow {e : Nat} {a : Sh} {z : SV} {z' : a.T} (hz : zsv D 9 e = some z) (hx : ext a z = some z') : okS a z' ∧ cls ν0 z = clS a z' ∧ (cls ν0 z).length = a.lay.sz := by
  obtain ⟨h1, h2, h3⟩ := zsv_ok _ _ _ hz
  obtain ⟨g1, g2, g3, g4⟩ := ext_ok ν0 (q := 0) a z z' hx (h2 _ _)
  exact ⟨g1, g2, by rw [cls_len ν0 z (h2 ν0 0), g3]⟩
theorem evMake_ok (M : Mem ν q w0 X H w) {S : St} (hS : S.H = H) {t : Nat} {x : SV} {e : Ef} (h : evMake D q S t x = some e) (hc : allC e.cs) (hx : x.ok ν q) : VOk P ν q w0 X w (Instr.makeSlice t (cv ν x) (cv ν x)) e := by
  subst hS
  have key : ∀ (k : IntKind) (n : NT) (el : Nat) (d : TD) (a : Sh) (z : SV) (z' : a.T) (cs : List Cnd) (n' b' : Nat) (e' : Bool), lookD D t = some ⟨.sl el, n', b', e'⟩ → lookD D el = some d → zsv D 9 el = some z → ext a z = some z' → (Nat.beq d.n a.lay.sz && Nat.blt 0 d.b) = true → n.x * d.b ≤ 140737488355328 → cv ν x = .int k ((n.x : Nat) : Int) →
      VOk P ν q w0 X w (Instr.makeSlice t (cv ν x) (cv ν x)) ⟨cs, .sl q [] q ⟨true, 0⟩ n true false, (q, q, .rw el a n (List.replicate n.x z')) :: S.H⟩ := by
    intro k n el d a z z' cs n' b' e' ht hd hz hz' hb hroom hxv
    simp only [Bool.and_eq_true] at hb
    have hbn := beqT hb.1
    have hb0 : 0 < d.b := by simpa using hb.2
    have hu := hT.un t _ ht
    obtain ⟨j, zv, i1, i2, i3, i4, i5, i6⟩ := hT.row hd hz
    obtain ⟨z1, z2, z3⟩ := zrow hz hz'
    have hmax : n.x ≤ maxLen := by
      have : n.x ≤ n.x * d.b := Nat.le_mul_of_pos_right _ hb0
      unfold maxLen; omega
    obtain ⟨w', hr, ho, hg⟩ := run_make_full (P := P) w 0 t el j zv a.lay.sz hu i1 i2 (by rw [i3, hbn]) k k n.x (by rw [i4, Nat.mul_comm]; omega) hmax (Nat.zero_le _)
    have hcells : (madeCells zv.cells (n.x * a.lay.sz)).toList = rowC a (List.replicate n.x z') := by
      rw [rowC_rep, ← z2, made_flat zv.cells a.lay.sz (by rw [i5]; simpa using z3), i5]
    rw [hcells] at ho
    obtain ⟨ν', g1, g2, g3, g4⟩ := own_new (T := el) (n := n) (M.growN hg) (by simp) (fun y hy => by rw [(List.mem_replicate.1 hy).2]; exact z1) (.of ho) (fun b hb => by
      cases hb
      exact ⟨.inl M.keep.size, fun d y hd hb2 => Nat.lt_irrefl _ (M.lt d y hd _ hb2)⟩)
    refine ⟨ν', w', g1, ?_, g2, g3⟩
    rw [g4, hxv]; exact hr
  unfold evMake at h
  split at h
  · rename_i el n' b' e' ht
    split at h
    · rename_i d a z hd ha hz
      cases hb : Nat.beq d.n a.lay.sz && Nat.blt 0 d.b with
      | false => rw [hb] at h; cases h
      | true =>
        rw [hb] at h
        simp only [cond_true] at h
        split at h
        · rename_i z' k m hz'
          split at h
          · rename_i cs hr
            cases h
            exact key k m el d a z z' cs n' b' e' ht hd hz hz' hb (roomS_ok hr hc) rfl
          · cases h
        · rename_i z' l m hz'
          split at h
          · rename_i cs hr
            cases h
            have h0 : 0 ≤ m := hc.1
            refine key .i64 ⟨false, m.toNat⟩ el d a z z' _ n' b' e' ht hd hz hz' hb (roomS_ok hr hc.2) ?_
            show Value.int .i64 m = .int .i64 ((m.toNat : Nat) : Int)
            rw [Int.toNat_of_nonneg h0]
          · cases h
        · cases h
    · cases h
  · cases h
theorem evMakeC_ok (M : Mem ν q w0 X H w) {S : St} (hS : S.H = H) {t : Nat} {x y : SV} {e : Ef} (h : evMakeC D q S t x y = some e) : VOk P ν q w0 X w (Instr.makeSlice t (cv ν x) (cv ν y)) e := by
  subst hS
  unfold evMakeC at h
  split at h
  · rename_i el n' b' e' ht
    split at h
    · rename_i d a z hd ha hz
      split at h
      · rename_i z' k m k' c hz'
        cases hb : Nat.beq d.n a.lay.sz && (Nat.blt 0 d.b && (m.l && (c.l && (Nat.ble m.x c.x && Nat.ble (c.x * d.b) 140737488355328)))) with
        | false => rw [hb] at h; cases h
        | true =>
          rw [hb] at h
          cases h
          simp only [Bool.and_eq_true] at hb
          obtain ⟨hb1, hb2, _, _, hb3, hb4⟩ := hb
          have hbn := beqT hb1
          have hb0 : 0 < d.b := by simpa using hb2
          have hmc : m.x ≤ c.x := Nat.le_of_ble_eq_true hb3
          have hroom : c.x * d.b ≤ 140737488355328 := Nat.le_of_ble_eq_true hb4
          have hu := hT.un t _ ht
          obtain ⟨j, zv, i1, i2, i3, i4, i5, i6⟩ := hT.row hd hz
          obtain ⟨z1, z2, z3⟩ := zrow hz hz'
          have hmax : c.x ≤ maxLen := by
            have : c.x ≤ c.x * d.b := Nat.le_mul_of_pos_right _ hb0
            unfold maxLen; omega
          have h63 : ((c.x : Nat) : Int) ≤ 9223372036854775807 := by
            have h := hmax
            simp [maxLen] at h
            omega
          have hbb : (j.bytes : Int) * ((c.x : Nat) : Int) ≤ 281474976710656 := by
            have h : ((j.bytes * c.x : Nat) : Int) ≤ 281474976710656 := by rw [i4, Nat.mul_comm]; omega
            rwa [Int.natCast_mul] at h
          have hr := run_make (P := P) w t el j zv hu i1 i2 k k' ((m.x : Nat) : Int) ((c.x : Nat) : Int) (by omega) (by omega) hbb h63
          simp only [Int.toNat_natCast] at hr
          rw [i3, hbn] at hr
          have ho := World.ownsRow_lit (base := 0) (size := a.lay.sz) (e := el) w (madeCells zv.cells (c.x * a.lay.sz)) c.x (Nat.zero_le _) hmax (size_madeCells _ _)
          have hg := World.grownBy_alloc w (.cells (madeCells zv.cells (c.x * a.lay.sz)) el) none
          have hcells : (madeCells zv.cells (c.x * a.lay.sz)).toList = rowC a (List.replicate c.x z') := by
            rw [rowC_rep, ← z2, made_flat zv.cells a.lay.sz (by rw [i5]; simpa using z3), i5]
          rw [hcells] at ho
          have ho2 := (show Own _ 0 el a.lay.sz _ c.x c.x _ from .of ho).cut hmc
          rw [← rowC_take a _ _ (fun y hy => by rw [(List.mem_replicate.1 hy).2]; exact z1), List.take_replicate, Nat.min_eq_left hmc] at ho2
          obtain ⟨ν', g1, g2, g3, g4⟩ := own_new (T := el) (n := m) (M.growN hg) (by simp) (fun y hy => by rw [(List.mem_replicate.1 hy).2]; exact z1) ho2 (fun b hb => by
            cases hb
            exact ⟨.inl M.keep.size, fun d y hd hb2 => Nat.lt_irrefl _ (M.lt d y hd _ hb2)⟩)
          refine ⟨ν', _, g1, ?_, g2, g3⟩
          rw [g4]
          exact hr
      · cases h
    · cases h
  · cases h
/-! ### append -/
omit hT in
theorem firstZ {P : Program} (sz c : Nat) (A : Option Addr) (w : World) : (Builtin.firstCells sz 0 (.slice A 0 c)).run P w = .ok #[] w := by
  cases A <;> simp [Builtin.firstCells, loadCells, loadCellsFrom]
/-- what append leaves, whatever its source is -/
structure Src (P : Program) (w : World) (e sz b m : Nat) (l2 : List Value) (mx : Bool) (f : Value → Sem Value) : Prop where
  own : ∀ A n c l, Own w 0 e sz A n c l → (n + m) * b ≤ 140737488355328 → ∃ A' c' w', (f (.slice A n c)).run P w = .ok (.slice A' (n + m) c') w' ∧ Own w' 0 e sz A' (n + m) c' (l ++ l2) ∧ w.grownBy w' (oblk A) ∧ (oblk A' = oblk A ∨ ∃ k, oblk A' = some k ∧ w.heap.size ≤ k)
  zero : ∀ A, m * b ≤ 140737488355328 → ∃ A' c' w', (f (.slice A 0 0)).run P w = .ok (.slice A' m c') w' ∧ ((m = 0 ∧ c' = 0 ∧ w.grownBy w' none) ∨ (Own w' 0 e sz A' m c' l2 ∧ w.grownBy w' none ∧ ∃ k, oblk A' = some k ∧ w.heap.size ≤ k))
  more : mx = true → ∀ A n l, Rd w A l → l.length = n * sz → 0 < m → 0 < n → (n + m) * b ≤ 140737488355328 → flat A → ∃ A' c' w', (f (.slice A n n)).run P w = .ok (.slice A' (n + m) c') w' ∧ Own w' 0 e sz A' (n + m) c' (l ++ l2) ∧ w.grownBy w' none ∧ ∃ k, oblk A' = some k ∧ w.heap.size ≤ k
omit hT in
theorem hdel_sub (M : Mem ν q w0 X H w) (c : Nat) : Mem ν q w0 X (hdel H c) w := M.sub (fun d x hx => by
  rw [hget_del] at hx
  split at hx
  · cases hx
  · exact hx)
omit hT in
/-- a piece let go, and written -/
theorem Mem.take (M : Mem ν q w0 X H w) {c : Nat} {x : HC} (hx : hget H c = some x) (hw : x.wt = true) {w' : World} {r : Option Nat} (g : w.grownBy w' r) (hr : ∀ b, r = some b → b ∈ (ν c).D) : Mem ν q w0 X (hdel H c) w' := by
  have h' := hdel_sub M c
  refine ⟨M.keep.grown g (fun b hb => M.mine c x hx hw b (hr b hb)), h'.nm, fun d y hy => ?_, fun d y hy b hb => Nat.lt_of_lt_of_le (h'.lt d y hy b hb) g.size, h'.mine, h'.ne, h'.src⟩
  have hy' := hy
  rw [hget_del] at hy'
  split at hy'
  · cases hy'
  · rename_i hne
    exact HC.grow (h'.ok d y hy) g (fun b hb => M.ne c d x y hx hy' hne hw b (hr b hb))
omit hT in
theorem appS_ok (M : Mem ν q w0 X H w) {S : St} (hS : S.H = H) {e b : Nat} {a : Sh} {v : SV} {m : NT} {ys : List a.T} {f : Value → Sem Value} (hsrc : Src P w e a.lay.sz b m.x (rowC a ys) (isMx v) f) (hy : ∀ y, y ∈ ys → okS a y) (hym : ys.length = m.x)
    {r : Ef} (h : appS q S e b a v m ys = some r) (hc : allC r.cs) (hv : v.ok ν q) : VOk P ν q w0 X w (f (cv ν v)) r := by
  subst hS
  have fresh : ∀ {A' : Option Addr}, (∃ k, oblk A' = some k ∧ w.heap.size ≤ k) → ∀ b, oblk A' = some b → (w0.heap.size ≤ b ∨ b ∈ X.x) ∧ ∀ d y, hget S.H d = some y → b ∉ (ν d).D := by
    intro A' hk b hb
    obtain ⟨k, h1, h2⟩ := hk
    rw [hb] at h1
    cases h1
    have := M.keep.size
    exact ⟨.inl (by omega), fun d y hd hb2 => by have := M.lt d y hd _ hb2; omega⟩
  have zero : ∀ (A : Option Addr) (cs : List Cnd), cv ν v = .slice A 0 0 → m.x * b ≤ 140737488355328 → VOk P ν q w0 X w (f (cv ν v)) ⟨cs, .sl q [] q ⟨true, 0⟩ m true false, (q, q, .rw e a m ys) :: S.H⟩ := by
    intro A cs hA hroom
    obtain ⟨A', c', w', hr, hO⟩ := hsrc.zero A hroom
    rcases hO with ⟨q1, q2, q3⟩ | ⟨q1, q2, q3⟩
    · obtain ⟨ν', g1, g2, g3, g4⟩ := row_new (T := e) (n := m) (A := A') (c := c') (M.growN q3) hym hy (by omega) (by rw [q2]; exact Nat.zero_le _) (by intro h; omega) (.inr ⟨q1, q2⟩)
      exact ⟨ν', w', g1, by rw [hA, g4]; exact hr, g2, g3⟩
    · obtain ⟨ν', g1, g2, g3, g4⟩ := own_new (T := e) (n := m) (M.growN q2) hym hy q1 (fresh q3)
      exact ⟨ν', w', g1, by rw [hA, g4]; exact hr, g2, g3⟩
  unfold appS at h
  split at h
  · split at h
    · rename_i cs hr
      cases h
      exact zero none cs rfl (roomS_ok hr hc)
    · cases h
  · rename_i c pa v' lo n tl
    cases hb : n.l && Nat.beq n.x 0 with
    | true =>
      rw [hb] at h
      simp only [cond_true] at h
      simp only [Bool.and_eq_true] at hb
      have hn0 := beqT hb.2
      have hfull := hv.2.2.full rfl
      split at h
      · rename_i cs hr
        cases h
        refine zero (ν v').A cs ?_ (roomS_ok hr hc)
        show Value.slice (ν v').A n.x (ν v').c = _
        rw [hfull, hn0]
      · cases h
    | false =>
      rw [hb] at h
      simp only [cond_false] at h
      split at h
      · rename_i xs cs hx hr
        obtain ⟨A, k, cc, j1, j2, j3, j4, j5, j6, j7, j8⟩ := cont_ok M hx hv
        have hfull := hv.2.2.full rfl
        have hk : A = (ν v').A ∧ k = n.x ∧ cc = n.x := by
          have : Value.slice (ν v').A n.x (ν v').c = .slice A k cc := j1
          injection this with q1 q2 q3
          exact ⟨q1.symm, q2.symm, by rw [← q3, hfull]⟩
        obtain ⟨rfl, rfl, rfl⟩ := hk
        have fin : ∀ cs', (n.x + m.x) * b ≤ 140737488355328 → 0 < m.x → VOk P ν q w0 X w (f (cv ν (.sl c pa v' lo n tl true))) ⟨cs', .sl q [] q ⟨true, 0⟩ (addN n m) true false, (q, q, .rw e a (addN n m) (xs ++ ys)) :: S.H⟩ := by
          intro cs' hroom hm0
          have hcv : cv ν (.sl c pa v' lo n tl true) = .slice (ν v').A n.x n.x := by
            show Value.slice (ν v').A n.x (ν v').c = _
            rw [hfull]
          rcases Nat.eq_zero_or_pos n.x with hn0 | hn0
          · have hxs : xs = [] := List.eq_nil_of_length_eq_zero (by rw [j3, hn0])
            subst hxs
            have hz := zero (ν v').A cs' (by rw [hcv, hn0]) (by rw [hn0, Nat.zero_add] at hroom; exact hroom)
            have e2 : addN n m = ⟨(addN n m).l, m.x⟩ := by
              have := addN_x n m
              cases hq : addN n m with
              | mk l x => rw [hq] at this; simp at this; rw [this, hn0, Nat.zero_add]
            obtain ⟨A', c', w', hr', hO⟩ := hsrc.zero (ν v').A (by rw [hn0, Nat.zero_add] at hroom; exact hroom)
            rcases hO with ⟨q1, q2, q3⟩ | ⟨q1, q2, q3⟩
            · omega
            · obtain ⟨ν', g1, g2, g3, g4⟩ := own_new (T := e) (n := addN n m) (xs := [] ++ ys) (M.growN q2) (by rw [addN_x, hn0]; simpa using hym) (by simpa using hy) (by rw [addN_x, hn0, Nat.zero_add]; simpa using q1) (fresh q3)
              refine ⟨ν', w', g1, ?_, g2, g3⟩
              rw [hcv, g4, hn0, addN_x, hn0, Nat.zero_add]; exact hr'
          · obtain ⟨A', c', w', hr', q1, q2, q3⟩ := hsrc.more rfl (ν v').A n.x (rowC a xs) j2 (by rw [rowC_len a xs j4, j3]) hm0 hn0 hroom (j7 hn0)
            rw [← rowC_app] at q1
            obtain ⟨ν', g1, g2, g3, g4⟩ := own_new (T := e) (n := addN n m) (xs := xs ++ ys) (M.growN q2) (by rw [addN_x, List.length_append, j3, hym]) (fun y hy' => (List.mem_append.1 hy').elim (j4 y) (hy y)) (by rw [addN_x]; exact q1) (fresh q3)
            refine ⟨ν', w', g1, ?_, g2, g3⟩
            rw [hcv, g4, addN_x]; exact hr'
        cases hb2 : m.l && Nat.blt 0 m.x with
        | true =>
          rw [hb2] at h
          cases h
          simp only [Bool.and_eq_true] at hb2
          exact fin _ (roomS_ok hr hc) (by simpa using hb2.2)
        | false =>
          rw [hb2] at h
          cases h
          rw [allC_app] at hc
          exact fin _ (roomS_ok hr hc.1) hc.2.1
      · cases h
  · rename_i c v' lo n tl
    split at h
    · rename_i e' b' m' xs hh
      cases hb : lo.l && Nat.beq lo.x 0 && Nat.beq e e' with
      | false => rw [hb] at h; cases h
      | true =>
        rw [hb] at h
        simp only [cond_true] at h
        simp only [Bool.and_eq_true] at hb
        have hlo := beqT hb.1.2
        have hee := beqT hb.2
        subst hee
        split at h
        · rename_i zs cs hz hr
          obtain ⟨rfl, rfl⟩ := castL_ok hz
          cases h
          obtain ⟨hx1, hx2, hS⟩ := hv
          have hok := M.ok _ _ hh
          obtain ⟨hI, hO⟩ := hok
          obtain ⟨A, L, K, s, i1, i2, i3, i4, i5, i6, i7⟩ := hS.bas
          have hb0 : bas ν c [] = some ((ν c).A, (ν c).n, (ν c).c, b'.lay.sz) := by unfold bas; rw [hI.lay]
          rw [hb0] at i1
          cases i1
          have hA := i3 hlo
          have hcc : (ν v').c = (ν c).c := by have := i5 rfl; omega
          have hroom := roomS_ok hr hc
          have hle : n.x ≤ m'.x := by rw [← hI.nn]; omega
          have hcut : (bif tl then xs else xs.take n.x) = xs.take n.x := by
            cases tl with
            | true =>
              have := i7 rfl
              rw [List.take_of_length_le (by rw [hI.len, ← hI.nn]; omega)]; rfl
            | false => rfl
          have hcv : cv ν (.sl c [] v' lo n tl false) = .slice (ν c).A n.x (ν c).c := by
            show Value.slice (ν v').A n.x (ν v').c = _
            rw [hA, hcc]
          have hall : ∀ y, y ∈ (bif tl then xs else xs.take n.x) ++ ys → okS b' y := by
            rw [hcut]
            exact fun y hy' => (List.mem_append.1 hy').elim (fun hy' => hI.all y (List.mem_of_mem_take hy')) (hy y)
          have hlen : ((bif tl then xs else xs.take n.x) ++ ys).length = (addN n m).x := by
            rw [hcut, addN_x, List.length_append, List.length_take, hI.len, hym, Nat.min_eq_left hle]
          have hwt : (HC.rw e b' m' xs).wt = true := rfl
          rcases hO with ⟨hO, hD⟩ | ⟨h0, hc0, hD⟩
          · have hO' := hO.cut hle
            rw [← rowC_take b' xs n.x hI.all, ← hcut] at hO'
            obtain ⟨A', c', w', hr', q1, q2, q3⟩ := hsrc.own _ _ _ _ hO' hroom
            rw [← rowC_app] at q1
            have M' := M.take hh hwt q2 (fun k hk => by rw [hD, hk]; simp)
            obtain ⟨ν', g1, g2, g3, g4⟩ := own_new (T := e) (n := addN n m) (xs := (bif tl then xs else xs.take n.x) ++ ys) M' hlen hall (by rw [addN_x]; exact q1) (fun k hk => by
              rcases q3 with q3 | ⟨k', q3, q4⟩
              · have hkD : k ∈ (ν c).D := by rw [hD, ← q3, hk]; simp
                refine ⟨M.mine c _ hh hwt k hkD, fun d y hd => ?_⟩
                rw [hget_del] at hd
                split at hd
                · cases hd
                · rename_i hne; exact M.ne c d _ y hh hd hne hwt k hkD
              · rw [hk] at q3; cases q3
                have := M.keep.size
                refine ⟨.inl (by omega), fun d y hd hb2 => ?_⟩
                rw [hget_del] at hd
                split at hd
                · cases hd
                · have := M.lt d y hd _ hb2; omega)
            refine ⟨ν', w', g1, ?_, g2, g3⟩
            rw [hcv, g4, addN_x]; exact hr'
          · have hn0 : n.x = 0 := by omega
            have hxs : (bif tl then xs else xs.take n.x) = [] := by rw [hcut, hn0]; rfl
            rw [hn0, Nat.zero_add] at hroom
            obtain ⟨A', c', w', hr', hO⟩ := hsrc.zero (ν c).A hroom
            have M1 := hdel_sub M c
            have hrun : (f (cv ν (.sl c [] v' lo n tl false))).run P w = .ok (.slice A' (addN n m).x c') w' := by
              rw [hcv, hn0, hc0, addN_x, hn0, Nat.zero_add]; exact hr'
            rcases hO with ⟨q1, q2, q3⟩ | ⟨q1, q2, q3⟩
            · obtain ⟨ν', g1, g2, g3, g4⟩ := row_new (T := e) (n := addN n m) (A := A') (c := c') (M1.growN q3) hlen hall (by rw [addN_x]; omega) (by rw [q2]; exact Nat.zero_le _) (by intro h; omega) (.inr ⟨by rw [addN_x]; omega, q2⟩)
              exact ⟨ν', w', g1, by rw [g4]; exact hrun, g2, g3⟩
            · obtain ⟨ν', g1, g2, g3, g4⟩ := own_new (T := e) (n := addN n m) (xs := (bif tl then xs else xs.take n.x) ++ ys) (M1.growN q2) hlen hall (by rw [hxs, addN_x, hn0, Nat.zero_add]; simpa using q1) (fun k hk => by
                obtain ⟨p1, p2⟩ := fresh q3 k hk
                refine ⟨p1, fun d y hd => ?_⟩
                rw [hget_del] at hd
                split at hd
                · cases hd
                · exact p2 d y hd)
              exact ⟨ν', w', g1, by rw [g4]; exact hrun, g2, g3⟩
        · cases h
    · cases h
  · cases h
/-! ### what is appended -/
omit hT in
theorem own_grown (w : World) (e sz need old : Nat) (zc : Array Value) (hz : zc.size = sz) (l l2 : List Value) (hl : l.length + l2.length = need * sz) (h63 : need ≤ maxLen) :
    Own (w.drew.alloc (.cells (l.toArray ++ l2.toArray ++ Builtin.zeroCells zc (grownCap w need old e - need)) e)) 0 e sz (some ⟨w.heap.size, 0, none⟩) need (grownCap w need old e) (l ++ l2) ∧
      w.grownBy (w.drew.alloc (.cells (l.toArray ++ l2.toArray ++ Builtin.zeroCells zc (grownCap w need old e - need)) e)) none := by
  have hge := grownCap_ge w need old e
  have hcm : grownCap w need old e ≤ maxLen := grownCap_le_maxLen w need old e h63
  refine ⟨⟨by rw [List.length_append]; exact hl, .inr ⟨w.heap.size, _, _, rfl, Nat.zero_le _, .of (heap_alloc_new w.drew _), hge, hcm, ?_, ?_⟩⟩, ⟨rfl, rfl, rfl, by simp, fun k hk _ => heap_alloc_old w.drew _ hk⟩⟩
  · simp only [Array.size_append, List.size_toArray, size_zeroCells, hz]
    rw [hl, ← Nat.add_mul]
    congr 1
    omega
  · simp only [Array.toList_append, List.append_assoc]
    rw [← List.append_assoc, ← hl, ← List.length_append]
    exact List.take_left
theorem src_slice {t e : Nat} {d : TD} {n' b' : Nat} {e' : Bool} {sz : Nat} {z : SV} (ht : lookD D t = some ⟨.sl e, n', b', e'⟩) (hd : lookD D e = some d) (hz : zsv D 9 e = some z) (hzl : (cls ν0 z).length = sz) (hdn : d.n = sz) (h0 : 0 < sz) (hb0 : 0 < d.b) (ty : TypeId) {A2 : Option Addr} {m c2 : Nat} {l2 : List Value} (hR : Rd w A2 l2) (hl : l2.length = m * sz) (h1 : ∀ u, u ∈ l2 → u.oneCell' = true) (mx : Bool) :
    Src P w e sz d.b m l2 mx (fun v => Builtin.append_ #[t, t] ty #[v, .slice A2 m c2]) := by
  have hu := hT.un t _ ht
  obtain ⟨j, zv, i1, i2, i3, i4, i5, i6⟩ := hT.row hd hz
  have hzs : zv.cells.size = d.n := by rw [i5, hdn]; simpa using hzl
  let i : T1 := ⟨.bool, d.n, d.b, zv⟩
  have le63 : ∀ k, k * d.b ≤ 140737488355328 → k ≤ maxLen := fun k hk => by
    have : k ≤ k * d.b := Nat.le_mul_of_pos_right _ hb0
    unfold maxLen; omega
  subst hdn
  have own : ∀ A n c l, Own w 0 e d.n A n c l → (n + m) * d.b ≤ 140737488355328 → ∃ A' c' w', (Builtin.append_ #[t, t] ty #[.slice A n c, .slice A2 m c2]).run P w = .ok (.slice A' (n + m) c') w' ∧ Own w' 0 e d.n A' (n + m) c' (l ++ l2) ∧ w.grownBy w' (oblk A) ∧ (oblk A' = oblk A ∨ ∃ k, oblk A' = some k ∧ w.heap.size ≤ k) :=
    fun A n c l hO hroom => run_app_own (P := P) 0 t ty e i j hu i1 i2 i3 i4 hzs h0 hO hR hl h1 (le63 _ hroom) hroom (Nat.zero_le _)
  have grow : ∀ (ad : Addr) (n : Nat) (l : List Value), (∀ j v, l[j]? = some v → w.cell? (ad.add j) = some v) → l.length = n * d.n → 0 < m → (n + m) * d.b ≤ 140737488355328 →
      ∃ A' c' w', (Builtin.append_ #[t, t] ty #[.slice (some ad) n n, .slice A2 m c2]).run P w = .ok (.slice A' (n + m) c') w' ∧ Own w' 0 e d.n A' (n + m) c' (l ++ l2) ∧ w.grownBy w' none ∧ ∃ k, oblk A' = some k ∧ w.heap.size ≤ k := by
    intro ad n l hA hlA hm hroom
    have hne : l2 ≠ [] := fun q => by
      rw [q] at hl
      have := Nat.mul_pos hm h0
      simp at hl
      omega
    have hA2 := hR.some_ hne
    have h63 := le63 _ hroom
    have hr := run_append_grow (P := P) (w := w) t ty e j zv hu i1 i2 ad n n l (by rw [i3]; exact hlA) hA ⟨ablk A2, aoff A2, none⟩ m c2 l2 (by rw [i3]; exact hl) (fun j u hu => by rw [add_flat]; exact hR.cells j u hu) (by omega) (by unfold maxLen at h63; omega) (growslice_fits (by omega) (by rw [i4]; exact hroom))
    obtain ⟨o1, o2⟩ := own_grown w e d.n (n + m) n zv.cells hzs l l2 (by rw [hlA, hl, Nat.add_mul]) h63
    exact ⟨_, _, _, by rw [hA2]; exact hr, o1, o2, _, rfl, Nat.le_refl _⟩
  refine ⟨own, fun A hroom => ?_, fun _ A n l hRA hlA hm hn hroom hfl => ?_⟩
  · cases A with
    | none =>
      obtain ⟨A', c', w', g1, g2, g3, g4⟩ := own none 0 0 [] (Own.nil _ _ _ _) (by simpa using hroom)
      refine ⟨A', c', w', by simpa using g1, ?_⟩
      rcases g4 with g4 | g4
      · rcases g2.form with ⟨q1, q2, q3, q4⟩ | ⟨b, q1, _⟩
        · exact .inl ⟨by omega, q3, g3⟩
        · rw [q1] at g4; cases g4
      · exact .inr ⟨by simpa using g2, g3, g4⟩
    | some ad =>
      rcases Nat.eq_zero_or_pos m with q | q
      · subst q
        refine ⟨some ad, 0, w, ?_, .inl ⟨rfl, rfl, grown_refl w _⟩⟩
        cases A2 <;> simp [Builtin.append_, run_underlying hu, sizeOf, typeInfo, i1, i3, Builtin.lenOf, Builtin.firstCells, storeCells, loadCells, loadCellsFrom]
      · obtain ⟨A', c', w', g1, g2, g3, g4⟩ := grow ad 0 [] (by intro j v h; simp at h) (by simp) q (by simpa using hroom)
        exact ⟨A', c', w', by simpa using g1, .inr ⟨by simpa using g2, g3, g4⟩⟩
  · rw [hfl]
    exact grow _ n l (fun j u hu => by rw [add_flat]; exact hRA.cells j u hu) hlA hm hroom
theorem src_zeros {t t' e : Nat} {d : TD} {n' b' : Nat} {e' : Bool} {a : Sh} {z : SV} {z' : a.T} (ht : lookD D t = some ⟨.sl e, n', b', e'⟩) (ht' : intT D t' = true) (hd : lookD D e = some d) (hz : zsv D 9 e = some z) (hz' : ext a z = some z') (hdn : d.n = a.lay.sz) (hag : a.lay.agg = false) (hb0 : 0 < d.b) (ty : TypeId) (k : IntKind) {m : Nat} (hm : 0 < m) :
    Src P w e a.lay.sz d.b m (rowC a (List.replicate m z')) false (fun v => Builtin.append_ #[t, t'] ty #[v, .int k ((m : Nat) : Int)]) := by
  have hu := hT.un t _ ht
  obtain ⟨kn, hu'⟩ : ∃ kn, P.underlying t' = some (.int kn) := by
    unfold intT at ht'
    split at ht'
    · rename_i kn _ _ _ h
      exact ⟨kn, hT.un t' _ h⟩
    · cases ht'
  obtain ⟨j, zv, i1, i2, i3, i4, i5, i6⟩ := hT.row hd hz
  obtain ⟨y1, y2, y3⟩ := zsv_ok _ _ _ hz
  obtain ⟨g1, g2, g3, g4⟩ := ext_ok ν0 (q := 0) a z z' hz' (y2 _ _)
  have hzag : z.lay.agg = false := by rw [g3]; exact hag
  have hone := cv_one ν0 hzag y3
  have hzc : zv.cells = #[zv] := by rw [i5, hone, i6]
  have hsz : a.lay.sz = 1 := by
    cases hl : a.lay <;> rw [hl] at hag <;> first | rfl | cases hag
  have hz1 : zv.oneCell' = true := by
    rw [i6]
    exact cls_one ν0 z (y2 ν0 0) y3 _ (by rw [hone]; simp)
  have hrow : rowC a (List.replicate m z') = List.replicate m zv := by
    rw [rowC_rep, ← g2, hone, i6]
    clear hm
    induction m with
    | zero => rfl
    | succ m ih => rw [List.replicate_succ, List.replicate_succ, List.flatten_cons, ih]; rfl
  rw [hrow]
  have h1n : d.n = 1 := by rw [hdn, hsz]
  let i : T1 := ⟨.bool, d.n, d.b, zv⟩
  have le63 : ∀ k, k * d.b ≤ 140737488355328 → k ≤ maxLen := fun k hk => by
    have : k ≤ k * d.b := Nat.le_mul_of_pos_right _ hb0
    unfold maxLen; omega
  have hkk : ∀ (A : Option Addr) (n c : Nat), (Builtin.append_ #[t, t'] ty #[.slice A n c, .int k ((m : Nat) : Int)]).run P w = (Builtin.append_ #[t, t'] ty #[.slice A n c, .int .i64 ((m : Nat) : Int)]).run P w := by
    intro A n c
    simp only [Builtin.append_, asInt, asIntOf]
    rfl
  have own : ∀ A n c l, Own w 0 e a.lay.sz A n c l → (n + m) * d.b ≤ 140737488355328 → ∃ A' c' w', (Builtin.append_ #[t, t'] ty #[.slice A n c, .int k ((m : Nat) : Int)]).run P w = .ok (.slice A' (n + m) c') w' ∧ Own w' 0 e a.lay.sz A' (n + m) c' (l ++ List.replicate m zv) ∧ w.grownBy w' (oblk A) ∧ (oblk A' = oblk A ∨ ∃ k, oblk A' = some k ∧ w.heap.size ≤ k) := by
    intro A n c l hO hroom
    rw [hkk]
    rw [← hdn] at hO ⊢
    exact run_app_zeros (P := P) 0 t t' ty e i j kn hu hu' i1 i2 i3 i4 hzc h1n hz1 hb0 hO hm hroom (Nat.zero_le _)
  refine ⟨own, fun A hroom => ?_, by intro h; cases h⟩
  cases A with
  | none =>
    obtain ⟨A', c', w', g1, g2, g3, g4⟩ := own none 0 0 [] (Own.nil _ _ _ _) (by simpa using hroom)
    refine ⟨A', c', w', by simpa using g1, ?_⟩
    rcases g4 with g4 | g4
    · rcases g2.form with ⟨q1, q2, q3, q4⟩ | ⟨b, q1, _⟩
      · omega
      · rw [q1] at g4; cases g4
    · exact .inr ⟨by simpa using g2, g3, g4⟩
  | some ad =>
    have hr := run_append_grow_zeros (P := P) (w := w) t t' ty e j zv kn hu hu' i1 i2 hzc (by rw [i3, h1n]) ad 0 0 [] rfl (by intro j v h; simp at h) m hm (by rw [i4]; omega) (by omega) (by have := le63 _ hroom; unfold maxLen at this; omega) (growslice_fits (by omega) (by rw [i4]; simpa using hroom))
    have h63 := le63 _ hroom
    obtain ⟨o1, o2⟩ := own_grown w e a.lay.sz m 0 zv.cells (by rw [hzc, hsz]; rfl) [] (List.replicate m zv) (by rw [hsz]; simp) h63
    refine ⟨_, _, _, by rw [hkk]; simpa using hr, .inr ⟨?_, ?_, _, rfl, Nat.le_refl _⟩⟩
    · simpa using o1
    · simpa using o2
theorem evAppend_ok (M : Mem ν q w0 X H w) {S : St} (hS : S.H = H) {t t' : Nat} {v x : SV} {e : Ef} (ty : TypeId) (h : evAppend D q S t t' v x = some e) (hc : allC e.cs) (hv : v.ok ν q) (hx : x.ok ν q) : VOk P ν q w0 X w (Builtin.append_ #[t, t'] ty #[cv ν v, cv ν x]) e := by
  subst hS
  unfold evAppend at h
  split at h
  · rename_i el n' b' e' ht
    split at h
    · rename_i d a z hd ha hz
      split at h
      · rename_i z' hz'
        cases hb : Nat.beq d.n a.lay.sz && Nat.blt 0 d.n && Nat.blt 0 d.b with
        | false => rw [hb] at h; cases h
        | true =>
          rw [hb] at h
          simp only [cond_true] at h
          simp only [Bool.and_eq_true] at hb
          have hdn := beqT hb.1.1
          have hd0 : 0 < d.n := by simpa using hb.1.2
          have hb0 : 0 < d.b := by simpa using hb.2
          obtain ⟨z1, z2, z3⟩ := zrow hz hz'
          split at h
          · rename_i k m
            split at h
            · rename_i p hp
              cases hb2 : !a.lay.agg && intT D t' && !isMx v with
              | false => rw [hb2] at h; cases h
              | true =>
                rw [hb2] at h
                simp only [cond_true] at h
                simp only [Bool.and_eq_true] at hb2
                split at h
                · rename_i f hf
                  cases h
                  rw [allC_app] at hc
                  have hm := pos_ok hp hc.1
                  have hmx : isMx v = false := by simpa using hb2.2
                  have hsrc := src_zeros hT (w := w) ht hb2.1.2 hd hz hz' hdn (by simpa using hb2.1.1) hb0 ty k hm
                  rw [← hmx] at hsrc
                  obtain ⟨ν', w', g1, g2, g3, g4⟩ := appS_ok (f := fun v => Builtin.append_ #[t, t'] ty #[v, .int k ((m.x : Nat) : Int)]) M rfl hsrc (fun y hy => by rw [(List.mem_replicate.1 hy).2]; exact z1) (by simp) hf hc.2 hv
                  exact ⟨ν', w', g1, g2, g3, g4⟩
                · cases h
            · cases h
          · split at h
            · rename_i m ys hm hy
              cases hb2 : Nat.beq t t' with
              | false => rw [hb2] at h; cases h
              | true =>
                rw [hb2] at h
                simp only [cond_true] at h
                have := beqT hb2
                subst this
                obtain ⟨A, k, cc, j1, j2, j3, j4, j5, j6, j7, j8⟩ := cont_ok M hy hx
                have hmk : m.x = k := by
                  unfold slLen at hm
                  split at hm
                  · cases hm
                    injection j1
                  · cases hm
                    injection j1
                  · cases hm
                have hsrc := src_slice hT (w := w) ht hd hz z3 hdn (by omega) hb0 ty (c2 := cc) j2 (by rw [rowC_len a ys j4, j3]) (rowC_one a ys j4) (isMx v)
                rw [← hmk] at hsrc
                obtain ⟨ν', w', g1, g2, g3, g4⟩ := appS_ok (f := fun v => Builtin.append_ #[t, t] ty #[v, .slice A m.x cc]) M rfl hsrc j4 (by rw [j3, hmk]) h hc hv
                refine ⟨ν', w', g1, ?_, g3, g4⟩
                rw [j1, ← hmk]; exact g2
            · cases h
      · cases h
    · cases h
  · cases h
end
end
end Go.Proofs.Ytnagkhofkjjajaa
