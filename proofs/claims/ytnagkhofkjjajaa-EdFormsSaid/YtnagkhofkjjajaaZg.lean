/- The program's facts that the symbolic walk asks for: checks that the kernel reckons. Lemmas, no statement of the claim. -/
import Derived.Test.YtnagkhofkjjajaaZf
/- The symbolic walk is sound: functions. Lemmas, no statement of the claim. -/
set_option linter.unusedVariables false
set_option linter.unusedSimpArgs false
namespace Go.Proofs.Ytnagkhofkjjajaa
open Go.RowKit
section
variable {P : Program} {D : List (Nat × TD)} {ν : NV} {q : Nat} {w0 : World} {X : XS} {N : Nat} {S : St} {a : Act} {w : World}
def resG (tmps : Array Value) : ResultVar → Sem Value
  | .tmp t => pure (tmps.getD t undef)
  | .cell a t => do loadVar t (← asAddr (tmps.getD a undef))
theorem run_var (hT : TDok P D) {t : Nat} {v : SV} (h : fits D t v = true) (hv : v.ok ν q) {w : World} {b o : Nat} (hc : Cells w b o (cls ν v)) : (loadVar t ⟨b, o, none⟩).run P w = .ok (cv ν v) w := by
  obtain ⟨h1, h2, h3⟩ := fits_ok hT h
  have hl := cls_len ν v hv
  cases ha : v.lay.agg with
  | true =>
    have hl' := run_loadCells_list (P := P) w ⟨b, o, none⟩ (cls ν v) (fun j u hu => by rw [add_flat]; exact hc j u hu)
    rw [hl] at hl'
    rw [cv_agg ν ha]
    simp [loadVar, h2, ha, h3, hl']
  | false =>
    have := hc.at (j := 0) (v := cv ν v) (by rw [cv_one ν ha h1]; rfl) (o' := o) rfl
    simp [loadVar, h2, ha, this]
theorem resS_ok (hT : TDok P D) (R : Rep ν q w0 X N S a w) : ∀ (rvs : List ResultVar) (l : List SV), resS D S rvs = some l → (rvs.mapM (resG a.tmps)).run P w = .ok (l.map (cv ν)) w ∧ ∀ v, v ∈ l → v.ok ν q
  | [], l, h => by cases h; exact ⟨rfl, fun v hv => by cases hv⟩
  | .tmp t :: r, l, h => by
    simp only [resS] at h
    split at h
    · rename_i v m hv hm
      cases h
      obtain ⟨h1, h2⟩ := R.fr t v hv
      obtain ⟨h3, h4⟩ := resS_ok hT R r m hm
      refine ⟨?_, fun u hu => by
        rcases List.mem_cons.1 hu with rfl | hu
        · exact h2
        · exact h4 u hu⟩
      have e : a.tmps.getD t undef = cv ν v := by simp [Array.getD_eq_getD_getElem?, h1]
      simp [List.mapM_cons, resG, e, h3]
    · cases h
  | .cell t ty :: r, l, h => by
    simp only [resS] at h
    split at h
    · rename_i x hx
      split at h
      · rename_i v m hv hm
        cases h
        obtain ⟨h1, h2⟩ := R.fr t x hx
        obtain ⟨h3, h4⟩ := resS_ok hT R r m hm
        cases x <;> (try (cases hv; done))
        rename_i c lay pa
        simp only [ldS] at hv
        split at hv
        · rename_i y hy
          cases hq : y.lay.q lay with
          | false => rw [hq] at hv; cases hv
          | true =>
            rw [hq] at hv
            simp only [cond_true] at hv
            split at hv
            · rename_i u hu
              cases hf : fits D ty u with
              | false => rw [hf] at hv; cases hv
              | true =>
                rw [hf] at hv
                cases hv
                have := lay_q hq
                subst this
                obtain ⟨k1, k2, k3⟩ := h2
                obtain ⟨g1, g2, g3, g4⟩ := HC.at_ok (R.mem.ok c y hy) hu k3
                refine ⟨?_, fun z hz => by
                  rcases List.mem_cons.1 hz with rfl | hz
                  · exact g1
                  · exact h4 z hz⟩
                have e : a.tmps.getD t undef = .pointer (some ⟨ablk (ν c).A, aoff (ν c).A + poff y.lay pa, none⟩) := by simp [Array.getD_eq_getD_getElem?, h1]; rfl
                have e2 := run_var hT hf g1 g4
                simp [List.mapM_cons, resG, e, asAddr, e2, h3]
            · cases hv
        · cases hv
      · cases h
    · cases h
theorem one_cv {ν ν' : NV} {l m : List SV} (h : l.map (cv ν) = m.map (cv ν')) : cv ν (one l) = cv ν' (one m) := by
  have tp : ∀ (ν : NV) (l : List SV), cv ν (.tp (mkItems l)) = .tuple (l.map (cv ν)).toArray := fun ν l => by
    show Value.tuple (itv ν (mkItems l)).toArray = _
    rw [itv_mk]
  match l, m, h with
  | [], [], _ => rfl
  | [x], [y], h => exact (List.cons.inj h).1
  | x :: y :: l, u :: v :: m, h => show cv ν (.tp (mkItems (x :: y :: l))) = cv ν' (.tp (mkItems (u :: v :: m))); rw [tp, tp, h]
  | [], _ :: _, h => cases h
  | _ :: _, [], h => cases h
  | [_], _ :: _ :: _, h => have := congrArg List.length h; simp at this
  | _ :: _ :: _, [_], h => have := congrArg List.length h; simp at this
theorem one_ok {l : List SV} (h : ∀ v, v ∈ l → v.ok ν q) : (one l).ok ν q := by
  match l, h with
  | [], _ => trivial
  | [x], h => exact h x (by simp)
  | x :: y :: l, h => exact mk_ok (x :: y :: l) h
theorem results_ok (hT : TDok P D) (R : Rep ν q w0 X N S a w) {fn : Func} {rvs : List ResultVar} (hr : fn.results.toList = rvs) {l : List SV} (h : resS D S rvs = some l) : (results fn a.tmps).run P w = .ok (cv ν (one l)) w ∧ (one l).ok ν q := by
  obtain ⟨h1, h2⟩ := resS_ok hT R rvs l h
  refine ⟨?_, one_ok h2⟩
  have hr' : fn.results = rvs.toArray := by rw [← hr]
  have hm : (fn.results.mapM (resG a.tmps)).run P w = .ok (l.map (cv ν)).toArray w := by
    rw [hr', List.mapM_toArray]
    simp [h1]
  have hd : results fn a.tmps = (do let vs ← fn.results.mapM (resG a.tmps); pure (if h : vs.size = 1 then vs[0] else .tuple vs)) := rfl
  rw [hd, Sem.run_bind, hm]
  simp only [Result.andThen_ok, Sem.run_pure]
  match l with
  | [] => rfl
  | [x] => rfl
  | x :: y :: l =>
    show Result.ok (Value.tuple _) w = Result.ok (Value.tuple (itv ν (mkItems (x :: y :: l))).toArray) w
    rw [itv_mk]
end
/-! ### Functions -/
/-- What the program says of a function that is walked. -/
structure FiOk (P : Program) (g : Nat) (f : FI) : Prop where
  fn : ∃ fn, P.funcs[g]? = some fn ∧ fn.body = some f.c ∧ fn.ntmps = f.n ∧ fn.results.toList = f.rs
  call : callable P g
  ok : okF f = true
/-- A contract that holds. -/
def CtOk (P : Program) (g : Nat) (c : Ct) : Prop :=
  ∀ (args : List SV) (q : Nat) (H : List (Nat × Nat × HC)) (x : Tup (lvs c.ps)) (r : Tup (lvs c.rs)), extA H c.ps args = some x → c.F x = some r → ∀ (ν : NV) (w0 : World) (X : XS) (w : World), (∀ v, v ∈ args → v.ok ν q) → Mem ν q w0 X H w →
    CallOk P g (args.map (cv ν)).toArray w (fun u w' => ∃ ν', Agr q ν ν' ∧ u = cv ν' (one (embA q c.rs r H q).vs) ∧ (one (embA q c.rs r H q).vs).ok ν' (q + nmA c.rs + 1) ∧ Mem ν' (q + nmA c.rs + 1) w0 X (embA q c.rs r H q).H w')
/-- what a function does that runs another and tells whether it went through -/
def CaOk (P : Program) (pt g : Nat) : Prop := callable P g ∧ ∃ tb, ∀ (f : Nat) (fi cap : Array Value) (w : World) (R : Ending → World → Prop), callable P f →
  Calls P f (fi ++ cap) (w.alloc (.cells #[.bool false] tb)) (fun e w' => w'.cell? ⟨w.heap.size, 0, none⟩ = some (.bool false) ∧ w'.frozen? ⟨w.heap.size, 0, none⟩ = false ∧ w.heap.size < w'.heap.size ∧
    ((∃ v, e = .returned v ∧ R (.returned (.bool true)) ((w'.setCell ⟨w.heap.size, 0, none⟩ (.bool true)).alloc (.cells #[] pt))) ∨
     (e = .panicked [{ v := .iface pt (.agg ⟨[]⟩), recovered := false }] ∧ R (.returned (.bool false)) ((w'.alloc (.cells #[] pt)).setCell ⟨w.heap.size, 0, none⟩ (.bool false))))) →
  Calls P g #[.func (.func f) fi cap] w R
structure EnvOk (P : Program) (E : Env) : Prop where
  ca : 0 < E.ca → CaOk P E.pt E.ca
  sp : ∀ g s, look0 E.sp g = some s → SpOk P g s
  ct : ∀ g c, look0 E.ct g = some c → CtOk P g c
  fi : ∀ g f, look0 E.fi g = some f → FiOk P g f
/-- What is asked of all regions that draw their order. -/
def DrawAll (P : Program) (E : Env) : Prop := ∀ (h : Hnd) (N : Nat), N ≤ 4000 → HndOk P E h → DrawOk P E h N
theorem allLt_mem {n : Nat} : ∀ {l : List Nat}, allLt n l = true → ∀ t, t ∈ l → t < n
  | a :: l, h, t, ht => by
    have h : (Nat.blt a n && allLt n l) = true := h
    rw [Bool.and_eq_true] at h
    rcases List.mem_cons.1 ht with rfl | ht
    · simpa using h.1
    · exact allLt_mem h.2 t ht
theorem lenL_eq {α : Type} : ∀ (l : List α), lenL l = l.length
  | [] => rfl
  | _ :: l => by simp [lenL, lenL_eq l]
theorem argsT_get : ∀ (vs : List SV) (i : Nat) (F : Tr) (t : Nat), i + vs.length ≤ 4000 → (argsT i vs F).get t = if t < i then F.get t else match vs[t - i]? with | some v => some v | none => F.get t
  | [], i, F, t, _ => by simp [argsT]
  | v :: r, i, F, t, h => by
    simp only [List.length_cons] at h
    unfold argsT
    rw [argsT_get r (i + 1) _ t (by omega), put_get F (by omega) (some v) t]
    by_cases h1 : t < i
    · rw [if_pos (by omega), if_neg (by omega), if_pos h1]
    · rw [if_neg h1]
      by_cases h2 : t = i
      · subst h2
        rw [if_pos (by omega), if_pos rfl]
        simp
      · rw [if_neg (by omega), if_neg (by omega), show t - i = t - (i + 1) + 1 by omega, List.getElem?_cons_succ]
theorem argsT_e {vs : List SV} {t : Nat} {v : SV} (hl : vs.length ≤ 4000) (h : (argsT 0 vs .e).get t = some v) : vs[t]? = some v := by
  rw [argsT_get vs 0 .e t (by omega)] at h
  rw [if_neg (by omega), Nat.sub_zero] at h
  split at h
  · rename_i u hu; rw [hu, h]
  · cases h
section
variable {P : Program} {E : Env} {q : Nat} {H : List (Nat × Nat × HC)}
/-- a function's frame as it begins -/
theorem rep_init {ν : NV} {w0 : World} {X : XS} {w : World} {n : Nat} {args : List SV} (hn : n ≤ 4000) (hl : args.length ≤ n) (ha : ∀ v, v ∈ args → v.ok ν q) (M : Mem ν q w0 X H w) :
    Rep ν q w0 X n ⟨argsT 0 args .e, H⟩ { tmps := (args.map (cv ν)).toArray ++ Array.replicate (n - (args.map (cv ν)).toArray.size) undef, defers := [] } w := by
  refine ⟨by simp; omega, rfl, fun t v h => ?_, M⟩
  have h1 := argsT_e (by omega) (show (argsT 0 args .e).get t = some v from h)
  have hlt := (List.getElem?_eq_some_iff.1 h1).1
  refine ⟨?_, ha v (List.mem_of_getElem? h1)⟩
  rw [Array.getElem?_append_left (by simpa using hlt)]
  simp [h1]
/-- What a function's body does. -/
theorem body_ok {A : An} (hT : TDok P E.D) (hD : DrawAll P E) {h : Hnd} (hh : HndOk P E h) {g : Nat} {f : FI} (hf : FiOk P g f) {τ : Type} {k : KT τ} (hex : k.ex = []) {F0 : Tr} {r : τ} {args : List SV} (hl : args.length ≤ f.n)
    (hs : sx E h f.c A τ q ⟨argsT 0 args .e, H⟩ k = some r) :
    ∃ q' S', q ≤ q' ∧ Frz q H S'.H ∧ ((∃ l, (k.nr q' S' = some r ∨ k.rt q' S' = some r) ∧ (∀ l, resS E.D S' f.rs = some l → ∀ (ν : NV) (w0 : World) (X : XS) (w : World), (∀ v, v ∈ args → v.ok ν q) → Mem ν q w0 X H w →
        Calls P g (args.map (cv ν)).toArray w (Ret fun u w' => ∃ ν', Agr q ν ν' ∧ u = cv ν' (one l) ∧ (∀ v, v ∈ l → v.ok ν' q') ∧ Mem ν' q' w0 X S'.H w')) ∧ l = ()) ∨
      (k.pn q' S' = some r ∧ ∀ (ν : NV) (w0 : World) (X : XS) (w : World), (∀ v, v ∈ args → v.ok ν q) → Mem ν q w0 X H w →
        Calls P g (args.map (cv ν)).toArray w (fun e w' => e = .panicked (pch E) ∧ ∃ ν', Agr q ν ν' ∧ Mem ν' q' w0 X S'.H w'))) := by
  obtain ⟨⟨fn, p1, p2, p3, p4⟩, hcall, hok⟩ := hf
  simp only [okF, Bool.and_eq_true] at hok
  obtain ⟨⟨o1, o2⟩, o3⟩ := hok
  have hn : f.n ≤ 4000 := Nat.le_of_ble_eq_true o1
  obtain ⟨e, q', S', h1, h2⟩ := sx_ok hT hn rfl hh (hD h f.n hn hh) f.c A τ q _ k r (allLt_mem o2) o3 hs
  refine ⟨q', S', h2.le, h2.frz, ?_⟩
  have ret : (e = .nr ∨ e = .rt) → ∀ l, resS E.D S' f.rs = some l → ∀ (ν : NV) (w0 : World) (X : XS) (w : World), (∀ v, v ∈ args → v.ok ν q) → Mem ν q w0 X H w →
        Calls P g (args.map (cv ν)).toArray w (Ret fun u w' => ∃ ν', Agr q ν ν' ∧ u = cv ν' (one l) ∧ (∀ v, v ∈ l → v.ok ν' q') ∧ Mem ν' q' w0 X S'.H w') := by
    intro he l hl' ν w0 X w ha M
    refine calls_of_wp p1 p2 ?_
    rw [p3]
    refine h2.go ν w0 X _ w _ (rep_init hn hl ha M) fun ν' a' w' hag hk R' => ?_
    obtain ⟨r1, r2⟩ := results_ok hT R' p4 hl'
    have r3 := (resS_ok hT R' f.rs l hl').2
    have : bodyPost P fn (Ret fun u w' => ∃ ν', Agr q ν ν' ∧ u = cv ν' (one l) ∧ (∀ v, v ∈ l → v.ok ν' q') ∧ Mem ν' q' w0 X S'.H w') .ret a' w' := ⟨R'.df, _, r1, _, rfl, ν', hag, rfl, r3, R'.mem⟩
    rcases he with rfl | rfl
    · exact this
    · exact this
  cases e with
  | nr => exact .inl ⟨(), .inl h1, ret (.inl rfl), rfl⟩
  | rt => exact .inl ⟨(), .inr h1, ret (.inr rfl), rfl⟩
  | ex i =>
    have h1 : exAt k.ex i q' S' = some r := h1
    rw [hex] at h1; cases h1
  | pn =>
    refine .inr ⟨h1, fun ν w0 X w ha M => ?_⟩
    refine calls_of_wp p1 p2 ?_
    rw [p3]
    exact h2.go ν w0 X _ w _ (rep_init hn hl ha M) fun ν' a' w' hag hk R' => ⟨R'.df, rfl, ν', hag, R'.mem⟩
/-- a block that is written beside all pieces -/
def inX (w0 w : World) (X : XS) : XS := ⟨(List.range w.heap.size).filter (fun b => decide (w0.heap.size ≤ b ∨ b ∈ X.x)), fun b => Vis w0 X b ∧ b < w.heap.size⟩
theorem inX_mem {w0 w : World} {X : XS} {b : Nat} : b ∈ (inX w0 w X).x ↔ b < w.heap.size ∧ (w0.heap.size ≤ b ∨ b ∈ X.x) := by
  unfold inX
  simp [List.mem_filter]
theorem size_al (w : World) (o : Obj) : (w.alloc o).heap.size = w.heap.size + 1 := World.size_alloc w o
theorem mem_in {ν : NV} {w0 w : World} {X : XS} {H : List (Nat × Nat × HC)} (M : Mem ν q w0 X H w) (o : Obj) : Mem ν q (w.alloc o) (inX w0 w X) H (w.alloc o) := by
  have M1 := M.growN (grown_alloc w o)
  exact ⟨Keep.refl _ _, M.nm, M1.ok, M1.lt, fun c h hh hw b hb => .inr (inX_mem.2 ⟨M.lt c h hh b hb, M.mine c h hh hw b hb⟩), M.ne, fun c h hh b hb => .inr (.inr ⟨M.src c h hh b hb, M.lt c h hh b hb⟩)⟩
theorem mem_out {ν ν' : NV} {q' : Nat} {w0 w w' : World} {X : XS} {H H' : List (Nat × Nat × HC)} {o : Obj} (M : Mem ν q w0 X H w) (M' : Mem ν' q' (w.alloc o) (inX w0 w X) H' w') :
    Mem ν' q' w0 X H' w' ∧ (∀ c h, hget H' c = some h → w.heap.size ∉ (ν' c).D) := by
  have k1 := M.keep.grown (grown_alloc w o) (by simp)
  have hsz : w0.heap.size ≤ w.heap.size := M.keep.size
  refine ⟨⟨k1.trans M'.keep (fun x hx => (inX_mem.1 hx).2), M'.nm, M'.ok, M'.lt, fun c h hh hw b hb => ?_, M'.ne, fun c h hh b hb => ?_⟩, fun c h hh hb => ?_⟩
  · rcases M'.mine c h hh hw b hb with k | k
    · rw [size_al] at k; exact .inl (by omega)
    · exact (inX_mem.1 k).2
  · rcases M'.src c h hh b hb with k | k | k
    · rw [size_al] at k; exact .inl (by omega)
    · exact vis_of (inX_mem.1 k).2
    · exact k.1
  · rcases M'.src c h hh _ hb with k | k | k
    · rw [size_al] at k; omega
    · have := (inX_mem.1 k).1; omega
    · have := k.2; omega
theorem Mem.beside {ν : NV} {w0 w w' : World} {X : XS} {H : List (Nat × Nat × HC)} (M : Mem ν q w0 X H w) {b : Nat} (hb : w0.heap.size ≤ b) (hn : ∀ c h, hget H c = some h → b ∉ (ν c).D) (g : w.grownBy w' (some b)) : Mem ν q w0 X H w' :=
  ⟨M.keep.grown g (fun k hk => by cases hk; exact .inl hb), M.nm, fun c x hx => HC.grow (M.ok c x hx) g (fun k hk => by cases hk; exact hn c x hx), fun c x hx k hk => Nat.lt_of_lt_of_le (M.lt c x hx k hk) g.size, M.mine, M.ne, M.src⟩
/-- the cell that tells -/
theorem al_cell {w w' : World} {S : List Nat} {tb : Nat} (k : Keep S (w.alloc (.cells #[.bool false] tb)) w') (hS : w.heap.size ∉ S) :
    w'.cell? ⟨w.heap.size, 0, none⟩ = some (.bool false) ∧ w'.frozen? ⟨w.heap.size, 0, none⟩ = false ∧ w.heap.size < w'.heap.size := by
  have hb : w'.heap[w.heap.size]? = some (.cells #[.bool false] tb) := by
    rw [k.block _ (by rw [size_al]; omega) hS, (MapKept.heap_alloc w _).1]
  refine ⟨?_, ?_, ?_⟩
  · unfold World.cell?; rw [hb]; rfl
  · unfold World.frozen?; rw [hb]; rfl
  · have := k.size; rw [size_al] at this; omega
theorem grown_set {w : World} {b : Nat} (v : Value) : w.grownBy (w.setCell ⟨b, 0, none⟩ v) (some b) :=
  ⟨rfl, rfl, rfl, by rw [World.size_setCell]; exact Nat.le_refl _, fun k hk hne => by
    show (w.setCell ⟨b, 0, none⟩ v).heap[k]? = w.heap[k]?
    simp only [World.setCell, Array.getElem?_modify]
    rw [if_neg (fun e => hne (by rw [e]))]⟩
theorem inlH_ok (hT : TDok P E.D) (hD : DrawAll P E) (hE : EnvOk P E) : ∀ n, HndOk P E (inlH E n) := by
  have ct : ∀ (c : Ct) (g : Nat), look0 E.ct g = some c → ∀ (τ : Type) (args : List SV) (q : Nat) (S : St) (k : SV → Nat → St → Option τ) (pn : Nat → St → Option τ) (r : τ), ctC c args q S k = some r →
      ∃ q' H', q ≤ q' ∧ Frz q S.H H' ∧ ((∃ v, k v q' ⟨S.F, H'⟩ = some r ∧ ∀ (ν : NV) (w0 : World) (X : XS) (w : World), (∀ v, v ∈ args → v.ok ν q) → Mem ν q w0 X S.H w →
      CallOk P g (args.map (cv ν)).toArray w (fun u w' => ∃ ν', Agr q ν ν' ∧ u = cv ν' v ∧ v.ok ν' q' ∧ Mem ν' q' w0 X H' w')) ∨
     (pn q' ⟨S.F, H'⟩ = some r ∧ ∀ (ν : NV) (w0 : World) (X : XS) (w : World), (∀ v, v ∈ args → v.ok ν q) → Mem ν q w0 X S.H w →
      callable P g ∧ Calls P g (args.map (cv ν)).toArray w (fun e w' => e = .panicked (pch E) ∧ ∃ ν', Agr q ν ν' ∧ Mem ν' q' w0 X H' w'))) := by
    intro c g hc τ args q S k pn r h
    unfold ctC at h
    split at h
    · rename_i x hx
      obtain ⟨y, hy, hk⟩ := bnd_some h
      exact ⟨_, _, by omega, embA_frz (Nat.le_refl q) c.rs y S.H q, .inl ⟨_, hk, fun ν w0 X w ha M => hE.ct g c hc args q S.H x y hx hy ν w0 X w ha M⟩⟩
    · cases h
  intro n
  induction n with
  | zero =>
    intro τ g args q S k pn r h
    simp only [inlH] at h
    split at h
    · rename_i c hc; exact ct c g hc τ args q S k pn r h
    · cases h
  | succ n ih =>
    intro τ g args q S k pn r h
    simp only [inlH] at h
    split at h
    · rename_i c hc; exact ct c g hc τ args q S k pn r h
    · split at h
      · rename_i f hf
        cases hb : Nat.ble (lenL args) f.n with
        | false => rw [hb] at h; cases h
        | true =>
          rw [hb] at h
          simp only [cond_true] at h
          have hl : args.length ≤ f.n := by rw [← lenL_eq]; exact Nat.le_of_ble_eq_true hb
          have hfi := hE.fi g f hf
          obtain ⟨q', S', h1, h2, h3⟩ := body_ok hT hD ih hfi rfl (F0 := S.F) hl h
          refine ⟨q', S'.H, h1, h2, ?_⟩
          rcases h3 with ⟨_, g1, g2, _⟩ | ⟨g1, g2⟩
          · have g1 : (match resS E.D S' f.rs with
              | some l => k (one l) q' ⟨S.F, S'.H⟩
              | none => none) = some r := g1.elim id id
            split at g1
            · rename_i l hl'
              refine .inl ⟨one l, g1, fun ν w0 X w ha M => .inl ⟨hfi.call, (g2 l hl' ν w0 X w ha M).mono fun e w' hq => ?_⟩⟩
              obtain ⟨u, rfl, ν', k1, k2, k3, k4⟩ := hq
              exact ⟨u, rfl, ν', k1, k2, one_ok k3, k4⟩
            · cases g1
          · exact .inr ⟨g1, fun ν w0 X w ha M => ⟨hfi.call, g2 ν w0 X w ha M⟩⟩
      · cases hb : (Nat.beq E.ca g && Nat.blt 0 g) with
        | false =>
          rw [hb] at h
          simp only [cond_false] at h
          split at h
          · rename_i s hs
            exact spH_ok hT ih (fun f F hF => (hE.fi f F hF).call) (hE.sp g s hs) τ args q S k pn r h
          · cases h
        | true =>
          rw [hb] at h
          simp only [cond_true] at h
          rw [Bool.and_eq_true] at hb
          have hg : E.ca = g := Nat.eq_of_beq_eq_true hb.1
          have hg0 : 0 < E.ca := by rw [hg]; simpa using hb.2
          obtain ⟨cg, tb, hca⟩ := hE.ca hg0
          rw [hg] at cg hca
          split at h
          · rename_i f fi cap
            split at h
            · rename_i F hF
              have hcal := (hE.fi f F hF).call
              obtain ⟨q', H', h1, h2, h3⟩ := ih τ f _ q S _ _ r h
              have pre : ∀ (ν : NV) (w0 : World) (X : XS) (w : World), (∀ v, v ∈ [SV.fn f fi cap] → v.ok ν q) → Mem ν q w0 X S.H w →
                  (∀ v, v ∈ app fi.items cap.items → v.ok ν q) ∧ ([SV.fn f fi cap].map (cv ν)).toArray = #[.func (.func f) (itv ν fi).toArray (itv ν cap).toArray] ∧ ((app fi.items cap.items).map (cv ν)).toArray = (itv ν fi).toArray ++ (itv ν cap).toArray := by
                intro ν w0 X w ha M
                have hk := ha _ (List.mem_singleton.2 rfl)
                obtain ⟨i1, i2⟩ := items_cv (q := q) ν fi
                obtain ⟨j1, j2⟩ := items_cv (q := q) ν cap
                refine ⟨fun v hv => ?_, rfl, ?_⟩
                · rw [app_eq] at hv
                  rcases List.mem_append.1 hv with hv | hv
                  · exact i2 hk.1 v hv
                  · exact j2 hk.2 v hv
                · rw [app_eq, List.map_append, i1, j1]; simp
              refine ⟨q', H', h1, h2, .inl ?_⟩
              rcases h3 with ⟨v, g1, g2⟩ | ⟨g1, g2⟩
              · refine ⟨.tt, g1, fun ν w0 X w ha M => .inl ⟨cg, ?_⟩⟩
                obtain ⟨p1, p2, p3⟩ := pre ν w0 X w ha M
                rw [p2]
                refine hca f _ _ w _ hcal ?_
                rw [← p3]
                rcases g2 ν _ _ _ p1 (mem_in M (.cells #[.bool false] tb)) with ⟨_, c2⟩ | ⟨u, w', c1, _⟩
                · refine c2.mono fun e w' hq => ?_
                  obtain ⟨u, rfl, ν', c3, c4, c5, c6⟩ := hq
                  obtain ⟨m1, m2⟩ := mem_out M c6
                  obtain ⟨a1, a2, a3⟩ := al_cell c6.keep (fun hh => by have := (inX_mem.1 hh).1; omega)
                  refine ⟨a1, a2, a3, .inl ⟨u, rfl, _, rfl, ν', c3, rfl, trivial, ?_⟩⟩
                  exact (m1.beside M.keep.size m2 (grown_set _)).growN (grown_alloc _ _)
                · exact absurd (c1.symm.trans (hcal _ _)) (by simp)
              · refine ⟨.ff, g1, fun ν w0 X w ha M => .inl ⟨cg, ?_⟩⟩
                obtain ⟨p1, p2, p3⟩ := pre ν w0 X w ha M
                rw [p2]
                refine hca f _ _ w _ hcal ?_
                rw [← p3]
                refine (g2 ν _ _ _ p1 (mem_in M (.cells #[.bool false] tb))).2.mono fun e w' hq => ?_
                obtain ⟨rfl, ν', c3, c6⟩ := hq
                obtain ⟨m1, m2⟩ := mem_out M c6
                obtain ⟨a1, a2, a3⟩ := al_cell c6.keep (fun hh => by have := (inX_mem.1 hh).1; omega)
                refine ⟨a1, a2, a3, .inr ⟨rfl, _, rfl, ν', c3, rfl, trivial, ?_⟩⟩
                exact (m1.growN (grown_alloc _ _)).beside M.keep.size m2 (grown_set _)
            · cases h
          · cases h
/-- A function's contract. -/
theorem fn_ok (hT : TDok P E.D) (hD : DrawAll P E) (hE : EnvOk P E) {g : Nat} {f : FI} (hf : FiOk P g f) {c : Ct} (hp : allV VS.pOk c.ps = true) (hr : allV VS.rOk c.rs = true) (hl : c.ps.length ≤ f.n) (hF : ∀ x, c.F x = sxF E f c.ps c.rs x) : CtOk P g c := by
  intro args q H x r hx hr' ν w0 X w ha M
  rw [hF] at hr'
  -- what is handed over, in the callee's words
  have M0 : Mem (fun _ => (⟨none, 0, 0, [], .C⟩ : NmS)) 0 w ⟨[], fun _ => True⟩ [] w := ⟨Keep.refl _ _, (fun c h hc => by cases hc), (fun c h hc => by cases hc), (fun c h hc => by cases hc), (fun c h hc => by cases hc), (fun c c' h h' hc => by cases hc), (fun c h hc => by cases hc)⟩
  have hrw : rwL c.ps args = [] := rwL_nil hp
  obtain ⟨ν1, e1, e2, e3, e4⟩ := embA_ok M (u0 := w) (Y := ⟨[], fun _ => True⟩) c.ps args x hx ha (fun a ha => (pOk_rw a (allV_mem hp a ha)).2) (by rw [hrw]; intro d hd; cases hd) (fun _ _ _ _ => .inr (.inr trivial)) 0 0 _ [] M0 (fun d _ e y hy => by cases hy) (fun d _ e y hy => by cases hy) (by rw [hrw]; rfl) (by rw [hrw]; intro d hd; cases hd)
  rw [Nat.zero_add] at e2 e4
  have hlen : (embA 0 c.ps x [] 0).vs.length = args.length := by
    have := congrArg List.length e3
    simpa using this
  have hla : args.length = c.ps.length := by
    have : ∀ (l : List VS) (vs : List SV) (x : Tup (lvs l)), extA H l vs = some x → vs.length = l.length := by
      intro l
      induction l with
      | nil => intro vs x h; cases vs with
        | nil => rfl
        | cons _ _ => cases h
      | cons a r ih => intro vs x h; cases vs with
        | nil => cases h
        | cons v vs =>
          obtain ⟨p, y, _, hy, _⟩ := extA_some h
          simp [ih vs y hy]
    exact this _ _ _ hx
  have hs : sx E (inlH E 6) f.c f.an _ (nmA c.ps + 1) ⟨argsT 0 (embA 0 c.ps x [] 0).vs .e, (embA 0 c.ps x [] 0).H⟩ ⟨fun (q : Nat) (S' : St) => match resS E.D S' f.rs with
    | some l => bif nodup (rwL c.rs l) then extA S'.H c.rs l else none
    | none => none, [], fun (q : Nat) (S' : St) => match resS E.D S' f.rs with
    | some l => bif nodup (rwL c.rs l) then extA S'.H c.rs l else none
    | none => none, fun _ _ => none⟩ = some r := hr'
  obtain ⟨q', S', h1, h2, h3⟩ := body_ok hT hD (inlH_ok hT hD hE 6) hf rfl (F0 := .e) (by rw [hlen, hla]; exact hl) hs
  rcases h3 with ⟨_, g1, g2, _⟩ | ⟨g1, _⟩
  · have g1 : (match resS E.D S' f.rs with
      | some l => bif nodup (rwL c.rs l) then extA S'.H c.rs l else none
      | none => none) = some r := g1.elim id id
    split at g1
    · rename_i l hl'
      cases hnd : nodup (rwL c.rs l) with
      | false => rw [hnd] at g1; cases g1
      | true =>
        rw [hnd] at g1
        simp only [cond_true] at g1
        have hcalls := g2 l hl' ν1 w ⟨[], fun _ => True⟩ w (fun v hv => ok_mono (Nat.le_succ _) v (e4 v hv)) (e2.mono (Nat.le_succ _))
        rw [e3] at hcalls
        refine .inl ⟨hf.call, hcalls.mono fun e w' hq => ?_⟩
        obtain ⟨u, rfl, ν', k1, k2, k3, k4⟩ := hq
        refine ⟨u, rfl, ?_⟩
        have M' : Mem ν q w0 X H w' := M.growN k4.keep.ex.g
        have hro : roL c.rs l = [] := roL_nil hr
        have hnew : ∀ d, d ∈ rwL c.rs l → ∀ b, b ∈ (ν' d).D → w.heap.size ≤ b := by
          intro d hd b hb
          obtain ⟨h, j1, j2⟩ := embA_ok.rwL_get c.rs l r g1 d hd
          rcases k4.mine d h j1 j2 b hb with j | j
          · exact j
          · cases j
        obtain ⟨ν2, f1, f2, f3, f4⟩ := embA_ok k4 (u0 := w0) (Y := X) c.rs l r g1 k3 (fun a ha => (rOk_ro a (allV_mem hr a ha)).2) (fun d hd b hb => .inl (Nat.le_trans M.keep.size (hnew d hd b hb))) (by rw [hro]; intro d hd; cases hd) q q ν H M' (by rw [hro]; intro d hd; cases hd)
          (fun d hd d' y hy b hb hb2 => by
            have h1 := hnew d hd b hb
            have h2 := M.lt d' y hy b hb2
            omega) hnd (by rw [hro]; intro d _ hd; cases hd)
        exact ⟨ν2, f1, by rw [k2]; exact (one_cv f3).symm, one_ok (fun v hv => ok_mono (by omega) v (f4 v hv)), f2.mono (by omega)⟩
    · cases g1
  · cases g1
end
end Go.Proofs.Ytnagkhofkjjajaa

/- The symbolic walk is sound: regions that draw their order. Lemmas, no statement of the claim. -/
set_option linter.unusedVariables false
set_option linter.unusedSimpArgs false
namespace Go.Proofs.Ytnagkhofkjjajaa
open Go.RowKit
/-! ### Names -/
theorem slok_on {ν ν' : NV} {c : Nat} {pa : List PS} {v lo n : Nat} {tl mx : Bool} (hc : ν' c = ν c) (hv : ν' v = ν v) (k : SlOk ν c pa v lo n tl mx) : SlOk ν' c pa v lo n tl mx := by
  obtain ⟨h1, h2, h3, h4, h5, h12, A, L, K, s, h6, h7, h8, h9, h10, h11⟩ := k
  have hb : bas ν' c pa = bas ν c pa := by unfold bas; rw [hc]
  exact ⟨by rw [hv]; exact h1, by rw [hv]; exact h2, by rw [hv]; exact h3, by rw [hv]; exact h4, by rw [hc]; exact h5, by rw [hv]; exact h12, A, L, K, s, by rw [hb]; exact h6, by rw [hv]; exact h7, by rw [hv]; exact h8, by rw [hv]; exact h9, by rw [hv]; exact h10, h11⟩
theorem ok_on {ν ν' : NV} {q : Nat} : ∀ (v : SV), (∀ c, c ∈ nmV v → ν' c = ν c) → v.ok ν q → v.ok ν' q ∧ cv3 ν' v = cv3 ν v
  | .N _ _, _, k => ⟨k, rfl⟩
  | .Z _ _, _, k => ⟨k, rfl⟩
  | .B _, _, k => ⟨k, rfl⟩
  | .tt, _, k => ⟨k, rfl⟩
  | .ff, _, k => ⟨k, rfl⟩
  | .P _ _ _, _, k => ⟨k, rfl⟩
  | .S _, _, k => ⟨k, rfl⟩
  | .an _ _ _, _, k => ⟨k, rfl⟩
  | .az _ _, _, k => ⟨k, rfl⟩
  | .pr a b, h, k => by
    have ha := ok_on a (fun c hc => h c (mem_app.2 (.inl hc))) k.1
    have hb := ok_on b (fun c hc => h c (mem_app.2 (.inr hc))) k.2
    exact ⟨⟨ha.1, hb.1⟩, by simp only [cv3, ha.2, hb.2]⟩
  | .one a, h, k => by
    have ha := ok_on a h k
    exact ⟨ha.1, by simp only [cv3, ha.2]⟩
  | .U, _, k => ⟨k, rfl⟩
  | .sl c pa v lo n tl mx, h, k => by
    have hc := h c (List.mem_cons_self)
    have hv := h v (List.mem_cons_of_mem _ List.mem_cons_self)
    exact ⟨⟨k.1, k.2.1, slok_on hc hv k.2.2⟩, by simp only [cv3, hv]⟩
  | .nl, _, k => ⟨k, rfl⟩
  | .ptr c lay pa, h, k => by
    have hc := h c (List.mem_cons_self)
    exact ⟨⟨k.1, by rw [hc]; exact k.2.1, by rw [hc]; exact k.2.2⟩, by simp only [cv3, hc]⟩
  | .av c pa v lo m, h, k => by
    have hc := h c (List.mem_cons_self)
    have hv := h v (List.mem_cons_of_mem _ List.mem_cons_self)
    obtain ⟨k1, k2, n, tl, mx, k3, k4⟩ := k
    exact ⟨⟨k1, k2, n, tl, mx, slok_on hc hv k3, k4⟩, by simp only [cv3, hv]⟩
  | .np, _, k => ⟨k, rfl⟩
  | .fn f a b, h, k => by
    have ha := ok_on a (fun c hc => h c (mem_app.2 (.inl hc))) k.1
    have hb := ok_on b (fun c hc => h c (mem_app.2 (.inr hc))) k.2
    exact ⟨⟨ha.1, hb.1⟩, by simp only [cv3, ha.2, hb.2]⟩
  | .tp a, h, k => by
    have ha := ok_on a h k
    exact ⟨ha.1, by simp only [cv3, ha.2]⟩
  | .ov _, _, k => ⟨k, rfl⟩
  | .ud, _, k => ⟨k, rfl⟩
theorem ok_lt {ν : NV} {q : Nat} : ∀ (v : SV), v.ok ν q → ∀ c, c ∈ nmV v → c < q
  | .pr a b, k, c, hc => (mem_app.1 (show c ∈ app (nmV a) (nmV b) from hc)).elim (ok_lt a k.1 c) (ok_lt b k.2 c)
  | .one a, k, c, hc => ok_lt a k c hc
  | .sl d pa v lo n tl mx, k, c, hc => by
    rcases List.mem_cons.1 hc with rfl | hc
    · exact k.1
    · rw [List.mem_singleton.1 hc]; exact k.2.1
  | .ptr d lay pa, k, c, hc => by rw [List.mem_singleton.1 hc]; exact k.1
  | .av d pa v lo m, k, c, hc => by
    rcases List.mem_cons.1 hc with rfl | hc
    · exact k.1
    · rw [List.mem_singleton.1 hc]; exact k.2.1
  | .fn f a b, k, c, hc => (mem_app.1 (show c ∈ app (nmV a) (nmV b) from hc)).elim (ok_lt a k.1 c) (ok_lt b k.2 c)
  | .tp a, k, c, hc => ok_lt a k c hc
  | .N _ _, _, c, hc => by cases hc
  | .Z _ _, _, c, hc => by cases hc
  | .B _, _, c, hc => by cases hc
  | .tt, _, c, hc => by cases hc
  | .ff, _, c, hc => by cases hc
  | .P _ _ _, _, c, hc => by cases hc
  | .S _, _, c, hc => by cases hc
  | .an _ _ _, _, c, hc => by cases hc
  | .az _ _, _, c, hc => by cases hc
  | .U, _, c, hc => by cases hc
  | .nl, _, c, hc => by cases hc
  | .np, _, c, hc => by cases hc
  | .ov _, _, c, hc => by cases hc
  | .ud, _, c, hc => by cases hc
theorem nmL_mem {l : List SV} {v : SV} (hv : v ∈ l) {c : Nat} (hc : c ∈ nmV v) : c ∈ nmL l := by
  induction l with
  | nil => cases hv
  | cons x r ih =>
    rcases List.mem_cons.1 hv with e | hv
    · subst e; exact mem_app.2 (.inl hc)
    · exact mem_app.2 (.inr (ih hv))
theorem nmL_lt {l : List SV} {q : Nat} (h : ∀ v, v ∈ l → ∀ c, c ∈ nmV v → c < q) : ∀ c, c ∈ nmL l → c < q := by
  induction l with
  | nil => intro c hc; cases hc
  | cons x r ih =>
    intro c hc
    rcases mem_app.1 (show c ∈ app (nmV x) (nmL r) from hc) with hc | hc
    · exact h x (by simp) c hc
    · exact ih (fun v hv => h v (by simp [hv])) c hc
theorem HC.ok_on {ν ν' : NV} {q c : Nat} {w : World} {h : HC} (hc : ν' c = ν c) (hn : ∀ n, n ∈ nmH h → ν' n = ν n) (k : h.ok ν q c w) : h.ok ν' q c w := by
  cases h with
  | bk T v =>
    obtain ⟨b, h1, h2, h3, h4, h5, h6⟩ := k
    have hv := Go.Proofs.Ytnagkhofkjjajaa.ok_on v hn h4
    exact ⟨b, by rw [hc]; exact h1, by rw [hc]; exact h2, by rw [hc]; exact h3, hv.1, h5, by
      have : cls ν' v = cls ν v := by unfold cls; rw [hv.2]
      rw [this]; exact h6⟩
  | rw T a n xs =>
    obtain ⟨h1, h2⟩ := k
    exact ⟨⟨h1.len, h1.all, by rw [hc]; exact h1.lay, by rw [hc]; exact h1.nn, by rw [hc]; exact h1.cap, by rw [hc]; exact h1.max, by rw [hc]; exact h1.adr⟩, by rw [hc]; exact h2⟩
  | ro a n xs =>
    obtain ⟨h1, h2⟩ := k
    exact ⟨⟨h1.len, h1.all, by rw [hc]; exact h1.lay, by rw [hc]; exact h1.nn, by rw [hc]; exact h1.cap, by rw [hc]; exact h1.max, by rw [hc]; exact h1.adr⟩, by rw [hc]; exact h2⟩
  | rs l =>
    obtain ⟨h1, h2, h3, h4, h0, h5, h6, h7⟩ := k
    have hv : ∀ v, v ∈ l → v.ok ν' q ∧ cv ν' v = cv ν v := fun v hv => by
      have := Go.Proofs.Ytnagkhofkjjajaa.ok_on v (fun n hn' => hn n (nmL_mem hv hn')) (h5 v hv).1
      exact ⟨this.1, by unfold cv; rw [this.2]⟩
    refine ⟨by rw [hc]; exact h1, by rw [hc]; exact h2, by rw [hc]; exact h3, by rw [hc]; exact h4, by rw [hc]; exact h0, fun v hv' => ⟨(hv v hv').1, (h5 v hv').2⟩, ?_, by rw [hc]; exact h7⟩
    rw [hc, show l.map (cv ν') = l.map (cv ν) from List.map_congr_left fun v hv' => (hv v hv').2]
    exact h6
  | rq a n xss =>
    obtain ⟨h1, h2, h3, h4, h5, h0, ps, h6, h7, h8⟩ := k
    exact ⟨by rw [hc]; exact h1, by rw [hc]; exact h2, h3, by rw [hc]; exact h4, by rw [hc]; exact h5, by rw [hc]; exact h0, ps, by rw [hc]; exact h6, by rw [hc]; exact h7, by rw [hc]; exact h8⟩
theorem HC.ok_lt {ν : NV} {q c : Nat} {w : World} {h : HC} (k : h.ok ν q c w) : ∀ n, n ∈ nmH h → n < q := by
  cases h with
  | bk T v => obtain ⟨b, h1, h2, h3, h4, _⟩ := k; exact Go.Proofs.Ytnagkhofkjjajaa.ok_lt v h4
  | rs l => obtain ⟨h1, h2, h3, h4, h0, h5, _⟩ := k; exact nmL_lt fun v hv => Go.Proofs.Ytnagkhofkjjajaa.ok_lt v (h5 v hv).1
  | rw T a n xs => intro n hn; cases hn
  | ro a n xs => intro n hn; cases hn
  | rq a n xs => intro n hn; cases hn
/-- blocks that stay -/
theorem HC.keepB {ν : NV} {q c : Nat} {w w' : World} {h : HC} (k : h.ok ν q c w) (hb : ∀ b, b ∈ (ν c).D → w'.heap[b]? = w.heap[b]?) : h.ok ν q c w' := by
  have rd : ∀ (A : Option Addr) (l : List Value), Rd w A l → (l ≠ [] → ∀ b, oblk A = some b → b ∈ (ν c).D) → Rd w' A l := by
    intro A l hR hD
    by_cases hl : l = []
    · subst hl; exact Rd.nil _ _
    · refine ⟨hR.some_, fun j v hj => ?_⟩
      have h1 := hR.cells j v hj
      rw [← h1]
      refine World.cell?_of_block (hb _ (hD hl _ ?_))
      rw [hR.some_ hl]; rfl
  cases h with
  | bk T v =>
    obtain ⟨b, h1, h2, h3, h4, h5, h6⟩ := k
    exact ⟨b, h1, h2, h3, h4, h5, by unfold Blk at h6 ⊢; rw [hb b (by rw [h2]; simp)]; exact h6⟩
  | rw T a n xs =>
    obtain ⟨h1, h2⟩ := k
    refine ⟨h1, ?_⟩
    rcases h2 with ⟨⟨g1, g2⟩, h3⟩ | h2
    · refine .inl ⟨⟨g1, ?_⟩, h3⟩
      rcases g2 with g2 | ⟨g, cap, cur, e1, e2, e3, e4⟩
      · exact .inl g2
      · refine .inr ⟨g, cap, cur, e1, e2, ?_, e4⟩
        refine e3.block (hb g ?_)
        rw [h3]
        injection e1 with e1
        rw [e1]; simp [oblk]
    · exact .inr h2
  | ro a n xs =>
    obtain ⟨h1, h2, h3⟩ := k
    exact ⟨h1, rd _ _ h2 h3, h3⟩
  | rs l =>
    obtain ⟨h1, h2, h3, h4, h0, h5, h6, h7⟩ := k
    exact ⟨h1, h2, h3, h4, h0, h5, rd _ _ h6 (fun _ => h7), h7⟩
  | rq a n xss =>
    obtain ⟨h1, h2, h3, h4, h5, h0, ps, h6, h7, h8⟩ := k
    have eq : ∀ {ps : List (Option Addr × Nat)} {xss : List (List a.T)}, EachQ w (ν c).D a ps xss → EachQ w' (ν c).D a ps xss := by
      intro ps
      induction ps with
      | nil => intro xss h; cases xss with
        | nil => trivial
        | cons _ _ => exact h
      | cons p ps ih => intro xss h; cases xss with
        | nil => exact h
        | cons x xss => exact ⟨⟨rd _ _ h.1.1 h.1.2.2.2.2.2, h.1.2⟩, ih h.2⟩
    exact ⟨h1, h2, h3, h4, h5, h0, ps, rd _ _ h6 (fun _ => h8), eq h7, h8⟩

/-! ### Masks, memory's parts -/
theorem bitN_test (m i : Nat) : bitN m i = m.testBit i := by
  unfold bitN
  show (!Nat.beq (m &&& 2 ^ i) 0) = _
  cases h : m.testBit i with
  | false =>
    have : m &&& 2 ^ i = 0 := by
      apply Nat.eq_of_testBit_eq
      intro j
      rw [Nat.testBit_and, Nat.testBit_two_pow, Nat.zero_testBit]
      by_cases e : i = j
      · subst e; rw [h]; rfl
      · simp [e]
    rw [this]; rfl
  | true =>
    have : m &&& 2 ^ i ≠ 0 := by
      intro e
      have := congrArg (fun x => x.testBit i) e
      simp only [Nat.testBit_and, Nat.testBit_two_pow, Nat.zero_testBit, h] at this
      simp at this
    rw [beq_false this]; rfl
theorem mskE_bit {MK : List (Nat × Nat)} : ∀ {l : List Edge} {j : Nat}, bitN (mskE MK l) j = true → ∃ e, e ∈ l ∧ Region.binds .any e = true ∧ (j = e.on ∨ bitN (lookM MK e.on) j = true)
  | [], j, h => by rw [bitN_test] at h; simp [mskE] at h
  | e :: r, j, h => by
    unfold mskE at h
    cases hb : Region.binds .any e with
    | false =>
      rw [hb] at h
      obtain ⟨e', h1, h2⟩ := mskE_bit (show bitN (mskE MK r) j = true from h)
      exact ⟨e', by simp [h1], h2⟩
    | true =>
      rw [hb] at h
      simp only [cond_true] at h
      rw [bitN_test] at h
      have h : (((2 ^ e.on ||| lookM MK e.on) ||| mskE MK r).testBit j) = true := h
      rw [Nat.testBit_or, Nat.testBit_or, Bool.or_eq_true, Bool.or_eq_true] at h
      rcases h with (h | h) | h
      · refine ⟨e, by simp, hb, .inl ?_⟩
        rw [Nat.testBit_two_pow] at h
        exact (of_decide_eq_true h).symm
      · exact ⟨e, by simp, hb, .inr (by rw [bitN_test]; exact h)⟩
      · obtain ⟨e', h1, h2⟩ := mskE_bit (MK := MK) (l := r) (j := j) (by rw [bitN_test]; exact h)
        exact ⟨e', by simp [h1], h2⟩
theorem hget_app (A B : List (Nat × Nat × HC)) (c : Nat) : hget (app A B) c = match hget A c with | some h => some h | none => hget B c := by
  induction A with
  | nil => rfl
  | cons p r ih =>
    obtain ⟨d, s, h⟩ := p
    show hget ((d, s, h) :: app r B) c = _
    rw [hget_cons, hget_cons, ih]
    split <;> rfl
theorem hget_res (T : List Nat) (H : List (Nat × Nat × HC)) (c : Nat) : hget (hres T H) c = if c ∈ T then hget H c else none := by
  induction H with
  | nil => simp [hres, hget]
  | cons p r ih =>
    obtain ⟨d, s, h⟩ := p
    unfold hres
    cases hm : memN T d with
    | true =>
      have hd := memN_iff.1 hm
      simp only [cond_true]
      rw [hget_cons, hget_cons, ih]
      by_cases e : d = c
      · subst e; simp [hd]
      · simp [e]
    | false =>
      have hd : d ∉ T := fun q => by rw [memN_iff.2 q] at hm; cases hm
      simp only [cond_false]
      rw [hget_cons, ih]
      by_cases e : d = c
      · subst e; simp [hd]
      · simp [e]
theorem hst_res (T : List Nat) (H : List (Nat × Nat × HC)) (c : Nat) : hst (hres T H) c = if c ∈ T then hst H c else none := by
  induction H with
  | nil => simp [hres, hst]
  | cons p r ih =>
    obtain ⟨d, s, h⟩ := p
    unfold hres
    cases hm : memN T d with
    | true =>
      have hd := memN_iff.1 hm
      simp only [cond_true]
      rw [hst_cons, hst_cons, ih]
      by_cases e : d = c
      · subst e; simp [hd]
      · simp [e]
    | false =>
      have hd : d ∉ T := fun q => by rw [memN_iff.2 q] at hm; cases hm
      simp only [cond_false]
      rw [hst_cons, ih]
      by_cases e : d = c
      · subst e; simp [hd]
      · simp [e]
theorem hget_out (T : List Nat) (H : List (Nat × Nat × HC)) (c : Nat) : hget (hout T H) c = if c ∈ T then none else hget H c := by
  induction H with
  | nil => simp [hout, hget]
  | cons p r ih =>
    obtain ⟨d, s, h⟩ := p
    unfold hout
    cases hm : memN T d with
    | true =>
      have hd := memN_iff.1 hm
      simp only [cond_true]
      rw [hget_cons, ih]
      by_cases e : d = c
      · subst e; simp [hd]
      · simp [e]
    | false =>
      have hd : d ∉ T := fun q => by rw [memN_iff.2 q] at hm; cases hm
      simp only [cond_false]
      rw [hget_cons, hget_cons, ih]
      by_cases e : d = c
      · subst e; simp [hd]
      · simp [e]
theorem hst_some {H : List (Nat × Nat × HC)} {c : Nat} {h : HC} (e : hget H c = some h) : ∃ s, hst H c = some s := by
  induction H with
  | nil => cases e
  | cons p r ih =>
    obtain ⟨d, s, x⟩ := p
    rw [hget_cons] at e
    rw [hst_cons]
    split at e
    · rename_i q; exact ⟨s, by rw [if_pos q]⟩
    · rename_i q; rw [if_neg q]; exact ih e
theorem hget_some {H : List (Nat × Nat × HC)} {c s : Nat} (e : hst H c = some s) : ∃ h, hget H c = some h := by
  induction H with
  | nil => cases e
  | cons p r ih =>
    obtain ⟨d, t, x⟩ := p
    rw [hst_cons] at e
    rw [hget_cons]
    split at e
    · rename_i q; exact ⟨x, by rw [if_pos q]⟩
    · rename_i q; rw [if_neg q]; exact ih e
theorem newW_mem {q : Nat} {H0 : List (Nat × Nat × HC)} : ∀ {H : List (Nat × Nat × HC)} {c : Nat}, c ∈ newW q H0 H ↔ (∃ s, hst H0 c = some s ∧ q ≤ s) ∧ ∃ h, hget H c = some h
  | [], c => by simp [newW, hget]
  | (d, t, x) :: r, c => by
    have ih := newW_mem (q := q) (H0 := H0) (H := r) (c := c)
    unfold newW
    rw [hget_cons]
    cases e : hst H0 d with
    | none =>
      simp only [cond_false]
      rw [ih]
      constructor
      · rintro ⟨⟨s, h1, h2⟩, h3⟩
        refine ⟨⟨s, h1, h2⟩, ?_⟩
        split
        · exact ⟨_, rfl⟩
        · exact h3
      · rintro ⟨⟨s, h1, h2⟩, h, h3⟩
        split at h3
        · rename_i q; subst q; rw [e] at h1; cases h1
        · exact ⟨⟨s, h1, h2⟩, h, h3⟩
    | some s' =>
      simp only []
      cases hb : Nat.ble q s' with
      | true =>
        simp only [cond_true, List.mem_cons, ih]
        constructor
        · rintro (rfl | ⟨⟨s, h1, h2⟩, h3⟩)
          · exact ⟨⟨s', e, Nat.le_of_ble_eq_true hb⟩, by simp⟩
          · refine ⟨⟨s, h1, h2⟩, ?_⟩
            split
            · exact ⟨_, rfl⟩
            · exact h3
        · rintro ⟨⟨s, h1, h2⟩, h, h3⟩
          by_cases q : d = c
          · exact .inl q.symm
          · rw [if_neg q] at h3
            exact .inr ⟨⟨s, h1, h2⟩, h, h3⟩
      | false =>
        simp only [cond_false]
        rw [ih]
        constructor
        · rintro ⟨⟨s, h1, h2⟩, h3⟩
          refine ⟨⟨s, h1, h2⟩, ?_⟩
          split
          · exact ⟨_, rfl⟩
          · exact h3
        · rintro ⟨⟨s, h1, h2⟩, h, h3⟩
          split at h3
          · rename_i q0; subst q0; rw [e] at h1; cases h1
            have : Nat.ble q s' = true := Nat.ble_eq_true_of_le h2
            rw [this] at hb; cases hb
          · exact ⟨⟨s, h1, h2⟩, h, h3⟩
theorem goneW_mem {H : List (Nat × Nat × HC)} : ∀ {T : List Nat} {c : Nat}, c ∈ goneW H T ↔ c ∈ T ∧ hget H c = none
  | [], c => by simp [goneW]
  | d :: r, c => by
    have ih := goneW_mem (H := H) (T := r) (c := c)
    unfold goneW
    cases e : hget H d with
    | some h =>
      simp only []
      rw [ih, List.mem_cons]
      constructor
      · rintro ⟨h1, h2⟩; exact ⟨.inr h1, h2⟩
      · rintro ⟨rfl | h1, h2⟩
        · rw [e] at h2; cases h2
        · exact ⟨h1, h2⟩
    | none =>
      simp only [List.mem_cons, ih]
      constructor
      · rintro (rfl | ⟨h1, h2⟩)
        · exact ⟨.inl rfl, e⟩
        · exact ⟨.inr h1, h2⟩
      · rintro ⟨rfl | h1, h2⟩
        · exact .inl rfl
        · exact .inr ⟨h1, h2⟩
theorem nmWs_mem {H : List (Nat × Nat × HC)} {c : Nat} {h : HC} (e : hget H c = some h) : ∀ {W : List Nat}, c ∈ W → ∀ n, n = c ∨ n ∈ nmH h → n ∈ nmWs H W
  | d :: r, hc, n, hn => by
    unfold nmWs
    rcases List.mem_cons.1 hc with rfl | hc
    · rw [e]
      refine mem_app.2 (.inl ?_)
      rcases hn with rfl | hn
      · exact List.mem_cons_self
      · exact List.mem_cons_of_mem _ hn
    · exact mem_app.2 (.inr (nmWs_mem e hc n hn))
theorem fres_get : ∀ (l : List Nat) (F G : Tr) (t : Nat) (v : SV), (fresL l F G).get t = some v → (t ∈ l ∧ F.get t = some v) ∨ G.get t = some v
  | [], F, G, t, v, h => .inr h
  | u :: r, F, G, t, v, h => by
    unfold fresL at h
    rcases fres_get r F _ t v h with g | g
    · exact .inl ⟨List.mem_cons_of_mem _ g.1, g.2⟩
    · clear h
      cases hx : F.get u with
      | none => rw [hx] at g; exact .inr g
      | some x =>
        rw [hx] at g
        simp only [] at g
        cases hb : Nat.blt u 4000 with
        | false => rw [hb] at g; exact .inr g
        | true =>
          rw [hb] at g
          simp only [cond_true] at g
          rw [put_get G (by simpa using hb)] at g
          by_cases e : u = t
          · subst e; rw [if_pos rfl] at g; cases g; exact .inl ⟨List.mem_cons_self, hx⟩
          · rw [if_neg e] at g; exact .inr g
theorem opT_mem {l : List Operand} {t : Nat} (h : t ∈ opT l) : Operand.tmp t ∈ l := by
  induction l with
  | nil => cases h
  | cons x r ih =>
    cases x with
    | tmp u =>
      rcases List.mem_cons.1 (show t ∈ u :: opT r from h) with rfl | h
      · exact List.mem_cons_self
      · exact List.mem_cons_of_mem _ (ih h)
    | const _ => exact List.mem_cons_of_mem _ (ih h)
    | func _ => exact List.mem_cons_of_mem _ (ih h)
    | global _ => exact List.mem_cons_of_mem _ (ih h)
theorem ol_mem {x : Operand} {o : Option Operand} (h : x ∈ ol o) : x ∈ o.toArray := by
  cases o with
  | none => cases h
  | some y => simpa [ol] using h
theorem opR_mem {op : Op} {x : Operand} (h : x ∈ opR op) : x ∈ op.operands := by
  cases op <;> (try (cases h; done)) <;> (try (simpa [opR, Op.operands] using h)) <;> (try (simpa [opR, Op.operands, app_eq] using h))
  · rename_i t x' l hh m
    rcases List.mem_cons.1 (show x ∈ x' :: app (ol l) (app (ol hh) (ol m)) from h) with rfl | h
    · simp [Op.operands]
    · rcases mem_app.1 h with h | h
      · have := ol_mem h; simp [Op.operands, this]
      · rcases mem_app.1 h with h | h
        · have := ol_mem h; simp [Op.operands, this]
        · have := ol_mem h; simp [Op.operands, this]
  · rename_i c
    obtain ⟨f, args, tys⟩ := c
    cases f with
    | value f => simpa [opR, Op.operands, Call.operands] using h
    | builtin b => simpa [opR, Op.operands, Call.operands] using h
    | invoke a b => cases h
theorem reads_looks {ops : Array Oper} {o : Oper} {t : Nat} (h : t ∈ opT (opR o.op)) : t ∈ o.looksAt ops := by
  have := opR_mem (opT_mem h)
  unfold Oper.looksAt
  rw [List.mem_append]
  refine .inl (List.mem_filterMap.2 ⟨.tmp t, by simpa using this, rfl⟩)
end Go.Proofs.Ytnagkhofkjjajaa

/- The symbolic walk is sound: regions that draw their order, in any order. Lemmas, no statement of the claim. -/
set_option linter.unusedVariables false
set_option linter.unusedSimpArgs false
namespace Go.Proofs.Ytnagkhofkjjajaa
open Go.RowKit
/-- whether it was done is told by the place -/
def Av (ops : Array Oper) (D : Nat → Bool) (i t : Nat) : Prop := ∀ j o, ops[j]? = some o → o.dst = some t → (j < i ↔ D j = true)
def Lv (ops : Array Oper) (R : Nat → DRec) (D : Nat → Bool) (i c : Nat) : Prop := ∀ j, j < ops.size → (R j).x = true → c ∈ (R j).W → (j < i ↔ D j = true)
/-- a value told in other words -/
def Nar (v u : SV) : Prop := (∀ ν, cv ν v = cv ν u) ∧ (∀ ν q, u.ok ν q → v.ok ν q) ∧ ∀ c, c ∈ nmV v → c ∈ nmV u
theorem Nar.refl (v : SV) : Nar v v := ⟨fun _ => rfl, fun _ _ h => h, fun _ h => h⟩
theorem Nar.trans {a b c : SV} (h : Nar a b) (g : Nar b c) : Nar a c := ⟨fun ν => (h.1 ν).trans (g.1 ν), fun ν q k => h.2.1 ν q (g.2.1 ν q k), fun n hn => g.2.2 n (h.2.2 n hn)⟩
section
variable {P : Program} {N : Nat} {ops : Array Oper} {R : Nat → DRec}
structure DSt (P : Program) (N : Nat) (ops : Array Oper) (R : Nat → DRec) : Prop where
  hN : N ≤ 4000
  st : ∀ i o, ops[i]? = some o → DStep P N ops R i o
  back : ∀ i o, ops[i]? = some o → ∀ j, edge o j = true → j < i
  reg : okReg ops = true
  dst : ∀ (i : Nat) (o : Oper), ops[i]? = some o → ∀ t, o.dst = some t → t < N
theorem ops_at {i : Nat} (h : i < ops.size) : ∃ o, ops[i]? = some o := ⟨ops[i], Array.getElem?_eq_getElem h⟩
theorem ops_lt {i : Nat} {o : Oper} (h : ops[i]? = some o) : i < ops.size := (Array.getElem?_eq_some_iff.1 h).1
theorem DSt.qmono (A : DSt P N ops R) {i : Nat} : ∀ {j : Nat}, i ≤ j → j ≤ ops.size → (R i).q ≤ (R j).q
  | 0, h, _ => by rw [show i = 0 by omega]; exact Nat.le_refl _
  | j + 1, h, hj => by
    by_cases e : i = j + 1
    · rw [e]; exact Nat.le_refl _
    · obtain ⟨o, ho⟩ := ops_at (ops := ops) (i := j) (by omega)
      have h1 := A.qmono (i := i) (j := j) (by omega) (by omega)
      have h2 := (A.st j o ho).le
      have h3 := (A.st j o ho).nq
      omega
theorem DSt.uniq (A : DSt P N ops R) {i j t : Nat} {o p : Oper} (hi : ops[i]? = some o) (hj : ops[j]? = some p) (h1 : o.dst = some t) (h2 : p.dst = some t) : i = j := by
  by_cases e : i = j
  · exact e
  · exact absurd h1 (okReg_spec A.reg hi hj e h2).2
theorem DSt.mask (A : DSt P N ops R) {D : Nat → Bool} (hD : Clsd ops D) : ∀ (i : Nat) (o : Oper), ops[i]? = some o → (∀ j, edge o j = true → D j = true) → ∀ j, bitN (R i).m j = true → D j = true := by
  intro i
  induction i using Nat.strongRecOn with
  | _ i ih =>
    intro o ho he j hj
    obtain ⟨MK, h1, h2⟩ := (A.st i o ho).mks
    rw [h2] at hj
    obtain ⟨e, g1, g2, g3⟩ := mskE_bit hj
    have hed : edge o e.on = true := edge_mk (by simpa using g1) g2
    have hlt := A.back i o ho e.on hed
    rcases g3 with rfl | g3
    · exact he _ hed
    · rw [h1 e.on, if_pos hlt] at g3
      obtain ⟨p, hp⟩ := ops_at (ops := ops) (i := e.on) (by have := ops_lt ho; omega)
      exact ih e.on hlt p hp (fun j' hj' => hD e.on p hp (he _ hed) j' hj') j g3
/-- what is done before an operation that is done -/
theorem DSt.done (A : DSt P N ops R) {D : Nat → Bool} (hD : Clsd ops D) {i : Nat} {o : Oper} (ho : ops[i]? = some o) (hi : D i = true) {j : Nat} (hj : bitN (R i).m j = true) : D j = true :=
  A.mask hD i o ho (fun j' hj' => hD i o ho hi j' hj') j hj
theorem DSt.s1 (A : DSt P N ops R) {i : Nat} {o : Oper} (ho : ops[i]? = some o) {t : Nat} {v : SV} (h : (R i).S1.get t = some v) : ∃ u, (R i).S.get t = some u ∧ Nar v u := by
  rcases (A.st i o ho).grd with ⟨_, _, e⟩ | ⟨j, want, tg, u, g1, g2, g3, ⟨_, _, e⟩ | ⟨b, hb, e, _⟩⟩
  · rw [e] at h; exact ⟨v, h, Nar.refl v⟩
  · rw [e] at h; exact ⟨v, h, Nar.refl v⟩
  · rw [e] at h
    have htg : tg < 4000 := by
      cases hj : ops[j]? with
      | none => rw [hj] at g2; cases g2
      | some p =>
        rw [hj] at g2
        exact Nat.lt_of_lt_of_le (A.dst j p hj tg g2) A.hN
    rw [getP_put _ htg] at h
    by_cases e2 : tg = t
    · subst e2
      rw [if_pos rfl] at h
      cases h
      exact ⟨u, g3, fun ν => by rw [b2_cv, hb], fun ν q _ => b2_ok ν q b, fun c hc => by cases b <;> cases hc⟩
    · rw [if_neg e2] at h; exact ⟨v, h, Nar.refl v⟩
theorem DSt.slot (A : DSt P N ops R) {i : Nat} {o : Oper} (ho : ops[i]? = some o) {t : Nat} (ht : o.dst ≠ some t) : (R (i + 1)).S.get t = (R i).S1.get t := by
  cases hx : (R i).x with
  | true =>
    have hF := ((A.st i o ho).ex hx).F
    show (R (i + 1)).S.F.get t = _
    rw [hF]
    unfold putF
    cases hd : o.dst with
    | none => rfl
    | some d =>
      have hd4 : d < 4000 := Nat.lt_of_lt_of_le (A.dst i o ho d hd) A.hN
      show ((R i).S1.F.put FUEL d ((R i).Sr.F.get d)).get t = _
      rw [put_get _ hd4, if_neg (fun e => ht (by rw [hd, e]))]
      rfl
  | false =>
    rw [(A.st i o ho).sk hx]
    cases hd : o.dst with
    | none => rfl
    | some d =>
      have hd4 : d < 4000 := Nat.lt_of_lt_of_le (A.dst i o ho d hd) A.hN
      show ((R i).S1.put d .ud).get t = _
      rw [getP_put _ hd4, if_neg (fun e => ht (by rw [hd, e]))]
theorem DSt.slotX (A : DSt P N ops R) {i : Nat} {o : Oper} (ho : ops[i]? = some o) {t : Nat} (ht : o.dst = some t) : ((R i).x = true → (R (i + 1)).S.get t = (R i).Sr.get t) ∧ ((R i).x = false → (R (i + 1)).S.get t = some .ud) := by
  have hd4 : t < 4000 := Nat.lt_of_lt_of_le (A.dst i o ho t ht) A.hN
  refine ⟨fun hx => ?_, fun hx => ?_⟩
  · have hF := ((A.st i o ho).ex hx).F
    show (R (i + 1)).S.F.get t = (R i).Sr.F.get t
    rw [hF, ht]
    show ((R i).S1.F.put FUEL t ((R i).Sr.F.get t)).get t = _
    rw [put_get _ hd4, if_pos rfl]
  · rw [(A.st i o ho).sk hx, ht]
    show ((R i).S1.put t .ud).get t = _
    rw [getP_put _ hd4, if_pos rfl]
theorem DSt.nar (A : DSt P N ops R) {i t : Nat} : ∀ {i' : Nat}, i ≤ i' → i' ≤ ops.size → (∀ j o, i ≤ j → j < i' → ops[j]? = some o → o.dst ≠ some t) → ∀ {v : SV}, (R i').S.get t = some v → ∃ u, (R i).S.get t = some u ∧ Nar v u
  | 0, h, _, _, v, hv => by rw [show i = 0 by omega]; exact ⟨v, hv, Nar.refl v⟩
  | j + 1, h, hj, hw, v, hv => by
    by_cases e : i = j + 1
    · rw [e]; exact ⟨v, hv, Nar.refl v⟩
    · obtain ⟨o, ho⟩ := ops_at (ops := ops) (i := j) (by omega)
      rw [A.slot ho (hw j o (by omega) (by omega) ho)] at hv
      obtain ⟨u, h1, h2⟩ := A.s1 ho hv
      obtain ⟨z, h3, h4⟩ := A.nar (i := i) (i' := j) (by omega) (by omega) (fun k p hk1 hk2 => hw k p hk1 (by omega)) h1
      exact ⟨z, h3, h2.trans h4⟩
/-- a piece that was not written -/
theorem DSt.memK (A : DSt P N ops R) {i : Nat} {o : Oper} (ho : ops[i]? = some o) {c : Nat} (hc : (R i).x = true → c ∉ (R i).W) : hget (R (i + 1)).S.H c = hget (R i).S.H c := by
  cases hx : (R i).x with
  | false =>
    rw [(A.st i o ho).sk hx, putD_H, (A.st i o ho).s1]
  | true =>
    have ex := (A.st i o ho).ex hx
    have hcW := hc hx
    rw [ex.H]
    unfold nxH
    split
    · rfl
    · rename_i w1 w2 hW
      rw [hget_app, hget_out]
      cases hg : hget (R i).Sr.H c with
      | some h =>
        obtain ⟨s, hs⟩ := hst_some hg
        have hlt : s < (R i).q := by
          rcases Nat.lt_or_ge s (R i).q with q | q
          · exact q
          · exfalso
            refine hcW ?_
            rw [ex.W]
            exact mem_app.2 (.inl (newW_mem.2 ⟨⟨s, hs, q⟩, h, hg⟩))
        obtain ⟨f1, f2⟩ := ex.st.frz c s hs hlt
        rw [hg] at f2
        have f2 : some h = hget (hres (R i).T (R i).S.H) c := f2
        rw [hget_res] at f2
        split at f2
        · exact f2
        · cases f2
      | none =>
        simp only []
        by_cases hT : c ∈ (R i).T
        · exfalso
          refine hcW ?_
          rw [ex.W]
          exact mem_app.2 (.inr (goneW_mem.2 ⟨hT, hg⟩))
        · rw [if_neg hT]
theorem DSt.memN (A : DSt P N ops R) {i : Nat} {o : Oper} (ho : ops[i]? = some o) (hx : (R i).x = true) {c : Nat} (hc : c ∈ (R i).W) : hget (R (i + 1)).S.H c = hget (R i).Sr.H c := by
  have ex := (A.st i o ho).ex hx
  rw [ex.H]
  unfold nxH
  split
  · rename_i hW; rw [hW] at hc; cases hc
  · rename_i w1 w2 hW
    rw [hget_app, hget_out]
    cases hg : hget (R i).Sr.H c with
    | some h => rfl
    | none =>
      simp only []
      rw [ex.W] at hc
      rcases mem_app.1 hc with hc | hc
      · obtain ⟨_, h, hh⟩ := newW_mem.1 hc
        rw [hg] at hh; cases hh
      · rw [if_pos (goneW_mem.1 hc).1]
/-- a piece that was looked at, and not written -/
theorem DSt.memT (A : DSt P N ops R) {i : Nat} {o : Oper} (ho : ops[i]? = some o) (hx : (R i).x = true) {c : Nat} (hT : c ∈ (R i).T) (hc : c ∉ (R i).W) {h : HC} (hh : hget (R i).S.H c = some h) : hget (R i).Sr.H c = some h := by
  have ex := (A.st i o ho).ex hx
  cases hg : hget (R i).Sr.H c with
  | none =>
    exfalso
    refine hc ?_
    rw [ex.W]
    exact mem_app.2 (.inr (goneW_mem.2 ⟨hT, hg⟩))
  | some h' =>
    obtain ⟨s, hs⟩ := hst_some hg
    have hlt : s < (R i).q := by
      rcases Nat.lt_or_ge s (R i).q with q | q
      · exact q
      · exfalso
        refine hc ?_
        rw [ex.W]
        exact mem_app.2 (.inl (newW_mem.2 ⟨⟨s, hs, q⟩, h', hg⟩))
    obtain ⟨f1, f2⟩ := ex.st.frz c s hs hlt
    have f2 : hget (R i).Sr.H c = hget (hres (R i).T (R i).S.H) c := f2
    rw [hget_res, if_pos hT, hh, hg] at f2
    exact f2
theorem DSt.memB (A : DSt P N ops R) {i c : Nat} : ∀ {i' : Nat}, i ≤ i' → i' ≤ ops.size → (∀ j, i ≤ j → j < i' → (R j).x = true → c ∉ (R j).W) → hget (R i').S.H c = hget (R i).S.H c
  | 0, h, _, _ => by rw [show i = 0 by omega]
  | j + 1, h, hj, hw => by
    by_cases e : i = j + 1
    · rw [e]
    · obtain ⟨o, ho⟩ := ops_at (ops := ops) (i := j) (by omega)
      rw [A.memK ho (hw j (by omega) (by omega))]
      exact A.memB (by omega) (by omega) (fun k hk1 hk2 => hw k hk1 (by omega))
/-- the last that wrote a piece -/
theorem last_w {p : Nat → Prop} [DecidablePred p] {i : Nat} : ∀ {i' : Nat}, i ≤ i' → (∀ j, i ≤ j → j < i' → ¬ p j) ∨ ∃ j, i ≤ j ∧ j < i' ∧ p j ∧ ∀ k, j < k → k < i' → ¬ p k
  | 0, h => .inl (fun j _ hj => by omega)
  | n + 1, h => by
    by_cases e : i = n + 1
    · exact .inl (fun j h1 h2 => by omega)
    · by_cases hp : p n
      · exact .inr ⟨n, by omega, by omega, hp, fun k h1 h2 => by omega⟩
      · rcases last_w (p := p) (i := i) (i' := n) (by omega) with h1 | ⟨j, h1, h2, h3, h4⟩
        · refine .inl (fun j h2 h3 => ?_)
          by_cases e2 : j = n
          · subst e2; exact hp
          · exact h1 j h2 (by omega)
        · refine .inr ⟨j, h1, by omega, h3, fun k h5 h6 => ?_⟩
          by_cases e2 : k = n
          · subst e2; exact hp
          · exact h4 k h5 (by omega)

/-! ### Any order -/
structure PcOk (ν : NV) (q : Nat) (w0 : World) (X : XS) (w : World) (c : Nat) (h : HC) : Prop where
  nm : c < q
  ok : h.ok ν q c w
  lt : ∀ b, b ∈ (ν c).D → b < w.heap.size
  mine : h.wt = true → ∀ b, b ∈ (ν c).D → w0.heap.size ≤ b ∨ b ∈ X.x
  src : ∀ b, b ∈ (ν c).D → Vis w0 X b
structure DI (N : Nat) (ops : Array Oper) (R : Nat → DRec) (ν0 : NV) (w0 : World) (X : XS) (a0 : Act) (D : Nat → Bool) (ν : NV) (a : Act) (w : World) : Prop where
  size : a.tmps.size = N
  df : a.defers = []
  fr : ∀ i t v, i ≤ ops.size → (R i).S.get t = some v → Av ops D i t → a.tmps[t]? = some (cv ν v) ∧ v.ok ν (R i).q
  pc : ∀ i c h, i ≤ ops.size → hget (R i).S.H c = some h → Lv ops R D i c → PcOk ν (R i).q w0 X w c h
  ne : ∀ i i' c c' h h', i ≤ ops.size → i' ≤ ops.size → hget (R i).S.H c = some h → Lv ops R D i c → hget (R i').S.H c' = some h' → Lv ops R D i' c' → c ≠ c' → h.wt = true → ∀ b, b ∈ (ν c).D → b ∉ (ν c').D
  keep : Keep X.x w0 w
  kp : ∀ t, (∀ (j : Nat) (o : Oper), ops[j]? = some o → o.dst ≠ some t) → a.tmps[t]? = a0.tmps[t]?
  agr : Agr (R 0).q ν0 ν
variable {ν0 ν : NV} {w0 w : World} {X : XS} {a0 a : Act} {D : Nat → Bool}
theorem Lv.same (A : DSt P N ops R) {i i' c : Nat} (hi : i ≤ ops.size) (hi' : i' ≤ ops.size) (h : Lv ops R D i c) (h' : Lv ops R D i' c) : hget (R i).S.H c = hget (R i').S.H c := by
  have key : ∀ {i i' : Nat}, i ≤ i' → i' ≤ ops.size → Lv ops R D i c → Lv ops R D i' c → hget (R i').S.H c = hget (R i).S.H c := by
    intro i i' hii hi' h h'
    refine A.memB hii hi' fun j h1 h2 hx hc => ?_
    have g1 := h j (by omega) hx hc
    have g2 := h' j (by omega) hx hc
    have := g1.2 (g2.1 h2)
    omega
  rcases Nat.le_total i i' with q | q
  · exact (key q hi' h h').symm
  · exact key q hi h' h
/-- names of what is there are not those of an operation that was not done -/
theorem DI.nf (A : DSt P N ops R) (hcl : Clsd ops D) (I : DI N ops R ν0 w0 X a0 D ν a w) {k : Nat} (hk : k < ops.size) (hkD : D k = false) (hkx : (R k).x = true) {i t : Nat} {v : SV} (hi : i ≤ ops.size) (hv : (R i).S.get t = some v) (hav : Av ops D i t) :
    ∀ c, c ∈ nmV v → c < (R k).q ∨ (R k).q' ≤ c := by
  intro c hc
  rcases Nat.lt_or_ge k i with hki | hki
  · -- a writer behind k, or none
    by_cases hex : ∃ j o, k ≤ j ∧ j < i ∧ ops[j]? = some o ∧ o.dst = some t
    · obtain ⟨j, o, h1, h2, h3, h4⟩ := hex
      have hjD : D j = true := (hav j o h3 h4).1 h2
      have hjk : j ≠ k := by rintro rfl; rw [hkD] at hjD; cases hjD
      obtain ⟨u, g1, g2⟩ := A.nar (i := j + 1) (i' := i) (t := t) (by omega) hi (fun j' o' a1 a2 a3 a4 => by
        have := A.uniq h3 a3 h4 a4; omega) hv
      have hcu := g2.2.2 c hc
      cases hx : (R j).x with
      | false =>
        rw [(A.slotX h3 h4).2 hx] at g1
        cases g1; cases hcu
      | true =>
        rw [(A.slotX h3 h4).1 hx] at g1
        have hmem : c ∈ app (nmD (R j).Sr.F o.dst) (nmWs (R j).Sr.H (R j).W) := by
          refine mem_app.2 (.inl ?_)
          rw [h4]
          show c ∈ (match (R j).Sr.F.get t with | some v => nmV v | none => [])
          have g1 : (R j).Sr.F.get t = some u := g1
          rw [g1]; exact hcu
        rcases ((A.st j o h3).ex hx).nm c hmem k (by omega) hkx with q | q | q
        · exact .inl q
        · exact .inr q
        · have := A.done hcl h3 hjD q
          rw [hkD] at this; cases this
    · have hno : ∀ j o, k ≤ j → j < i → ops[j]? = some o → o.dst ≠ some t := fun j o h1 h2 h3 h4 => hex ⟨j, o, h1, h2, h3, h4⟩
      obtain ⟨u, g1, g2⟩ := A.nar (i := k) (i' := i) (t := t) (by omega) hi hno hv
      have hav' : Av ops D k t := fun j o h3 h4 => by
        rw [← hav j o h3 h4]
        constructor
        · intro h; omega
        · intro h
          rcases Nat.lt_or_ge j k with q | q
          · exact q
          · exact absurd h4 (hno j o q h h3)
      have := ok_lt u (I.fr k t u (by omega) g1 hav').2 c (g2.2.2 c hc)
      exact .inl this
  · have := ok_lt v (I.fr i t v hi hv hav).2 c hc
    have := A.qmono hki (by omega : k ≤ ops.size)
    omega
theorem DI.np (A : DSt P N ops R) (hcl : Clsd ops D) (I : DI N ops R ν0 w0 X a0 D ν a w) {k : Nat} (hk : k < ops.size) (hkD : D k = false) (hkx : (R k).x = true) {i c : Nat} {h : HC} (hi : i ≤ ops.size) (hc : hget (R i).S.H c = some h) (hlv : Lv ops R D i c) :
    ∀ n, n = c ∨ n ∈ nmH h → n < (R k).q ∨ (R k).q' ≤ n := by
  intro n hn
  have small : ∀ {j : Nat}, j ≤ ops.size → hget (R j).S.H c = some h → Lv ops R D j c → j ≤ k → n < (R k).q := by
    intro j hj hcj hlvj hjk
    have p := I.pc j c h hj hcj hlvj
    have := A.qmono hjk (by omega : k ≤ ops.size)
    rcases hn with rfl | hn
    · have := p.nm; omega
    · have := HC.ok_lt p.ok n hn; omega
  rcases Nat.lt_or_ge k i with hki | hki
  · rcases last_w (p := fun j => (R j).x = true ∧ c ∈ (R j).W) (i := k) (i' := i) (by omega) with hno | ⟨j, h1, h2, ⟨h3, h4⟩, h5⟩
    · have hsame := A.memB (i := k) (i' := i) (c := c) (by omega) hi (fun j a1 a2 a3 a4 => hno j a1 a2 ⟨a3, a4⟩)
      rw [hsame] at hc
      refine .inl (small (by omega) hc (fun j a1 a2 a3 => ?_) (Nat.le_refl _))
      rw [← hlv j a1 a2 a3]
      constructor
      · intro h; omega
      · intro h
        rcases Nat.lt_or_ge j k with q | q
        · exact q
        · exact absurd ⟨a2, a3⟩ (hno j q h)
    · have hjD : D j = true := (hlv j (by omega) h3 h4).1 h2
      have hjk : j ≠ k := by rintro rfl; rw [hkD] at hjD; cases hjD
      obtain ⟨o, ho⟩ := ops_at (ops := ops) (i := j) (by omega)
      have hsame := A.memB (i := j + 1) (i' := i) (c := c) (by omega) hi (fun j' a1 a2 a3 a4 => h5 j' (by omega) a2 ⟨a3, a4⟩)
      rw [hsame, A.memN ho h3 h4] at hc
      have hmem : n ∈ app (nmD (R j).Sr.F o.dst) (nmWs (R j).Sr.H (R j).W) := mem_app.2 (.inr (nmWs_mem hc h4 n hn))
      rcases ((A.st j o ho).ex h3).nm n hmem k (by omega) hkx with q | q | q
      · exact .inl q
      · exact .inr q
      · have := A.done hcl ho hjD q
        rw [hkD] at this; cases this
  · exact .inl (small hi hc hlv hki)
theorem addB_ne {D : Nat → Bool} {k j : Nat} (h : j ≠ k) : addB D k j = D j := by unfold addB; rw [if_neg (fun e => h e.symm)]
theorem addB_self {D : Nat → Bool} {k : Nat} : addB D k k = true := by unfold addB; rw [if_pos rfl]
theorem put_other {a : Act} {d : Option Nat} {t : Nat} (h : d ≠ some t) (v : Value) : (a.put d v).tmps[t]? = a.tmps[t]? := by
  cases d with
  | none => rfl
  | some u =>
    simp only [Act.put, Array.getElem?_setIfInBounds]
    rw [if_neg (fun e => h (by rw [e]))]
theorem put_size (a : Act) (d : Option Nat) (v : Value) : (a.put d v).tmps.size = a.tmps.size ∧ (a.put d v).defers = a.defers := by
  cases d <;> simp [Act.put]
theorem put_self {a : Act} {t : Nat} (h : t < a.tmps.size) (v : Value) : (a.put (some t) v).tmps[t]? = some v := by
  simp [Act.put, h]
/-- slots that an operation looks at are told -/
theorem DI.looks (A : DSt P N ops R) (hcl : Clsd ops D) (I : DI N ops R ν0 w0 X a0 D ν a w) {k : Nat} {o : Oper} (ho : ops[k]? = some o) (hkD : D k = false) (he : ∀ j, edge o j = true → D j = true) {t : Nat} {v : SV} (hv : (R k).S.get t = some v) (ht : t ∈ o.looksAt ops) :
    a.tmps[t]? = some (cv ν v) ∧ v.ok ν (R k).q := by
  refine I.fr k t v (Nat.le_of_lt (ops_lt ho)) hv fun j p hj hp => ?_
  by_cases e : j = k
  · subst e
    rw [hkD]
    constructor
    · intro h; omega
    · intro h; cases h
  · rcases (okReg_spec A.reg ho hj (fun q => e q.symm) hp).1 ht with h | h
    · have h1 := A.back k o ho j h
      have h2 := he j h
      exact ⟨fun _ => h2, fun _ => h1⟩
    · have h1 := A.back j p hj k h
      refine ⟨fun q => by omega, fun q => ?_⟩
      have := hcl j p hj q k h
      rw [hkD] at this; cases this
theorem DI.skip (A : DSt P N ops R) (hcl : Clsd ops D) (I : DI N ops R ν0 w0 X a0 D ν a w) {k : Nat} {o : Oper} (ho : ops[k]? = some o) (hkD : D k = false) (hx : (R k).x = false) : DI N ops R ν0 w0 X a0 (addB D k) ν (a.put o.dst undef) w := by
  have hlv : ∀ {i c : Nat}, Lv ops R (addB D k) i c → Lv ops R D i c := fun h j h1 h2 h3 => by
    have hjk : j ≠ k := by rintro rfl; rw [hx] at h2; cases h2
    have := h j h1 h2 h3
    rwa [addB_ne hjk] at this
  refine ⟨by rw [(put_size a o.dst undef).1, I.size], by rw [(put_size a o.dst undef).2, I.df], fun i t v hi hv hav => ?_, fun i c h hi hc hl => I.pc i c h hi hc (hlv hl), fun i i' c c' h h' hi hi' hc hl hc' hl' => I.ne i i' c c' h h' hi hi' hc (hlv hl) hc' (hlv hl'), I.keep, fun t ht => ?_, I.agr⟩
  · by_cases hd : o.dst = some t
    · have hki : k < i := (hav k o ho hd).2 addB_self
      obtain ⟨u, h1, h2⟩ := A.nar (i := k + 1) (i' := i) (t := t) (by omega) hi (fun j' o' a1 a2 a3 a4 => by
        have := A.uniq ho a3 hd a4; omega) hv
      rw [(A.slotX ho hd).2 hx] at h1
      cases h1
      refine ⟨?_, h2.2.1 ν _ trivial⟩
      rw [hd, put_self (by rw [I.size]; exact A.dst k o ho t hd), h2.1 ν]
      rfl
    · rw [put_other hd]
      refine I.fr i t v hi hv fun j p hj hp => ?_
      have hjk : j ≠ k := by rintro rfl; rw [ho] at hj; cases hj; exact hd hp
      have := hav j p hj hp
      rwa [addB_ne hjk] at this
  · rw [put_other (ht k o ho)]
    exact I.kp t ht
theorem DI.exec (A : DSt P N ops R) (hcl : Clsd ops D) (I : DI N ops R ν0 w0 X a0 D ν a w) {k : Nat} {o : Oper} (ho : ops[k]? = some o) (hkD : D k = false) (he : ∀ j, edge o j = true → D j = true) (hx : (R k).x = true) {Q : Exit → Act → World → Prop} {KK : Act → World → Prop}
    (hK : ∀ ν' a' w', DI N ops R ν0 w0 X a0 (addB D k) ν' a' w' → KK a' w') : One P ops Q { o with guard := none } KK a w := by
  have hk := ops_lt ho
  have ex := (A.st k o ho).ex hx
  have hq' : (R k).q' = (R (k + 1)).q := ((A.st k o ho).nq).symm
  -- what is touched is as the text's order has it
  have hlvT : ∀ c, c ∈ (R k).T → Lv ops R D k c := by
    intro c hc j hj hjx hjw
    rcases Nat.lt_trichotomy j k with h | h | h
    · refine ⟨fun _ => ?_, fun _ => h⟩
      rcases ex.hit j h hjx with q | q
      · exact A.mask hcl k o ho he j q
      · exact absurd hc (q.2 c hjw).1
    · subst h
      rw [hkD]
      exact ⟨fun q => by omega, fun q => by cases q⟩
    · refine ⟨fun q => by omega, fun q => ?_⟩
      obtain ⟨p, hp⟩ := ops_at (ops := ops) hj
      rcases ((A.st j p hp).ex hjx).hit k h hx with q2 | q2
      · have := A.done hcl hp q q2
        rw [hkD] at this; cases this
      · exact absurd hjw (q2.1 c hc)
  have hpT : ∀ c h, c ∈ (R k).T → hget (R k).S.H c = some h → PcOk ν (R k).q w0 X w c h := fun c h hc hh => I.pc k c h (by omega) hh (hlvT c hc)
  let xs : List Nat := (R k).T.flatMap (fun c => match hget (R k).S.H c with | some h => bif h.wt then (ν c).D else [] | none => [])
  have hxs : ∀ b, b ∈ xs ↔ ∃ c h, c ∈ (R k).T ∧ hget (R k).S.H c = some h ∧ h.wt = true ∧ b ∈ (ν c).D := by
    intro b
    show b ∈ (R k).T.flatMap _ ↔ _
    rw [List.mem_flatMap]
    constructor
    · rintro ⟨c, hc, hb⟩
      cases hh : hget (R k).S.H c with
      | none => rw [hh] at hb; cases hb
      | some h =>
        rw [hh] at hb
        cases hw : h.wt with
        | false => simp only [hw] at hb; cases hb
        | true => simp only [hw] at hb; exact ⟨c, h, hc, hh, hw, hb⟩
    · rintro ⟨c, h, hc, hh, hw, hb⟩
      exact ⟨c, hc, by rw [hh]; simp only [hw]; exact hb⟩
  let X' : XS := ⟨xs, fun b => ∃ c h, c ∈ (R k).T ∧ hget (R k).S.H c = some h ∧ b ∈ (ν c).D⟩
  have hgT : ∀ {c h}, hget (hres (R k).T (R k).S.H) c = some h → c ∈ (R k).T ∧ hget (R k).S.H c = some h := by
    intro c h hh
    rw [hget_res] at hh
    split at hh
    · rename_i q; exact ⟨q, hh⟩
    · cases hh
  have M0 : Mem ν (R k).q w X' (hres (R k).T (R k).S.H) w := by
    refine ⟨Keep.refl _ _, fun c h hh => ?_, fun c h hh => ?_, fun c h hh => ?_, fun c h hh hw b hb => ?_, fun c c' h h' hh hh' hne hw => ?_, fun c h hh b hb => ?_⟩
    · obtain ⟨h1, h2⟩ := hgT hh; exact (hpT c h h1 h2).nm
    · obtain ⟨h1, h2⟩ := hgT hh; exact (hpT c h h1 h2).ok
    · obtain ⟨h1, h2⟩ := hgT hh; exact (hpT c h h1 h2).lt
    · obtain ⟨h1, h2⟩ := hgT hh; exact .inr ((hxs b).2 ⟨c, h, h1, h2, hw, hb⟩)
    · obtain ⟨h1, h2⟩ := hgT hh
      obtain ⟨h3, h4⟩ := hgT hh'
      exact I.ne k k c c' h h' (by omega) (by omega) h2 (hlvT c h1) h4 (hlvT c' h3) hne hw
    · obtain ⟨h1, h2⟩ := hgT hh; exact .inr (.inr ⟨c, h, h1, h2, hb⟩)
  have Rp : Rep ν (R k).q w X' N ⟨fresL (opT (opR o.op)) (R k).S1.F .e, hres (R k).T (R k).S.H⟩ a w := by
    refine ⟨I.size, I.df, fun t v hv => ?_, M0⟩
    rcases fres_get _ _ _ t v hv with ⟨h1, h2⟩ | h2
    · obtain ⟨u, g1, g2⟩ := A.s1 ho (show (R k).S1.get t = some v from h2)
      obtain ⟨g3, g4⟩ := I.looks A hcl ho hkD he g1 (reads_looks h1)
      exact ⟨by rw [g3, g2.1 ν], g2.2.1 ν _ g4⟩
    · cases h2
  refine ex.st.go ν w X' a w ops Q KK Rp fun ν' a' w' u hag ha' Rp' => ?_
  have M' := Rp'.mem
  let ν2 : NV := fun c => if (R k).q ≤ c ∧ c < (R k).q' then ν' c else ν c
  have hn1 : ∀ c, c < (R k).q' → ν2 c = ν' c := by
    intro c hc
    show (if (R k).q ≤ c ∧ c < (R k).q' then ν' c else ν c) = ν' c
    by_cases q : (R k).q ≤ c
    · rw [if_pos ⟨q, hc⟩]
    · rw [if_neg (fun x => q x.1)]
      exact (hag c (by omega)).symm
  have hn2 : ∀ c, c < (R k).q ∨ (R k).q' ≤ c → ν2 c = ν c := by
    intro c hc
    show (if (R k).q ≤ c ∧ c < (R k).q' then ν' c else ν c) = ν c
    rw [if_neg (by omega)]
  have hag2 : Agr (R k).q' ν' ν2 := fun c hc => hn1 c hc
  have hlv2 : ∀ {i c : Nat}, Lv ops R (addB D k) i c → c ∉ (R k).W → Lv ops R D i c := fun h hcw j h1 h2 h3 => by
    have hjk : j ≠ k := by rintro rfl; exact hcw h3
    have := h j h1 h2 h3
    rwa [addB_ne hjk] at this
  -- pieces that were written
  have hW : ∀ {i c : Nat} {h : HC}, i ≤ ops.size → hget (R i).S.H c = some h → Lv ops R (addB D k) i c → c ∈ (R k).W → k < i ∧ hget (R k).Sr.H c = some h := by
    intro i c h hi hh hl hc
    have hki : k < i := (hl k hk hx hc).2 addB_self
    refine ⟨hki, ?_⟩
    rw [← A.memN ho hx hc, ← hh]
    refine (A.memB (i := k + 1) (i' := i) (c := c) (by omega) hi fun j h1 h2 hjx hjc => ?_).symm
    have hjk : j ≠ k := by omega
    have hjD := (hl j (by omega) hjx hjc).1 h2
    rw [addB_ne hjk] at hjD
    obtain ⟨p, hp⟩ := ops_at (ops := ops) (i := j) (by omega)
    rcases ((A.st j p hp).ex hjx).hit k (by omega) hx with q | q
    · have := A.done hcl hp hjD q
      rw [hkD] at this; cases this
    · exact absurd hjc (q.2 c hc).2
  have hmineX : ∀ b, w.heap.size ≤ b ∨ b ∈ xs → w0.heap.size ≤ b ∨ b ∈ X.x := by
    intro b hb
    rcases hb with hb | hb
    · exact .inl (Nat.le_trans I.keep.size hb)
    · obtain ⟨c, h, h1, h2, h3, h4⟩ := (hxs b).1 hb
      exact (hpT c h h1 h2).mine h3 b h4
  have hsrcX : ∀ b, Vis w X' b → Vis w0 X b := by
    intro b hb
    rcases hb with hb | hb | ⟨c, h, h1, h2, h3⟩
    · exact .inl (Nat.le_trans I.keep.size hb)
    · exact vis_of (hmineX b (.inr hb))
    · exact (hpT c h h1 h2).src b h3
  -- each piece is of the result's memory, or was not touched
  have hcase : ∀ {i c : Nat} {h : HC}, i ≤ ops.size → hget (R i).S.H c = some h → Lv ops R (addB D k) i c →
      PcOk ν2 (R i).q w0 X w' c h ∧ ((hget (R k).Sr.H c = some h ∧ c < (R k).q') ∨ (c ∉ (R k).T ∧ c ∉ (R k).W ∧ ν2 c = ν c ∧ Lv ops R D i c)) := by
    intro i c h hi hh hl
    by_cases hcw : c ∈ (R k).W
    · obtain ⟨hki, hs⟩ := hW hi hh hl hcw
      have hlt := M'.nm c h hs
      have hqi : (R k).q' ≤ (R i).q := by rw [hq']; exact A.qmono (by omega) hi
      refine ⟨⟨by omega, ?_, ?_, ?_, ?_⟩, .inl ⟨hs, hlt⟩⟩
      · exact HC.mono hqi (HC.agr hag2 hlt (M'.ok c h hs))
      · rw [hn1 c hlt]; exact M'.lt c h hs
      · rw [hn1 c hlt]; exact fun hw b hb => hmineX b (M'.mine c h hs hw b hb)
      · rw [hn1 c hlt]; exact fun b hb => hsrcX b (M'.src c h hs b hb)
    · have hl2 := hlv2 hl hcw
      have p := I.pc i c h hi hh hl2
      by_cases hct : c ∈ (R k).T
      · have hhk : hget (R k).S.H c = some h := by
          rw [← hh]; exact Lv.same A (by omega) hi (hlvT c hct) hl2
        have hs := A.memT ho hx hct hcw hhk
        have pk := hpT c h hct hhk
        have hlt : c < (R k).q' := Nat.lt_of_lt_of_le pk.nm (A.st k o ho).le
        have hν : ν2 c = ν c := hn2 c (.inl pk.nm)
        refine ⟨⟨p.nm, ?_, ?_, ?_, ?_⟩, .inl ⟨hs, hlt⟩⟩
        · rcases Nat.le_total i k with hik | hik
          · have hqi := A.qmono hik (by omega : k ≤ ops.size)
            exact HC.agr (hag2.mono (Nat.le_trans hqi (A.st k o ho).le)) p.nm (HC.lower (M'.ok c h hs) p.ok (hag.mono hqi))
          · rcases Nat.eq_or_lt_of_le hik with e | hlt2
            · subst e
              exact HC.agr (hag2.mono (A.st k o ho).le) p.nm (HC.lower (M'.ok c h hs) p.ok hag)
            · have hqi : (R k).q' ≤ (R i).q := by rw [hq']; exact A.qmono (by omega) hi
              exact HC.mono hqi (HC.agr hag2 hlt (M'.ok c h hs))
        · rw [hν]; exact fun b hb => Nat.lt_of_lt_of_le (p.lt b hb) M'.keep.size
        · rw [hν]; exact p.mine
        · rw [hν]; exact p.src
      · have hnp := I.np A hcl hk hkD hx hi hh hl2
        have hν : ν2 c = ν c := hn2 c (hnp c (.inl rfl))
        refine ⟨⟨p.nm, ?_, ?_, ?_, ?_⟩, .inr ⟨hct, hcw, hν, hl2⟩⟩
        · refine HC.ok_on hν (fun n hn => hn2 n (hnp n (.inr hn))) (HC.keepB p.ok fun b hb => M'.keep.block b (p.lt b hb) fun hbx => ?_)
          obtain ⟨c1, h1, g1, g2, g3, g4⟩ := (hxs b).1 hbx
          exact I.ne k i c1 c h1 h (by omega) hi g2 (hlvT c1 g1) hh hl2 (fun e => hct (e ▸ g1)) g3 b g4 hb
        · rw [hν]; exact fun b hb => Nat.lt_of_lt_of_le (p.lt b hb) M'.keep.size
        · rw [hν]; exact p.mine
        · rw [hν]; exact p.src
  refine hK ν2 a' w' ⟨?_, ?_, fun i t v hi hv hav => ?_, fun i c h hi hh hl => (hcase hi hh hl).1, fun i i' c c' h h' hi hi' hh hl hh' hl' hne hw b hb hb2 => ?_, ?_, fun t ht => ?_, ?_⟩
  · rw [ha', (put_size a o.dst u).1, I.size]
  · rw [ha', (put_size a o.dst u).2, I.df]
  · by_cases hd : o.dst = some t
    · have hki : k < i := (hav k o ho hd).2 addB_self
      obtain ⟨z, h1, h2⟩ := A.nar (i := k + 1) (i' := i) (t := t) (by omega) hi (fun j' o' a1 a2 a3 a4 => by
        have := A.uniq ho a3 hd a4; omega) hv
      rw [(A.slotX ho hd).1 hx] at h1
      obtain ⟨g1, g2⟩ := Rp'.fr t z h1
      have g3 := ok_agr hag2 z g2
      have hqi : (R k).q' ≤ (R i).q := by rw [hq']; exact A.qmono (by omega) hi
      refine ⟨?_, h2.2.1 ν2 _ (ok_mono hqi z g3.1)⟩
      rw [g1, h2.1 ν2]
      show some (cv3 ν' z).1 = some (cv3 ν2 z).1
      rw [g3.2]
    · have hav' : Av ops D i t := fun j p hj hp => by
        have hjk : j ≠ k := by rintro rfl; rw [ho] at hj; cases hj; exact hd hp
        have := hav j p hj hp
        rwa [addB_ne hjk] at this
      obtain ⟨g1, g2⟩ := I.fr i t v hi hv hav'
      have g3 := ok_on (ν' := ν2) v (fun c hc => hn2 c (I.nf A hcl hk hkD hx hi hv hav' c hc)) g2
      refine ⟨?_, g3.1⟩
      rw [ha', put_other hd, g1]
      show some (cv3 ν v).1 = some (cv3 ν2 v).1
      rw [g3.2]
  · obtain ⟨_, c1⟩ := hcase hi hh hl
    obtain ⟨_, c2⟩ := hcase hi' hh' hl'
    rcases c1 with ⟨s1, l1⟩ | ⟨t1, w1, n1, v1⟩
    · rw [hn1 c l1] at hb
      rcases c2 with ⟨s2, l2⟩ | ⟨t2, w2, n2, v2⟩
      · rw [hn1 c' l2] at hb2
        exact M'.ne c c' h h' s1 s2 hne hw b hb hb2
      · rw [n2] at hb2
        have p2 := I.pc i' c' h' hi' hh' v2
        rcases M'.mine c h s1 hw b hb with q | q
        · have := p2.lt b hb2; omega
        · obtain ⟨d, y, g1, g2, g3, g4⟩ := (hxs b).1 q
          exact I.ne k i' d c' y h' (by omega) hi' g2 (hlvT d g1) hh' v2 (fun e => t2 (e ▸ g1)) g3 b g4 hb2
    · rw [n1] at hb
      rcases c2 with ⟨s2, l2⟩ | ⟨t2, w2, n2, v2⟩
      · rw [hn1 c' l2] at hb2
        have p1 := I.pc i c h hi hh v1
        have far : ∀ d y, d ∈ (R k).T → hget (R k).S.H d = some y → b ∈ (ν d).D → False := fun d y g1 g2 g4 =>
          I.ne i k c d h y hi (by omega) hh v1 g2 (hlvT d g1) (fun e => t1 (e ▸ g1)) hw b hb g4
        rcases M'.src c' h' s2 b hb2 with q | q | ⟨d, y, g1, g2, g3⟩
        · have := p1.lt b hb; omega
        · obtain ⟨d, y, g1, g2, _, g4⟩ := (hxs b).1 q
          exact far d y g1 g2 g4
        · exact far d y g1 g2 g3
      · rw [n2] at hb2
        exact I.ne i i' c c' h h' hi hi' hh v1 hh' v2 hne hw b hb hb2
  · exact I.keep.trans M'.keep (fun b hb => hmineX b (.inr hb))
  · rw [ha', put_other (ht k o ho)]
    exact I.kp t ht
  · intro c hc
    rw [hn2 c (.inl (Nat.lt_of_lt_of_le hc (A.qmono (Nat.zero_le _) (by omega))))]
    exact I.agr c hc
theorem dst_frz (A : DSt P N ops R) : ∀ i, i ≤ ops.size → Frz (R 0).q (R 0).S.H (R i).S.H := by
  intro i
  induction i with
  | zero => intro _; exact Frz.refl _ _
  | succ i ih =>
    intro hi
    have h1 := ih (by omega)
    obtain ⟨o, ho⟩ := ops_at (ops := ops) (i := i) (by omega)
    refine h1.trans ?_ (A.qmono (Nat.zero_le i) (by omega))
    cases hx : (R i).x with
    | false =>
      rw [(A.st i o ho).sk hx, putD_H, (A.st i o ho).s1]
      exact Frz.refl _ _
    | true =>
      have ex := (A.st i o ho).ex hx
      rw [ex.H]
      unfold nxH
      split
      · exact Frz.refl _ _
      · intro c s hs' hlt
        have hst_app : ∀ (A B : List (Nat × Nat × HC)), hst (app A B) c = match hst A c with | some s => some s | none => hst B c := by
          intro A B
          induction A with
          | nil => rfl
          | cons p r ih =>
            obtain ⟨d, s, h⟩ := p
            show hst ((d, s, h) :: app r B) c = _
            rw [hst_cons, hst_cons, ih]
            split <;> rfl
        rw [hst_app] at hs'
        rw [hget_app]
        cases e : hst (R i).Sr.H c with
        | some s' =>
          rw [e] at hs'
          cases hs'
          obtain ⟨f1, f2⟩ := ex.st.frz c s e hlt
          have f1 : hst (hres (R i).T (R i).S.H) c = some s := f1
          have f2 : hget (R i).Sr.H c = hget (hres (R i).T (R i).S.H) c := f2
          rw [hst_res] at f1
          rw [hget_res] at f2
          split at f1
          · rename_i hT
            rw [if_pos hT] at f2
            refine ⟨f1, ?_⟩
            rw [f2]
            cases hget (R i).S.H c with
            | some x => rfl
            | none => simp only []; rw [hget_out, if_pos hT]
          · cases f1
        | none =>
          rw [e] at hs'
          simp only [] at hs'
          have hn : hget (R i).Sr.H c = none := by
            cases g : hget (R i).Sr.H c with
            | none => rfl
            | some x => obtain ⟨s2, h2⟩ := hst_some g; rw [e] at h2; cases h2
          rw [hn]
          simp only []
          have hout' : hst (hout (R i).T (R i).S.H) c = if c ∈ (R i).T then none else hst (R i).S.H c := by
            induction (R i).S.H with
            | nil => simp [hout, hst]
            | cons p r ih =>
              obtain ⟨d, s, h⟩ := p
              unfold hout
              cases hm : memN (R i).T d with
              | true =>
                have hd := memN_iff.1 hm
                simp only [cond_true]
                rw [hst_cons, ih]
                by_cases e : d = c
                · subst e; simp [hd]
                · simp [e]
              | false =>
                have hd : d ∉ (R i).T := fun q => by rw [memN_iff.2 q] at hm; cases hm
                simp only [cond_false]
                rw [hst_cons, hst_cons, ih]
                by_cases e : d = c
                · subst e; simp [hd]
                · simp [e]
          rw [hout'] at hs'
          rw [hget_out]
          split at hs'
          · cases hs'
          · rename_i hT
            rw [if_neg hT]
            exact ⟨hs', rfl⟩
theorem DI.start (A : DSt P N ops R) (Rp : Rep ν (R 0).q w0 X N (R 0).S a w) : DI N ops R ν w0 X a (fun _ => false) ν a { w with drawn := w.drawn + 1 } := by
  have M := Rp.mem.growN (w' := { w with drawn := w.drawn + 1 }) ⟨rfl, rfl, rfl, Nat.le_refl _, fun _ _ _ => rfl⟩
  have hnw : ∀ {i c : Nat}, i ≤ ops.size → Lv ops R (fun _ => false) i c → hget (R i).S.H c = hget (R 0).S.H c := by
    intro i c hi hl
    refine A.memB (Nat.zero_le _) hi fun j _ h2 h3 h4 => ?_
    have := (hl j (by omega) h3 h4).1 h2
    cases this
  refine ⟨Rp.size, Rp.df, fun i t v hi hv hav => ?_, fun i c h hi hh hl => ?_, fun i i' c c' h h' hi hi' hh hl hh' hl' => ?_, M.keep, fun _ _ => rfl, Agr.refl _ _⟩
  · obtain ⟨u, h1, h2⟩ := A.nar (i := 0) (i' := i) (t := t) (Nat.zero_le _) hi (fun j o _ a2 a3 a4 => by
      have := (hav j o a3 a4).1 a2; cases this) hv
    obtain ⟨g1, g2⟩ := Rp.fr t u h1
    exact ⟨by rw [g1, h2.1 ν], h2.2.1 ν _ (ok_mono (A.qmono (Nat.zero_le _) hi) u g2)⟩
  · rw [hnw hi hl] at hh
    have hqi := A.qmono (Nat.zero_le i) hi
    exact ⟨Nat.lt_of_lt_of_le (M.nm c h hh) hqi, HC.mono hqi (M.ok c h hh), M.lt c h hh, M.mine c h hh, M.src c h hh⟩
  · rw [hnw hi hl] at hh
    rw [hnw hi' hl'] at hh'
    exact M.ne c c' h h' hh hh'
theorem DI.step (A : DSt P N ops R) (hcl : Clsd ops D) (I : DI N ops R ν0 w0 X a0 D ν a w) {k : Nat} {o : Oper} (ho : ops[k]? = some o) (hkD : D k = false) (he : ∀ j, edge o j = true → D j = true) {Q : Exit → Act → World → Prop} {KK : Act → World → Prop}
    (hKK : ∀ ν' a' w', DI N ops R ν0 w0 X a0 (addB D k) ν' a' w' → KK a' w') : One P ops Q o KK a w := by
  rcases (A.st k o ho).grd with ⟨g1, g2, _⟩ | ⟨j, want, t, v, g1, g2, g3, g4⟩
  · refine One.bare' (by simp [Region.wanted, g1]) (I.exec A hcl ho hkD he g2 hKK)
  · have ht : t ∈ o.looksAt ops := by simp [Oper.looksAt, g1, g2]
    obtain ⟨e1, _⟩ := I.looks A hcl ho hkD he g3 ht
    obtain ⟨w1, w2⟩ := wanted_of g1 g2 e1
    rcases g4 with ⟨rfl, hx, _⟩ | ⟨b, hb, _, hx⟩
    · exact One.off (w2 rfl) (hKK _ _ _ (I.skip A hcl ho hkD hx))
    · have hw := w1 b (hb ν)
      cases hbw : (b == want) with
      | true =>
        rw [hbw] at hw hx
        exact One.bare' hw (I.exec A hcl ho hkD he hx hKK)
      | false =>
        rw [hbw] at hw hx
        exact One.off hw (hKK _ _ _ (I.skip A hcl ho hkD hx))
/-! ### An operation panics -/
theorem grdB_at : ∀ {l : List Oper} {n : Nat}, grdB l n = true → ∀ (j : Nat) (p : Oper), l[j]? = some p → ∀ g w, p.guard = some (g, w) → g < n + j
  | [], _, _, j, p, h, _, _, _ => by simp at h
  | o :: l, n, h, j, p, hj, g, w, hg => by
    have h : ((match o.guard with | some (g, _) => Nat.blt g n | none => true) && grdB l (n + 1)) = true := h
    rw [Bool.and_eq_true] at h
    cases j with
    | zero =>
      cases hj
      have h1 := h.1
      rw [hg] at h1
      simpa using h1
    | succ j =>
      have := grdB_at h.2 j p (by simpa using hj) g w hg
      omega
theorem okW_mem {m : Nat} : ∀ {TR : List TE}, okW m TR = true → ∀ e, e ∈ TR → bitN m e.i = true ∨ e.w = []
  | x :: r, h, e, he => by
    have h : ((bitN m x.i || nilB x.w) && okW m r) = true := h
    rw [Bool.and_eq_true] at h
    rcases List.mem_cons.1 he with rfl | he
    · rcases Bool.or_eq_true_iff.1 h.1 with h1 | h1
      · exact .inl h1
      · refine .inr ?_
        cases hw : e.w with
        | nil => rfl
        | cons a b => rw [hw] at h1; cases h1
    · exact okW_mem h.2 e he
theorem waitA_at {i : Nat} {f : Nat → Nat} : ∀ {l : List Oper} {n : Nat} {MK : List (Nat × Nat)}, i < n → waitA i l n MK = true → (∀ j, j < i → lookM MK j = f j) → ∀ (t : Nat) (p : Oper), l[t]? = some p → ∃ MK', (∀ j, j < i → lookM MK' j = f j) ∧ bitN (mskE MK' p.after.toList) i = true
  | [], _, _, _, _, _, t, p, h => by simp at h
  | o :: l, n, MK, hn, h, hf, t, p, ht => by
    have h : (bitN (mskE MK o.after.toList) i && waitA i l (n + 1) ((n, mskE MK o.after.toList) :: MK)) = true := h
    rw [Bool.and_eq_true] at h
    cases t with
    | zero => cases ht; exact ⟨MK, hf, h.1⟩
    | succ t =>
      refine waitA_at (n := n + 1) (by omega) h.2 (fun j hj => ?_) t p (by simpa using ht)
      show (bif Nat.beq n j then _ else _) = _
      rw [beq_false (by omega)]
      exact hf j hj
theorem One.opsC {ops ops' : Array Oper} {Q : Exit → Act → World → Prop} {o : Oper} {KK : Act → World → Prop} {a : Act} {w : World} (h : ∀ g w, o.guard = some (g, w) → ops'[g]? = ops[g]?) (k : One P ops' Q o KK a w) : One P ops Q o KK a w := by
  have e : Region.wanted o (yielded ops a.tmps) = Region.wanted o (yielded ops' a.tmps) := by
    unfold Region.wanted
    cases hg : o.guard with
    | none => rfl
    | some p =>
      obtain ⟨g, b⟩ := p
      simp only [yielded, h g b hg]
  unfold One at *
  rw [e]
  exact k
theorem draw_pn (hm : P.follows .mixedOrders = true) {E : Env} (hN : N ≤ 4000) {id i : Nat} {o : Oper} {q' : Nat} {S' : St} (hreg : okReg ops = true) (hback : ∀ i o, ops[i]? = some o → ∀ j, edge o j = true → j < i)
    (hd : ∀ (i : Nat) (o : Oper), ops[i]? = some o → ∀ t, o.dst = some t → t < N) (ho : ops[i]? = some o) (hst : ∀ j p, j < i → ops[j]? = some p → DStep P N ops R j p) (hp : PStep P E N ops R i o (ops.toList.drop (i + 1)) q' S') :
    Rn E N (wrO ops.toList) (fun Q a w => (Code.region id ops true).wp P Q a w) (R 0).q (R 0).S .pn q' S' := by
  obtain ⟨MK, TR, hMK, hTR, hok⟩ := hp.mks
  simp only [okPn, Bool.and_eq_true] at hok
  obtain ⟨hW, hA, hR, hG⟩ := hok
  obtain ⟨S1, hS1, hgo, hgrd⟩ := hp.stp
  have hi := ops_lt ho
  generalize hops' : (⟨ops.toList.take i⟩ : Array Oper) = ops' at hR
  have hgt : ∀ j, ops'[j]? = if j < i then ops[j]? else none := by
    intro j
    rw [← hops']
    simp [List.getElem?_take]
  have hsz : ops'.size = i := by
    rw [← hops']
    simp
    omega
  have hgI : ∀ {j : Nat} {p : Oper}, ops'[j]? = some p → j < i ∧ ops[j]? = some p := by
    intro j p h
    rw [hgt j] at h
    split at h
    · rename_i hj; exact ⟨hj, h⟩
    · cases h
  have hgO : ∀ {j : Nat}, j < i → ops'[j]? = ops[j]? := by
    intro j hj
    rw [hgt j, if_pos hj]
  have hguard : ∀ (j : Nat) (p : Oper), j ≤ i → ops[j]? = some p → ∀ g w, p.guard = some (g, w) → g < j := by
    intro j p hj hp g w hg
    have := grdB_at hG j p (by rw [List.getElem?_take, if_pos (by omega)]; simpa using hp) g w hg
    omega
  have A : DSt P N ops' R := by
    refine ⟨hN, fun j p hj => ?_, fun j p hj => hback j p (hgI hj).2, hR, fun j p hj => hd j p (hgI hj).2⟩
    have s := hst j p (hgI hj).1 (hgI hj).2
    refine ⟨s.mks, s.s1, ?_, s.nq, s.le, s.ex, s.sk⟩
    rcases s.grd with g | ⟨jj, want, t, v, g1, g2⟩
    · exact .inl g
    · refine .inr ⟨jj, want, t, v, g1, ?_⟩
      rw [hgO (by have := hguard j p (by have := (hgI hj).1; omega) (hgI hj).2 jj want g1; have := (hgI hj).1; omega)]
      exact g2
  have hle : (R 0).q ≤ (R i).q := A.qmono (Nat.zero_le _) (by omega)
  have hwr : ∀ {t : Nat}, t ∉ wrO ops.toList → ∀ (j : Nat) (p : Oper), ops'[j]? = some p → p.dst ≠ some t := fun ht j p h1 h2 => ht (wrO_mem (List.mem_of_getElem? (i := j) (by simpa using (hgI h1).2)) h2)
  refine ⟨Nat.le_trans hle hgo.le, (dst_frz A i (by omega)).trans hgo.frz hle, fun ν w0 X a w Q Rp hQ => ?_⟩
  refine region_inv hm hback (fun D a' w' => (∀ j, D j = true → j < i) ∧ ∃ ν', DI N ops' R ν w0 X a D ν' a' w') ⟨fun j hj => (by cases hj), ν, DI.start A Rp⟩ ?_ ?_
  · rintro D a' w' hcl hsz2 ⟨hlt, ν', I⟩ k p hk hkD he KK hKK
    have hcl' : Clsd ops' D := fun j p hj => hcl j p (hgI hj).2
    rcases Nat.lt_trichotomy k i with h | h | h
    · refine One.opsC (ops' := ops') (fun g w hg => hgO (by have := hguard k p (by omega) hk g w hg; omega)) ?_
      refine I.step A hcl' (by rw [hgO h]; exact hk) hkD he fun ν2 a2 w2 I2 => hKK a2 w2 ⟨fun j hj => ?_, ν2, I2⟩
      unfold addB at hj
      split at hj
      · omega
      · exact hlt j hj
    · subst h
      rw [ho] at hk
      cases hk
      have hmask : ∀ j, bitN (mskE MK o.after.toList) j = true → D j = true := by
        intro j hj
        obtain ⟨e, g1, g2, g3⟩ := mskE_bit hj
        have hed : edge o e.on = true := edge_mk (by simpa using g1) g2
        have hlt2 := hback k o ho e.on hed
        rcases g3 with rfl | g3
        · exact he _ hed
        · rw [hMK e.on, if_pos hlt2] at g3
          obtain ⟨p, hp⟩ := ops_at (ops := ops') (i := e.on) (by omega)
          exact A.done hcl' hp (he _ hed) g3
      have hlv : ∀ c, Lv ops' R D k c := fun c j h1 h2 h3 => by
        refine ⟨fun _ => ?_, fun _ => by omega⟩
        rcases okW_mem hW _ (hTR j (by omega) h2) with h | h
        · exact hmask j h
        · have h : (R j).W = [] := h
          rw [h] at h3; cases h3
      have hlooks : ∀ {t : Nat} {u : SV}, (R k).S.get t = some u → t ∈ o.looksAt ops → a'.tmps[t]? = some (cv ν' u) ∧ u.ok ν' (R k).q := by
        intro t u hu ht
        refine I.fr k t u (by omega) hu fun j p hj hp => ?_
        obtain ⟨hj1, hj2⟩ := hgI hj
        rcases (okReg_spec hreg ho hj2 (by omega) hp).1 ht with h | h
        · exact ⟨fun _ => he j h, fun _ => hj1⟩
        · have := hback j p hj2 k h
          omega
      have Rk : Rep ν' (R k).q w0 X N ⟨fresL (opT (opR o.op)) S1.F .e, (R k).S.H⟩ a' w' := by
        refine ⟨I.size, I.df, fun t v hv => ?_, ?_⟩
        · rcases fres_get _ _ _ _ _ hv with ⟨h1, h2⟩ | h2
          · have hs1 : ∃ u, (R k).S.get t = some u ∧ Nar v u := by
              have h2 : S1.get t = some v := h2
              rcases hgrd with ⟨_, e⟩ | ⟨j, want, tg, u, g1, g2, g3, b, hb, e, _⟩
              · rw [e] at h2; exact ⟨v, h2, Nar.refl v⟩
              · rw [e] at h2
                have htg : tg < 4000 := by
                  obtain ⟨pj, hpj, hpd⟩ := Option.bind_eq_some_iff.1 g2
                  exact Nat.lt_of_lt_of_le (hd j pj hpj tg hpd) hN
                rw [getP_put _ htg] at h2
                by_cases e2 : tg = t
                · subst e2
                  rw [if_pos rfl] at h2
                  cases h2
                  exact ⟨u, g3, fun ν => by rw [b2_cv, hb], fun ν q _ => b2_ok ν q b, fun c hc => by cases b <;> cases hc⟩
                · rw [if_neg e2] at h2; exact ⟨v, h2, Nar.refl v⟩
            obtain ⟨u, h3, h4⟩ := hs1
            obtain ⟨h5, h6⟩ := hlooks h3 (reads_looks h1)
            exact ⟨by rw [h5, h4.1 ν'], h4.2.1 ν' _ h6⟩
          · cases h2
        · have p := fun c h hh => I.pc k c h (by omega) hh (hlv c)
          exact ⟨I.keep, fun c h hh => (p c h hh).nm, fun c h hh => (p c h hh).ok, fun c h hh => (p c h hh).lt, fun c h hh => (p c h hh).mine, fun c c' h h' hh hh' => I.ne k k c c' h h' (by omega) (by omega) hh (hlv c) hh' (hlv c'), fun c h hh => (p c h hh).src⟩
      have hend : ∀ ν2 w2, Agr (R k).q ν' ν2 → Rep ν2 q' w0 X N S' a' w2 → Q (.panic (pch E)) a' w2 := fun ν2 w2 hag R2 => hQ ν2 a' w2 (I.agr.trans hag hle) (fun t ht => I.kp t (hwr ht)) R2
      rcases hgrd with ⟨g1, _⟩ | ⟨j, want, tg, u, g1, g2, g3, b, hb, _, hw⟩
      · exact One.bare' (by simp [Region.wanted, g1]) (hgo.go ν' w0 X a' w' ops Q KK Rk hend)
      · have ht : tg ∈ o.looksAt ops := by simp [Oper.looksAt, g1, g2]
        obtain ⟨e1, _⟩ := hlooks g3 ht
        obtain ⟨w1, _⟩ := wanted_of g1 g2 e1
        exact One.bare' (by rw [w1 b (hb ν')]; exact hw) (hgo.go ν' w0 X a' w' ops Q KK Rk hend)
    · exfalso
      obtain ⟨MK', h1, h2⟩ := waitA_at (f := fun j => (R j).m) (Nat.lt_succ_self i) hA (fun j hj => by
        show (bif Nat.beq i j then _ else _) = _
        rw [beq_false (by omega)]
        show lookM MK j = _
        rw [hMK j, if_pos hj]) (k - (i + 1)) p (by rw [List.getElem?_drop, show i + 1 + (k - (i + 1)) = k by omega]; simpa using hk)
      obtain ⟨e, g1, g2, g3⟩ := mskE_bit h2
      have hed : edge p e.on = true := edge_mk (by simpa using g1) g2
      have hlt2 := hlt _ (he _ hed)
      rcases g3 with g3 | g3
      · omega
      · rw [h1 e.on hlt2] at g3
        obtain ⟨pp, hpp⟩ := ops_at (ops := ops') (i := e.on) (by omega)
        have := hlt i (A.done hcl' hpp (he _ hed) g3)
        omega
  · rintro D a' w' hall hsz2 ⟨hlt, _⟩
    have := hlt i (hall i hi)
    omega
theorem draw_ok (hm : P.follows .mixedOrders = true) {E : Env} (hT : TDok P E.D) : DrawAll P E := by
  intro h N hN hh id ops τ k q S r hok hd hs
  rw [okDr, Bool.and_eq_true] at hok
  have hbk : ∀ i o, ops[i]? = some o → ∀ j, edge o j = true → j < i := by
    intro i o ho j hj
    obtain ⟨e, h1, h2, rfl⟩ := edge_of hj
    have g1 := List.all_eq_true.1 hok.2 (o, i) (by rw [List.mem_zipIdx_iff_getElem?]; simpa using ho)
    have g2 := List.all_eq_true.1 g1 e (by simpa using h1)
    simpa [h2] using g2
  have hdd : ∀ (i : Nat) (o : Oper), ops[i]? = some o → ∀ t, o.dst = some t → t < N := fun i o ho t ht => hd o (List.mem_of_getElem? (i := i) (by simpa using ho)) t ht
  obtain ⟨R, _, hq, hS, ⟨hstep, hk⟩ | ⟨n, o, q', S', h1, h2, h3, h4⟩⟩ := sxD_run hT hN rfl hh ops.toList 0 [] [] q S (fun _ => ⟨false, 0, [], [], 0, 0, S, S, S⟩) (fun j => by simp [lookM]) (fun j hj => by omega) hd hs
  rotate_left
  · refine ⟨.pn, q', S', h4, ?_⟩
    rw [← hq, ← hS]
    rw [Nat.zero_add] at h3
    exact draw_pn hm hN hok.1 hbk hdd (by simpa using h1) (fun j p hj hp => by have := h2 j p hj (by simpa using hp); rwa [Nat.zero_add] at this) h3
  simp only [Nat.zero_add, Array.length_toList] at hstep hk
  have A : DSt P N ops R := ⟨hN, fun i o ho => hstep i o (by simpa using ho), hbk, hok.1, hdd⟩
  refine ⟨.nr, (R ops.size).q, (R ops.size).S, hk, by rw [← hq]; exact A.qmono (Nat.zero_le _) (Nat.le_refl _), ?_, ?_⟩
  · -- stamps
    rw [← hq, ← hS]
    exact dst_frz A ops.size (Nat.le_refl _)
  · intro ν w0 X a w Q Rp hQ
    have Rp : Rep ν (R 0).q w0 X N (R 0).S a w := by rw [hq, hS]; exact Rp
    refine region_inv hm A.back (fun D a' w' => ∃ ν', DI N ops R ν w0 X a D ν' a' w') ?_ ?_ ?_
    · exact ⟨ν, DI.start A Rp⟩
    · rintro D a' w' hcl hsz ⟨ν', I⟩ k o ho hkD he KK hKK
      exact I.step A hcl ho hkD he fun ν2 a2 w2 I2 => hKK a2 w2 ⟨ν2, I2⟩
    · rintro D a' w' hall hsz ⟨ν', I⟩
      have hav : ∀ t, Av ops D ops.size t := fun t j o h1 h2 => ⟨fun _ => hall j (ops_lt h1), fun _ => ops_lt h1⟩
      have hlv : ∀ c, Lv ops R D ops.size c := fun c j h1 h2 h3 => ⟨fun _ => hall j h1, fun _ => h1⟩
      refine hQ ν' a' w' ?_ (fun t ht => I.kp t fun j o h1 h2 => ht (wrO_mem (List.mem_of_getElem? (i := j) (by simpa using h1)) h2)) ?_
      · rw [← hq]; exact I.agr
      · refine ⟨I.size, I.df, fun t v hv => I.fr ops.size t v (Nat.le_refl _) hv (hav t), ?_⟩
        have p := fun c h hh => I.pc ops.size c h (Nat.le_refl _) hh (hlv c)
        exact ⟨I.keep, fun c h hh => (p c h hh).nm, fun c h hh => (p c h hh).ok, fun c h hh => (p c h hh).lt, fun c h hh => (p c h hh).mine, fun c c' h h' hh hh' => I.ne _ _ c c' h h' (Nat.le_refl _) (Nat.le_refl _) hh (hlv c) hh' (hlv c'), fun c h hh => (p c h hh).src⟩
end
end Go.Proofs.Ytnagkhofkjjajaa

/- The program's facts that the symbolic walk asks for: checks that the kernel reckons. Lemmas, no statement of the claim. -/
set_option linter.unusedVariables false
set_option linter.unusedSimpArgs false
namespace Go.Proofs.Ytnagkhofkjjajaa
open Go.RowKit
/-! ### Types -/
def valB1 : Value → Value → Bool
  | .bool true, .bool true => true
  | .bool false, .bool false => true
  | .int k (.ofNat n), .int k' (.ofNat m) => kq k k' && Nat.beq n m
  | .string a, .string b => (match a.data.toList, b.data.toList with | [], [] => true | _, _ => false)
  | .slice none 0 0, .slice none 0 0 => true
  | .pointer none, .pointer none => true
  | _, _ => false
def valBL : List Value → List Value → Bool
  | [], [] => true
  | a :: r, b :: l => valB1 a b && valBL r l
  | _, _ => false
def valB : Value → Value → Bool
  | .agg ⟨xs⟩, .agg ⟨ys⟩ => valBL xs ys
  | a, b => valB1 a b
theorem valB1_ok {a b : Value} (h : valB1 a b = true) : a = b := by
  unfold valB1 at h
  split at h
  · rfl
  · rfl
  · rw [Bool.and_eq_true] at h
    rw [kq_eq h.1, Nat.eq_of_beq_eq_true h.2]
  · rename_i a b
    split at h
    · rename_i e1 e2
      congr 1
      apply ByteArray.ext
      apply Array.toList_inj.1
      rw [e1, e2]
    · cases h
  · rfl
  · rfl
  · cases h
theorem valBL_ok : ∀ {a b : List Value}, valBL a b = true → a = b
  | [], [], _ => rfl
  | a :: r, b :: l, h => by
    have h : (valB1 a b && valBL r l) = true := h
    rw [Bool.and_eq_true] at h
    rw [valB1_ok h.1, valBL_ok h.2]
  | [], _ :: _, h => by cases h
  | _ :: _, [], h => by cases h
theorem valB_ok {a b : Value} (h : valB a b = true) : a = b := by
  unfold valB at h
  split at h
  · rw [valBL_ok h]
  · exact valB1_ok h
def eqPL : List (Nat × Nat) → List (Nat × Nat) → Bool
  | [], [] => true
  | a :: r, b :: l => Nat.beq a.1 b.1 && Nat.beq a.2 b.2 && eqPL r l
  | _, _ => false
theorem eqPL_ok : ∀ {a b : List (Nat × Nat)}, eqPL a b = true → a = b
  | [], [], _ => rfl
  | a :: r, b :: l, h => by
    have h : (Nat.beq a.1 b.1 && Nat.beq a.2 b.2 && eqPL r l) = true := h
    rw [Bool.and_eq_true, Bool.and_eq_true] at h
    rw [eqPL_ok h.2, Prod.ext (Nat.eq_of_beq_eq_true h.1.1) (Nat.eq_of_beq_eq_true h.1.2)]
  | [], _ :: _, h => by cases h
  | _ :: _, [], h => by cases h
def typB (P : Program) (t : Nat) : TK → Bool
  | .b => (match P.underlying t with | some .bool => true | _ => false)
  | .i k => (match P.underlying t with | some (.int k') => kq k' k | _ => false)
  | .s => (match P.underlying t with | some .string => true | _ => false)
  | .pt => (match P.underlying t with | some (.pointer _) => true | _ => false)
  | .sl e => (match P.underlying t with | some (.slice e') => Nat.beq e' e | _ => false)
  | .ar n e => (match P.underlying t with | some (.array n' e') => Nat.beq n' n && Nat.beq e' e | _ => false)
  | .st l => (match P.underlying t with | some (.struct fs) => eqPL (fs.toList.map (fun f => (f.type, f.offset))) l | _ => false)
  | .o => (match P.underlying t with | some d => !aggD d | none => false)
theorem typB_ok {P : Program} {t : Nat} {k : TK} (h : typB P t k = true) : k.ok P t := by
  cases k <;> simp only [typB] at h
  · split at h <;> first | assumption | cases h
  · split at h
    · rename_i e; rw [kq_eq h] at e; exact e
    · cases h
  · split at h <;> first | assumption | cases h
  · split at h
    · rename_i e he; exact ⟨e, he⟩
    · cases h
  · split at h
    · rename_i e he; rw [Nat.eq_of_beq_eq_true h] at he; exact he
    · cases h
  · split at h
    · rename_i n e he
      rw [Bool.and_eq_true] at h
      rw [Nat.eq_of_beq_eq_true h.1, Nat.eq_of_beq_eq_true h.2] at he; exact he
    · cases h
  · split at h
    · rename_i fs he; exact ⟨fs, he, eqPL_ok h⟩
    · cases h
  · split at h
    · rename_i d he; exact ⟨d, he, by simpa using h⟩
    · cases h
def chkT (P : Program) (D : List (Nat × TD)) (t : Nat) (d : TD) : Bool :=
  typB P t d.k && (match P.info? t with
    | some j => Nat.beq j.size d.n && Nat.beq j.bytes d.b && (match zsv D 9 t with
      | none => true
      | some z => (match j.zero with
        | some zv => valB zv (cv ν0 z) && valBL zv.cells.toList (cls ν0 z)
        | none => false))
    | none => false) && (!d.e || (!P.eqGuardType P.depth t && (match P.underlying t with
      | some (.struct fs) => !P.stoodInHeld t && fs.toList.all (fun f => f.name != "_")
      | _ => true)))
def chkTD (P : Program) (D : List (Nat × TD)) : List (Nat × TD) → Bool
  | [] => true
  | (t, d) :: r => chkT P D t d && chkTD P D r
theorem chkTD_mem {P : Program} {D : List (Nat × TD)} : ∀ {L : List (Nat × TD)}, chkTD P D L = true → ∀ t d, lookD L t = some d → chkT P D t d = true
  | (u, x) :: r, h, t, d, hl => by
    have h : (chkT P D u x && chkTD P D r) = true := h
    rw [Bool.and_eq_true] at h
    have hl : (bif Nat.beq u t then some x else lookD r t) = some d := hl
    cases hb : Nat.beq u t with
    | true => rw [hb] at hl; cases hl; rw [← Nat.eq_of_beq_eq_true hb]; exact h.1
    | false => rw [hb] at hl; exact chkTD_mem h.2 t d hl
theorem td_ok {P : Program} {D : List (Nat × TD)} (h : chkTD P D D = true) : TDok P D := by
  refine ⟨fun t d hl he => ?_, fun t d hl => ?_, fun t d hl => ?_⟩
  · have := chkTD_mem h t d hl
    simp only [chkT, Bool.and_eq_true] at this
    have h3 := this.2
    rw [he] at h3
    simp only [Bool.not_true, Bool.false_or, Bool.and_eq_true, Bool.not_eq_true'] at h3
    refine ⟨h3.1, fun fs hfs => ?_⟩
    have h4 := h3.2
    rw [hfs] at h4
    simp only [Bool.and_eq_true, Bool.not_eq_true', List.all_eq_true] at h4
    exact ⟨h4.1, fun f hf => by simpa using h4.2 f hf⟩
  · have := chkTD_mem h t d hl
    simp only [chkT, Bool.and_eq_true] at this
    exact typB_ok this.1.1
  · have := chkTD_mem h t d hl
    simp only [chkT, Bool.and_eq_true] at this
    have h2 := this.1.2
    split at h2
    · rename_i j hj
      simp only [Bool.and_eq_true] at h2
      refine ⟨j, hj, Nat.eq_of_beq_eq_true h2.1.1, Nat.eq_of_beq_eq_true h2.1.2, fun z hz => ?_⟩
      have h3 := h2.2
      rw [hz] at h3
      simp only [] at h3
      split at h3
      · rename_i zv hzv
        rw [Bool.and_eq_true] at h3
        exact ⟨zv, hzv, Array.toList_inj.1 (valBL_ok h3.2), valB_ok h3.1⟩
      · cases h3
    · cases h2
/-! ### Functions -/
def fnB (f : Func) : Bool := f.body.isSome && !(f.name == "runtime.NumGoroutine")
theorem fi_ok {P : Program} {g : Nat} {fn : Func} (hf : P.funcs[g]? = some fn) (hb : fnB fn = true) (A : An) (hk : okF (fi fn A) = true) : FiOk P g (fi fn A) := by
  rw [fnB, Bool.and_eq_true] at hb
  obtain ⟨c, hc⟩ := Option.isSome_iff_exists.1 hb.1
  refine ⟨⟨fn, hf, ?_, rfl, rfl⟩, callable.mk hf (by simpa using hb.2) (by rw [hc]; rfl), hk⟩
  show fn.body = some (bd fn)
  unfold bd
  rw [hc]
/-! ### Functions of the model's own -/
def u3 : List VS := [.v (.N .u64), .v (.N .u64), .v (.N .u64)]
def u2 : List VS := [.v (.N .u64), .v (.N .u64)]
def ext3 (F : Nat → Nat → Nat → Option (Nat × Nat)) : Tup (lvs u3) → Option (Tup (lvs u2)) := fun x => F x.1 x.2.1 x.2.2
theorem ext3_ok {P : Program} {g : Nat} {F : Nat → Nat → Nat → Option (Nat × Nat)} (hF : ∀ x y c r, x < 18446744073709551616 → y < 18446744073709551616 → F x y c = some r → r.1 < 18446744073709551616 ∧ r.2 < 18446744073709551616 ∧
    ∀ w, (callFunc g [.int .u64 ((x : Nat) : Int), .int .u64 ((y : Nat) : Int), .int .u64 ((c : Nat) : Int)].toArray).run P w = .ok (.value (.tuple #[.int .u64 ((r.1 : Nat) : Int), .int .u64 ((r.2 : Nat) : Int)])) w) :
    CtOk P g ⟨u3, u2, ext3 F⟩ := by
  intro args q H x r hx hr ν w0 X w ha M
  match args, hx with
  | [], hx => cases hx
  | [_], hx =>
    obtain ⟨p, y, _, hy, _⟩ := extA_some hx
    cases hy
  | [_, _], hx =>
    obtain ⟨p, y, _, hy, _⟩ := extA_some hx
    obtain ⟨p2, y2, _, hy2, _⟩ := extA_some hy
    cases hy2
  | a :: b :: c :: d :: l, hx =>
    obtain ⟨p, y, _, hy, _⟩ := extA_some hx
    obtain ⟨p2, y2, _, hy2, _⟩ := extA_some hy
    obtain ⟨p3, y3, _, hy3, _⟩ := extA_some hy2
    cases hy3
  | [a, b, c], hx =>
    obtain ⟨p, y, h1, hy, e1⟩ := extA_some hx
    obtain ⟨p2, y2, h2, hy2, e2⟩ := extA_some hy
    obtain ⟨p3, y3, h3, hy3, e3⟩ := extA_some hy2
    have num : ∀ (v : SV) (n : Nat), extV H (.v (.N .u64)) v .ud = some n → ∃ b, v = .N .u64 ⟨b, n⟩ := by
      intro v n h
      replace h : xN .u64 v = some n := h
      cases v <;> (try (cases h; done))
      rename_i k m
      replace h : (bif kq .u64 k then some m.x else none) = some n := h
      cases hb : kq .u64 k with
      | false => rw [hb] at h; cases h
      | true => rw [hb] at h; cases h; rw [← kq_eq hb]; exact ⟨m.l, rfl⟩
    obtain ⟨n1, hn1⟩ : ∃ n : Nat, n = p := ⟨p, rfl⟩
    obtain ⟨n2, hn2⟩ : ∃ n : Nat, n = p2 := ⟨p2, rfl⟩
    obtain ⟨n3, hn3⟩ : ∃ n : Nat, n = p3 := ⟨p3, rfl⟩
    subst hn1 hn2 hn3
    obtain ⟨b1, rfl⟩ := num a n1 h1
    obtain ⟨b2, rfl⟩ := num b n2 h2
    obtain ⟨b3, rfl⟩ := num c n3 h3
    have g1 : n1 < 18446744073709551616 := ha (.N .u64 ⟨b1, n1⟩) (by simp)
    have g2 : n2 < 18446744073709551616 := ha (.N .u64 ⟨b2, n2⟩) (by simp)
    have hxx : x = (n1, n2, n3) := by
      rw [e1, e2, e3]; rfl
    subst hxx
    have hr' : F n1 n2 n3 = some r := hr
    obtain ⟨k1, k2, k3⟩ := hF n1 n2 n3 r g1 g2 hr'
    refine .inr ⟨_, w, k3 w, ν, Agr.refl _ _, rfl, ⟨k1, k2, trivial⟩, M.mono (by omega)⟩
end Go.Proofs.Ytnagkhofkjjajaa
