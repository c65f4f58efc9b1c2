/- append of a made row of noughts; slices from a lower bound; an array's cell: lemmas for walks. -/
import Derived.Test.YtnagkhofkjjajaaKg
import Derived.Lib.AppendZeros
set_option linter.unusedVariables false
set_option linter.unusedSimpArgs false
namespace Go.Proofs.Ytnagkhofkjjajaa
open Go.RowKit
section
variable {P : Program} {TI : List (Nat × T1)} {ops : Array Oper} {Q : Exit → Act → World → Prop} {o : Oper} {n : Nat} {F : List (Nat × Value)} {KK : Act → World → Prop} {a : Act} {w : World}
theorem zeroCells_one (z : Value) (n : Nat) : (Builtin.zeroCells #[z] n).toList = List.replicate n z := by
  apply List.ext_getElem
  · simp [Builtin.zeroCells]
  · intro i h1 h2
    simp [Builtin.zeroCells, Nat.mod_one]
theorem run_append_room_zeros (t tn ty e : TypeId) (i : TypeInfo) (z : Value) (kn : IntKind) (ht : P.underlying t = some (.slice e)) (htn : P.underlying tn = some (.int kn)) (hi : P.info? e = some i) (hz : i.zero = some z) (hzc : z.cells = #[z]) (hs1 : i.size = 1) (hz1 : z.oneCell' = true)
    (g sLen sCap : Nat) (cur : Array Value) (hg : RowAt w g cur e) (m : Nat) (h0 : 0 < m) (h63 : (m : Int) ≤ 9223372036854775807) (h48 : m * i.bytes ≤ 281474976710656)
    (hroom : sLen + m ≤ sCap) (hfit : sLen + m ≤ cur.size) :
    (Builtin.append_ #[t, tn] ty #[.slice (some ⟨g, 0, none⟩) sLen sCap, .int .i64 m]).run P w =
      .ok (.slice (some ⟨g, 0, none⟩) (sLen + m) sCap) (w.setRow g (cur.toList.take sLen ++ List.replicate m z ++ cur.toList.drop (sLen + m)).toArray) := by
  have hn : m ≠ 0 := by omega
  have hw : IntKind.i64.wrap (m : Int) = m := by rw [IntKind.wrap_i64]; omega
  have h48i : ¬ (281474976710656 < (m : Int) * (i.bytes : Int)) := by rw [← Int.natCast_mul]; omega
  have hneg : ¬ ((m : Int) < 0) := by omega
  have hzl : (Builtin.zeroCells z.cells m).toList = List.replicate m z := by rw [hzc]; exact zeroCells_one z m
  have hst := store_at (P := P) g sLen e (List.replicate m z) 0 cur w hg (by simpa using hfit) (fun u hu => by rw [(List.mem_replicate.1 hu).2]; exact hz1)
  simp only [Nat.add_zero, List.length_replicate] at hst
  simp [Builtin.append_, run_underlying ht, run_underlying htn, sizeOf, typeInfo, zeroValue, hi, hz, asInt, asIntOf, hw, hn, hneg, h48i, hroom, hs1, hzl, Addr.add_lit, hst]
theorem run_append_grow_zeros (t tn ty e : TypeId) (i : TypeInfo) (z : Value) (kn : IntKind) (ht : P.underlying t = some (.slice e)) (htn : P.underlying tn = some (.int kn)) (hi : P.info? e = some i) (hz : i.zero = some z) (hzc : z.cells = #[z]) (hs1 : i.size = 1)
    (b : Addr) (sLen sCap : Nat) (olds : List Value) (hlo : olds.length = sLen) (holds : ∀ j v, olds[j]? = some v → w.cell? (b.add j) = some v) (m : Nat) (h0 : 0 < m) (h48 : m * i.bytes ≤ 281474976710656)
    (hg : sCap < sLen + m) (h63 : ((sLen + m : Nat) : Int) ≤ 9223372036854775807) (hfit : Builtin.nextslicecap (sLen + m) sCap * i.bytes ≤ 281474976710656) :
    (Builtin.append_ #[t, tn] ty #[.slice (some b) sLen sCap, .int .i64 m]).run P w =
      .ok (.slice (some ⟨w.heap.size, 0, none⟩) (sLen + m) (grownCap w (sLen + m) sCap e))
        (w.drew.alloc (.cells (olds.toArray ++ (List.replicate m z).toArray ++ Builtin.zeroCells z.cells (grownCap w (sLen + m) sCap e - (sLen + m))) e)) := by
  have hn : m ≠ 0 := by omega
  have hnr : ¬ (sLen + m ≤ sCap) := by omega
  have hw : IntKind.i64.wrap (m : Int) = m := by rw [IntKind.wrap_i64]; omega
  have h48i : ¬ (281474976710656 < (m : Int) * (i.bytes : Int)) := by rw [← Int.natCast_mul]; omega
  have hneg : ¬ ((m : Int) < 0) := by omega
  have h63' : ¬ (9223372036854775807 < ((sLen : Int) + (m : Int))) := by omega
  have h48' : ¬ (281474976710656 < Builtin.nextslicecap (sLen + m) sCap * i.bytes) := by omega
  have hfo := run_firstCells_some (P := P) w.drew i.size sLen b sLen sCap olds (by rw [hlo, hs1, Nat.mul_one]) (by simpa using holds)
  rw [hs1] at hfo
  have hzl : Builtin.zeroCells z.cells m = (List.replicate m z).toArray := by apply Array.ext'; rw [hzc]; exact zeroCells_one z m
  simp [Builtin.append_, run_underlying ht, run_underlying htn, sizeOf, typeInfo, zeroValue, hi, hz, asInt, asIntOf, hw, hn, hneg, h48i, hnr, h63', h48', Question.forced, hfo, hs1, hzl, newRow, grownCap]
theorem run_app_zeros {P : Program} {w : World} (B : Nat) (t tn ty e : TypeId) (i : T1) (j : TypeInfo) (kn : IntKind) (ht : P.underlying t = some (.slice e)) (htn : P.underlying tn = some (.int kn)) (hj : P.info? e = some j) (hz : j.zero = some i.z) (hs : j.size = i.n) (hby : j.bytes = i.b)
    (hzc : i.z.cells = #[i.z]) (hs1 : i.n = 1) (hz1 : i.z.oneCell' = true) (hib : 0 < i.b) {A : Option Addr} {m c m2 : Nat} {l : List Value} (hO : Own w B e i.n A m c l) (h0 : 0 < m2)
    (hbytes : (m + m2) * i.b ≤ 140737488355328) (hB : B ≤ w.heap.size) :
    ∃ A' c' w', (Builtin.append_ #[t, tn] ty #[.slice A m c, .int .i64 (m2 : Int)]).run P w = .ok (.slice A' (m + m2) c') w' ∧ Own w' B e i.n A' (m + m2) c' (l ++ List.replicate m2 i.z) ∧ w.grownBy w' (oblk A) ∧ (oblk A' = oblk A ∨ ∃ k, oblk A' = some k ∧ w.heap.size ≤ k) := by
  have hlt : m + m2 ≤ 140737488355328 := Nat.le_trans (Nat.le_mul_of_pos_right _ hib) hbytes
  have hm2b : m2 * i.b ≤ 140737488355328 := Nat.le_trans (Nat.mul_le_mul_right _ (by omega)) hbytes
  have h63 : m + m2 ≤ maxLen := by simp only [maxLen]; omega
  have hl1 : l.length = m := by have := hO.1; rw [hs1, Nat.mul_one] at this; exact this
  have hlen : (l ++ List.replicate m2 i.z).length = (m + m2) * i.n := by rw [List.length_append, List.length_replicate, hl1, hs1, Nat.mul_one]
  have grown : ∀ (old : Nat), old < m + m2 → ∀ (row : Option Nat),
      Own (w.drew.alloc (.cells (l.toArray ++ (List.replicate m2 i.z).toArray ++ Builtin.zeroCells i.z.cells (grownCap w (m + m2) old e - (m + m2))) e)) B e i.n (some ⟨w.heap.size, 0, none⟩) (m + m2) (grownCap w (m + m2) old e) (l ++ List.replicate m2 i.z) ∧
      w.grownBy (w.drew.alloc (.cells (l.toArray ++ (List.replicate m2 i.z).toArray ++ Builtin.zeroCells i.z.cells (grownCap w (m + m2) old e - (m + m2))) e)) row := by
    intro old ho row
    have hge := grownCap_ge w (m + m2) old e
    have hcm : grownCap w (m + m2) old e ≤ maxLen := grownCap_le_maxLen w (m + m2) old e h63
    refine ⟨⟨hlen, .inr ⟨w.heap.size, _, _, rfl, hB, .of (heap_alloc_new w.drew _), hge, hcm, ?_, ?_⟩⟩, ⟨rfl, rfl, rfl, by simp, fun k hk _ => heap_alloc_old w.drew _ hk⟩⟩
    · simp only [Array.size_append, List.size_toArray, size_zeroCells, hzc, hl1, List.length_replicate, hs1, List.size_toArray, List.length_singleton]
      simp
      omega
    · simp only [Array.toList_append, List.append_assoc]
      rw [← List.append_assoc, ← hlen]
      exact List.take_left
  rcases hO.2 with ⟨q, q2⟩ | ⟨g, cap, cur, q, hbg, hg, hnc, hcm, hcs, htake⟩
  · injection q with a1 a2 a3
    subst a1 a2 a3
    have hx : l = [] := List.eq_nil_of_length_eq_zero hl1
    subst hx
    have hr := Go.Lib.run_append_nil_zeros (P := P) w t tn ty e j i.z .i64 kn ht htn hj hz m2 h0 (by omega) (by omega) (by rw [hby]; omega)
    have hgr := grown 0 (by omega) (oblk none)
    have hzl : Builtin.zeroCells i.z.cells m2 = (List.replicate m2 i.z).toArray := by apply Array.ext'; rw [hzc]; exact zeroCells_one i.z m2
    simp only [Nat.zero_add, List.nil_append, Array.empty_append] at hgr ⊢
    rw [hzl] at hr
    exact ⟨_, _, _, hr, hgr.1, hgr.2, .inr ⟨_, rfl, Nat.le_refl _⟩⟩
  · injection q with a1 a2 a3
    subst a1 a3
    rw [hs1] at hcs htake
    by_cases hroom : m + m2 ≤ c
    · have hr := run_append_room_zeros (P := P) (w := w) t tn ty e j i.z kn ht htn hj hz hzc (by omega) hz1 g m c cur hg m2 h0 (by omega) (by rw [hby]; omega) hroom (by omega)
      rw [Nat.mul_one] at htake
      refine ⟨_, _, _, hr, ⟨hlen, .inr ⟨g, c, _, rfl, hbg, hg.setRow (by simp only [List.size_toArray, List.length_append, List.length_take, List.length_drop, Array.length_toList, List.length_replicate]; omega), hroom, hcm, ?_, ?_⟩⟩, ⟨rfl, rfl, rfl, by simp, fun k _ hk => setRow_other w g k _ (fun e => hk (by simp [oblk, e]))⟩, .inl rfl⟩
      · simp only [List.size_toArray, List.length_append, List.length_take, List.length_drop, Array.length_toList, List.length_replicate, hs1]
        omega
      · rw [htake, ← hlen]
        exact List.take_left
    · have holds : ∀ j u, l[j]? = some u → w.cell? ((⟨g, 0, none⟩ : Addr).add j) = some u := fun k u hu => by rw [add_flat]; exact hO.rd.cells k u hu
      have hr := run_append_grow_zeros (P := P) (w := w) t tn ty e j i.z kn ht htn hj hz hzc (by omega) ⟨g, 0, none⟩ m c l hl1 holds m2 h0 (by rw [hby]; omega) (by omega) (by omega) (growslice_fits (by omega) (by rw [hby]; exact hbytes))
      have hgr := grown c (by omega) (oblk (some ⟨g, 0, none⟩))
      exact ⟨_, _, _, hr, hgr.1, hgr.2, .inr ⟨_, rfl, Nat.le_refl _⟩⟩
/-- append(v, make([]T, m2)...) -/
def oAppZ (TI : List (Nat × T1)) (n : Nat) (F : List (Nat × Value)) (o : Oper) : Option (Nat × Nat × T1 × Value × Nat) :=
  match dstOf n o, o.op with
  | some d, .call ⟨.builtin .append, ⟨[s, x]⟩, ⟨[t, t']⟩⟩ => match lookT TI t, lookT TI t', opnd F s, opnd F x with
    | some ⟨.slice e, _, _, _⟩, some ⟨.int _, _, _, _⟩, some v, some (.int .i64 (.ofNat m)) => match lookT TI e with
      | some i => some (d, e, i, v, m)
      | none => none
    | _, _, _, _ => none
  | _, _ => none
theorem s_appZ (hT : TIok P TI) {d T m c m2 B : Nat} {i : T1} {A : Option Addr} {l : List Value} (h : oAppZ TI n F o = some (d, T, i, .slice A m c, m2)) (hF : Fr n a F) (hzc : i.z.cells = #[i.z]) (hs1 : i.n = 1) (hz1 : i.z.oneCell' = true) (hib : 0 < i.b)
    (hO : Own w B T i.n A m c l) (h0 : 0 < m2) (hbytes : (m + m2) * i.b ≤ 140737488355328) (hB : B ≤ w.heap.size)
    (K : ∀ a' w' A' c', Own w' B T i.n A' (m + m2) c' (l ++ List.replicate m2 i.z) → w.grownBy w' (oblk A) → (oblk A' = oblk A ∨ ∃ k, oblk A' = some k ∧ w.heap.size ≤ k) → a' = a.put (some d) (.slice A' (m + m2) c') → Fr n a' ((d, .slice A' (m + m2) c') :: F) → KK a' w') : One P ops Q o KK a w := by
  unfold oAppZ at h
  split at h
  · rename_i e s x t t' hd hop
    split at h
    · rename_i el _ _ _ kn _ _ _ v m3 ht ht' hs hx
      split at h
      · rename_i i' hi
        simp only [Option.some.injEq, Prod.mk.injEq] at h
        obtain ⟨rfl, rfl, rfl, rfl, rfl⟩ := h
        obtain ⟨j, hj, hz, hsz', hby⟩ := hT.row hi
        obtain ⟨A', c', w', hr, h2, h3, h4⟩ := run_app_zeros (P := P) B t t' o.type el i' j kn (hT.ty _ _ ht) (hT.ty _ _ ht') hj hz hsz' hby hzc hs1 hz1 hib hO h0 hbytes hB
        refine s_val hd hF (w' := w') ?_ (fun a' ha' hF' => K a' _ _ _ h2 h3 h4 ha' hF')
        simp [execOp, hop, resolve, invoke, builtin, hF.eval hs, hF.eval hx, hr]
      · cases h
    · cases h
  · cases h
/-- What a cut's address is good for, of one row. -/
structure CutL (A A' : Option Addr) (l : List Value) (lo sz : Nat) : Prop where
  rd : ∀ (W : World), Rd W A l → Rd W A' (l.drop (lo * sz))
  blk : oblk A' = oblk A
theorem CutL.mk' (A : Option Addr) (c lo sz : Nat) (l : List Value) (hA : l.length ≤ c * sz) : CutL A (if c = lo then A else A.map (·.add (lo * sz))) l lo sz := by
  refine ⟨fun W hR => ?_, ?_⟩
  · by_cases hn : l.drop (lo * sz) = []
    · rw [hn]; exact Rd.nil _ _
    · have hne : l ≠ [] := fun q => hn (by rw [q]; simp)
      have hAs := hR.some_ hne
      by_cases hc : c = lo
      · subst hc
        exact absurd (List.drop_eq_nil_of_le hA) hn
      · rw [if_neg hc]
        have hcl := hR.cells.drop (lo * sz)
        rw [hAs]
        simp only [Option.map_some, add_flat]
        exact hcl.rd
  · split
    · rfl
    · cases A <;> simp [oblk, Addr.add]; split <;> rfl
theorem s_sliceL (hT : TIok P TI) {d m c sz lo hi : Nat} {A : Option Addr} (l : List Value) (h : oSlice TI n F o = some (d, A, m, c, sz, lo, hi)) (hF : Fr n a F) (h1 : lo ≤ hi) (h2 : hi ≤ c) (h3 : m ≤ c) (hA : l.length ≤ c * sz)
    (K : ∀ a' A', CutL A A' l lo sz → a' = a.put (some d) (.slice A' (hi - lo) (c - lo)) → Fr n a' ((d, .slice A' (hi - lo) (c - lo)) :: F) → KK a' w) : One P ops Q o KK a w := by
  unfold oSlice at h
  split at h
  · rename_i e t x l0 h' hd hop
    split at h
    · rename_i el _ _ _ A' m' c' ht hx
      split at h
      · rename_i i l' hi' hi2 hl' hh'
        simp only [Option.some.injEq, Prod.mk.injEq] at h
        obtain ⟨rfl, rfl, rfl, rfl, rfl, rfl, rfl⟩ := h
        refine s_val hd hF ?_ (fun a' ha' hF' => K a' _ (CutL.mk' A' c' l' i.n l hA) ha' hF')
        simp only [execOp, hop, hF.eval hx, Option.map_none, Sem.run_bind, Instr.sliceAt, run_underlying (hT.ty _ _ ht), Result.andThen_ok, Instr.slice]
        rw [run_bounds hF hl' hh' h1 h2 (fun _ => h3)]
        simp [hT.run_sizeOf hi2]
      · cases h
    · cases h
  · cases h
/-- an array's cell, the array a value -/
def oArrIdx (TI : List (Nat × T1)) (n : Nat) (F : List (Nat × Value)) (o : Oper) : Option (Nat × Nat × IntKind × Array Value × Int) :=
  match dstOf n o, o.op with
  | some d, .index t x i => match lookT TI t, opnd F x, opnd F i with
    | some ⟨.array m e, _, _, _⟩, some (.agg cs), some (.int .i64 j) => match lookT TI e with
      | some ⟨.int k, 1, _, _⟩ => some (d, m, k, cs, j)
      | _ => none
    | _, _, _ => none
  | _, _ => none
theorem s_arrIdx (hT : TIok P TI) {d j m : Nat} {k : IntKind} {xs : List Nat} (h : oArrIdx TI n F o = some (d, m, k, (vs k xs).toArray, (j : Int))) (hF : Fr n a F) (hj : j < m) (hl : xs.length = m)
    (K : ∀ a', a' = a.put (some d) (.int k ((xs.getD j 0 : Nat) : Int)) → Fr n a' ((d, .int k ((xs.getD j 0 : Nat) : Int)) :: F) → KK a' w) : One P ops Q o KK a w := by
  unfold oArrIdx at h
  split at h
  · rename_i d' t x i hd hop
    split at h
    · rename_i m' el _ _ _ cs j' ht hx hi
      split at h
      · rename_i k' b' z' hel
        simp only [Option.some.injEq, Prod.mk.injEq] at h
        obtain ⟨rfl, rfl, rfl, rfl, rfl⟩ := h
        refine s_val hd hF ?_ K
        have hg := vs_get k' xs (i := j) (by omega)
        simp only [execOp, hop, hF.eval hx, hF.eval hi, Instr.index, asIntOf, Sem.run_bind, Sem.run_pure, run_underlying (hT.ty _ _ ht), Result.andThen_ok]
        rw [if_pos ⟨by omega, by omega⟩]
        simp [hT.run_sizeOf hel, part, run_isAgg (hT.ty _ _ hel), aggD, hg]
      · cases h
    · cases h
  · cases h
/-- any number as a word of 64 bits -/
def oConv64 (TI : List (Nat × T1)) (n : Nat) (F : List (Nat × Value)) (o : Oper) : Option (Nat × Int) :=
  match dstOf n o, o.op with
  | some d, .convert src dst x => match lookT TI src, lookT TI dst, opnd F x with
    | some ⟨.int _, _, _, _⟩, some ⟨.int .u64, _, _, _⟩, some (.int _ z) => some (d, z)
    | _, _, _ => none
  | _, _ => none
theorem s_conv64 (hT : TIok P TI) {d : Nat} {x : Int} {y : Nat} (h : oConv64 TI n F o = some (d, x)) (hF : Fr n a F) (hy : x % 18446744073709551616 = (y : Int))
    (K : ∀ a', a' = a.put (some d) (.int .u64 (y : Int)) → Fr n a' ((d, .int .u64 (y : Int)) :: F) → KK a' w) : One P ops Q o KK a w := by
  unfold oConv64 at h
  split at h
  · rename_i d' src dst z hd hop
    split at h
    · rename_i _ _ _ _ _ _ _ _ z' hs hdt hx
      simp only [Option.some.injEq, Prod.mk.injEq] at h
      obtain ⟨rfl, rfl⟩ := h
      refine s_val hd hF ?_ K
      have e : IntKind.u64.wrap z' = (y : Int) := by
        rw [← hy]
        simp [IntKind.wrap, IntKind.signed, IntKind.bits]
      simp [execOp, hop, hF.eval hx, convert, run_underlying (hT.ty _ _ hs), run_underlying (hT.ty _ _ hdt), Conv.intToInt, e]
    · cases h
  · cases h
end
end Go.Proofs.Ytnagkhofkjjajaa
