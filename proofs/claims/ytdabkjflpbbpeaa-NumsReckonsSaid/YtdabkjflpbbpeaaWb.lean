/- Walks of functions of the program: lemmas. -/
import Derived.Test.YtdabkjflpbbpeaaWa
set_option maxRecDepth 100000
set_option linter.unusedVariables false
set_option linter.unusedSimpArgs false
namespace Go.Proofs.Ytdabkjflpbbpeaa
open Go.Proofs Go.RowKit

theorem nums_Norm (A : Option Addr) (n c : Nat) (xs : List Nat) (w : World) (hn : xs.length = n) (hR : Rd w A (vs .u8 xs)) (hbx : By xs) (hl : n ≤ 1048576) :
    Calls Try.prog 19 [.slice A n c].toArray w (Ret fun v w' => ∃ A' c', v = .slice A' (dig 256 (nv 256 xs)).length c' ∧ Ex w w' ∧ Own w' w.heap.size 5 1 A' (dig 256 (nv 256 xs)).length c' (vs .u8 (dig 256 (nv 256 xs)))) := by
  have hX := dig_lt (b := 18446744073709551616) (by decide) (nv 256 xs)
  have hXl := read_len hbx hn hl
  refine enter Try.func19 rfl (n := 6) Try.ntmps19 (by simp) ?_
  intro a hF
  have HE : Ex w w := Ex.refl w
  refine wp_seq_k (fun K1 hK2 => ?_)
  refine wp_region_lit ?_
  refine pures_end hT 1 _ hF (F' := [(2, .slice none 0 0), (0, .slice A n c)]) (cs := []) (by kernel_rfl) rfl trivial ?_
  intro a3 hF4; clear hF a
  refine hK2 _ _ ?_
  refine wp_seq_k (fun K5 hK6 => ?_)
  refine wp_region_lit ?_
  refine pures hT 1 _ hF4 (F' := [(3, .slice A n c), (2, .slice none 0 0), (0, .slice A n c)]) (cs := []) (by kernel_rfl) trivial ?_
  intro a7 hF8; clear hF4 a3
  have hz15 := HE.size
  refine wl (s_call (d := 4) (f := 37) (l := [.slice A n c]) (by kernel_rfl) hF8 cl37 (nums_read A n c xs _ (by first | assumption | omega | simp | decide) hR (by first | assumption | omega | simp | decide) (by first | assumption | omega | simp | decide)) ?_)
  rintro a16 w12 v13 ⟨A9, c10, rfl, HX14, HO11⟩ ha18 hF17; clear ha18 hF8 a7
  replace HE := HE.thenN HX14.g
  have hcp19 := HO11.cap
  have hz26 := HE.size
  have hz27 := HO11.base
  refine wl (s_call (d := 5) (f := 41) (l := [.slice A9 ((dig 18446744073709551616 (nv 256 xs)).length) c10]) (by kernel_rfl) hF17 cl41 (nums_bytes A9 ((dig 18446744073709551616 (nv 256 xs)).length) c10 (dig 18446744073709551616 (nv 256 xs)) _ (by first | assumption | omega | simp | decide) HO11.rd (by first | assumption | omega | simp | decide) (by first | assumption | omega | simp | decide) (by first | assumption | omega | simp | decide)) ?_)
  rintro a28 w23 v24 ⟨A20, c21, rfl, HX25, HO22⟩ ha30 hF29; clear ha30 hF17 a16
  replace HE := HE.thenN HX25.g
  replace HO11 := HO11.growN HX25.g
  have hcp31 := HO22.cap
  refine pures_end hT 1 _ hF29 (F' := [(2, .slice A20 ((dig 256 (nv 18446744073709551616 (dig 18446744073709551616 (nv 256 xs)))).length) c21), (5, .slice A20 ((dig 256 (nv 18446744073709551616 (dig 18446744073709551616 (nv 256 xs)))).length) c21), (4, .slice A9 ((dig 18446744073709551616 (nv 256 xs)).length) c10), (3, .slice A n c), (2, .slice none 0 0), (0, .slice A n c)]) (cs := []) (by kernel_rfl) rfl trivial ?_
  intro a32 hF33; clear hF29 a28
  have hF34 := hF33.pick [2, 0] (G := [(2, .slice A20 ((dig 256 (nv 18446744073709551616 (dig 18446744073709551616 (nv 256 xs)))).length) c21), (0, .slice A n c)]) (by kernel_rfl); clear hF33
  refine hK6 _ _ ?_
  refine wp_ret ?_
  refine ret1 hF34 rfl (v := .slice A20 ((dig 256 (nv 18446744073709551616 (dig 18446744073709551616 (nv 256 xs)))).length) c21) (by kernel_rfl) ?_
  have hO := HO22
  rw [nv_dig (by decide)] at hO ⊢
  exact ⟨A20, c21, rfl, HE, hO.rebase (by omega)⟩

theorem nums_Cmp (A : Option Addr) (n c : Nat) (xs : List Nat) (A2 : Option Addr) (n2 c2 : Nat) (ys : List Nat) (w : World) (hn : xs.length = n) (hn2 : ys.length = n2) (hR : Rd w A (vs .u8 xs)) (hR2 : Rd w A2 (vs .u8 ys)) (hbx : By xs) (hby : By ys) (hl : n ≤ 1048576) (hl2 : n2 ≤ 1048576) :
    Calls Try.prog 16 [.slice A n c, .slice A2 n2 c2].toArray w (Ret fun v w' => v = .int .i64 (cmpI (nv 256 xs) (nv 256 ys)) ∧ Ex w w') := by
  have hX := dig_lt (b := 18446744073709551616) (by decide) (nv 256 xs)
  have hY := dig_lt (b := 18446744073709551616) (by decide) (nv 256 ys)
  have hXl := read_len hbx hn hl
  have hYl := read_len hby hn2 hl2
  refine enter Try.func16 rfl (n := 10) Try.ntmps16 (by simp) ?_
  intro a hF
  have HE : Ex w w := Ex.refl w
  refine wp_seq_k (fun K1 hK2 => ?_)
  refine wp_region_lit ?_
  refine pures_end hT 1 _ hF (F' := [(4, .int .i64 0), (0, .slice A n c), (1, .slice A2 n2 c2)]) (cs := []) (by kernel_rfl) rfl trivial ?_
  intro a3 hF4; clear hF a
  refine hK2 _ _ ?_
  refine wp_seq_k (fun K5 hK6 => ?_)
  refine wp_region_lit ?_
  refine pures hT 1 _ hF4 (F' := [(5, .slice A n c), (4, .int .i64 0), (0, .slice A n c), (1, .slice A2 n2 c2)]) (cs := []) (by kernel_rfl) trivial ?_
  intro a7 hF8; clear hF4 a3
  have hz15 := HE.size
  refine wl (s_call (d := 6) (f := 37) (l := [.slice A n c]) (by kernel_rfl) hF8 cl37 (nums_read A n c xs _ (by first | assumption | omega | simp | decide) hR (by first | assumption | omega | simp | decide) (by first | assumption | omega | simp | decide)) ?_)
  rintro a16 w12 v13 ⟨A9, c10, rfl, HX14, HO11⟩ ha18 hF17; clear ha18 hF8 a7
  replace HE := HE.thenN HX14.g
  have hcp19 := HO11.cap
  refine pures hT 1 _ hF17 (F' := [(7, .slice A2 n2 c2), (6, .slice A9 ((dig 18446744073709551616 (nv 256 xs)).length) c10), (5, .slice A n c), (4, .int .i64 0), (0, .slice A n c), (1, .slice A2 n2 c2)]) (cs := []) (by kernel_rfl) trivial ?_
  intro a20 hF21; clear hF17 a16
  have hz28 := HE.size
  have hz29 := HO11.base
  refine wl (s_call (d := 8) (f := 37) (l := [.slice A2 n2 c2]) (by kernel_rfl) hF21 cl37 (nums_read A2 n2 c2 ys _ (by first | assumption | omega | simp | decide) (hR2.ex HE) (by first | assumption | omega | simp | decide) (by first | assumption | omega | simp | decide)) ?_)
  rintro a30 w25 v26 ⟨A22, c23, rfl, HX27, HO24⟩ ha32 hF31; clear ha32 hF21 a20
  replace HE := HE.thenN HX27.g
  replace HO11 := HO11.growN HX27.g
  have hcp33 := HO24.cap
  have hz37 := HE.size
  have hz38 := HO11.base
  have hz39 := HO24.base
  refine wl (s_call (d := 9) (f := 39) (l := [.slice A9 ((dig 18446744073709551616 (nv 256 xs)).length) c10, .slice A22 ((dig 18446744073709551616 (nv 256 ys)).length) c23]) (by kernel_rfl) hF31 cl39 (nums_compare A9 ((dig 18446744073709551616 (nv 256 xs)).length) c10 (dig 18446744073709551616 (nv 256 xs)) A22 ((dig 18446744073709551616 (nv 256 ys)).length) c23 (dig 18446744073709551616 (nv 256 ys)) _ (by first | assumption | omega | simp | decide) (by first | assumption | omega | simp | decide) HO11.rd HO24.rd (by first | assumption | omega | simp | decide) (by first | assumption | omega | simp | decide) (by first | assumption | omega | simp | decide) (by first | assumption | omega | simp | decide)) ?_)
  rintro a40 w34 v35 ⟨rfl, HX36⟩ ha42 hF41; clear ha42 hF31 a30
  replace HE := HE.thenN HX36.g
  replace HO11 := HO11.growN HX36.g
  replace HO24 := HO24.growN HX36.g
  refine pures_end hT 1 _ hF41 (F' := [(4, .int .i64 (cmpI (nv 18446744073709551616 (dig 18446744073709551616 (nv 256 xs))) (nv 18446744073709551616 (dig 18446744073709551616 (nv 256 ys))))), (9, .int .i64 (cmpI (nv 18446744073709551616 (dig 18446744073709551616 (nv 256 xs))) (nv 18446744073709551616 (dig 18446744073709551616 (nv 256 ys))))), (8, .slice A22 ((dig 18446744073709551616 (nv 256 ys)).length) c23), (7, .slice A2 n2 c2), (6, .slice A9 ((dig 18446744073709551616 (nv 256 xs)).length) c10), (5, .slice A n c), (4, .int .i64 0), (0, .slice A n c), (1, .slice A2 n2 c2)]) (cs := []) (by kernel_rfl) rfl trivial ?_
  intro a43 hF44; clear hF41 a40
  have hF45 := hF44.pick [4, 0, 1] (G := [(4, .int .i64 (cmpI (nv 18446744073709551616 (dig 18446744073709551616 (nv 256 xs))) (nv 18446744073709551616 (dig 18446744073709551616 (nv 256 ys))))), (0, .slice A n c), (1, .slice A2 n2 c2)]) (by kernel_rfl); clear hF44
  refine hK6 _ _ ?_
  refine wp_ret ?_
  refine ret1 hF45 rfl (v := .int .i64 (cmpI (nv 18446744073709551616 (dig 18446744073709551616 (nv 256 xs))) (nv 18446744073709551616 (dig 18446744073709551616 (nv 256 ys))))) (by kernel_rfl) ?_
  exact ⟨by rw [nv_dig (by decide), nv_dig (by decide)], HE⟩

theorem nums_Add (A : Option Addr) (n c : Nat) (xs : List Nat) (A2 : Option Addr) (n2 c2 : Nat) (ys : List Nat) (w : World) (hn : xs.length = n) (hn2 : ys.length = n2) (hR : Rd w A (vs .u8 xs)) (hR2 : Rd w A2 (vs .u8 ys)) (hbx : By xs) (hby : By ys) (hl : n ≤ 1048576) (hl2 : n2 ≤ 1048576) :
    Calls Try.prog 17 [.slice A n c, .slice A2 n2 c2].toArray w (Ret fun v w' => ∃ A' c', v = .slice A' (dig 256 ((nv 256 xs) + (nv 256 ys))).length c' ∧ Ex w w' ∧ Own w' w.heap.size 5 1 A' (dig 256 ((nv 256 xs) + (nv 256 ys))).length c' (vs .u8 (dig 256 ((nv 256 xs) + (nv 256 ys))))) := by
  have hX := dig_lt (b := 18446744073709551616) (by decide) (nv 256 xs)
  have hY := dig_lt (b := 18446744073709551616) (by decide) (nv 256 ys)
  have hXl := read_len hbx hn hl
  have hYl := read_len hby hn2 hl2
  have hmx : Nat.max ((dig 18446744073709551616 (nv 256 xs))).length ((dig 18446744073709551616 (nv 256 ys))).length ≤ 1048576 := Nat.max_le.2 ⟨hXl, hYl⟩
  have hmx2 := max_ge (Nat.le_refl (Nat.max ((dig 18446744073709551616 (nv 256 xs))).length ((dig 18446744073709551616 (nv 256 ys))).length))
  refine enter Try.func17 rfl (n := 43) Try.ntmps17 (by simp) ?_
  intro a hF
  have HE : Ex w w := Ex.refl w
  refine wp_seq_k (fun K1 hK2 => ?_)
  refine wp_region_lit ?_
  refine pures_end hT 1 _ hF (F' := [(4, .slice none 0 0), (0, .slice A n c), (1, .slice A2 n2 c2)]) (cs := []) (by kernel_rfl) rfl trivial ?_
  intro a3 hF4; clear hF a
  refine hK2 _ _ ?_
  refine wp_seq_k (fun K5 hK6 => ?_)
  refine wp_region_lit ?_
  refine pures hT 1 _ hF4 (F' := [(10, .slice A n c), (4, .slice none 0 0), (0, .slice A n c), (1, .slice A2 n2 c2)]) (cs := []) (by kernel_rfl) trivial ?_
  intro a7 hF8; clear hF4 a3
  have hz15 := HE.size
  refine wl (s_call (d := 11) (f := 37) (l := [.slice A n c]) (by kernel_rfl) hF8 cl37 (nums_read A n c xs _ (by first | assumption | omega | simp | decide) hR (by first | assumption | omega | simp | decide) (by first | assumption | omega | simp | decide)) ?_)
  rintro a16 w12 v13 ⟨A9, c10, rfl, HX14, HO11⟩ ha18 hF17; clear ha18 hF8 a7
  replace HE := HE.thenN HX14.g
  have hcp19 := HO11.cap
  refine pures hT 1 _ hF17 (F' := [(12, .slice A2 n2 c2), (11, .slice A9 ((dig 18446744073709551616 (nv 256 xs)).length) c10), (10, .slice A n c), (4, .slice none 0 0), (0, .slice A n c), (1, .slice A2 n2 c2)]) (cs := []) (by kernel_rfl) trivial ?_
  intro a20 hF21; clear hF17 a16
  have hz28 := HE.size
  have hz29 := HO11.base
  refine wl (s_call (d := 13) (f := 37) (l := [.slice A2 n2 c2]) (by kernel_rfl) hF21 cl37 (nums_read A2 n2 c2 ys _ (by first | assumption | omega | simp | decide) (hR2.ex HE) (by first | assumption | omega | simp | decide) (by first | assumption | omega | simp | decide)) ?_)
  rintro a30 w25 v26 ⟨A22, c23, rfl, HX27, HO24⟩ ha32 hF31; clear ha32 hF21 a20
  replace HE := HE.thenN HX27.g
  replace HO11 := HO11.growN HX27.g
  have hcp33 := HO24.cap
  refine pures_end hT 2 _ hF31 (F' := [(6, .slice A22 ((dig 18446744073709551616 (nv 256 ys)).length) c23), (5, .slice A9 ((dig 18446744073709551616 (nv 256 xs)).length) c10), (13, .slice A22 ((dig 18446744073709551616 (nv 256 ys)).length) c23), (12, .slice A2 n2 c2), (11, .slice A9 ((dig 18446744073709551616 (nv 256 xs)).length) c10), (10, .slice A n c), (4, .slice none 0 0), (0, .slice A n c), (1, .slice A2 n2 c2)]) (cs := []) (by kernel_rfl) rfl trivial ?_
  intro a34 hF35; clear hF31 a30
  have hF36 := hF35.pick [6, 5, 4, 0, 1] (G := [(6, .slice A22 ((dig 18446744073709551616 (nv 256 ys)).length) c23), (5, .slice A9 ((dig 18446744073709551616 (nv 256 xs)).length) c10), (4, .slice none 0 0), (0, .slice A n c), (1, .slice A2 n2 c2)]) (by kernel_rfl); clear hF35
  refine hK6 _ _ ?_
  refine wp_seq_k (fun K37 hK38 => ?_)
  have HE2 : Ex w25 w25 := Ex.refl _
  have HR39 := HO11.rd
  have HR39b := HO11.base
  clear HO11
  have HR40 := HO24.rd
  have HR40b := HO24.base
  clear HO24
  refine wp_region_lit ?_
  refine pures hT 6 _ hF36 (F' := [(19, .int .i64 ((((Nat.max ((dig 18446744073709551616 (nv 256 xs)).length) ((dig 18446744073709551616 (nv 256 ys)).length)) + 1) : Nat) : Int)), (18, .int .i64 (((Nat.max ((dig 18446744073709551616 (nv 256 xs)).length) ((dig 18446744073709551616 (nv 256 ys)).length)) : Nat) : Int)), (17, .int .i64 (((dig 18446744073709551616 (nv 256 ys)).length : Nat) : Int)), (16, .slice A22 ((dig 18446744073709551616 (nv 256 ys)).length) c23), (15, .int .i64 (((dig 18446744073709551616 (nv 256 xs)).length : Nat) : Int)), (14, .slice A9 ((dig 18446744073709551616 (nv 256 xs)).length) c10), (6, .slice A22 ((dig 18446744073709551616 (nv 256 ys)).length) c23), (5, .slice A9 ((dig 18446744073709551616 (nv 256 xs)).length) c10), (4, .slice none 0 0), (0, .slice A n c), (1, .slice A2 n2 c2)]) (cs := [-9223372036854775808 ≤ ((((Nat.max ((dig 18446744073709551616 (nv 256 xs)).length) ((dig 18446744073709551616 (nv 256 ys)).length)) + 1) : Nat) : Int), ((((Nat.max ((dig 18446744073709551616 (nv 256 xs)).length) ((dig 18446744073709551616 (nv 256 ys)).length)) + 1) : Nat) : Int) ≤ 9223372036854775807]) (by kernel_rfl) (And.intro (by omega) (And.intro (by omega) trivial)) ?_
  intro a41 hF42; clear hF36 a34
  have hz47 := HE.size
  have hz48 := HE2.size
  refine wl (s_make hT (d := 20) (T := 47) (m := ((Nat.max ((dig 18446744073709551616 (nv 256 xs)).length) ((dig 18446744073709551616 (nv 256 ys)).length)) + 1)) (i := tr47) (by kernel_rfl) (by intro t x y h; cases h; rfl) hF42 (by show ((Nat.max ((dig 18446744073709551616 (nv 256 xs)).length) ((dig 18446744073709551616 (nv 256 ys)).length)) + 1) * 8 ≤ 281474976710656; omega) (by simp only [maxLen]; omega) ?_)
  rintro a49 w43 A46 HO45 g44 ha51 hF50; clear ha51 hF42 a41
  replace HO45 : Own w43 w25.heap.size 47 1 A46 ((Nat.max ((dig 18446744073709551616 (nv 256 xs)).length) ((dig 18446744073709551616 (nv 256 ys)).length)) + 1) ((Nat.max ((dig 18446744073709551616 (nv 256 xs)).length) ((dig 18446744073709551616 (nv 256 ys)).length)) + 1) (vs .u64 (List.replicate ((Nat.max ((dig 18446744073709551616 (nv 256 xs)).length) ((dig 18446744073709551616 (nv 256 ys)).length)) + 1) 0)) := (made_vs HO45 rfl rfl)
  replace HE := HE.thenN g44
  replace HE2 := HE2.thenN g44
  refine pures_end hT 1 _ hF50 (F' := [(7, .slice A46 ((Nat.max ((dig 18446744073709551616 (nv 256 xs)).length) ((dig 18446744073709551616 (nv 256 ys)).length)) + 1) ((Nat.max ((dig 18446744073709551616 (nv 256 xs)).length) ((dig 18446744073709551616 (nv 256 ys)).length)) + 1)), (20, .slice A46 ((Nat.max ((dig 18446744073709551616 (nv 256 xs)).length) ((dig 18446744073709551616 (nv 256 ys)).length)) + 1) ((Nat.max ((dig 18446744073709551616 (nv 256 xs)).length) ((dig 18446744073709551616 (nv 256 ys)).length)) + 1)), (19, .int .i64 ((((Nat.max ((dig 18446744073709551616 (nv 256 xs)).length) ((dig 18446744073709551616 (nv 256 ys)).length)) + 1) : Nat) : Int)), (18, .int .i64 (((Nat.max ((dig 18446744073709551616 (nv 256 xs)).length) ((dig 18446744073709551616 (nv 256 ys)).length)) : Nat) : Int)), (17, .int .i64 (((dig 18446744073709551616 (nv 256 ys)).length : Nat) : Int)), (16, .slice A22 ((dig 18446744073709551616 (nv 256 ys)).length) c23), (15, .int .i64 (((dig 18446744073709551616 (nv 256 xs)).length : Nat) : Int)), (14, .slice A9 ((dig 18446744073709551616 (nv 256 xs)).length) c10), (6, .slice A22 ((dig 18446744073709551616 (nv 256 ys)).length) c23), (5, .slice A9 ((dig 18446744073709551616 (nv 256 xs)).length) c10), (4, .slice none 0 0), (0, .slice A n c), (1, .slice A2 n2 c2)]) (cs := []) (by kernel_rfl) rfl trivial ?_
  intro a52 hF53; clear hF50 a49
  have hF54 := hF53.pick [7, 6, 5, 4, 0, 1] (G := [(7, .slice A46 ((Nat.max ((dig 18446744073709551616 (nv 256 xs)).length) ((dig 18446744073709551616 (nv 256 ys)).length)) + 1) ((Nat.max ((dig 18446744073709551616 (nv 256 xs)).length) ((dig 18446744073709551616 (nv 256 ys)).length)) + 1)), (6, .slice A22 ((dig 18446744073709551616 (nv 256 ys)).length) c23), (5, .slice A9 ((dig 18446744073709551616 (nv 256 xs)).length) c10), (4, .slice none 0 0), (0, .slice A n c), (1, .slice A2 n2 c2)]) (by kernel_rfl); clear hF53
  refine hK38 _ _ ?_
  refine wp_seq_k (fun K55 hK56 => ?_)
  refine wp_region_lit ?_
  refine pures_end hT 1 _ hF54 (F' := [(8, .int .u64 0), (7, .slice A46 ((Nat.max ((dig 18446744073709551616 (nv 256 xs)).length) ((dig 18446744073709551616 (nv 256 ys)).length)) + 1) ((Nat.max ((dig 18446744073709551616 (nv 256 xs)).length) ((dig 18446744073709551616 (nv 256 ys)).length)) + 1)), (6, .slice A22 ((dig 18446744073709551616 (nv 256 ys)).length) c23), (5, .slice A9 ((dig 18446744073709551616 (nv 256 xs)).length) c10), (4, .slice none 0 0), (0, .slice A n c), (1, .slice A2 n2 c2)]) (cs := []) (by kernel_rfl) rfl trivial ?_
  intro a57 hF58; clear hF54 a52
  refine hK56 _ _ ?_
  refine wp_seq_k (fun K59 hK60 => ?_)
  refine wp_seq_k (fun K61 hK62 => ?_)
  refine wp_region_lit ?_
  refine pures_end hT 3 _ hF58 (F' := [(23, .int .i64 0), (22, .int .i64 ((((Nat.max ((dig 18446744073709551616 (nv 256 xs)).length) ((dig 18446744073709551616 (nv 256 ys)).length)) + 1) : Nat) : Int)), (21, .slice A46 ((Nat.max ((dig 18446744073709551616 (nv 256 xs)).length) ((dig 18446744073709551616 (nv 256 ys)).length)) + 1) ((Nat.max ((dig 18446744073709551616 (nv 256 xs)).length) ((dig 18446744073709551616 (nv 256 ys)).length)) + 1)), (8, .int .u64 0), (7, .slice A46 ((Nat.max ((dig 18446744073709551616 (nv 256 xs)).length) ((dig 18446744073709551616 (nv 256 ys)).length)) + 1) ((Nat.max ((dig 18446744073709551616 (nv 256 xs)).length) ((dig 18446744073709551616 (nv 256 ys)).length)) + 1)), (6, .slice A22 ((dig 18446744073709551616 (nv 256 ys)).length) c23), (5, .slice A9 ((dig 18446744073709551616 (nv 256 xs)).length) c10), (4, .slice none 0 0), (0, .slice A n c), (1, .slice A2 n2 c2)]) (cs := []) (by kernel_rfl) rfl trivial ?_
  intro a63 hF64; clear hF58 a57
  have hF65 := hF64.pick [23, 22, 8, 7, 6, 5, 4, 0, 1] (G := [(23, .int .i64 0), (22, .int .i64 ((((Nat.max ((dig 18446744073709551616 (nv 256 xs)).length) ((dig 18446744073709551616 (nv 256 ys)).length)) + 1) : Nat) : Int)), (8, .int .u64 0), (7, .slice A46 ((Nat.max ((dig 18446744073709551616 (nv 256 xs)).length) ((dig 18446744073709551616 (nv 256 ys)).length)) + 1) ((Nat.max ((dig 18446744073709551616 (nv 256 xs)).length) ((dig 18446744073709551616 (nv 256 ys)).length)) + 1)), (6, .slice A22 ((dig 18446744073709551616 (nv 256 ys)).length) c23), (5, .slice A9 ((dig 18446744073709551616 (nv 256 xs)).length) c10), (4, .slice none 0 0), (0, .slice A n c), (1, .slice A2 n2 c2)]) (by kernel_rfl); clear hF64
  refine hK62 _ _ ?_
  refine wp_block ?_
  refine loopK (fun mm_ a W => ∃ (k : Nat), ∃ (zs : List Nat), ∃ (cy : Nat), (((Nat.max ((dig 18446744073709551616 (nv 256 xs)).length) ((dig 18446744073709551616 (nv 256 ys)).length)) + 1) - k) = mm_ ∧ (Fr 43 a [(5, .slice A9 ((dig 18446744073709551616 (nv 256 xs)).length) c10), (6, .slice A22 ((dig 18446744073709551616 (nv 256 ys)).length) c23), (7, .slice A46 ((Nat.max ((dig 18446744073709551616 (nv 256 xs)).length) ((dig 18446744073709551616 (nv 256 ys)).length)) + 1) ((Nat.max ((dig 18446744073709551616 (nv 256 xs)).length) ((dig 18446744073709551616 (nv 256 ys)).length)) + 1)), (8, .int .u64 ((cy : Nat) : Int)), (22, .int .i64 ((((Nat.max ((dig 18446744073709551616 (nv 256 xs)).length) ((dig 18446744073709551616 (nv 256 ys)).length)) + 1) : Nat) : Int)), (23, .int .i64 ((k : Nat) : Int))]) ∧ (Ex w W) ∧ (Ex w25 W) ∧ (Own W (w25.heap.size) 47 1 A46 ((Nat.max ((dig 18446744073709551616 (nv 256 xs)).length) ((dig 18446744073709551616 (nv 256 ys)).length)) + 1) ((Nat.max ((dig 18446744073709551616 (nv 256 xs)).length) ((dig 18446744073709551616 (nv 256 ys)).length)) + 1) (vs .u64 zs)) ∧ (k ≤ ((Nat.max ((dig 18446744073709551616 (nv 256 xs)).length) ((dig 18446744073709551616 (nv 256 ys)).length)) + 1)) ∧ (zs.length = ((Nat.max ((dig 18446744073709551616 (nv 256 xs)).length) ((dig 18446744073709551616 (nv 256 ys)).length)) + 1)) ∧ (∀ x, x ∈ zs → x < 18446744073709551616) ∧ (cy ≤ 1) ∧ (nv 18446744073709551616 (zs.take k) + cy * 18446744073709551616 ^ k = nv 18446744073709551616 (List.take k (dig 18446744073709551616 (nv 256 xs))) + nv 18446744073709551616 (List.take k (dig 18446744073709551616 (nv 256 ys))))) _ ⟨0, (List.replicate ((Nat.max ((dig 18446744073709551616 (nv 256 xs)).length) ((dig 18446744073709551616 (nv 256 ys)).length)) + 1) 0), 0, rfl, hF65.pick [5, 6, 7, 8, 22, 23] (by kernel_rfl), HE, HE2, HO45, (by omega), (by simp), (by intro x hx; rw [(List.mem_replicate.1 hx).2]; decide), (by omega), (by simp)⟩ ?_
  clear hF65 HE HE2 HO45
  rintro mm_ a66 w67 ⟨k, zs, cy, rfl, hF70, HE, HE2, HO45, hk, hzl, hzb, hcy, hv⟩ K68 hK69
  refine wp_seq_k (fun K71 hK72 => ?_)
  refine wp_region_lit ?_
  refine pures_end hT 1 _ hF70 (F' := [(24, .bool ((decide (((k : Nat) : Int) < ((((Nat.max ((dig 18446744073709551616 (nv 256 xs)).length) ((dig 18446744073709551616 (nv 256 ys)).length)) + 1) : Nat) : Int))))), (5, .slice A9 ((dig 18446744073709551616 (nv 256 xs)).length) c10), (6, .slice A22 ((dig 18446744073709551616 (nv 256 ys)).length) c23), (7, .slice A46 ((Nat.max ((dig 18446744073709551616 (nv 256 xs)).length) ((dig 18446744073709551616 (nv 256 ys)).length)) + 1) ((Nat.max ((dig 18446744073709551616 (nv 256 xs)).length) ((dig 18446744073709551616 (nv 256 ys)).length)) + 1)), (8, .int .u64 ((cy : Nat) : Int)), (22, .int .i64 ((((Nat.max ((dig 18446744073709551616 (nv 256 xs)).length) ((dig 18446744073709551616 (nv 256 ys)).length)) + 1) : Nat) : Int)), (23, .int .i64 ((k : Nat) : Int))]) (cs := []) (by kernel_rfl) rfl trivial ?_
  intro a73 hF74; clear hF70 a66
  refine hK72 _ _ ?_
  refine wp_seq_k (fun K75 hK76 => ?_)
  refine condK hF74 (p := ((k : Nat) : Int) < ((((Nat.max ((dig 18446744073709551616 (nv 256 xs)).length) ((dig 18446744073709551616 (nv 256 ys)).length)) + 1) : Nat) : Int)) (by kernel_rfl) (fun h77 => ?_) (fun h77 => ?_)
  · -- h77
    refine wp_skip ?_
    refine hK76 _ _ ?_
    refine wp_seq_k (fun K78 hK79 => ?_)
    refine wp_block ?_
    refine wp_seq_k (fun K80 hK81 => ?_)
    refine wp_region_lit ?_
    refine pures_end hT 2 _ hF74 (F' := [(9, .int .i64 ((k : Nat) : Int)), (25, .int .i64 ((k : Nat) : Int)), (24, .bool ((decide (((k : Nat) : Int) < ((((Nat.max ((dig 18446744073709551616 (nv 256 xs)).length) ((dig 18446744073709551616 (nv 256 ys)).length)) + 1) : Nat) : Int))))), (5, .slice A9 ((dig 18446744073709551616 (nv 256 xs)).length) c10), (6, .slice A22 ((dig 18446744073709551616 (nv 256 ys)).length) c23), (7, .slice A46 ((Nat.max ((dig 18446744073709551616 (nv 256 xs)).length) ((dig 18446744073709551616 (nv 256 ys)).length)) + 1) ((Nat.max ((dig 18446744073709551616 (nv 256 xs)).length) ((dig 18446744073709551616 (nv 256 ys)).length)) + 1)), (8, .int .u64 ((cy : Nat) : Int)), (22, .int .i64 ((((Nat.max ((dig 18446744073709551616 (nv 256 xs)).length) ((dig 18446744073709551616 (nv 256 ys)).length)) + 1) : Nat) : Int)), (23, .int .i64 ((k : Nat) : Int))]) (cs := []) (by kernel_rfl) rfl trivial ?_
    intro a82 hF83; clear hF74 a73
    have hF84 := hF83.pick [9, 24, 5, 6, 7, 8, 22, 23] (G := [(9, .int .i64 ((k : Nat) : Int)), (24, .bool ((decide (((k : Nat) : Int) < ((((Nat.max ((dig 18446744073709551616 (nv 256 xs)).length) ((dig 18446744073709551616 (nv 256 ys)).length)) + 1) : Nat) : Int))))), (5, .slice A9 ((dig 18446744073709551616 (nv 256 xs)).length) c10), (6, .slice A22 ((dig 18446744073709551616 (nv 256 ys)).length) c23), (7, .slice A46 ((Nat.max ((dig 18446744073709551616 (nv 256 xs)).length) ((dig 18446744073709551616 (nv 256 ys)).length)) + 1) ((Nat.max ((dig 18446744073709551616 (nv 256 xs)).length) ((dig 18446744073709551616 (nv 256 ys)).length)) + 1)), (8, .int .u64 ((cy : Nat) : Int)), (22, .int .i64 ((((Nat.max ((dig 18446744073709551616 (nv 256 xs)).length) ((dig 18446744073709551616 (nv 256 ys)).length)) + 1) : Nat) : Int)), (23, .int .i64 ((k : Nat) : Int))]) (by kernel_rfl); clear hF83
    refine hK81 _ _ ?_
    refine wp_region_lit ?_
    refine pures hT 4 _ hF84 (F' := [(30, .int .i64 ((k : Nat) : Int)), (29, .slice A9 ((dig 18446744073709551616 (nv 256 xs)).length) c10), (28, .int .i64 ((k : Nat) : Int)), (27, .slice A46 ((Nat.max ((dig 18446744073709551616 (nv 256 xs)).length) ((dig 18446744073709551616 (nv 256 ys)).length)) + 1) ((Nat.max ((dig 18446744073709551616 (nv 256 xs)).length) ((dig 18446744073709551616 (nv 256 ys)).length)) + 1)), (9, .int .i64 ((k : Nat) : Int)), (24, .bool ((decide (((k : Nat) : Int) < ((((Nat.max ((dig 18446744073709551616 (nv 256 xs)).length) ((dig 18446744073709551616 (nv 256 ys)).length)) + 1) : Nat) : Int))))), (5, .slice A9 ((dig 18446744073709551616 (nv 256 xs)).length) c10), (6, .slice A22 ((dig 18446744073709551616 (nv 256 ys)).length) c23), (7, .slice A46 ((Nat.max ((dig 18446744073709551616 (nv 256 xs)).length) ((dig 18446744073709551616 (nv 256 ys)).length)) + 1) ((Nat.max ((dig 18446744073709551616 (nv 256 xs)).length) ((dig 18446744073709551616 (nv 256 ys)).length)) + 1)), (8, .int .u64 ((cy : Nat) : Int)), (22, .int .i64 ((((Nat.max ((dig 18446744073709551616 (nv 256 xs)).length) ((dig 18446744073709551616 (nv 256 ys)).length)) + 1) : Nat) : Int)), (23, .int .i64 ((k : Nat) : Int))]) (cs := []) (by kernel_rfl) trivial ?_
    intro a85 hF86; clear hF84 a82
    have hz90 := HE.size
    have hz91 := HE2.size
    have hz92 := HO45.base
    refine wl (s_call (d := 31) (f := 43) (l := [.slice A9 ((dig 18446744073709551616 (nv 256 xs)).length) c10, .int .i64 ((k : Nat) : Int)]) (by kernel_rfl) hF86 cl43 (nums_at A9 ((dig 18446744073709551616 (nv 256 xs)).length) c10 (dig 18446744073709551616 (nv 256 xs)) k _ (by first | assumption | omega | simp | decide) (HR39.ex HE2)) ?_)
    rintro a93 w87 v88 ⟨rfl, HX89⟩ ha95 hF94; clear ha95 hF86 a85
    replace HE := HE.thenN HX89.g
    replace HE2 := HE2.thenN HX89.g
    replace HO45 := HO45.growN HX89.g
    refine pures hT 2 _ hF94 (F' := [(33, .int .i64 ((k : Nat) : Int)), (32, .slice A22 ((dig 18446744073709551616 (nv 256 ys)).length) c23), (31, .int .u64 ((((dig 18446744073709551616 (nv 256 xs)).getD k 0) : Nat) : Int)), (30, .int .i64 ((k : Nat) : Int)), (29, .slice A9 ((dig 18446744073709551616 (nv 256 xs)).length) c10), (28, .int .i64 ((k : Nat) : Int)), (27, .slice A46 ((Nat.max ((dig 18446744073709551616 (nv 256 xs)).length) ((dig 18446744073709551616 (nv 256 ys)).length)) + 1) ((Nat.max ((dig 18446744073709551616 (nv 256 xs)).length) ((dig 18446744073709551616 (nv 256 ys)).length)) + 1)), (9, .int .i64 ((k : Nat) : Int)), (24, .bool ((decide (((k : Nat) : Int) < ((((Nat.max ((dig 18446744073709551616 (nv 256 xs)).length) ((dig 18446744073709551616 (nv 256 ys)).length)) + 1) : Nat) : Int))))), (5, .slice A9 ((dig 18446744073709551616 (nv 256 xs)).length) c10), (6, .slice A22 ((dig 18446744073709551616 (nv 256 ys)).length) c23), (7, .slice A46 ((Nat.max ((dig 18446744073709551616 (nv 256 xs)).length) ((dig 18446744073709551616 (nv 256 ys)).length)) + 1) ((Nat.max ((dig 18446744073709551616 (nv 256 xs)).length) ((dig 18446744073709551616 (nv 256 ys)).length)) + 1)), (8, .int .u64 ((cy : Nat) : Int)), (22, .int .i64 ((((Nat.max ((dig 18446744073709551616 (nv 256 xs)).length) ((dig 18446744073709551616 (nv 256 ys)).length)) + 1) : Nat) : Int)), (23, .int .i64 ((k : Nat) : Int))]) (cs := []) (by kernel_rfl) trivial ?_
    intro a96 hF97; clear hF94 a93
    have hz101 := HE.size
    have hz102 := HE2.size
    have hz103 := HO45.base
    refine wl (s_call (d := 34) (f := 43) (l := [.slice A22 ((dig 18446744073709551616 (nv 256 ys)).length) c23, .int .i64 ((k : Nat) : Int)]) (by kernel_rfl) hF97 cl43 (nums_at A22 ((dig 18446744073709551616 (nv 256 ys)).length) c23 (dig 18446744073709551616 (nv 256 ys)) k _ (by first | assumption | omega | simp | decide) (HR40.ex HE2)) ?_)
    rintro a104 w98 v99 ⟨rfl, HX100⟩ ha106 hF105; clear ha106 hF97 a96
    replace HE := HE.thenN HX100.g
    replace HE2 := HE2.thenN HX100.g
    replace HO45 := HO45.growN HX100.g
    refine pures hT 1 _ hF105 (F' := [(35, .int .u64 ((cy : Nat) : Int)), (34, .int .u64 ((((dig 18446744073709551616 (nv 256 ys)).getD k 0) : Nat) : Int)), (33, .int .i64 ((k : Nat) : Int)), (32, .slice A22 ((dig 18446744073709551616 (nv 256 ys)).length) c23), (31, .int .u64 ((((dig 18446744073709551616 (nv 256 xs)).getD k 0) : Nat) : Int)), (30, .int .i64 ((k : Nat) : Int)), (29, .slice A9 ((dig 18446744073709551616 (nv 256 xs)).length) c10), (28, .int .i64 ((k : Nat) : Int)), (27, .slice A46 ((Nat.max ((dig 18446744073709551616 (nv 256 xs)).length) ((dig 18446744073709551616 (nv 256 ys)).length)) + 1) ((Nat.max ((dig 18446744073709551616 (nv 256 xs)).length) ((dig 18446744073709551616 (nv 256 ys)).length)) + 1)), (9, .int .i64 ((k : Nat) : Int)), (24, .bool ((decide (((k : Nat) : Int) < ((((Nat.max ((dig 18446744073709551616 (nv 256 xs)).length) ((dig 18446744073709551616 (nv 256 ys)).length)) + 1) : Nat) : Int))))), (5, .slice A9 ((dig 18446744073709551616 (nv 256 xs)).length) c10), (6, .slice A22 ((dig 18446744073709551616 (nv 256 ys)).length) c23), (7, .slice A46 ((Nat.max ((dig 18446744073709551616 (nv 256 xs)).length) ((dig 18446744073709551616 (nv 256 ys)).length)) + 1) ((Nat.max ((dig 18446744073709551616 (nv 256 xs)).length) ((dig 18446744073709551616 (nv 256 ys)).length)) + 1)), (8, .int .u64 ((cy : Nat) : Int)), (22, .int .i64 ((((Nat.max ((dig 18446744073709551616 (nv 256 xs)).length) ((dig 18446744073709551616 (nv 256 ys)).length)) + 1) : Nat) : Int)), (23, .int .i64 ((k : Nat) : Int))]) (cs := []) (by kernel_rfl) trivial ?_
    intro a107 hF108; clear hF105 a104
    refine wl (s_ext (d := 36) (f := 42) (l := [.int .u64 ((((dig 18446744073709551616 (nv 256 xs)).getD k 0) : Nat) : Int), .int .u64 ((((dig 18446744073709551616 (nv 256 ys)).getD k 0) : Nat) : Int), .int .u64 ((cy : Nat) : Int)]) (by kernel_rfl) hF108 (ext_add64 ((dig 18446744073709551616 (nv 256 xs)).getD k 0) ((dig 18446744073709551616 (nv 256 ys)).getD k 0) cy (by omega) _) ?_)
    rintro a109 ha111 hF110; clear ha111 hF108 a107
    refine pures hT 4 _ hF110 (F' := [(39, .pointer (some ⟨(ablk A46), ((aoff A46) + k), none⟩)), (38, .int .u64 ((((((dig 18446744073709551616 (nv 256 xs)).getD k 0) + ((dig 18446744073709551616 (nv 256 ys)).getD k 0) + cy) / 18446744073709551616) : Nat) : Int)), (37, .int .u64 ((((((dig 18446744073709551616 (nv 256 xs)).getD k 0) + ((dig 18446744073709551616 (nv 256 ys)).getD k 0) + cy) % 18446744073709551616) : Nat) : Int)), (26, .tuple #[.int .u64 ((((((dig 18446744073709551616 (nv 256 xs)).getD k 0) + ((dig 18446744073709551616 (nv 256 ys)).getD k 0) + cy) % 18446744073709551616) : Nat) : Int), .int .u64 ((((((dig 18446744073709551616 (nv 256 xs)).getD k 0) + ((dig 18446744073709551616 (nv 256 ys)).getD k 0) + cy) / 18446744073709551616) : Nat) : Int)]), (36, .tuple #[.int .u64 ((((((dig 18446744073709551616 (nv 256 xs)).getD k 0) + ((dig 18446744073709551616 (nv 256 ys)).getD k 0) + cy) % 18446744073709551616) : Nat) : Int), .int .u64 ((((((dig 18446744073709551616 (nv 256 xs)).getD k 0) + ((dig 18446744073709551616 (nv 256 ys)).getD k 0) + cy) / 18446744073709551616) : Nat) : Int)]), (35, .int .u64 ((cy : Nat) : Int)), (34, .int .u64 ((((dig 18446744073709551616 (nv 256 ys)).getD k 0) : Nat) : Int)), (33, .int .i64 ((k : Nat) : Int)), (32, .slice A22 ((dig 18446744073709551616 (nv 256 ys)).length) c23), (31, .int .u64 ((((dig 18446744073709551616 (nv 256 xs)).getD k 0) : Nat) : Int)), (30, .int .i64 ((k : Nat) : Int)), (29, .slice A9 ((dig 18446744073709551616 (nv 256 xs)).length) c10), (28, .int .i64 ((k : Nat) : Int)), (27, .slice A46 ((Nat.max ((dig 18446744073709551616 (nv 256 xs)).length) ((dig 18446744073709551616 (nv 256 ys)).length)) + 1) ((Nat.max ((dig 18446744073709551616 (nv 256 xs)).length) ((dig 18446744073709551616 (nv 256 ys)).length)) + 1)), (9, .int .i64 ((k : Nat) : Int)), (24, .bool ((decide (((k : Nat) : Int) < ((((Nat.max ((dig 18446744073709551616 (nv 256 xs)).length) ((dig 18446744073709551616 (nv 256 ys)).length)) + 1) : Nat) : Int))))), (5, .slice A9 ((dig 18446744073709551616 (nv 256 xs)).length) c10), (6, .slice A22 ((dig 18446744073709551616 (nv 256 ys)).length) c23), (7, .slice A46 ((Nat.max ((dig 18446744073709551616 (nv 256 xs)).length) ((dig 18446744073709551616 (nv 256 ys)).length)) + 1) ((Nat.max ((dig 18446744073709551616 (nv 256 xs)).length) ((dig 18446744073709551616 (nv 256 ys)).length)) + 1)), (8, .int .u64 ((cy : Nat) : Int)), (22, .int .i64 ((((Nat.max ((dig 18446744073709551616 (nv 256 xs)).length) ((dig 18446744073709551616 (nv 256 ys)).length)) + 1) : Nat) : Int)), (23, .int .i64 ((k : Nat) : Int))]) (cs := [0 ≤ ((k : Nat) : Int), ((k : Nat) : Int) < ((((Nat.max ((dig 18446744073709551616 (nv 256 xs)).length) ((dig 18446744073709551616 (nv 256 ys)).length)) + 1) : Nat) : Int), (A46 : Option Addr) = some ⟨ablk A46, aoff A46, none⟩]) (by kernel_rfl) (And.intro (by omega) (And.intro (by omega) (And.intro (HO45.rd.some' (by (first | (simp only [vs_length, vi_length]; omega) | (simp; omega) | omega))) trivial))) ?_
    intro a112 hF113; clear hF110 a109
    refine wl (s_storeO hT (off := k) (p := ⟨(ablk A46), ((aoff A46) + k), none⟩) (v := .int .u64 ((((((dig 18446744073709551616 (nv 256 xs)).getD k 0) + ((dig 18446744073709551616 (nv 256 ys)).getD k 0) + cy) % 18446744073709551616) : Nat) : Int)) (by kernel_rfl) hF113 HO45 (by (first | (simp only [vs_length, vi_length]; omega) | (simp; omega) | omega)) rfl ?_)
    have HO45b := HO45.base
    rintro a116 w114 ha118 hF117 HO45x g115; clear ha118 hF113 a112; replace HO45 := HO45x
    rw [vs_set] at HO45
    replace HE := HE.thenR g115 (fun k hk => by have := (HO45b k hk).1; omega)
    replace HE2 := HE2.thenR g115 (fun k hk => by have := (HO45b k hk).1; omega)
    refine pures_end hT 1 _ hF117 (F' := [(8, .int .u64 ((((((dig 18446744073709551616 (nv 256 xs)).getD k 0) + ((dig 18446744073709551616 (nv 256 ys)).getD k 0) + cy) / 18446744073709551616) : Nat) : Int)), (39, .pointer (some ⟨(ablk A46), ((aoff A46) + k), none⟩)), (38, .int .u64 ((((((dig 18446744073709551616 (nv 256 xs)).getD k 0) + ((dig 18446744073709551616 (nv 256 ys)).getD k 0) + cy) / 18446744073709551616) : Nat) : Int)), (37, .int .u64 ((((((dig 18446744073709551616 (nv 256 xs)).getD k 0) + ((dig 18446744073709551616 (nv 256 ys)).getD k 0) + cy) % 18446744073709551616) : Nat) : Int)), (26, .tuple #[.int .u64 ((((((dig 18446744073709551616 (nv 256 xs)).getD k 0) + ((dig 18446744073709551616 (nv 256 ys)).getD k 0) + cy) % 18446744073709551616) : Nat) : Int), .int .u64 ((((((dig 18446744073709551616 (nv 256 xs)).getD k 0) + ((dig 18446744073709551616 (nv 256 ys)).getD k 0) + cy) / 18446744073709551616) : Nat) : Int)]), (36, .tuple #[.int .u64 ((((((dig 18446744073709551616 (nv 256 xs)).getD k 0) + ((dig 18446744073709551616 (nv 256 ys)).getD k 0) + cy) % 18446744073709551616) : Nat) : Int), .int .u64 ((((((dig 18446744073709551616 (nv 256 xs)).getD k 0) + ((dig 18446744073709551616 (nv 256 ys)).getD k 0) + cy) / 18446744073709551616) : Nat) : Int)]), (35, .int .u64 ((cy : Nat) : Int)), (34, .int .u64 ((((dig 18446744073709551616 (nv 256 ys)).getD k 0) : Nat) : Int)), (33, .int .i64 ((k : Nat) : Int)), (32, .slice A22 ((dig 18446744073709551616 (nv 256 ys)).length) c23), (31, .int .u64 ((((dig 18446744073709551616 (nv 256 xs)).getD k 0) : Nat) : Int)), (30, .int .i64 ((k : Nat) : Int)), (29, .slice A9 ((dig 18446744073709551616 (nv 256 xs)).length) c10), (28, .int .i64 ((k : Nat) : Int)), (27, .slice A46 ((Nat.max ((dig 18446744073709551616 (nv 256 xs)).length) ((dig 18446744073709551616 (nv 256 ys)).length)) + 1) ((Nat.max ((dig 18446744073709551616 (nv 256 xs)).length) ((dig 18446744073709551616 (nv 256 ys)).length)) + 1)), (9, .int .i64 ((k : Nat) : Int)), (24, .bool ((decide (((k : Nat) : Int) < ((((Nat.max ((dig 18446744073709551616 (nv 256 xs)).length) ((dig 18446744073709551616 (nv 256 ys)).length)) + 1) : Nat) : Int))))), (5, .slice A9 ((dig 18446744073709551616 (nv 256 xs)).length) c10), (6, .slice A22 ((dig 18446744073709551616 (nv 256 ys)).length) c23), (7, .slice A46 ((Nat.max ((dig 18446744073709551616 (nv 256 xs)).length) ((dig 18446744073709551616 (nv 256 ys)).length)) + 1) ((Nat.max ((dig 18446744073709551616 (nv 256 xs)).length) ((dig 18446744073709551616 (nv 256 ys)).length)) + 1)), (8, .int .u64 ((cy : Nat) : Int)), (22, .int .i64 ((((Nat.max ((dig 18446744073709551616 (nv 256 xs)).length) ((dig 18446744073709551616 (nv 256 ys)).length)) + 1) : Nat) : Int)), (23, .int .i64 ((k : Nat) : Int))]) (cs := []) (by kernel_rfl) rfl trivial ?_
    intro a119 hF120; clear hF117 a116
    have hF121 := hF120.pick [8, 9, 24, 5, 6, 7, 22, 23] (G := [(8, .int .u64 ((((((dig 18446744073709551616 (nv 256 xs)).getD k 0) + ((dig 18446744073709551616 (nv 256 ys)).getD k 0) + cy) / 18446744073709551616) : Nat) : Int)), (9, .int .i64 ((k : Nat) : Int)), (24, .bool ((decide (((k : Nat) : Int) < ((((Nat.max ((dig 18446744073709551616 (nv 256 xs)).length) ((dig 18446744073709551616 (nv 256 ys)).length)) + 1) : Nat) : Int))))), (5, .slice A9 ((dig 18446744073709551616 (nv 256 xs)).length) c10), (6, .slice A22 ((dig 18446744073709551616 (nv 256 ys)).length) c23), (7, .slice A46 ((Nat.max ((dig 18446744073709551616 (nv 256 xs)).length) ((dig 18446744073709551616 (nv 256 ys)).length)) + 1) ((Nat.max ((dig 18446744073709551616 (nv 256 xs)).length) ((dig 18446744073709551616 (nv 256 ys)).length)) + 1)), (22, .int .i64 ((((Nat.max ((dig 18446744073709551616 (nv 256 xs)).length) ((dig 18446744073709551616 (nv 256 ys)).length)) + 1) : Nat) : Int)), (23, .int .i64 ((k : Nat) : Int))]) (by kernel_rfl); clear hF120
    refine hK79 _ _ ?_
    refine wp_region_lit ?_
    refine pures_end hT 2 _ hF121 (F' := [(23, .int .i64 (((k + 1) : Nat) : Int)), (40, .int .i64 (((k + 1) : Nat) : Int)), (8, .int .u64 ((((((dig 18446744073709551616 (nv 256 xs)).getD k 0) + ((dig 18446744073709551616 (nv 256 ys)).getD k 0) + cy) / 18446744073709551616) : Nat) : Int)), (9, .int .i64 ((k : Nat) : Int)), (24, .bool ((decide (((k : Nat) : Int) < ((((Nat.max ((dig 18446744073709551616 (nv 256 xs)).length) ((dig 18446744073709551616 (nv 256 ys)).length)) + 1) : Nat) : Int))))), (5, .slice A9 ((dig 18446744073709551616 (nv 256 xs)).length) c10), (6, .slice A22 ((dig 18446744073709551616 (nv 256 ys)).length) c23), (7, .slice A46 ((Nat.max ((dig 18446744073709551616 (nv 256 xs)).length) ((dig 18446744073709551616 (nv 256 ys)).length)) + 1) ((Nat.max ((dig 18446744073709551616 (nv 256 xs)).length) ((dig 18446744073709551616 (nv 256 ys)).length)) + 1)), (22, .int .i64 ((((Nat.max ((dig 18446744073709551616 (nv 256 xs)).length) ((dig 18446744073709551616 (nv 256 ys)).length)) + 1) : Nat) : Int)), (23, .int .i64 ((k : Nat) : Int))]) (cs := [-9223372036854775808 ≤ (((k + 1) : Nat) : Int), (((k + 1) : Nat) : Int) ≤ 9223372036854775807]) (by kernel_rfl) rfl (And.intro (by omega) (And.intro (by omega) trivial)) ?_
    intro a122 hF123; clear hF121 a119
    have hF124 := hF123.pick [23, 8, 9, 24, 5, 6, 7, 22] (G := [(23, .int .i64 (((k + 1) : Nat) : Int)), (8, .int .u64 ((((((dig 18446744073709551616 (nv 256 xs)).getD k 0) + ((dig 18446744073709551616 (nv 256 ys)).getD k 0) + cy) / 18446744073709551616) : Nat) : Int)), (9, .int .i64 ((k : Nat) : Int)), (24, .bool ((decide (((k : Nat) : Int) < ((((Nat.max ((dig 18446744073709551616 (nv 256 xs)).length) ((dig 18446744073709551616 (nv 256 ys)).length)) + 1) : Nat) : Int))))), (5, .slice A9 ((dig 18446744073709551616 (nv 256 xs)).length) c10), (6, .slice A22 ((dig 18446744073709551616 (nv 256 ys)).length) c23), (7, .slice A46 ((Nat.max ((dig 18446744073709551616 (nv 256 xs)).length) ((dig 18446744073709551616 (nv 256 ys)).length)) + 1) ((Nat.max ((dig 18446744073709551616 (nv 256 xs)).length) ((dig 18446744073709551616 (nv 256 ys)).length)) + 1)), (22, .int .i64 ((((Nat.max ((dig 18446744073709551616 (nv 256 xs)).length) ((dig 18446744073709551616 (nv 256 ys)).length)) + 1) : Nat) : Int))]) (by kernel_rfl); clear hF123
    refine hK69 _ _ _ (by omega) ⟨(k + 1), (zs.set k ((((dig 18446744073709551616 (nv 256 xs)).getD k 0) + ((dig 18446744073709551616 (nv 256 ys)).getD k 0) + cy) % 18446744073709551616)), ((((dig 18446744073709551616 (nv 256 xs)).getD k 0) + ((dig 18446744073709551616 (nv 256 ys)).getD k 0) + cy) / 18446744073709551616), rfl, hF124.pick [5, 6, 7, 8, 22, 23] (by kernel_rfl), HE, HE2, HO45, (by omega), (by simpa using hzl), (set_lt hzb (Nat.mod_lt _ (by decide)) _), (by have h1 := getD_lt (by decide) hX k; have h2 := getD_lt (by decide) hY k; omega), (add_step (by omega) hv)⟩
  · -- h77
    refine wp_exit ?_
    refine hK60 _ _ ?_
    refine wp_seq_k (fun K125 hK126 => ?_)
    refine wp_region_lit ?_
    refine pures hT 1 _ hF74 (F' := [(41, .slice A46 ((Nat.max ((dig 18446744073709551616 (nv 256 xs)).length) ((dig 18446744073709551616 (nv 256 ys)).length)) + 1) ((Nat.max ((dig 18446744073709551616 (nv 256 xs)).length) ((dig 18446744073709551616 (nv 256 ys)).length)) + 1)), (24, .bool ((decide (((k : Nat) : Int) < ((((Nat.max ((dig 18446744073709551616 (nv 256 xs)).length) ((dig 18446744073709551616 (nv 256 ys)).length)) + 1) : Nat) : Int))))), (5, .slice A9 ((dig 18446744073709551616 (nv 256 xs)).length) c10), (6, .slice A22 ((dig 18446744073709551616 (nv 256 ys)).length) c23), (7, .slice A46 ((Nat.max ((dig 18446744073709551616 (nv 256 xs)).length) ((dig 18446744073709551616 (nv 256 ys)).length)) + 1) ((Nat.max ((dig 18446744073709551616 (nv 256 xs)).length) ((dig 18446744073709551616 (nv 256 ys)).length)) + 1)), (8, .int .u64 ((cy : Nat) : Int)), (22, .int .i64 ((((Nat.max ((dig 18446744073709551616 (nv 256 xs)).length) ((dig 18446744073709551616 (nv 256 ys)).length)) + 1) : Nat) : Int)), (23, .int .i64 ((k : Nat) : Int))]) (cs := []) (by kernel_rfl) trivial ?_
    intro a127 hF128; clear hF74 a73
    have hz135 := HE.size
    have hz136 := HE2.size
    have hz137 := HO45.base
    refine wl (s_call (d := 42) (f := 41) (l := [.slice A46 ((Nat.max ((dig 18446744073709551616 (nv 256 xs)).length) ((dig 18446744073709551616 (nv 256 ys)).length)) + 1) ((Nat.max ((dig 18446744073709551616 (nv 256 xs)).length) ((dig 18446744073709551616 (nv 256 ys)).length)) + 1)]) (by kernel_rfl) hF128 cl41 (nums_bytes A46 ((Nat.max ((dig 18446744073709551616 (nv 256 xs)).length) ((dig 18446744073709551616 (nv 256 ys)).length)) + 1) ((Nat.max ((dig 18446744073709551616 (nv 256 xs)).length) ((dig 18446744073709551616 (nv 256 ys)).length)) + 1) zs _ (by first | assumption | omega | simp | decide) HO45.rd (by first | assumption | omega | simp | decide) (by first | assumption | omega | simp | decide) (by first | assumption | omega | simp | decide)) ?_)
    rintro a138 w132 v133 ⟨A129, c130, rfl, HX134, HO131⟩ ha140 hF139; clear ha140 hF128 a127
    replace HE := HE.thenN HX134.g
    replace HE2 := HE2.thenN HX134.g
    replace HO45 := HO45.growN HX134.g
    have hcp141 := HO131.cap
    refine pures_end hT 1 _ hF139 (F' := [(4, .slice A129 ((dig 256 (nv 18446744073709551616 zs)).length) c130), (42, .slice A129 ((dig 256 (nv 18446744073709551616 zs)).length) c130), (41, .slice A46 ((Nat.max ((dig 18446744073709551616 (nv 256 xs)).length) ((dig 18446744073709551616 (nv 256 ys)).length)) + 1) ((Nat.max ((dig 18446744073709551616 (nv 256 xs)).length) ((dig 18446744073709551616 (nv 256 ys)).length)) + 1)), (24, .bool ((decide (((k : Nat) : Int) < ((((Nat.max ((dig 18446744073709551616 (nv 256 xs)).length) ((dig 18446744073709551616 (nv 256 ys)).length)) + 1) : Nat) : Int))))), (5, .slice A9 ((dig 18446744073709551616 (nv 256 xs)).length) c10), (6, .slice A22 ((dig 18446744073709551616 (nv 256 ys)).length) c23), (7, .slice A46 ((Nat.max ((dig 18446744073709551616 (nv 256 xs)).length) ((dig 18446744073709551616 (nv 256 ys)).length)) + 1) ((Nat.max ((dig 18446744073709551616 (nv 256 xs)).length) ((dig 18446744073709551616 (nv 256 ys)).length)) + 1)), (8, .int .u64 ((cy : Nat) : Int)), (22, .int .i64 ((((Nat.max ((dig 18446744073709551616 (nv 256 xs)).length) ((dig 18446744073709551616 (nv 256 ys)).length)) + 1) : Nat) : Int)), (23, .int .i64 ((k : Nat) : Int))]) (cs := []) (by kernel_rfl) rfl trivial ?_
    intro a142 hF143; clear hF139 a138
    have hF144 := hF143.pick [4, 24, 5, 6, 7, 8, 22, 23] (G := [(4, .slice A129 ((dig 256 (nv 18446744073709551616 zs)).length) c130), (24, .bool ((decide (((k : Nat) : Int) < ((((Nat.max ((dig 18446744073709551616 (nv 256 xs)).length) ((dig 18446744073709551616 (nv 256 ys)).length)) + 1) : Nat) : Int))))), (5, .slice A9 ((dig 18446744073709551616 (nv 256 xs)).length) c10), (6, .slice A22 ((dig 18446744073709551616 (nv 256 ys)).length) c23), (7, .slice A46 ((Nat.max ((dig 18446744073709551616 (nv 256 xs)).length) ((dig 18446744073709551616 (nv 256 ys)).length)) + 1) ((Nat.max ((dig 18446744073709551616 (nv 256 xs)).length) ((dig 18446744073709551616 (nv 256 ys)).length)) + 1)), (8, .int .u64 ((cy : Nat) : Int)), (22, .int .i64 ((((Nat.max ((dig 18446744073709551616 (nv 256 xs)).length) ((dig 18446744073709551616 (nv 256 ys)).length)) + 1) : Nat) : Int)), (23, .int .i64 ((k : Nat) : Int))]) (by kernel_rfl); clear hF143
    refine hK126 _ _ ?_
    refine wp_ret ?_
    refine ret1 hF144 rfl (v := .slice A129 ((dig 256 (nv 18446744073709551616 zs)).length) c130) (by kernel_rfl) ?_
    have hO := HO131
    have hs := add_done hzl (by omega) (by omega) hX hY (show k = _ from by omega) hv
    rw [nv_dig (by decide), nv_dig (by decide)] at hs
    rw [hs] at hO ⊢
    exact ⟨A129, c130, rfl, HE, hO.rebase (by omega)⟩

theorem nums_take (Bb : Nat) (A : Option Addr) (n c : Nat) (xs : List Nat) (A2 : Option Addr) (n2 c2 : Nat) (ys : List Nat) (w : World) (hn : xs.length = n) (hn2 : ys.length = n2) (HO : Own w Bb 47 1 A n c (vs .u64 xs)) (hR2 : Rd w A2 (vs .u64 ys)) (hne : oblk A = none ∨ oblk A ≠ oblk A2) (hx : ∀ x, x ∈ xs → x < 18446744073709551616) (hy : ∀ x, x ∈ ys → x < 18446744073709551616) (hl : n ≤ 1152921504606846976) (hl2 : n2 ≤ 1152921504606846976) (hle : nv 18446744073709551616 ys ≤ nv 18446744073709551616 xs) :
    Calls Try.prog 40 [.slice A n c, .slice A2 n2 c2].toArray w (Ret fun v w' => v = .slice A (dig 18446744073709551616 (nv 18446744073709551616 xs - nv 18446744073709551616 ys)).length c ∧ Own w' Bb 47 1 A (dig 18446744073709551616 (nv 18446744073709551616 xs - nv 18446744073709551616 ys)).length c (vs .u64 (dig 18446744073709551616 (nv 18446744073709551616 xs - nv 18446744073709551616 ys))) ∧ w.grownBy w' (oblk A)) := by
  refine enter Try.func40 rfl (n := 30) Try.ntmps40 (by simp) ?_
  intro a hF
  have HG : w.grownBy w (oblk A) := grown_refl w _
  refine wp_seq_k (fun K1 hK2 => ?_)
  refine wp_region_lit ?_
  refine pures_end hT 1 _ hF (F' := [(4, .slice none 0 0), (0, .slice A n c), (1, .slice A2 n2 c2)]) (cs := []) (by kernel_rfl) rfl trivial ?_
  intro a3 hF4; clear hF a
  refine hK2 _ _ ?_
  refine wp_seq_k (fun K5 hK6 => ?_)
  refine wp_region_lit ?_
  refine pures_end hT 1 _ hF4 (F' := [(5, .int .u64 0), (4, .slice none 0 0), (0, .slice A n c), (1, .slice A2 n2 c2)]) (cs := []) (by kernel_rfl) rfl trivial ?_
  intro a7 hF8; clear hF4 a3
  refine hK6 _ _ ?_
  refine wp_seq_k (fun K9 hK10 => ?_)
  refine wp_seq_k (fun K11 hK12 => ?_)
  refine wp_region_lit ?_
  refine pures_end hT 3 _ hF8 (F' := [(9, .int .i64 0), (8, .int .i64 ((n : Nat) : Int)), (7, .slice A n c), (5, .int .u64 0), (4, .slice none 0 0), (0, .slice A n c), (1, .slice A2 n2 c2)]) (cs := []) (by kernel_rfl) rfl trivial ?_
  intro a13 hF14; clear hF8 a7
  have hF15 := hF14.pick [9, 8, 5, 4, 0, 1] (G := [(9, .int .i64 0), (8, .int .i64 ((n : Nat) : Int)), (5, .int .u64 0), (4, .slice none 0 0), (0, .slice A n c), (1, .slice A2 n2 c2)]) (by kernel_rfl); clear hF14
  refine hK12 _ _ ?_
  refine wp_block ?_
  refine loopK (fun mm_ a W => ∃ (k : Nat), ∃ (zs : List Nat), ∃ (bw : Nat), (n - k) = mm_ ∧ (Fr 30 a [(0, .slice A n c), (1, .slice A2 n2 c2), (5, .int .u64 ((bw : Nat) : Int)), (8, .int .i64 ((n : Nat) : Int)), (9, .int .i64 ((k : Nat) : Int))]) ∧ (w.grownBy W (oblk A)) ∧ (Own W (Bb) 47 1 A n c (vs .u64 zs)) ∧ (k ≤ n) ∧ (zs.length = n) ∧ (∀ x, x ∈ zs → x < 18446744073709551616) ∧ (bw ≤ 1) ∧ (∀ j, k ≤ j → zs.getD j 0 = xs.getD j 0) ∧ (nv 18446744073709551616 (zs.take k) + nv 18446744073709551616 (ys.take k) = nv 18446744073709551616 (xs.take k) + bw * 18446744073709551616 ^ k)) _ ⟨0, xs, 0, rfl, hF15.pick [0, 1, 5, 8, 9] (by kernel_rfl), HG, HO, (by omega), hn, hx, (by omega), (fun j _ => rfl), (by simp)⟩ ?_
  clear hF15 HG HO
  rintro mm_ a16 w17 ⟨k, zs, bw, rfl, hF20, HG, HO, hk, hzl, hzb, hbw, hsame, hv⟩ K18 hK19
  refine wp_seq_k (fun K21 hK22 => ?_)
  refine wp_region_lit ?_
  refine pures_end hT 1 _ hF20 (F' := [(10, .bool ((decide (((k : Nat) : Int) < ((n : Nat) : Int))))), (0, .slice A n c), (1, .slice A2 n2 c2), (5, .int .u64 ((bw : Nat) : Int)), (8, .int .i64 ((n : Nat) : Int)), (9, .int .i64 ((k : Nat) : Int))]) (cs := []) (by kernel_rfl) rfl trivial ?_
  intro a23 hF24; clear hF20 a16
  refine hK22 _ _ ?_
  refine wp_seq_k (fun K25 hK26 => ?_)
  refine condK hF24 (p := ((k : Nat) : Int) < ((n : Nat) : Int)) (by kernel_rfl) (fun h27 => ?_) (fun h27 => ?_)
  · -- h27
    refine wp_skip ?_
    refine hK26 _ _ ?_
    refine wp_seq_k (fun K28 hK29 => ?_)
    refine wp_block ?_
    refine wp_seq_k (fun K30 hK31 => ?_)
    refine wp_region_lit ?_
    refine pures_end hT 2 _ hF24 (F' := [(6, .int .i64 ((k : Nat) : Int)), (11, .int .i64 ((k : Nat) : Int)), (10, .bool ((decide (((k : Nat) : Int) < ((n : Nat) : Int))))), (0, .slice A n c), (1, .slice A2 n2 c2), (5, .int .u64 ((bw : Nat) : Int)), (8, .int .i64 ((n : Nat) : Int)), (9, .int .i64 ((k : Nat) : Int))]) (cs := []) (by kernel_rfl) rfl trivial ?_
    intro a32 hF33; clear hF24 a23
    have hF34 := hF33.pick [6, 10, 0, 1, 5, 8, 9] (G := [(6, .int .i64 ((k : Nat) : Int)), (10, .bool ((decide (((k : Nat) : Int) < ((n : Nat) : Int))))), (0, .slice A n c), (1, .slice A2 n2 c2), (5, .int .u64 ((bw : Nat) : Int)), (8, .int .i64 ((n : Nat) : Int)), (9, .int .i64 ((k : Nat) : Int))]) (by kernel_rfl); clear hF33
    refine hK31 _ _ ?_
    let SL_ : List SP := [SP.val (.slice A n c), SP.val (.int .i64 ((k : Nat) : Int)), SP.val (.slice A n c), SP.val (.int .i64 ((k : Nat) : Int)), SP.val (.pointer (some ⟨(ablk A), ((aoff A) + k), none⟩)), SP.val (.int .u64 (((zs.getD k 0) : Nat) : Int)), SP.val (.slice A2 n2 c2), SP.val (.int .i64 ((k : Nat) : Int)), SP.val (.int .u64 (((ys.getD k 0) : Nat) : Int)), SP.val (.int .u64 ((bw : Nat) : Int)), SP.val (.tuple #[.int .u64 (((((zs.getD k 0) + 18446744073709551616 - (ys.getD k 0) - bw) % 18446744073709551616) : Nat) : Int), .int .u64 (((if (zs.getD k 0) < (ys.getD k 0) + bw then 1 else 0) : Nat) : Int)]), SP.val (.tuple #[.int .u64 (((((zs.getD k 0) + 18446744073709551616 - (ys.getD k 0) - bw) % 18446744073709551616) : Nat) : Int), .int .u64 (((if (zs.getD k 0) < (ys.getD k 0) + bw then 1 else 0) : Nat) : Int)]), SP.val (.int .u64 (((((zs.getD k 0) + 18446744073709551616 - (ys.getD k 0) - bw) % 18446744073709551616) : Nat) : Int)), SP.val (.int .u64 (((if (zs.getD k 0) < (ys.getD k 0) + bw then 1 else 0) : Nat) : Int)), SP.val (.pointer (some ⟨(ablk A), ((aoff A) + k), none⟩)), SP.any, SP.val (.int .u64 (((if (zs.getD k 0) < (ys.getD k 0) + bw then 1 else 0) : Nat) : Int))]
    refine region_rel (SL := SL_) (J := (fun (b : Bool) (W : World) => (w.grownBy W (oblk A)) ∧ (match b with | true => Own W (Bb) 47 1 A n c (vs .u64 (zs.set k (((zs.getD k 0) + 18446744073709551616 - (ys.getD k 0) - bw) % 18446744073709551616))) | false => Own W (Bb) 47 1 A n c (vs .u64 zs)))) (m := 15) (bm := (oblk A)) wide (by kernel_rfl) (by kernel_rfl) hF34 rfl ?_ ?_ ⟨HG, HO⟩ ⟨?_, ?_, ?_, ?_, ?_, ?_, ?_, ?_, ?_, ?_, ?_, ?_, ?_, ?_, ?_, ?_, ?_, trivial⟩ [(5, some 16), (6, none), (10, none), (0, none), (1, none), (8, none), (9, none)] (by kernel_rfl) ?_
    · exact fun _ => spAt_det SL_ (by kernel_rfl)
    · intro b W W' hj g; cases b <;> exact ⟨World.grownBy.trans hj.1 (grown_weak g), hj.2.growN g⟩
    · -- operation 0
      rintro a36 w35 b38 KK44 hs40 hd41 hJ42 hb43 hr46 hK39
      have hr46x : RD SL_ a36 a32 w35 [(0, none)] := hr46 _ (by kernel_rfl)
      obtain ⟨q45, -⟩ := hr46x
      obtain rfl : b38 = false := by cases b38; rfl; exact absurd ((hb43 rfl).2 _ rfl) (by decide)
      obtain ⟨HG, HO⟩ := hJ42
      have hF37 : Fr 30 a36 [(0, .slice A n c)] := Fr.of hs40 hd41 ⟨(Fr.init hF34 q45 (by kernel_rfl)), trivial⟩
      refine s_pure hT (d := 13) (v := .slice A n c) (cs := []) (by kernel_rfl) (by kernel_rfl) trivial hF37 ?_
      rintro a2 ha2 hF2; rw [ha2]; exact hK39 _ _ rfl (grown_refl _ _)
    · -- operation 1
      rintro a48 w47 b50 KK56 hs52 hd53 hJ54 hb55 hr58 hK51
      have hr58x : RD SL_ a48 a32 w47 [(6, none)] := hr58 _ (by kernel_rfl)
      obtain ⟨q57, -⟩ := hr58x
      obtain rfl : b50 = false := by cases b50; rfl; exact absurd ((hb55 rfl).2 _ rfl) (by decide)
      obtain ⟨HG, HO⟩ := hJ54
      have hF49 : Fr 30 a48 [(6, .int .i64 ((k : Nat) : Int))] := Fr.of hs52 hd53 ⟨(Fr.init hF34 q57 (by kernel_rfl)), trivial⟩
      refine s_pure hT (d := 14) (v := .int .i64 ((k : Nat) : Int)) (cs := []) (by kernel_rfl) (by kernel_rfl) trivial hF49 ?_
      rintro a2 ha2 hF2; rw [ha2]; exact hK51 _ _ rfl (grown_refl _ _)
    · -- operation 2
      rintro a60 w59 b62 KK68 hs64 hd65 hJ66 hb67 hr70 hK63
      have hr70x : RD SL_ a60 a32 w59 [(0, none)] := hr70 _ (by kernel_rfl)
      obtain ⟨q69, -⟩ := hr70x
      obtain rfl : b62 = false := by cases b62; rfl; exact absurd ((hb67 rfl).2 _ rfl) (by decide)
      obtain ⟨HG, HO⟩ := hJ66
      have hF61 : Fr 30 a60 [(0, .slice A n c)] := Fr.of hs64 hd65 ⟨(Fr.init hF34 q69 (by kernel_rfl)), trivial⟩
      refine s_pure hT (d := 15) (v := .slice A n c) (cs := []) (by kernel_rfl) (by kernel_rfl) trivial hF61 ?_
      rintro a2 ha2 hF2; rw [ha2]; exact hK63 _ _ rfl (grown_refl _ _)
    · -- operation 3
      rintro a72 w71 b74 KK80 hs76 hd77 hJ78 hb79 hr82 hK75
      have hr82x : RD SL_ a72 a32 w71 [(6, none)] := hr82 _ (by kernel_rfl)
      obtain ⟨q81, -⟩ := hr82x
      obtain rfl : b74 = false := by cases b74; rfl; exact absurd ((hb79 rfl).2 _ rfl) (by decide)
      obtain ⟨HG, HO⟩ := hJ78
      have hF73 : Fr 30 a72 [(6, .int .i64 ((k : Nat) : Int))] := Fr.of hs76 hd77 ⟨(Fr.init hF34 q81 (by kernel_rfl)), trivial⟩
      refine s_pure hT (d := 16) (v := .int .i64 ((k : Nat) : Int)) (cs := []) (by kernel_rfl) (by kernel_rfl) trivial hF73 ?_
      rintro a2 ha2 hF2; rw [ha2]; exact hK75 _ _ rfl (grown_refl _ _)
    · -- operation 4
      rintro a84 w83 b86 KK92 hs88 hd89 hJ90 hb91 hr99 hK87
      have hr99x : RD SL_ a84 a32 w83 [(15, some 2), (16, some 3)] := hr99 _ (by kernel_rfl)
      obtain ⟨⟨v94, q93, s95⟩, ⟨v97, q96, s98⟩, -⟩ := hr99x
      obtain rfl : v94 = .slice A n c := s95
      obtain rfl : v97 = .int .i64 ((k : Nat) : Int) := s98
      obtain rfl : b86 = false := by cases b86; rfl; exact absurd ((hb91 rfl).2 _ rfl) (by decide)
      obtain ⟨HG, HO⟩ := hJ90
      have hF85 : Fr 30 a84 [(15, .slice A n c), (16, .int .i64 ((k : Nat) : Int))] := Fr.of hs88 hd89 ⟨q93, q96, trivial⟩
      refine s_pure hT (d := 17) (v := .pointer (some ⟨(ablk A), ((aoff A) + k), none⟩)) (cs := [0 ≤ ((k : Nat) : Int), ((k : Nat) : Int) < ((n : Nat) : Int), (A : Option Addr) = some ⟨ablk A, aoff A, none⟩]) (by kernel_rfl) (by kernel_rfl) (And.intro (by omega) (And.intro (by omega) (And.intro (HO.rd.some' (by (first | (simp only [vs_length, vi_length]; omega) | (simp; omega) | omega))) trivial))) hF85 ?_
      rintro a2 ha2 hF2; rw [ha2]; exact hK87 _ _ rfl (grown_refl _ _)
    · -- operation 5
      rintro a101 w100 b103 KK109 hs105 hd106 hJ107 hb108 hr113 hK104
      have hr113x : RD SL_ a101 a32 w100 [(17, some 4)] := hr113 _ (by kernel_rfl)
      obtain ⟨⟨v111, q110, s112⟩, -⟩ := hr113x
      obtain rfl : v111 = .pointer (some ⟨(ablk A), ((aoff A) + k), none⟩) := s112
      obtain rfl : b103 = false := by cases b103; rfl; exact absurd ((hb108 rfl).2 _ rfl) (by decide)
      obtain ⟨HG, HO⟩ := hJ107
      have hF102 : Fr 30 a101 [(17, .pointer (some ⟨(ablk A), ((aoff A) + k), none⟩))] := Fr.of hs105 hd106 ⟨q110, trivial⟩
      refine s_load hT (d := 18) (A := ⟨(ablk A), ((aoff A) + k), none⟩) (by kernel_rfl) hF102 (HO.rd.cells.at (vs_get .u64 zs (i := k) (by omega)) rfl) ?_
      rintro a114 ha116 hF115
      rw [ha116]; exact hK104 _ _ rfl (grown_refl _ _)
    · -- operation 6
      rintro a118 w117 b120 KK126 hs122 hd123 hJ124 hb125 hr128 hK121
      have hr128x : RD SL_ a118 a32 w117 [(1, none)] := hr128 _ (by kernel_rfl)
      obtain ⟨q127, -⟩ := hr128x
      obtain rfl : b120 = false := by cases b120; rfl; exact absurd ((hb125 rfl).2 _ rfl) (by decide)
      obtain ⟨HG, HO⟩ := hJ124
      have hF119 : Fr 30 a118 [(1, .slice A2 n2 c2)] := Fr.of hs122 hd123 ⟨(Fr.init hF34 q127 (by kernel_rfl)), trivial⟩
      refine s_pure hT (d := 19) (v := .slice A2 n2 c2) (cs := []) (by kernel_rfl) (by kernel_rfl) trivial hF119 ?_
      rintro a2 ha2 hF2; rw [ha2]; exact hK121 _ _ rfl (grown_refl _ _)
    · -- operation 7
      rintro a130 w129 b132 KK138 hs134 hd135 hJ136 hb137 hr140 hK133
      have hr140x : RD SL_ a130 a32 w129 [(6, none)] := hr140 _ (by kernel_rfl)
      obtain ⟨q139, -⟩ := hr140x
      obtain rfl : b132 = false := by cases b132; rfl; exact absurd ((hb137 rfl).2 _ rfl) (by decide)
      obtain ⟨HG, HO⟩ := hJ136
      have hF131 : Fr 30 a130 [(6, .int .i64 ((k : Nat) : Int))] := Fr.of hs134 hd135 ⟨(Fr.init hF34 q139 (by kernel_rfl)), trivial⟩
      refine s_pure hT (d := 20) (v := .int .i64 ((k : Nat) : Int)) (cs := []) (by kernel_rfl) (by kernel_rfl) trivial hF131 ?_
      rintro a2 ha2 hF2; rw [ha2]; exact hK133 _ _ rfl (grown_refl _ _)
    · -- operation 8
      rintro a142 w141 b144 KK150 hs146 hd147 hJ148 hb149 hr157 hK145
      have hr157x : RD SL_ a142 a32 w141 [(19, some 6), (20, some 7)] := hr157 _ (by kernel_rfl)
      obtain ⟨⟨v152, q151, s153⟩, ⟨v155, q154, s156⟩, -⟩ := hr157x
      obtain rfl : v152 = .slice A2 n2 c2 := s153
      obtain rfl : v155 = .int .i64 ((k : Nat) : Int) := s156
      obtain rfl : b144 = false := by cases b144; rfl; exact absurd ((hb149 rfl).2 _ rfl) (by decide)
      obtain ⟨HG, HO⟩ := hJ148
      have hF143 : Fr 30 a142 [(19, .slice A2 n2 c2), (20, .int .i64 ((k : Nat) : Int))] := Fr.of hs146 hd147 ⟨q151, q154, trivial⟩
      have hz161 := HO.base
      refine s_call (d := 21) (f := 43) (l := [.slice A2 n2 c2, .int .i64 ((k : Nat) : Int)]) (by kernel_rfl) hF143 cl43 (nums_at A2 n2 c2 ys k _ (by first | assumption | omega | simp | decide) (hR2.grow' HG hne)) ?_
      rintro a162 w158 v159 ⟨rfl, HX160⟩ ha164 hF163
      replace HG := World.grownBy.trans HG (grown_weak HX160.g)
      replace HO := HO.growN HX160.g
      rw [ha164]; exact hK145 _ _ rfl HX160.g
    · -- operation 9
      rintro a166 w165 b168 KK174 hs170 hd171 hJ172 hb173 hr176 hK169
      have hr176x : RD SL_ a166 a32 w165 [(5, none)] := hr176 _ (by kernel_rfl)
      obtain ⟨q175, -⟩ := hr176x
      obtain rfl : b168 = false := by cases b168; rfl; exact absurd ((hb173 rfl).2 _ rfl) (by decide)
      obtain ⟨HG, HO⟩ := hJ172
      have hF167 : Fr 30 a166 [(5, .int .u64 ((bw : Nat) : Int))] := Fr.of hs170 hd171 ⟨(Fr.init hF34 q175 (by kernel_rfl)), trivial⟩
      refine s_pure hT (d := 22) (v := .int .u64 ((bw : Nat) : Int)) (cs := []) (by kernel_rfl) (by kernel_rfl) trivial hF167 ?_
      rintro a2 ha2 hF2; rw [ha2]; exact hK169 _ _ rfl (grown_refl _ _)
    · -- operation 10
      rintro a178 w177 b180 KK186 hs182 hd183 hJ184 hb185 hr196 hK181
      have hr196x : RD SL_ a178 a32 w177 [(18, some 5), (21, some 8), (22, some 9)] := hr196 _ (by kernel_rfl)
      obtain ⟨⟨v188, q187, s189⟩, ⟨v191, q190, s192⟩, ⟨v194, q193, s195⟩, -⟩ := hr196x
      obtain rfl : v188 = .int .u64 (((zs.getD k 0) : Nat) : Int) := s189
      obtain rfl : v191 = .int .u64 (((ys.getD k 0) : Nat) : Int) := s192
      obtain rfl : v194 = .int .u64 ((bw : Nat) : Int) := s195
      obtain rfl : b180 = false := by cases b180; rfl; exact absurd ((hb185 rfl).2 _ rfl) (by decide)
      obtain ⟨HG, HO⟩ := hJ184
      have hF179 : Fr 30 a178 [(18, .int .u64 (((zs.getD k 0) : Nat) : Int)), (21, .int .u64 (((ys.getD k 0) : Nat) : Int)), (22, .int .u64 ((bw : Nat) : Int))] := Fr.of hs182 hd183 ⟨q187, q190, q193, trivial⟩
      refine s_ext (d := 23) (f := 49) (l := [.int .u64 (((zs.getD k 0) : Nat) : Int), .int .u64 (((ys.getD k 0) : Nat) : Int), .int .u64 ((bw : Nat) : Int)]) (by kernel_rfl) hF179 (ext_sub64 (zs.getD k 0) (ys.getD k 0) bw (by omega) _) ?_
      rintro a197 ha199 hF198
      rw [ha199]; exact hK181 _ _ rfl (grown_refl _ _)
    · -- operation 11
      rintro a201 w200 b203 KK209 hs205 hd206 hJ207 hb208 hr213 hK204
      have hr213x : RD SL_ a201 a32 w200 [(23, some 10)] := hr213 _ (by kernel_rfl)
      obtain ⟨⟨v211, q210, s212⟩, -⟩ := hr213x
      obtain rfl : v211 = .tuple #[.int .u64 (((((zs.getD k 0) + 18446744073709551616 - (ys.getD k 0) - bw) % 18446744073709551616) : Nat) : Int), .int .u64 (((if (zs.getD k 0) < (ys.getD k 0) + bw then 1 else 0) : Nat) : Int)] := s212
      obtain rfl : b203 = false := by cases b203; rfl; exact absurd ((hb208 rfl).2 _ rfl) (by decide)
      obtain ⟨HG, HO⟩ := hJ207
      have hF202 : Fr 30 a201 [(23, .tuple #[.int .u64 (((((zs.getD k 0) + 18446744073709551616 - (ys.getD k 0) - bw) % 18446744073709551616) : Nat) : Int), .int .u64 (((if (zs.getD k 0) < (ys.getD k 0) + bw then 1 else 0) : Nat) : Int)])] := Fr.of hs205 hd206 ⟨q210, trivial⟩
      refine s_pure hT (d := 12) (v := .tuple #[.int .u64 (((((zs.getD k 0) + 18446744073709551616 - (ys.getD k 0) - bw) % 18446744073709551616) : Nat) : Int), .int .u64 (((if (zs.getD k 0) < (ys.getD k 0) + bw then 1 else 0) : Nat) : Int)]) (cs := []) (by kernel_rfl) (by kernel_rfl) trivial hF202 ?_
      rintro a2 ha2 hF2; rw [ha2]; exact hK204 _ _ rfl (grown_refl _ _)
    · -- operation 12
      rintro a215 w214 b217 KK223 hs219 hd220 hJ221 hb222 hr227 hK218
      have hr227x : RD SL_ a215 a32 w214 [(12, some 11)] := hr227 _ (by kernel_rfl)
      obtain ⟨⟨v225, q224, s226⟩, -⟩ := hr227x
      obtain rfl : v225 = .tuple #[.int .u64 (((((zs.getD k 0) + 18446744073709551616 - (ys.getD k 0) - bw) % 18446744073709551616) : Nat) : Int), .int .u64 (((if (zs.getD k 0) < (ys.getD k 0) + bw then 1 else 0) : Nat) : Int)] := s226
      obtain rfl : b217 = false := by cases b217; rfl; exact absurd ((hb222 rfl).2 _ rfl) (by decide)
      obtain ⟨HG, HO⟩ := hJ221
      have hF216 : Fr 30 a215 [(12, .tuple #[.int .u64 (((((zs.getD k 0) + 18446744073709551616 - (ys.getD k 0) - bw) % 18446744073709551616) : Nat) : Int), .int .u64 (((if (zs.getD k 0) < (ys.getD k 0) + bw then 1 else 0) : Nat) : Int)])] := Fr.of hs219 hd220 ⟨q224, trivial⟩
      refine s_pure hT (d := 24) (v := .int .u64 (((((zs.getD k 0) + 18446744073709551616 - (ys.getD k 0) - bw) % 18446744073709551616) : Nat) : Int)) (cs := []) (by kernel_rfl) (by kernel_rfl) trivial hF216 ?_
      rintro a2 ha2 hF2; rw [ha2]; exact hK218 _ _ rfl (grown_refl _ _)
    · -- operation 13
      rintro a229 w228 b231 KK237 hs233 hd234 hJ235 hb236 hr241 hK232
      have hr241x : RD SL_ a229 a32 w228 [(12, some 11)] := hr241 _ (by kernel_rfl)
      obtain ⟨⟨v239, q238, s240⟩, -⟩ := hr241x
      obtain rfl : v239 = .tuple #[.int .u64 (((((zs.getD k 0) + 18446744073709551616 - (ys.getD k 0) - bw) % 18446744073709551616) : Nat) : Int), .int .u64 (((if (zs.getD k 0) < (ys.getD k 0) + bw then 1 else 0) : Nat) : Int)] := s240
      obtain ⟨HG, HO⟩ := hJ235
      have hF230 : Fr 30 a229 [(12, .tuple #[.int .u64 (((((zs.getD k 0) + 18446744073709551616 - (ys.getD k 0) - bw) % 18446744073709551616) : Nat) : Int), .int .u64 (((if (zs.getD k 0) < (ys.getD k 0) + bw then 1 else 0) : Nat) : Int)])] := Fr.of hs233 hd234 ⟨q238, trivial⟩
      refine s_pure hT (d := 25) (v := .int .u64 (((if (zs.getD k 0) < (ys.getD k 0) + bw then 1 else 0) : Nat) : Int)) (cs := []) (by kernel_rfl) (by kernel_rfl) trivial hF230 ?_
      rintro a2 ha2 hF2; rw [ha2]; exact hK232 _ _ rfl (grown_refl _ _)
    · -- operation 14
      rintro a243 w242 b245 KK251 hs247 hd248 hJ249 hb250 hr258 hK246
      have hr258x : RD SL_ a243 a32 w242 [(13, some 0), (14, some 1)] := hr258 _ (by kernel_rfl)
      obtain ⟨⟨v253, q252, s254⟩, ⟨v256, q255, s257⟩, -⟩ := hr258x
      obtain rfl : v253 = .slice A n c := s254
      obtain rfl : v256 = .int .i64 ((k : Nat) : Int) := s257
      obtain rfl : b245 = false := by cases b245; rfl; exact absurd ((hb250 rfl).2 _ rfl) (by decide)
      obtain ⟨HG, HO⟩ := hJ249
      have hF244 : Fr 30 a243 [(13, .slice A n c), (14, .int .i64 ((k : Nat) : Int))] := Fr.of hs247 hd248 ⟨q252, q255, trivial⟩
      refine s_pure hT (d := 26) (v := .pointer (some ⟨(ablk A), ((aoff A) + k), none⟩)) (cs := [0 ≤ ((k : Nat) : Int), ((k : Nat) : Int) < ((n : Nat) : Int), (A : Option Addr) = some ⟨ablk A, aoff A, none⟩]) (by kernel_rfl) (by kernel_rfl) (And.intro (by omega) (And.intro (by omega) (And.intro (HO.rd.some' (by (first | (simp only [vs_length, vi_length]; omega) | (simp; omega) | omega))) trivial))) hF244 ?_
      rintro a2 ha2 hF2; rw [ha2]; exact hK246 _ _ rfl (grown_refl _ _)
    · -- operation 15
      rintro a260 w259 b262 KK268 hs264 hd265 hJ266 hb267 hr275 hK263
      have hr275x : RD SL_ a260 a32 w259 [(26, some 14), (24, some 12)] := hr275 _ (by kernel_rfl)
      obtain ⟨⟨v270, q269, s271⟩, ⟨v273, q272, s274⟩, -⟩ := hr275x
      obtain rfl : v270 = .pointer (some ⟨(ablk A), ((aoff A) + k), none⟩) := s271
      obtain rfl : v273 = .int .u64 (((((zs.getD k 0) + 18446744073709551616 - (ys.getD k 0) - bw) % 18446744073709551616) : Nat) : Int) := s274
      obtain rfl : b262 = false := by cases b262; rfl; exact absurd rfl (hb267 rfl).1
      obtain ⟨HG, HO⟩ := hJ266
      have hF261 : Fr 30 a260 [(26, .pointer (some ⟨(ablk A), ((aoff A) + k), none⟩)), (24, .int .u64 (((((zs.getD k 0) + 18446744073709551616 - (ys.getD k 0) - bw) % 18446744073709551616) : Nat) : Int))] := Fr.of hs264 hd265 ⟨q269, q272, trivial⟩
      refine s_storeO hT (off := k) (p := ⟨(ablk A), ((aoff A) + k), none⟩) (v := .int .u64 (((((zs.getD k 0) + 18446744073709551616 - (ys.getD k 0) - bw) % 18446744073709551616) : Nat) : Int)) (by kernel_rfl) hF261 HO (by (first | (simp only [vs_length, vi_length]; omega) | (simp; omega) | omega)) rfl ?_
      have HOb := HO.base
      rintro a278 w276 ha280 hF279 HOx g277; replace HO := HOx
      rw [vs_set] at HO
      replace HG := World.grownBy.trans HG g277
      rw [ha280]; exact hK263 undef _ trivial ⟨g277, ⟨HG, HO⟩⟩
    · -- operation 16
      rintro a282 w281 b284 KK290 hs286 hd287 hJ288 hb289 hr294 hK285
      have hr294x : RD SL_ a282 a32 w281 [(25, some 13)] := hr294 _ (by kernel_rfl)
      obtain ⟨⟨v292, q291, s293⟩, -⟩ := hr294x
      obtain rfl : v292 = .int .u64 (((if (zs.getD k 0) < (ys.getD k 0) + bw then 1 else 0) : Nat) : Int) := s293
      obtain ⟨HG, HO⟩ := hJ288
      have hF283 : Fr 30 a282 [(25, .int .u64 (((if (zs.getD k 0) < (ys.getD k 0) + bw then 1 else 0) : Nat) : Int))] := Fr.of hs286 hd287 ⟨q291, trivial⟩
      refine s_pure hT (d := 5) (v := .int .u64 (((if (zs.getD k 0) < (ys.getD k 0) + bw then 1 else 0) : Nat) : Int)) (cs := []) (by kernel_rfl) (by kernel_rfl) trivial hF283 ?_
      rintro a2 ha2 hF2; rw [ha2]; exact hK285 _ _ rfl (grown_refl _ _)
    · -- behind the region
      rintro a296 w297 hs298 hd299 ⟨⟨v301, q302, s303⟩, q304, q305, q306, q307, q308, q309, -⟩ ⟨HG, HO⟩
      obtain rfl : v301 = .int .u64 (((if (zs.getD k 0) < (ys.getD k 0) + bw then 1 else 0) : Nat) : Int) := s303
      replace HO : Own w297 (Bb) 47 1 A n c (vs .u64 (zs.set k (((zs.getD k 0) + 18446744073709551616 - (ys.getD k 0) - bw) % 18446744073709551616))) := HO
      have hF310 : Fr 30 a296 [(5, .int .u64 (((if (zs.getD k 0) < (ys.getD k 0) + bw then 1 else 0) : Nat) : Int)), (6, .int .i64 ((k : Nat) : Int)), (10, .bool ((decide (((k : Nat) : Int) < ((n : Nat) : Int))))), (0, .slice A n c), (1, .slice A2 n2 c2), (8, .int .i64 ((n : Nat) : Int)), (9, .int .i64 ((k : Nat) : Int))] := Fr.of hs298 hd299 ⟨q302, (Fr.init hF34 q304 (by kernel_rfl)), (Fr.init hF34 q305 (by kernel_rfl)), (Fr.init hF34 q306 (by kernel_rfl)), (Fr.init hF34 q307 (by kernel_rfl)), (Fr.init hF34 q308 (by kernel_rfl)), (Fr.init hF34 q309 (by kernel_rfl)), trivial⟩
      clear hF34 hs298 hd299 q302 q304 q305 q306 q307 q308 q309
      refine hK29 _ _ ?_
      refine wp_region_lit ?_
      refine pures_end hT 2 _ hF310 (F' := [(9, .int .i64 (((k + 1) : Nat) : Int)), (27, .int .i64 (((k + 1) : Nat) : Int)), (5, .int .u64 (((if (zs.getD k 0) < (ys.getD k 0) + bw then 1 else 0) : Nat) : Int)), (6, .int .i64 ((k : Nat) : Int)), (10, .bool ((decide (((k : Nat) : Int) < ((n : Nat) : Int))))), (0, .slice A n c), (1, .slice A2 n2 c2), (8, .int .i64 ((n : Nat) : Int)), (9, .int .i64 ((k : Nat) : Int))]) (cs := [-9223372036854775808 ≤ (((k + 1) : Nat) : Int), (((k + 1) : Nat) : Int) ≤ 9223372036854775807]) (by kernel_rfl) rfl (And.intro (by omega) (And.intro (by omega) trivial)) ?_
      intro a311 hF312; clear hF310 a296
      have hF313 := hF312.pick [9, 5, 6, 10, 0, 1, 8] (G := [(9, .int .i64 (((k + 1) : Nat) : Int)), (5, .int .u64 (((if (zs.getD k 0) < (ys.getD k 0) + bw then 1 else 0) : Nat) : Int)), (6, .int .i64 ((k : Nat) : Int)), (10, .bool ((decide (((k : Nat) : Int) < ((n : Nat) : Int))))), (0, .slice A n c), (1, .slice A2 n2 c2), (8, .int .i64 ((n : Nat) : Int))]) (by kernel_rfl); clear hF312
      refine hK19 _ _ _ (by omega) ⟨(k + 1), (zs.set k (((zs.getD k 0) + 18446744073709551616 - (ys.getD k 0) - bw) % 18446744073709551616)), (if (zs.getD k 0) < (ys.getD k 0) + bw then 1 else 0), rfl, hF313.pick [0, 1, 5, 8, 9] (by kernel_rfl), HG, HO, (by omega), (by simpa using hzl), (set_lt hzb (Nat.mod_lt _ (by decide)) _), (by split <;> omega), (fun j hj => by rw [getD_set _ _ _ _ (by omega), if_neg (by omega)]; exact hsame j (by omega)), (by rw [hsame k (Nat.le_refl k)]; exact sub_step hbw (getD_lt (by decide) hx k) (getD_lt (by decide) hy k) (by omega) hv)⟩
  · -- h27
    refine wp_exit ?_
    refine hK10 _ _ ?_
    refine wp_seq_k (fun K314 hK315 => ?_)
    have hcap := HO.cap
    refine wp_region_lit ?_
    refine pures hT 1 _ hF24 (F' := [(28, .slice A n c), (10, .bool ((decide (((k : Nat) : Int) < ((n : Nat) : Int))))), (0, .slice A n c), (1, .slice A2 n2 c2), (5, .int .u64 ((bw : Nat) : Int)), (8, .int .i64 ((n : Nat) : Int)), (9, .int .i64 ((k : Nat) : Int))]) (cs := []) (by kernel_rfl) trivial ?_
    intro a316 hF317; clear hF24 a23
    have hz321 := HO.base
    refine wl (s_call (d := 29) (f := 48) (l := [.slice A n c]) (by kernel_rfl) hF317 cl48 (nums_trim A n c zs _ (by first | assumption | omega | simp | decide) HO.rd (by first | assumption | omega | simp | decide) (by first | assumption | omega | simp | decide)) ?_)
    rintro a322 w318 v319 ⟨rfl, HX320⟩ ha324 hF323; clear ha324 hF317 a316
    replace HG := World.grownBy.trans HG (grown_weak HX320.g)
    replace HO := HO.growN HX320.g
    refine pures_end hT 1 _ hF323 (F' := [(4, .slice A (tlen zs) c), (29, .slice A (tlen zs) c), (28, .slice A n c), (10, .bool ((decide (((k : Nat) : Int) < ((n : Nat) : Int))))), (0, .slice A n c), (1, .slice A2 n2 c2), (5, .int .u64 ((bw : Nat) : Int)), (8, .int .i64 ((n : Nat) : Int)), (9, .int .i64 ((k : Nat) : Int))]) (cs := []) (by kernel_rfl) rfl trivial ?_
    intro a325 hF326; clear hF323 a322
    have hF327 := hF326.pick [4, 10, 0, 1, 5, 8, 9] (G := [(4, .slice A (tlen zs) c), (10, .bool ((decide (((k : Nat) : Int) < ((n : Nat) : Int))))), (0, .slice A n c), (1, .slice A2 n2 c2), (5, .int .u64 ((bw : Nat) : Int)), (8, .int .i64 ((n : Nat) : Int)), (9, .int .i64 ((k : Nat) : Int))]) (by kernel_rfl); clear hF326
    refine hK315 _ _ ?_
    refine wp_ret ?_
    refine ret1 hF327 rfl (v := .slice A (tlen zs) c) (by kernel_rfl) ?_
    have ht := trimL_dig (b := 18446744073709551616) (by decide) hzb
    rw [sub_done hn hzl hzb hx hy hle (show k = n from by omega) hv] at ht
    rw [← ht]
    have hO := Own.cut HO (m := tlen zs) (by have := tlen_le zs; omega)
    rw [Nat.mul_one, vs_take] at hO
    exact ⟨by rw [trimL_length], by rw [trimL_length]; exact hO, HG⟩

theorem nums_double (A : Option Addr) (n c : Nat) (xs : List Nat) (bt : Nat) (w : World) (hn : xs.length = n) (hR : Rd w A (vs .u64 xs)) (hx : ∀ x, x ∈ xs → x < 18446744073709551616) (hb : bt ≤ 1) (hl : n ≤ 1099511627776) :
    Calls Try.prog 38 [.slice A n c, .int .u64 ((bt : Nat) : Int)].toArray w (Ret fun v w' => ∃ A' c', v = .slice A' (dig 18446744073709551616 (2 * nv 18446744073709551616 xs + bt)).length c' ∧ Ex w w' ∧ Own w' w.heap.size 47 1 A' (dig 18446744073709551616 (2 * nv 18446744073709551616 xs + bt)).length c' (vs .u64 (dig 18446744073709551616 (2 * nv 18446744073709551616 xs + bt)))) := by
  refine enter Try.func38 rfl (n := 37) Try.ntmps38 (by simp) ?_
  intro a hF
  have HE : Ex w w := Ex.refl w
  refine wp_seq_k (fun K1 hK2 => ?_)
  refine wp_region_lit ?_
  refine pures_end hT 1 _ hF (F' := [(4, .slice none 0 0), (0, .slice A n c), (1, .int .u64 ((bt : Nat) : Int))]) (cs := []) (by kernel_rfl) rfl trivial ?_
  intro a3 hF4; clear hF a
  refine hK2 _ _ ?_
  refine wp_seq_k (fun K5 hK6 => ?_)
  refine wp_region_lit ?_
  refine pures hT 3 _ hF4 (F' := [(9, .int .i64 (((n + 1) : Nat) : Int)), (8, .int .i64 ((n : Nat) : Int)), (7, .slice A n c), (4, .slice none 0 0), (0, .slice A n c), (1, .int .u64 ((bt : Nat) : Int))]) (cs := [-9223372036854775808 ≤ (((n + 1) : Nat) : Int), (((n + 1) : Nat) : Int) ≤ 9223372036854775807]) (by kernel_rfl) (And.intro (by omega) (And.intro (by omega) trivial)) ?_
  intro a7 hF8; clear hF4 a3
  have hz13 := HE.size
  refine wl (s_make hT (d := 10) (T := 47) (m := (n + 1)) (i := tr47) (by kernel_rfl) (by intro t x y h; cases h; rfl) hF8 (by show (n + 1) * 8 ≤ 281474976710656; omega) (by simp only [maxLen]; omega) ?_)
  rintro a14 w9 A12 HO11 g10 ha16 hF15; clear ha16 hF8 a7
  replace HO11 : Own w9 w.heap.size 47 1 A12 (n + 1) (n + 1) (vs .u64 (List.replicate (n + 1) 0)) := (made_vs HO11 rfl rfl)
  replace HE := HE.thenN g10
  refine pures_end hT 1 _ hF15 (F' := [(5, .slice A12 (n + 1) (n + 1)), (10, .slice A12 (n + 1) (n + 1)), (9, .int .i64 (((n + 1) : Nat) : Int)), (8, .int .i64 ((n : Nat) : Int)), (7, .slice A n c), (4, .slice none 0 0), (0, .slice A n c), (1, .int .u64 ((bt : Nat) : Int))]) (cs := []) (by kernel_rfl) rfl trivial ?_
  intro a17 hF18; clear hF15 a14
  have hF19 := hF18.pick [5, 4, 0, 1] (G := [(5, .slice A12 (n + 1) (n + 1)), (4, .slice none 0 0), (0, .slice A n c), (1, .int .u64 ((bt : Nat) : Int))]) (by kernel_rfl); clear hF18
  refine hK6 _ _ ?_
  refine wp_seq_k (fun K20 hK21 => ?_)
  obtain ⟨b22, hb23x, hb23, HBz⟩ := Own.blk HO11 (by omega)
  subst hb23x; clear HO11
  have hb23l := HBz.lt
  refine wp_region_lit ?_
  refine pures hT 2 _ hF19 (F' := [(12, .slice A n c), (11, .slice (some ⟨b22, 0, none⟩) (n + 1) (n + 1)), (5, .slice (some ⟨b22, 0, none⟩) (n + 1) (n + 1)), (4, .slice none 0 0), (0, .slice A n c), (1, .int .u64 ((bt : Nat) : Int))]) (cs := []) (by kernel_rfl) trivial ?_
  intro a24 hF25; clear hF19 a17
  refine wl (s_copy hT (d := 13) (b := b22) (off := 0) (m := (n + 1)) (A2 := A) (m2 := n) (cs := vs .u64 xs) (by kernel_rfl) hF25 HBz (hR.ex HE) (by rw [vs_length]; exact copy_n (by omega) (by omega)) (by simp only [vs_length, List.length_replicate]; omega) vs_one ?_)
  rintro a29 w26 HBzx g27 ha31 hF30; clear ha31 hF25 a24
  replace HBz : Blk w26 b22 47 (vs .u64 ((List.replicate (n + 1) 0).take 0 ++ xs ++ (List.replicate (n + 1) 0).drop (0 + xs.length))) := by have h := HBzx; rw [vs_take, ← vs_append, vs_length, vs_drop, ← vs_append] at h; exact h
  clear HBzx
  replace HE := HE.thenS g27 (by omega)
  refine wpList_nil ?_
  have hF32 := hF30.pick [5, 4, 0, 1] (G := [(5, .slice (some ⟨b22, 0, none⟩) (n + 1) (n + 1)), (4, .slice none 0 0), (0, .slice A n c), (1, .int .u64 ((bt : Nat) : Int))]) (by kernel_rfl); clear hF30
  refine hK21 _ _ ?_
  refine wp_seq_k (fun K33 hK34 => ?_)
  refine wp_seq_k (fun K35 hK36 => ?_)
  refine wp_region_lit ?_
  refine pures_end hT 3 _ hF32 (F' := [(16, .int .i64 0), (15, .int .i64 (((n + 1) : Nat) : Int)), (14, .slice (some ⟨b22, 0, none⟩) (n + 1) (n + 1)), (5, .slice (some ⟨b22, 0, none⟩) (n + 1) (n + 1)), (4, .slice none 0 0), (0, .slice A n c), (1, .int .u64 ((bt : Nat) : Int))]) (cs := []) (by kernel_rfl) rfl trivial ?_
  intro a37 hF38; clear hF32 a29
  have hF39 := hF38.pick [16, 15, 5, 4, 0, 1] (G := [(16, .int .i64 0), (15, .int .i64 (((n + 1) : Nat) : Int)), (5, .slice (some ⟨b22, 0, none⟩) (n + 1) (n + 1)), (4, .slice none 0 0), (0, .slice A n c), (1, .int .u64 ((bt : Nat) : Int))]) (by kernel_rfl); clear hF38
  refine hK36 _ _ ?_
  refine wp_block ?_
  refine loopK (fun mm_ a W => ∃ (k : Nat), ∃ (zs : List Nat), ∃ (cy : Nat), (n + 1 - k) = mm_ ∧ (Fr 37 a [(1, .int .u64 ((cy : Nat) : Int)), (5, .slice (some ⟨b22, 0, none⟩) (n + 1) (n + 1)), (15, .int .i64 (((n + 1) : Nat) : Int)), (16, .int .i64 ((k : Nat) : Int))]) ∧ (Ex w W) ∧ (Blk W b22 47 (vs .u64 zs)) ∧ (k ≤ n + 1) ∧ (zs.length = n + 1) ∧ (∀ x, x ∈ zs → x < 18446744073709551616) ∧ (cy ≤ 1) ∧ (∀ j, k ≤ j → zs.getD j 0 = xs.getD j 0) ∧ (nv 18446744073709551616 (zs.take k) + cy * 18446744073709551616 ^ k = 2 * nv 18446744073709551616 (xs.take k) + bt)) _ ⟨0, _, bt, rfl, hF39.pick [1, 5, 15, 16] (by kernel_rfl), HE, HBz, (by omega), (by simp; omega), (dbl_init_lt hn hx), hb, (fun j _ => dbl_init hn j), (by simp)⟩ ?_
  clear hF39 HE HBz
  rintro mm_ a40 w41 ⟨k, zs, cy, rfl, hF44, HE, HBz, hk, hzl, hzb, hcy, hsame, hv⟩ K42 hK43
  refine wp_seq_k (fun K45 hK46 => ?_)
  refine wp_region_lit ?_
  refine pures_end hT 1 _ hF44 (F' := [(17, .bool ((decide (((k : Nat) : Int) < (((n + 1) : Nat) : Int))))), (1, .int .u64 ((cy : Nat) : Int)), (5, .slice (some ⟨b22, 0, none⟩) (n + 1) (n + 1)), (15, .int .i64 (((n + 1) : Nat) : Int)), (16, .int .i64 ((k : Nat) : Int))]) (cs := []) (by kernel_rfl) rfl trivial ?_
  intro a47 hF48; clear hF44 a40
  refine hK46 _ _ ?_
  refine wp_seq_k (fun K49 hK50 => ?_)
  refine condK hF48 (p := ((k : Nat) : Int) < (((n + 1) : Nat) : Int)) (by kernel_rfl) (fun h51 => ?_) (fun h51 => ?_)
  · -- h51
    refine wp_skip ?_
    refine hK50 _ _ ?_
    refine wp_seq_k (fun K52 hK53 => ?_)
    refine wp_block ?_
    refine wp_seq_k (fun K54 hK55 => ?_)
    refine wp_region_lit ?_
    refine pures_end hT 2 _ hF48 (F' := [(6, .int .i64 ((k : Nat) : Int)), (18, .int .i64 ((k : Nat) : Int)), (17, .bool ((decide (((k : Nat) : Int) < (((n + 1) : Nat) : Int))))), (1, .int .u64 ((cy : Nat) : Int)), (5, .slice (some ⟨b22, 0, none⟩) (n + 1) (n + 1)), (15, .int .i64 (((n + 1) : Nat) : Int)), (16, .int .i64 ((k : Nat) : Int))]) (cs := []) (by kernel_rfl) rfl trivial ?_
    intro a56 hF57; clear hF48 a47
    have hF58 := hF57.pick [6, 17, 1, 5, 15, 16] (G := [(6, .int .i64 ((k : Nat) : Int)), (17, .bool ((decide (((k : Nat) : Int) < (((n + 1) : Nat) : Int))))), (1, .int .u64 ((cy : Nat) : Int)), (5, .slice (some ⟨b22, 0, none⟩) (n + 1) (n + 1)), (15, .int .i64 (((n + 1) : Nat) : Int)), (16, .int .i64 ((k : Nat) : Int))]) (by kernel_rfl); clear hF57
    refine hK55 _ _ ?_
    let SL_ : List SP := [SP.val (.slice (some ⟨b22, 0, none⟩) (n + 1) (n + 1)), SP.val (.int .i64 ((k : Nat) : Int)), SP.val (.slice (some ⟨b22, 0, none⟩) (n + 1) (n + 1)), SP.val (.int .i64 ((k : Nat) : Int)), SP.val (.pointer (some ⟨b22, (0 + k), none⟩)), SP.val (.int .u64 (((zs.getD k 0) : Nat) : Int)), SP.val (.int .u64 ((((zs.getD k 0) * 2 ^ 1 % 18446744073709551616) : Nat) : Int)), SP.val (.int .u64 ((cy : Nat) : Int)), SP.val (.int .u64 (((((zs.getD k 0) * 2 ^ 1 % 18446744073709551616) ||| cy) : Nat) : Int)), SP.val (.slice (some ⟨b22, 0, none⟩) (n + 1) (n + 1)), SP.val (.int .i64 ((k : Nat) : Int)), SP.val (.pointer (some ⟨b22, (0 + k), none⟩)), SP.val (.int .u64 (((zs.getD k 0) : Nat) : Int)), SP.val (.int .u64 ((((zs.getD k 0) / 2 ^ 63) : Nat) : Int)), SP.val (.pointer (some ⟨b22, (0 + k), none⟩)), SP.any, SP.val (.int .u64 ((((zs.getD k 0) / 2 ^ 63) : Nat) : Int))]
    refine region_rel (SL := SL_) (J := (fun (b : Bool) (W : World) => (Ex w W) ∧ (match b with | true => Blk W b22 47 (vs .u64 (zs.set k (((zs.getD k 0) * 2 ^ 1 % 18446744073709551616) ||| cy))) | false => Blk W b22 47 (vs .u64 zs)))) (m := 15) (bm := (some b22)) wide (by kernel_rfl) (by kernel_rfl) hF58 rfl ?_ ?_ ⟨HE, HBz⟩ ⟨?_, ?_, ?_, ?_, ?_, ?_, ?_, ?_, ?_, ?_, ?_, ?_, ?_, ?_, ?_, ?_, ?_, trivial⟩ [(1, some 16), (6, none), (17, none), (5, none), (15, none), (16, none)] (by kernel_rfl) ?_
    · exact fun _ => spAt_det SL_ (by kernel_rfl)
    · intro b W W' hj g; cases b <;> exact ⟨hj.1.thenN g, hj.2.growN g⟩
    · -- operation 0
      rintro a60 w59 b62 KK68 hs64 hd65 hJ66 hb67 hr70 hK63
      have hr70x : RD SL_ a60 a56 w59 [(5, none)] := hr70 _ (by kernel_rfl)
      obtain ⟨q69, -⟩ := hr70x
      obtain rfl : b62 = false := by cases b62; rfl; exact absurd ((hb67 rfl).2 _ rfl) (by decide)
      obtain ⟨HE, HBz⟩ := hJ66
      have hF61 : Fr 37 a60 [(5, .slice (some ⟨b22, 0, none⟩) (n + 1) (n + 1))] := Fr.of hs64 hd65 ⟨(Fr.init hF58 q69 (by kernel_rfl)), trivial⟩
      refine s_pure hT (d := 19) (v := .slice (some ⟨b22, 0, none⟩) (n + 1) (n + 1)) (cs := []) (by kernel_rfl) (by kernel_rfl) trivial hF61 ?_
      rintro a2 ha2 hF2; rw [ha2]; exact hK63 _ _ rfl (grown_refl _ _)
    · -- operation 1
      rintro a72 w71 b74 KK80 hs76 hd77 hJ78 hb79 hr82 hK75
      have hr82x : RD SL_ a72 a56 w71 [(6, none)] := hr82 _ (by kernel_rfl)
      obtain ⟨q81, -⟩ := hr82x
      obtain rfl : b74 = false := by cases b74; rfl; exact absurd ((hb79 rfl).2 _ rfl) (by decide)
      obtain ⟨HE, HBz⟩ := hJ78
      have hF73 : Fr 37 a72 [(6, .int .i64 ((k : Nat) : Int))] := Fr.of hs76 hd77 ⟨(Fr.init hF58 q81 (by kernel_rfl)), trivial⟩
      refine s_pure hT (d := 20) (v := .int .i64 ((k : Nat) : Int)) (cs := []) (by kernel_rfl) (by kernel_rfl) trivial hF73 ?_
      rintro a2 ha2 hF2; rw [ha2]; exact hK75 _ _ rfl (grown_refl _ _)
    · -- operation 2
      rintro a84 w83 b86 KK92 hs88 hd89 hJ90 hb91 hr94 hK87
      have hr94x : RD SL_ a84 a56 w83 [(5, none)] := hr94 _ (by kernel_rfl)
      obtain ⟨q93, -⟩ := hr94x
      obtain rfl : b86 = false := by cases b86; rfl; exact absurd ((hb91 rfl).2 _ rfl) (by decide)
      obtain ⟨HE, HBz⟩ := hJ90
      have hF85 : Fr 37 a84 [(5, .slice (some ⟨b22, 0, none⟩) (n + 1) (n + 1))] := Fr.of hs88 hd89 ⟨(Fr.init hF58 q93 (by kernel_rfl)), trivial⟩
      refine s_pure hT (d := 21) (v := .slice (some ⟨b22, 0, none⟩) (n + 1) (n + 1)) (cs := []) (by kernel_rfl) (by kernel_rfl) trivial hF85 ?_
      rintro a2 ha2 hF2; rw [ha2]; exact hK87 _ _ rfl (grown_refl _ _)
    · -- operation 3
      rintro a96 w95 b98 KK104 hs100 hd101 hJ102 hb103 hr106 hK99
      have hr106x : RD SL_ a96 a56 w95 [(6, none)] := hr106 _ (by kernel_rfl)
      obtain ⟨q105, -⟩ := hr106x
      obtain rfl : b98 = false := by cases b98; rfl; exact absurd ((hb103 rfl).2 _ rfl) (by decide)
      obtain ⟨HE, HBz⟩ := hJ102
      have hF97 : Fr 37 a96 [(6, .int .i64 ((k : Nat) : Int))] := Fr.of hs100 hd101 ⟨(Fr.init hF58 q105 (by kernel_rfl)), trivial⟩
      refine s_pure hT (d := 22) (v := .int .i64 ((k : Nat) : Int)) (cs := []) (by kernel_rfl) (by kernel_rfl) trivial hF97 ?_
      rintro a2 ha2 hF2; rw [ha2]; exact hK99 _ _ rfl (grown_refl _ _)
    · -- operation 4
      rintro a108 w107 b110 KK116 hs112 hd113 hJ114 hb115 hr123 hK111
      have hr123x : RD SL_ a108 a56 w107 [(21, some 2), (22, some 3)] := hr123 _ (by kernel_rfl)
      obtain ⟨⟨v118, q117, s119⟩, ⟨v121, q120, s122⟩, -⟩ := hr123x
      obtain rfl : v118 = .slice (some ⟨b22, 0, none⟩) (n + 1) (n + 1) := s119
      obtain rfl : v121 = .int .i64 ((k : Nat) : Int) := s122
      obtain rfl : b110 = false := by cases b110; rfl; exact absurd ((hb115 rfl).2 _ rfl) (by decide)
      obtain ⟨HE, HBz⟩ := hJ114
      have hF109 : Fr 37 a108 [(21, .slice (some ⟨b22, 0, none⟩) (n + 1) (n + 1)), (22, .int .i64 ((k : Nat) : Int))] := Fr.of hs112 hd113 ⟨q117, q120, trivial⟩
      refine s_pure hT (d := 23) (v := .pointer (some ⟨b22, (0 + k), none⟩)) (cs := [0 ≤ ((k : Nat) : Int), ((k : Nat) : Int) < (((n + 1) : Nat) : Int), (some ⟨b22, 0, none⟩ : Option Addr) = some ⟨ablk (some ⟨b22, 0, none⟩), aoff (some ⟨b22, 0, none⟩), none⟩]) (by kernel_rfl) (by kernel_rfl) (And.intro (by omega) (And.intro (by omega) (And.intro rfl trivial))) hF109 ?_
      rintro a2 ha2 hF2; rw [ha2]; exact hK111 _ _ rfl (grown_refl _ _)
    · -- operation 5
      rintro a125 w124 b127 KK133 hs129 hd130 hJ131 hb132 hr137 hK128
      have hr137x : RD SL_ a125 a56 w124 [(23, some 4)] := hr137 _ (by kernel_rfl)
      obtain ⟨⟨v135, q134, s136⟩, -⟩ := hr137x
      obtain rfl : v135 = .pointer (some ⟨b22, (0 + k), none⟩) := s136
      obtain rfl : b127 = false := by cases b127; rfl; exact absurd ((hb132 rfl).2 _ rfl) (by decide)
      obtain ⟨HE, HBz⟩ := hJ131
      have hF126 : Fr 37 a125 [(23, .pointer (some ⟨b22, (0 + k), none⟩))] := Fr.of hs129 hd130 ⟨q134, trivial⟩
      refine s_load hT (d := 24) (A := ⟨b22, (0 + k), none⟩) (by kernel_rfl) hF126 (HBz.cells.at (vs_get .u64 zs (i := k) (by omega)) (by first | rfl | omega)) ?_
      rintro a138 ha140 hF139
      rw [ha140]; exact hK128 _ _ rfl (grown_refl _ _)
    · -- operation 6
      rintro a142 w141 b144 KK150 hs146 hd147 hJ148 hb149 hr154 hK145
      have hr154x : RD SL_ a142 a56 w141 [(24, some 5)] := hr154 _ (by kernel_rfl)
      obtain ⟨⟨v152, q151, s153⟩, -⟩ := hr154x
      obtain rfl : v152 = .int .u64 (((zs.getD k 0) : Nat) : Int) := s153
      obtain rfl : b144 = false := by cases b144; rfl; exact absurd ((hb149 rfl).2 _ rfl) (by decide)
      obtain ⟨HE, HBz⟩ := hJ148
      have hF143 : Fr 37 a142 [(24, .int .u64 (((zs.getD k 0) : Nat) : Int))] := Fr.of hs146 hd147 ⟨q151, trivial⟩
      refine s_pure hT (d := 25) (v := .int .u64 ((((zs.getD k 0) * 2 ^ 1 % 18446744073709551616) : Nat) : Int)) (cs := []) (by kernel_rfl) (by kernel_rfl) trivial hF143 ?_
      rintro a2 ha2 hF2; rw [ha2]; exact hK145 _ _ rfl (grown_refl _ _)
    · -- operation 7
      rintro a156 w155 b158 KK164 hs160 hd161 hJ162 hb163 hr166 hK159
      have hr166x : RD SL_ a156 a56 w155 [(1, none)] := hr166 _ (by kernel_rfl)
      obtain ⟨q165, -⟩ := hr166x
      obtain rfl : b158 = false := by cases b158; rfl; exact absurd ((hb163 rfl).2 _ rfl) (by decide)
      obtain ⟨HE, HBz⟩ := hJ162
      have hF157 : Fr 37 a156 [(1, .int .u64 ((cy : Nat) : Int))] := Fr.of hs160 hd161 ⟨(Fr.init hF58 q165 (by kernel_rfl)), trivial⟩
      refine s_pure hT (d := 26) (v := .int .u64 ((cy : Nat) : Int)) (cs := []) (by kernel_rfl) (by kernel_rfl) trivial hF157 ?_
      rintro a2 ha2 hF2; rw [ha2]; exact hK159 _ _ rfl (grown_refl _ _)
    · -- operation 8
      rintro a168 w167 b170 KK176 hs172 hd173 hJ174 hb175 hr183 hK171
      have hr183x : RD SL_ a168 a56 w167 [(25, some 6), (26, some 7)] := hr183 _ (by kernel_rfl)
      obtain ⟨⟨v178, q177, s179⟩, ⟨v181, q180, s182⟩, -⟩ := hr183x
      obtain rfl : v178 = .int .u64 ((((zs.getD k 0) * 2 ^ 1 % 18446744073709551616) : Nat) : Int) := s179
      obtain rfl : v181 = .int .u64 ((cy : Nat) : Int) := s182
      obtain rfl : b170 = false := by cases b170; rfl; exact absurd ((hb175 rfl).2 _ rfl) (by decide)
      obtain ⟨HE, HBz⟩ := hJ174
      have hF169 : Fr 37 a168 [(25, .int .u64 ((((zs.getD k 0) * 2 ^ 1 % 18446744073709551616) : Nat) : Int)), (26, .int .u64 ((cy : Nat) : Int))] := Fr.of hs172 hd173 ⟨q177, q180, trivial⟩
      refine s_pure hT (d := 27) (v := .int .u64 (((((zs.getD k 0) * 2 ^ 1 % 18446744073709551616) ||| cy) : Nat) : Int)) (cs := [((zs.getD k 0) * 2 ^ 1 % 18446744073709551616) < 18446744073709551616, cy < 18446744073709551616]) (by kernel_rfl) (by kernel_rfl) (And.intro (Nat.mod_lt _ (by decide)) (And.intro (by omega) trivial)) hF169 ?_
      rintro a2 ha2 hF2; rw [ha2]; exact hK171 _ _ rfl (grown_refl _ _)
    · -- operation 9
      rintro a185 w184 b187 KK193 hs189 hd190 hJ191 hb192 hr195 hK188
      have hr195x : RD SL_ a185 a56 w184 [(5, none)] := hr195 _ (by kernel_rfl)
      obtain ⟨q194, -⟩ := hr195x
      obtain ⟨HE, HBz⟩ := hJ191
      have hF186 : Fr 37 a185 [(5, .slice (some ⟨b22, 0, none⟩) (n + 1) (n + 1))] := Fr.of hs189 hd190 ⟨(Fr.init hF58 q194 (by kernel_rfl)), trivial⟩
      refine s_pure hT (d := 28) (v := .slice (some ⟨b22, 0, none⟩) (n + 1) (n + 1)) (cs := []) (by kernel_rfl) (by kernel_rfl) trivial hF186 ?_
      rintro a2 ha2 hF2; rw [ha2]; exact hK188 _ _ rfl (grown_refl _ _)
    · -- operation 10
      rintro a197 w196 b199 KK205 hs201 hd202 hJ203 hb204 hr207 hK200
      have hr207x : RD SL_ a197 a56 w196 [(6, none)] := hr207 _ (by kernel_rfl)
      obtain ⟨q206, -⟩ := hr207x
      obtain ⟨HE, HBz⟩ := hJ203
      have hF198 : Fr 37 a197 [(6, .int .i64 ((k : Nat) : Int))] := Fr.of hs201 hd202 ⟨(Fr.init hF58 q206 (by kernel_rfl)), trivial⟩
      refine s_pure hT (d := 29) (v := .int .i64 ((k : Nat) : Int)) (cs := []) (by kernel_rfl) (by kernel_rfl) trivial hF198 ?_
      rintro a2 ha2 hF2; rw [ha2]; exact hK200 _ _ rfl (grown_refl _ _)
    · -- operation 11
      rintro a209 w208 b211 KK217 hs213 hd214 hJ215 hb216 hr224 hK212
      have hr224x : RD SL_ a209 a56 w208 [(28, some 9), (29, some 10)] := hr224 _ (by kernel_rfl)
      obtain ⟨⟨v219, q218, s220⟩, ⟨v222, q221, s223⟩, -⟩ := hr224x
      obtain rfl : v219 = .slice (some ⟨b22, 0, none⟩) (n + 1) (n + 1) := s220
      obtain rfl : v222 = .int .i64 ((k : Nat) : Int) := s223
      obtain ⟨HE, HBz⟩ := hJ215
      have hF210 : Fr 37 a209 [(28, .slice (some ⟨b22, 0, none⟩) (n + 1) (n + 1)), (29, .int .i64 ((k : Nat) : Int))] := Fr.of hs213 hd214 ⟨q218, q221, trivial⟩
      refine s_pure hT (d := 30) (v := .pointer (some ⟨b22, (0 + k), none⟩)) (cs := [0 ≤ ((k : Nat) : Int), ((k : Nat) : Int) < (((n + 1) : Nat) : Int), (some ⟨b22, 0, none⟩ : Option Addr) = some ⟨ablk (some ⟨b22, 0, none⟩), aoff (some ⟨b22, 0, none⟩), none⟩]) (by kernel_rfl) (by kernel_rfl) (And.intro (by omega) (And.intro (by omega) (And.intro rfl trivial))) hF210 ?_
      rintro a2 ha2 hF2; rw [ha2]; exact hK212 _ _ rfl (grown_refl _ _)
    · -- operation 12
      rintro a226 w225 b228 KK234 hs230 hd231 hJ232 hb233 hr238 hK229
      have hr238x : RD SL_ a226 a56 w225 [(30, some 11)] := hr238 _ (by kernel_rfl)
      obtain ⟨⟨v236, q235, s237⟩, -⟩ := hr238x
      obtain rfl : v236 = .pointer (some ⟨b22, (0 + k), none⟩) := s237
      obtain rfl : b228 = false := by cases b228; rfl; exact absurd ((hb233 rfl).2 _ rfl) (by decide)
      obtain ⟨HE, HBz⟩ := hJ232
      have hF227 : Fr 37 a226 [(30, .pointer (some ⟨b22, (0 + k), none⟩))] := Fr.of hs230 hd231 ⟨q235, trivial⟩
      refine s_load hT (d := 31) (A := ⟨b22, (0 + k), none⟩) (by kernel_rfl) hF227 (HBz.cells.at (vs_get .u64 zs (i := k) (by omega)) (by first | rfl | omega)) ?_
      rintro a239 ha241 hF240
      rw [ha241]; exact hK229 _ _ rfl (grown_refl _ _)
    · -- operation 13
      rintro a243 w242 b245 KK251 hs247 hd248 hJ249 hb250 hr255 hK246
      have hr255x : RD SL_ a243 a56 w242 [(31, some 12)] := hr255 _ (by kernel_rfl)
      obtain ⟨⟨v253, q252, s254⟩, -⟩ := hr255x
      obtain rfl : v253 = .int .u64 (((zs.getD k 0) : Nat) : Int) := s254
      obtain ⟨HE, HBz⟩ := hJ249
      have hF244 : Fr 37 a243 [(31, .int .u64 (((zs.getD k 0) : Nat) : Int))] := Fr.of hs247 hd248 ⟨q252, trivial⟩
      refine s_pure hT (d := 32) (v := .int .u64 ((((zs.getD k 0) / 2 ^ 63) : Nat) : Int)) (cs := [(zs.getD k 0) < 18446744073709551616]) (by kernel_rfl) (by kernel_rfl) (And.intro (getD_lt (by decide) hzb _) trivial) hF244 ?_
      rintro a2 ha2 hF2; rw [ha2]; exact hK246 _ _ rfl (grown_refl _ _)
    · -- operation 14
      rintro a257 w256 b259 KK265 hs261 hd262 hJ263 hb264 hr272 hK260
      have hr272x : RD SL_ a257 a56 w256 [(19, some 0), (20, some 1)] := hr272 _ (by kernel_rfl)
      obtain ⟨⟨v267, q266, s268⟩, ⟨v270, q269, s271⟩, -⟩ := hr272x
      obtain rfl : v267 = .slice (some ⟨b22, 0, none⟩) (n + 1) (n + 1) := s268
      obtain rfl : v270 = .int .i64 ((k : Nat) : Int) := s271
      obtain rfl : b259 = false := by cases b259; rfl; exact absurd ((hb264 rfl).2 _ rfl) (by decide)
      obtain ⟨HE, HBz⟩ := hJ263
      have hF258 : Fr 37 a257 [(19, .slice (some ⟨b22, 0, none⟩) (n + 1) (n + 1)), (20, .int .i64 ((k : Nat) : Int))] := Fr.of hs261 hd262 ⟨q266, q269, trivial⟩
      refine s_pure hT (d := 33) (v := .pointer (some ⟨b22, (0 + k), none⟩)) (cs := [0 ≤ ((k : Nat) : Int), ((k : Nat) : Int) < (((n + 1) : Nat) : Int), (some ⟨b22, 0, none⟩ : Option Addr) = some ⟨ablk (some ⟨b22, 0, none⟩), aoff (some ⟨b22, 0, none⟩), none⟩]) (by kernel_rfl) (by kernel_rfl) (And.intro (by omega) (And.intro (by omega) (And.intro rfl trivial))) hF258 ?_
      rintro a2 ha2 hF2; rw [ha2]; exact hK260 _ _ rfl (grown_refl _ _)
    · -- operation 15
      rintro a274 w273 b276 KK282 hs278 hd279 hJ280 hb281 hr289 hK277
      have hr289x : RD SL_ a274 a56 w273 [(33, some 14), (27, some 8)] := hr289 _ (by kernel_rfl)
      obtain ⟨⟨v284, q283, s285⟩, ⟨v287, q286, s288⟩, -⟩ := hr289x
      obtain rfl : v284 = .pointer (some ⟨b22, (0 + k), none⟩) := s285
      obtain rfl : v287 = .int .u64 (((((zs.getD k 0) * 2 ^ 1 % 18446744073709551616) ||| cy) : Nat) : Int) := s288
      obtain rfl : b276 = false := by cases b276; rfl; exact absurd rfl (hb281 rfl).1
      obtain ⟨HE, HBz⟩ := hJ280
      have hF275 : Fr 37 a274 [(33, .pointer (some ⟨b22, (0 + k), none⟩)), (27, .int .u64 (((((zs.getD k 0) * 2 ^ 1 % 18446744073709551616) ||| cy) : Nat) : Int))] := Fr.of hs278 hd279 ⟨q283, q286, trivial⟩
      refine s_store hT (b := b22) (off := k) (p := ⟨b22, (0 + k), none⟩) (v := .int .u64 (((((zs.getD k 0) * 2 ^ 1 % 18446744073709551616) ||| cy) : Nat) : Int)) (by kernel_rfl) hF275 HBz (by first | rfl | (congr 1; omega)) (by (first | (simp only [vs_length, vi_length]; omega) | (simp; omega) | omega)) ?_
      rintro a292 w290 ha294 hF293 HBzx g291; replace HBz := HBzx
      rw [vs_set] at HBz
      replace HE := HE.thenS g291 (by omega)
      rw [ha294]; exact hK277 undef _ trivial ⟨g291, ⟨HE, HBz⟩⟩
    · -- operation 16
      rintro a296 w295 b298 KK304 hs300 hd301 hJ302 hb303 hr308 hK299
      have hr308x : RD SL_ a296 a56 w295 [(32, some 13)] := hr308 _ (by kernel_rfl)
      obtain ⟨⟨v306, q305, s307⟩, -⟩ := hr308x
      obtain rfl : v306 = .int .u64 ((((zs.getD k 0) / 2 ^ 63) : Nat) : Int) := s307
      obtain ⟨HE, HBz⟩ := hJ302
      have hF297 : Fr 37 a296 [(32, .int .u64 ((((zs.getD k 0) / 2 ^ 63) : Nat) : Int))] := Fr.of hs300 hd301 ⟨q305, trivial⟩
      refine s_pure hT (d := 1) (v := .int .u64 ((((zs.getD k 0) / 2 ^ 63) : Nat) : Int)) (cs := []) (by kernel_rfl) (by kernel_rfl) trivial hF297 ?_
      rintro a2 ha2 hF2; rw [ha2]; exact hK299 _ _ rfl (grown_refl _ _)
    · -- behind the region
      rintro a310 w311 hs312 hd313 ⟨⟨v315, q316, s317⟩, q318, q319, q320, q321, q322, -⟩ ⟨HE, HBz⟩
      obtain rfl : v315 = .int .u64 ((((zs.getD k 0) / 2 ^ 63) : Nat) : Int) := s317
      replace HBz : Blk w311 b22 47 (vs .u64 (zs.set k (((zs.getD k 0) * 2 ^ 1 % 18446744073709551616) ||| cy))) := HBz
      have hF323 : Fr 37 a310 [(1, .int .u64 ((((zs.getD k 0) / 2 ^ 63) : Nat) : Int)), (6, .int .i64 ((k : Nat) : Int)), (17, .bool ((decide (((k : Nat) : Int) < (((n + 1) : Nat) : Int))))), (5, .slice (some ⟨b22, 0, none⟩) (n + 1) (n + 1)), (15, .int .i64 (((n + 1) : Nat) : Int)), (16, .int .i64 ((k : Nat) : Int))] := Fr.of hs312 hd313 ⟨q316, (Fr.init hF58 q318 (by kernel_rfl)), (Fr.init hF58 q319 (by kernel_rfl)), (Fr.init hF58 q320 (by kernel_rfl)), (Fr.init hF58 q321 (by kernel_rfl)), (Fr.init hF58 q322 (by kernel_rfl)), trivial⟩
      clear hF58 hs312 hd313 q316 q318 q319 q320 q321 q322
      refine hK53 _ _ ?_
      refine wp_region_lit ?_
      refine pures_end hT 2 _ hF323 (F' := [(16, .int .i64 (((k + 1) : Nat) : Int)), (34, .int .i64 (((k + 1) : Nat) : Int)), (1, .int .u64 ((((zs.getD k 0) / 2 ^ 63) : Nat) : Int)), (6, .int .i64 ((k : Nat) : Int)), (17, .bool ((decide (((k : Nat) : Int) < (((n + 1) : Nat) : Int))))), (5, .slice (some ⟨b22, 0, none⟩) (n + 1) (n + 1)), (15, .int .i64 (((n + 1) : Nat) : Int)), (16, .int .i64 ((k : Nat) : Int))]) (cs := [-9223372036854775808 ≤ (((k + 1) : Nat) : Int), (((k + 1) : Nat) : Int) ≤ 9223372036854775807]) (by kernel_rfl) rfl (And.intro (by omega) (And.intro (by omega) trivial)) ?_
      intro a324 hF325; clear hF323 a310
      have hF326 := hF325.pick [16, 1, 6, 17, 5, 15] (G := [(16, .int .i64 (((k + 1) : Nat) : Int)), (1, .int .u64 ((((zs.getD k 0) / 2 ^ 63) : Nat) : Int)), (6, .int .i64 ((k : Nat) : Int)), (17, .bool ((decide (((k : Nat) : Int) < (((n + 1) : Nat) : Int))))), (5, .slice (some ⟨b22, 0, none⟩) (n + 1) (n + 1)), (15, .int .i64 (((n + 1) : Nat) : Int))]) (by kernel_rfl); clear hF325
      refine hK43 _ _ _ (by omega) ⟨(k + 1), (zs.set k (((zs.getD k 0) * 2 ^ 1 % 18446744073709551616) ||| cy)), ((zs.getD k 0) / 2 ^ 63), rfl, hF326.pick [1, 5, 15, 16] (by kernel_rfl), HE, HBz, (by omega), (by simpa using hzl), (set_lt hzb (by rw [dbl_or hcy]; exact Nat.mod_lt _ (by decide)) _), (by have := getD_lt (by decide) hzb k; omega), (fun j hj => by rw [getD_set _ _ _ _ (by omega), if_neg (by omega)]; exact hsame j (by omega)), (by rw [dbl_or hcy, dbl_carry (getD_lt (by decide) hzb k) hcy, hsame k (Nat.le_refl k)]; exact dbl_step (by omega) (hsame k (Nat.le_refl k)) hv)⟩
  · -- h51
    refine wp_exit ?_
    refine hK34 _ _ ?_
    refine wp_seq_k (fun K327 hK328 => ?_)
    refine wp_region_lit ?_
    refine pures hT 1 _ hF48 (F' := [(35, .slice (some ⟨b22, 0, none⟩) (n + 1) (n + 1)), (17, .bool ((decide (((k : Nat) : Int) < (((n + 1) : Nat) : Int))))), (1, .int .u64 ((cy : Nat) : Int)), (5, .slice (some ⟨b22, 0, none⟩) (n + 1) (n + 1)), (15, .int .i64 (((n + 1) : Nat) : Int)), (16, .int .i64 ((k : Nat) : Int))]) (cs := []) (by kernel_rfl) trivial ?_
    intro a329 hF330; clear hF48 a47
    have hz334 := HE.size
    have hz335 := HBz.lt
    refine wl (s_call (d := 36) (f := 48) (l := [.slice (some ⟨b22, 0, none⟩) (n + 1) (n + 1)]) (by kernel_rfl) hF330 cl48 (nums_trim (some ⟨b22, 0, none⟩) (n + 1) (n + 1) zs _ (by first | assumption | omega | simp | decide) HBz.rd (by first | assumption | omega | simp | decide) (by first | assumption | omega | simp | decide)) ?_)
    rintro a336 w331 v332 ⟨rfl, HX333⟩ ha338 hF337; clear ha338 hF330 a329
    replace HE := HE.thenN HX333.g
    replace HBz := HBz.growN HX333.g
    refine pures_end hT 1 _ hF337 (F' := [(4, .slice (some ⟨b22, 0, none⟩) (tlen zs) (n + 1)), (36, .slice (some ⟨b22, 0, none⟩) (tlen zs) (n + 1)), (35, .slice (some ⟨b22, 0, none⟩) (n + 1) (n + 1)), (17, .bool ((decide (((k : Nat) : Int) < (((n + 1) : Nat) : Int))))), (1, .int .u64 ((cy : Nat) : Int)), (5, .slice (some ⟨b22, 0, none⟩) (n + 1) (n + 1)), (15, .int .i64 (((n + 1) : Nat) : Int)), (16, .int .i64 ((k : Nat) : Int))]) (cs := []) (by kernel_rfl) rfl trivial ?_
    intro a339 hF340; clear hF337 a336
    have hF341 := hF340.pick [4, 17, 1, 5, 15, 16] (G := [(4, .slice (some ⟨b22, 0, none⟩) (tlen zs) (n + 1)), (17, .bool ((decide (((k : Nat) : Int) < (((n + 1) : Nat) : Int))))), (1, .int .u64 ((cy : Nat) : Int)), (5, .slice (some ⟨b22, 0, none⟩) (n + 1) (n + 1)), (15, .int .i64 (((n + 1) : Nat) : Int)), (16, .int .i64 ((k : Nat) : Int))]) (by kernel_rfl); clear hF340
    refine hK328 _ _ ?_
    refine wp_ret ?_
    refine ret1 hF341 rfl (v := .slice (some ⟨b22, 0, none⟩) (tlen zs) (n + 1)) (by kernel_rfl) ?_
    have ht := trimL_dig (b := 18446744073709551616) (by decide) hzb
    rw [dbl_done hn hzl hx hb (show k = n + 1 from by omega) hv] at ht
    rw [← ht]
    have hO := Own.cut (HBz.own (B := w.heap.size) (by omega) (by simp only [vs_length, maxLen]; omega)) (m := tlen zs) (by simp only [vs_length]; exact tlen_le zs)
    rw [Nat.mul_one, vs_take] at hO
    simp only [vs_length, hzl] at hO
    exact ⟨_, _, by rw [trimL_length], HE, by rw [trimL_length]; exact hO⟩

end Go.Proofs.Ytdabkjflpbbpeaa
