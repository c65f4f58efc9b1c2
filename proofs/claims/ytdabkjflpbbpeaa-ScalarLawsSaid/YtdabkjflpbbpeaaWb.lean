/- Walks of functions of the program: lemmas. -/
import Derived.Test.YtdabkjflpbbpeaaWa
set_option maxRecDepth 100000
set_option linter.unusedVariables false
set_option linter.unusedSimpArgs false
namespace Go.Proofs.Ytdabkjflpbbpeaa
open Go.Proofs Go.RowKit

theorem nums_Norm (A : Option Addr) (n c : Nat) (xs : List Nat) (w : World) (hn : xs.length = n) (hR : Rd w A (vs .u8 xs)) (hbx : By xs) (hl : n ≤ 1048576) :
    Calls Try.prog 19 [.slice A n c].toArray w (Ret fun v w' => ∃ A' c', v = .slice A' (dig 256 (nv 256 xs)).length c' ∧ Ex w w' ∧ Own w' w.heap.size 5 1 A' (dig 256 (nv 256 xs)).length c' (vs .u8 (dig 256 (nv 256 xs)))) := by
  have hX := dig_lt (b := 18446744073709551616) (by decide) (nv 256 xs)
  have hXl := read_len hbx hn hl
  refine enter Try.func19 rfl (n := 6) Try.ntmps19 (by simp) ?_
  intro a hF
  have HE : Ex w w := Ex.refl w
  refine wp_seq_k (fun K1 hK2 => ?_)
  refine wp_region_lit ?_
  refine pures_end hT 1 _ hF (F' := [(2, .slice none 0 0), (0, .slice A n c)]) (cs := []) (by kernel_rfl) rfl trivial ?_
  intro a3 hF4; clear hF a
  refine hK2 _ _ ?_
  refine wp_seq_k (fun K5 hK6 => ?_)
  refine wp_region_lit ?_
  refine pures hT 1 _ hF4 (F' := [(3, .slice A n c), (2, .slice none 0 0), (0, .slice A n c)]) (cs := []) (by kernel_rfl) trivial ?_
  intro a7 hF8; clear hF4 a3
  have hz15 := HE.size
  refine wl (s_call (d := 4) (f := 37) (l := [.slice A n c]) (by kernel_rfl) hF8 cl37 (nums_read A n c xs _ (by first | assumption | omega | simp | decide) hR (by first | assumption | omega | simp | decide) (by first | assumption | omega | simp | decide)) ?_)
  rintro a16 w12 v13 ⟨A9, c10, rfl, HX14, HO11⟩ ha18 hF17; clear ha18 hF8 a7
  replace HE := HE.thenN HX14.g
  have hcp19 := HO11.cap
  have hz26 := HE.size
  have hz27 := HO11.base
  refine wl (s_call (d := 5) (f := 41) (l := [.slice A9 ((dig 18446744073709551616 (nv 256 xs)).length) c10]) (by kernel_rfl) hF17 cl41 (nums_bytes A9 ((dig 18446744073709551616 (nv 256 xs)).length) c10 (dig 18446744073709551616 (nv 256 xs)) _ (by first | assumption | omega | simp | decide) HO11.rd (by first | assumption | omega | simp | decide) (by first | assumption | omega | simp | decide) (by first | assumption | omega | simp | decide)) ?_)
  rintro a28 w23 v24 ⟨A20, c21, rfl, HX25, HO22⟩ ha30 hF29; clear ha30 hF17 a16
  replace HE := HE.thenN HX25.g
  replace HO11 := HO11.growN HX25.g
  have hcp31 := HO22.cap
  refine pures_end hT 1 _ hF29 (F' := [(2, .slice A20 ((dig 256 (nv 18446744073709551616 (dig 18446744073709551616 (nv 256 xs)))).length) c21), (5, .slice A20 ((dig 256 (nv 18446744073709551616 (dig 18446744073709551616 (nv 256 xs)))).length) c21), (4, .slice A9 ((dig 18446744073709551616 (nv 256 xs)).length) c10), (3, .slice A n c), (2, .slice none 0 0), (0, .slice A n c)]) (cs := []) (by kernel_rfl) rfl trivial ?_
  intro a32 hF33; clear hF29 a28
  have hF34 := hF33.pick [2, 0] (G := [(2, .slice A20 ((dig 256 (nv 18446744073709551616 (dig 18446744073709551616 (nv 256 xs)))).length) c21), (0, .slice A n c)]) (by kernel_rfl); clear hF33
  refine hK6 _ _ ?_
  refine wp_ret ?_
  refine ret1 hF34 rfl (v := .slice A20 ((dig 256 (nv 18446744073709551616 (dig 18446744073709551616 (nv 256 xs)))).length) c21) (by kernel_rfl) ?_
  have hO := HO22
  rw [nv_dig (by decide)] at hO ⊢
  exact ⟨A20, c21, rfl, HE, hO.rebase (by omega)⟩

theorem nums_Cmp (A : Option Addr) (n c : Nat) (xs : List Nat) (A2 : Option Addr) (n2 c2 : Nat) (ys : List Nat) (w : World) (hn : xs.length = n) (hn2 : ys.length = n2) (hR : Rd w A (vs .u8 xs)) (hR2 : Rd w A2 (vs .u8 ys)) (hbx : By xs) (hby : By ys) (hl : n ≤ 1048576) (hl2 : n2 ≤ 1048576) :
    Calls Try.prog 16 [.slice A n c, .slice A2 n2 c2].toArray w (Ret fun v w' => v = .int .i64 (cmpI (nv 256 xs) (nv 256 ys)) ∧ Ex w w') := by
  have hX := dig_lt (b := 18446744073709551616) (by decide) (nv 256 xs)
  have hY := dig_lt (b := 18446744073709551616) (by decide) (nv 256 ys)
  have hXl := read_len hbx hn hl
  have hYl := read_len hby hn2 hl2
  refine enter Try.func16 rfl (n := 10) Try.ntmps16 (by simp) ?_
  intro a hF
  have HE : Ex w w := Ex.refl w
  refine wp_seq_k (fun K1 hK2 => ?_)
  refine wp_region_lit ?_
  refine pures_end hT 1 _ hF (F' := [(4, .int .i64 0), (0, .slice A n c), (1, .slice A2 n2 c2)]) (cs := []) (by kernel_rfl) rfl trivial ?_
  intro a3 hF4; clear hF a
  refine hK2 _ _ ?_
  refine wp_seq_k (fun K5 hK6 => ?_)
  refine wp_region_lit ?_
  refine pures hT 1 _ hF4 (F' := [(5, .slice A n c), (4, .int .i64 0), (0, .slice A n c), (1, .slice A2 n2 c2)]) (cs := []) (by kernel_rfl) trivial ?_
  intro a7 hF8; clear hF4 a3
  have hz15 := HE.size
  refine wl (s_call (d := 6) (f := 37) (l := [.slice A n c]) (by kernel_rfl) hF8 cl37 (nums_read A n c xs _ (by first | assumption | omega | simp | decide) hR (by first | assumption | omega | simp | decide) (by first | assumption | omega | simp | decide)) ?_)
  rintro a16 w12 v13 ⟨A9, c10, rfl, HX14, HO11⟩ ha18 hF17; clear ha18 hF8 a7
  replace HE := HE.thenN HX14.g
  have hcp19 := HO11.cap
  refine pures hT 1 _ hF17 (F' := [(7, .slice A2 n2 c2), (6, .slice A9 ((dig 18446744073709551616 (nv 256 xs)).length) c10), (5, .slice A n c), (4, .int .i64 0), (0, .slice A n c), (1, .slice A2 n2 c2)]) (cs := []) (by kernel_rfl) trivial ?_
  intro a20 hF21; clear hF17 a16
  have hz28 := HE.size
  have hz29 := HO11.base
  refine wl (s_call (d := 8) (f := 37) (l := [.slice A2 n2 c2]) (by kernel_rfl) hF21 cl37 (nums_read A2 n2 c2 ys _ (by first | assumption | omega | simp | decide) (hR2.ex HE) (by first | assumption | omega | simp | decide) (by first | assumption | omega | simp | decide)) ?_)
  rintro a30 w25 v26 ⟨A22, c23, rfl, HX27, HO24⟩ ha32 hF31; clear ha32 hF21 a20
  replace HE := HE.thenN HX27.g
  replace HO11 := HO11.growN HX27.g
  have hcp33 := HO24.cap
  have hz37 := HE.size
  have hz38 := HO11.base
  have hz39 := HO24.base
  refine wl (s_call (d := 9) (f := 39) (l := [.slice A9 ((dig 18446744073709551616 (nv 256 xs)).length) c10, .slice A22 ((dig 18446744073709551616 (nv 256 ys)).length) c23]) (by kernel_rfl) hF31 cl39 (nums_compare A9 ((dig 18446744073709551616 (nv 256 xs)).length) c10 (dig 18446744073709551616 (nv 256 xs)) A22 ((dig 18446744073709551616 (nv 256 ys)).length) c23 (dig 18446744073709551616 (nv 256 ys)) _ (by first | assumption | omega | simp | decide) (by first | assumption | omega | simp | decide) HO11.rd HO24.rd (by first | assumption | omega | simp | decide) (by first | assumption | omega | simp | decide) (by first | assumption | omega | simp | decide) (by first | assumption | omega | simp | decide)) ?_)
  rintro a40 w34 v35 ⟨rfl, HX36⟩ ha42 hF41; clear ha42 hF31 a30
  replace HE := HE.thenN HX36.g
  replace HO11 := HO11.growN HX36.g
  replace HO24 := HO24.growN HX36.g
  refine pures_end hT 1 _ hF41 (F' := [(4, .int .i64 (cmpI (nv 18446744073709551616 (dig 18446744073709551616 (nv 256 xs))) (nv 18446744073709551616 (dig 18446744073709551616 (nv 256 ys))))), (9, .int .i64 (cmpI (nv 18446744073709551616 (dig 18446744073709551616 (nv 256 xs))) (nv 18446744073709551616 (dig 18446744073709551616 (nv 256 ys))))), (8, .slice A22 ((dig 18446744073709551616 (nv 256 ys)).length) c23), (7, .slice A2 n2 c2), (6, .slice A9 ((dig 18446744073709551616 (nv 256 xs)).length) c10), (5, .slice A n c), (4, .int .i64 0), (0, .slice A n c), (1, .slice A2 n2 c2)]) (cs := []) (by kernel_rfl) rfl trivial ?_
  intro a43 hF44; clear hF41 a40
  have hF45 := hF44.pick [4, 0, 1] (G := [(4, .int .i64 (cmpI (nv 18446744073709551616 (dig 18446744073709551616 (nv 256 xs))) (nv 18446744073709551616 (dig 18446744073709551616 (nv 256 ys))))), (0, .slice A n c), (1, .slice A2 n2 c2)]) (by kernel_rfl); clear hF44
  refine hK6 _ _ ?_
  refine wp_ret ?_
  refine ret1 hF45 rfl (v := .int .i64 (cmpI (nv 18446744073709551616 (dig 18446744073709551616 (nv 256 xs))) (nv 18446744073709551616 (dig 18446744073709551616 (nv 256 ys))))) (by kernel_rfl) ?_
  exact ⟨by rw [nv_dig (by decide), nv_dig (by decide)], HE⟩

theorem nums_Add (A : Option Addr) (n c : Nat) (xs : List Nat) (A2 : Option Addr) (n2 c2 : Nat) (ys : List Nat) (w : World) (hn : xs.length = n) (hn2 : ys.length = n2) (hR : Rd w A (vs .u8 xs)) (hR2 : Rd w A2 (vs .u8 ys)) (hbx : By xs) (hby : By ys) (hl : n ≤ 1048576) (hl2 : n2 ≤ 1048576) :
    Calls Try.prog 17 [.slice A n c, .slice A2 n2 c2].toArray w (Ret fun v w' => ∃ A' c', v = .slice A' (dig 256 ((nv 256 xs) + (nv 256 ys))).length c' ∧ Ex w w' ∧ Own w' w.heap.size 5 1 A' (dig 256 ((nv 256 xs) + (nv 256 ys))).length c' (vs .u8 (dig 256 ((nv 256 xs) + (nv 256 ys))))) := by
  have hX := dig_lt (b := 18446744073709551616) (by decide) (nv 256 xs)
  have hY := dig_lt (b := 18446744073709551616) (by decide) (nv 256 ys)
  have hXl := read_len hbx hn hl
  have hYl := read_len hby hn2 hl2
  have hmx : Nat.max ((dig 18446744073709551616 (nv 256 xs))).length ((dig 18446744073709551616 (nv 256 ys))).length ≤ 1048576 := Nat.max_le.2 ⟨hXl, hYl⟩
  have hmx2 := max_ge (Nat.le_refl (Nat.max ((dig 18446744073709551616 (nv 256 xs))).length ((dig 18446744073709551616 (nv 256 ys))).length))
  refine enter Try.func17 rfl (n := 43) Try.ntmps17 (by simp) ?_
  intro a hF
  have HE : Ex w w := Ex.refl w
  refine wp_seq_k (fun K1 hK2 => ?_)
  refine wp_region_lit ?_
  refine pures_end hT 1 _ hF (F' := [(4, .slice none 0 0), (0, .slice A n c), (1, .slice A2 n2 c2)]) (cs := []) (by kernel_rfl) rfl trivial ?_
  intro a3 hF4; clear hF a
  refine hK2 _ _ ?_
  refine wp_seq_k (fun K5 hK6 => ?_)
  refine wp_region_lit ?_
  refine pures hT 1 _ hF4 (F' := [(10, .slice A n c), (4, .slice none 0 0), (0, .slice A n c), (1, .slice A2 n2 c2)]) (cs := []) (by kernel_rfl) trivial ?_
  intro a7 hF8; clear hF4 a3
  have hz15 := HE.size
  refine wl (s_call (d := 11) (f := 37) (l := [.slice A n c]) (by kernel_rfl) hF8 cl37 (nums_read A n c xs _ (by first | assumption | omega | simp | decide) hR (by first | assumption | omega | simp | decide) (by first | assumption | omega | simp | decide)) ?_)
  rintro a16 w12 v13 ⟨A9, c10, rfl, HX14, HO11⟩ ha18 hF17; clear ha18 hF8 a7
  replace HE := HE.thenN HX14.g
  have hcp19 := HO11.cap
  refine pures hT 1 _ hF17 (F' := [(12, .slice A2 n2 c2), (11, .slice A9 ((dig 18446744073709551616 (nv 256 xs)).length) c10), (10, .slice A n c), (4, .slice none 0 0), (0, .slice A n c), (1, .slice A2 n2 c2)]) (cs := []) (by kernel_rfl) trivial ?_
  intro a20 hF21; clear hF17 a16
  have hz28 := HE.size
  have hz29 := HO11.base
  refine wl (s_call (d := 13) (f := 37) (l := [.slice A2 n2 c2]) (by kernel_rfl) hF21 cl37 (nums_read A2 n2 c2 ys _ (by first | assumption | omega | simp | decide) (hR2.ex HE) (by first | assumption | omega | simp | decide) (by first | assumption | omega | simp | decide)) ?_)
  rintro a30 w25 v26 ⟨A22, c23, rfl, HX27, HO24⟩ ha32 hF31; clear ha32 hF21 a20
  replace HE := HE.thenN HX27.g
  replace HO11 := HO11.growN HX27.g
  have hcp33 := HO24.cap
  refine pures_end hT 2 _ hF31 (F' := [(6, .slice A22 ((dig 18446744073709551616 (nv 256 ys)).length) c23), (5, .slice A9 ((dig 18446744073709551616 (nv 256 xs)).length) c10), (13, .slice A22 ((dig 18446744073709551616 (nv 256 ys)).length) c23), (12, .slice A2 n2 c2), (11, .slice A9 ((dig 18446744073709551616 (nv 256 xs)).length) c10), (10, .slice A n c), (4, .slice none 0 0), (0, .slice A n c), (1, .slice A2 n2 c2)]) (cs := []) (by kernel_rfl) rfl trivial ?_
  intro a34 hF35; clear hF31 a30
  have hF36 := hF35.pick [6, 5, 4, 0, 1] (G := [(6, .slice A22 ((dig 18446744073709551616 (nv 256 ys)).length) c23), (5, .slice A9 ((dig 18446744073709551616 (nv 256 xs)).length) c10), (4, .slice none 0 0), (0, .slice A n c), (1, .slice A2 n2 c2)]) (by kernel_rfl); clear hF35
  refine hK6 _ _ ?_
  refine wp_seq_k (fun K37 hK38 => ?_)
  have HE2 : Ex w25 w25 := Ex.refl _
  have HR39 := HO11.rd
  have HR39b := HO11.base
  clear HO11
  have HR40 := HO24.rd
  have HR40b := HO24.base
  clear HO24
  refine wp_region_lit ?_
  refine pures hT 6 _ hF36 (F' := [(19, .int .i64 ((((Nat.max ((dig 18446744073709551616 (nv 256 xs)).length) ((dig 18446744073709551616 (nv 256 ys)).length)) + 1) : Nat) : Int)), (18, .int .i64 (((Nat.max ((dig 18446744073709551616 (nv 256 xs)).length) ((dig 18446744073709551616 (nv 256 ys)).length)) : Nat) : Int)), (17, .int .i64 (((dig 18446744073709551616 (nv 256 ys)).length : Nat) : Int)), (16, .slice A22 ((dig 18446744073709551616 (nv 256 ys)).length) c23), (15, .int .i64 (((dig 18446744073709551616 (nv 256 xs)).length : Nat) : Int)), (14, .slice A9 ((dig 18446744073709551616 (nv 256 xs)).length) c10), (6, .slice A22 ((dig 18446744073709551616 (nv 256 ys)).length) c23), (5, .slice A9 ((dig 18446744073709551616 (nv 256 xs)).length) c10), (4, .slice none 0 0), (0, .slice A n c), (1, .slice A2 n2 c2)]) (cs := [-9223372036854775808 ≤ ((((Nat.max ((dig 18446744073709551616 (nv 256 xs)).length) ((dig 18446744073709551616 (nv 256 ys)).length)) + 1) : Nat) : Int), ((((Nat.max ((dig 18446744073709551616 (nv 256 xs)).length) ((dig 18446744073709551616 (nv 256 ys)).length)) + 1) : Nat) : Int) ≤ 9223372036854775807]) (by kernel_rfl) (And.intro (by omega) (And.intro (by omega) trivial)) ?_
  intro a41 hF42; clear hF36 a34
  have hz47 := HE.size
  have hz48 := HE2.size
  refine wl (s_make hT (d := 20) (T := 47) (m := ((Nat.max ((dig 18446744073709551616 (nv 256 xs)).length) ((dig 18446744073709551616 (nv 256 ys)).length)) + 1)) (i := tr47) (by kernel_rfl) (by intro t x y h; cases h; rfl) hF42 (by show ((Nat.max ((dig 18446744073709551616 (nv 256 xs)).length) ((dig 18446744073709551616 (nv 256 ys)).length)) + 1) * 8 ≤ 281474976710656; omega) (by simp only [maxLen]; omega) ?_)
  rintro a49 w43 A46 HO45 g44 ha51 hF50; clear ha51 hF42 a41
  replace HO45 : Own w43 w25.heap.size 47 1 A46 ((Nat.max ((dig 18446744073709551616 (nv 256 xs)).length) ((dig 18446744073709551616 (nv 256 ys)).length)) + 1) ((Nat.max ((dig 18446744073709551616 (nv 256 xs)).length) ((dig 18446744073709551616 (nv 256 ys)).length)) + 1) (vs .u64 (List.replicate ((Nat.max ((dig 18446744073709551616 (nv 256 xs)).length) ((dig 18446744073709551616 (nv 256 ys)).length)) + 1) 0)) := (made_vs HO45 rfl rfl)
  replace HE := HE.thenN g44
  replace HE2 := HE2.thenN g44
  refine pures_end hT 1 _ hF50 (F' := [(7, .slice A46 ((Nat.max ((dig 18446744073709551616 (nv 256 xs)).length) ((dig 18446744073709551616 (nv 256 ys)).length)) + 1) ((Nat.max ((dig 18446744073709551616 (nv 256 xs)).length) ((dig 18446744073709551616 (nv 256 ys)).length)) + 1)), (20, .slice A46 ((Nat.max ((dig 18446744073709551616 (nv 256 xs)).length) ((dig 18446744073709551616 (nv 256 ys)).length)) + 1) ((Nat.max ((dig 18446744073709551616 (nv 256 xs)).length) ((dig 18446744073709551616 (nv 256 ys)).length)) + 1)), (19, .int .i64 ((((Nat.max ((dig 18446744073709551616 (nv 256 xs)).length) ((dig 18446744073709551616 (nv 256 ys)).length)) + 1) : Nat) : Int)), (18, .int .i64 (((Nat.max ((dig 18446744073709551616 (nv 256 xs)).length) ((dig 18446744073709551616 (nv 256 ys)).length)) : Nat) : Int)), (17, .int .i64 (((dig 18446744073709551616 (nv 256 ys)).length : Nat) : Int)), (16, .slice A22 ((dig 18446744073709551616 (nv 256 ys)).length) c23), (15, .int .i64 (((dig 18446744073709551616 (nv 256 xs)).length : Nat) : Int)), (14, .slice A9 ((dig 18446744073709551616 (nv 256 xs)).length) c10), (6, .slice A22 ((dig 18446744073709551616 (nv 256 ys)).length) c23), (5, .slice A9 ((dig 18446744073709551616 (nv 256 xs)).length) c10), (4, .slice none 0 0), (0, .slice A n c), (1, .slice A2 n2 c2)]) (cs := []) (by kernel_rfl) rfl trivial ?_
  intro a52 hF53; clear hF50 a49
  have hF54 := hF53.pick [7, 6, 5, 4, 0, 1] (G := [(7, .slice A46 ((Nat.max ((dig 18446744073709551616 (nv 256 xs)).length) ((dig 18446744073709551616 (nv 256 ys)).length)) + 1) ((Nat.max ((dig 18446744073709551616 (nv 256 xs)).length) ((dig 18446744073709551616 (nv 256 ys)).length)) + 1)), (6, .slice A22 ((dig 18446744073709551616 (nv 256 ys)).length) c23), (5, .slice A9 ((dig 18446744073709551616 (nv 256 xs)).length) c10), (4, .slice none 0 0), (0, .slice A n c), (1, .slice A2 n2 c2)]) (by kernel_rfl); clear hF53
  refine hK38 _ _ ?_
  refine wp_seq_k (fun K55 hK56 => ?_)
  refine wp_region_lit ?_
  refine pures_end hT 1 _ hF54 (F' := [(8, .int .u64 0), (7, .slice A46 ((Nat.max ((dig 18446744073709551616 (nv 256 xs)).length) ((dig 18446744073709551616 (nv 256 ys)).length)) + 1) ((Nat.max ((dig 18446744073709551616 (nv 256 xs)).length) ((dig 18446744073709551616 (nv 256 ys)).length)) + 1)), (6, .slice A22 ((dig 18446744073709551616 (nv 256 ys)).length) c23), (5, .slice A9 ((dig 18446744073709551616 (nv 256 xs)).length) c10), (4, .slice none 0 0), (0, .slice A n c), (1, .slice A2 n2 c2)]) (cs := []) (by kernel_rfl) rfl trivial ?_
  intro a57 hF58; clear hF54 a52
  refine hK56 _ _ ?_
  refine wp_seq_k (fun K59 hK60 => ?_)
  refine wp_seq_k (fun K61 hK62 => ?_)
  refine wp_region_lit ?_
  refine pures_end hT 3 _ hF58 (F' := [(23, .int .i64 0), (22, .int .i64 ((((Nat.max ((dig 18446744073709551616 (nv 256 xs)).length) ((dig 18446744073709551616 (nv 256 ys)).length)) + 1) : Nat) : Int)), (21, .slice A46 ((Nat.max ((dig 18446744073709551616 (nv 256 xs)).length) ((dig 18446744073709551616 (nv 256 ys)).length)) + 1) ((Nat.max ((dig 18446744073709551616 (nv 256 xs)).length) ((dig 18446744073709551616 (nv 256 ys)).length)) + 1)), (8, .int .u64 0), (7, .slice A46 ((Nat.max ((dig 18446744073709551616 (nv 256 xs)).length) ((dig 18446744073709551616 (nv 256 ys)).length)) + 1) ((Nat.max ((dig 18446744073709551616 (nv 256 xs)).length) ((dig 18446744073709551616 (nv 256 ys)).length)) + 1)), (6, .slice A22 ((dig 18446744073709551616 (nv 256 ys)).length) c23), (5, .slice A9 ((dig 18446744073709551616 (nv 256 xs)).length) c10), (4, .slice none 0 0), (0, .slice A n c), (1, .slice A2 n2 c2)]) (cs := []) (by kernel_rfl) rfl trivial ?_
  intro a63 hF64; clear hF58 a57
  have hF65 := hF64.pick [23, 22, 8, 7, 6, 5, 4, 0, 1] (G := [(23, .int .i64 0), (22, .int .i64 ((((Nat.max ((dig 18446744073709551616 (nv 256 xs)).length) ((dig 18446744073709551616 (nv 256 ys)).length)) + 1) : Nat) : Int)), (8, .int .u64 0), (7, .slice A46 ((Nat.max ((dig 18446744073709551616 (nv 256 xs)).length) ((dig 18446744073709551616 (nv 256 ys)).length)) + 1) ((Nat.max ((dig 18446744073709551616 (nv 256 xs)).length) ((dig 18446744073709551616 (nv 256 ys)).length)) + 1)), (6, .slice A22 ((dig 18446744073709551616 (nv 256 ys)).length) c23), (5, .slice A9 ((dig 18446744073709551616 (nv 256 xs)).length) c10), (4, .slice none 0 0), (0, .slice A n c), (1, .slice A2 n2 c2)]) (by kernel_rfl); clear hF64
  refine hK62 _ _ ?_
  refine wp_block ?_
  refine loopK (fun mm_ a W => ∃ (k : Nat), ∃ (zs : List Nat), ∃ (cy : Nat), (((Nat.max ((dig 18446744073709551616 (nv 256 xs)).length) ((dig 18446744073709551616 (nv 256 ys)).length)) + 1) - k) = mm_ ∧ (Fr 43 a [(5, .slice A9 ((dig 18446744073709551616 (nv 256 xs)).length) c10), (6, .slice A22 ((dig 18446744073709551616 (nv 256 ys)).length) c23), (7, .slice A46 ((Nat.max ((dig 18446744073709551616 (nv 256 xs)).length) ((dig 18446744073709551616 (nv 256 ys)).length)) + 1) ((Nat.max ((dig 18446744073709551616 (nv 256 xs)).length) ((dig 18446744073709551616 (nv 256 ys)).length)) + 1)), (8, .int .u64 ((cy : Nat) : Int)), (22, .int .i64 ((((Nat.max ((dig 18446744073709551616 (nv 256 xs)).length) ((dig 18446744073709551616 (nv 256 ys)).length)) + 1) : Nat) : Int)), (23, .int .i64 ((k : Nat) : Int))]) ∧ (Ex w W) ∧ (Ex w25 W) ∧ (Own W (w25.heap.size) 47 1 A46 ((Nat.max ((dig 18446744073709551616 (nv 256 xs)).length) ((dig 18446744073709551616 (nv 256 ys)).length)) + 1) ((Nat.max ((dig 18446744073709551616 (nv 256 xs)).length) ((dig 18446744073709551616 (nv 256 ys)).length)) + 1) (vs .u64 zs)) ∧ (k ≤ ((Nat.max ((dig 18446744073709551616 (nv 256 xs)).length) ((dig 18446744073709551616 (nv 256 ys)).length)) + 1)) ∧ (zs.length = ((Nat.max ((dig 18446744073709551616 (nv 256 xs)).length) ((dig 18446744073709551616 (nv 256 ys)).length)) + 1)) ∧ (∀ x, x ∈ zs → x < 18446744073709551616) ∧ (cy ≤ 1) ∧ (nv 18446744073709551616 (zs.take k) + cy * 18446744073709551616 ^ k = nv 18446744073709551616 (List.take k (dig 18446744073709551616 (nv 256 xs))) + nv 18446744073709551616 (List.take k (dig 18446744073709551616 (nv 256 ys))))) _ ⟨0, (List.replicate ((Nat.max ((dig 18446744073709551616 (nv 256 xs)).length) ((dig 18446744073709551616 (nv 256 ys)).length)) + 1) 0), 0, rfl, hF65.pick [5, 6, 7, 8, 22, 23] (by kernel_rfl), HE, HE2, HO45, (by omega), (by simp), (by intro x hx; rw [(List.mem_replicate.1 hx).2]; decide), (by omega), (by simp)⟩ ?_
  clear hF65 HE HE2 HO45
  rintro mm_ a66 w67 ⟨k, zs, cy, rfl, hF70, HE, HE2, HO45, hk, hzl, hzb, hcy, hv⟩ K68 hK69
  refine wp_seq_k (fun K71 hK72 => ?_)
  refine wp_region_lit ?_
  refine pures_end hT 1 _ hF70 (F' := [(24, .bool ((decide (((k : Nat) : Int) < ((((Nat.max ((dig 18446744073709551616 (nv 256 xs)).length) ((dig 18446744073709551616 (nv 256 ys)).length)) + 1) : Nat) : Int))))), (5, .slice A9 ((dig 18446744073709551616 (nv 256 xs)).length) c10), (6, .slice A22 ((dig 18446744073709551616 (nv 256 ys)).length) c23), (7, .slice A46 ((Nat.max ((dig 18446744073709551616 (nv 256 xs)).length) ((dig 18446744073709551616 (nv 256 ys)).length)) + 1) ((Nat.max ((dig 18446744073709551616 (nv 256 xs)).length) ((dig 18446744073709551616 (nv 256 ys)).length)) + 1)), (8, .int .u64 ((cy : Nat) : Int)), (22, .int .i64 ((((Nat.max ((dig 18446744073709551616 (nv 256 xs)).length) ((dig 18446744073709551616 (nv 256 ys)).length)) + 1) : Nat) : Int)), (23, .int .i64 ((k : Nat) : Int))]) (cs := []) (by kernel_rfl) rfl trivial ?_
  intro a73 hF74; clear hF70 a66
  refine hK72 _ _ ?_
  refine wp_seq_k (fun K75 hK76 => ?_)
  refine condK hF74 (p := ((k : Nat) : Int) < ((((Nat.max ((dig 18446744073709551616 (nv 256 xs)).length) ((dig 18446744073709551616 (nv 256 ys)).length)) + 1) : Nat) : Int)) (by kernel_rfl) (fun h77 => ?_) (fun h77 => ?_)
  · -- h77
    refine wp_skip ?_
    refine hK76 _ _ ?_
    refine wp_seq_k (fun K78 hK79 => ?_)
    refine wp_block ?_
    refine wp_seq_k (fun K80 hK81 => ?_)
    refine wp_region_lit ?_
    refine pures_end hT 2 _ hF74 (F' := [(9, .int .i64 ((k : Nat) : Int)), (25, .int .i64 ((k : Nat) : Int)), (24, .bool ((decide (((k : Nat) : Int) < ((((Nat.max ((dig 18446744073709551616 (nv 256 xs)).length) ((dig 18446744073709551616 (nv 256 ys)).length)) + 1) : Nat) : Int))))), (5, .slice A9 ((dig 18446744073709551616 (nv 256 xs)).length) c10), (6, .slice A22 ((dig 18446744073709551616 (nv 256 ys)).length) c23), (7, .slice A46 ((Nat.max ((dig 18446744073709551616 (nv 256 xs)).length) ((dig 18446744073709551616 (nv 256 ys)).length)) + 1) ((Nat.max ((dig 18446744073709551616 (nv 256 xs)).length) ((dig 18446744073709551616 (nv 256 ys)).length)) + 1)), (8, .int .u64 ((cy : Nat) : Int)), (22, .int .i64 ((((Nat.max ((dig 18446744073709551616 (nv 256 xs)).length) ((dig 18446744073709551616 (nv 256 ys)).length)) + 1) : Nat) : Int)), (23, .int .i64 ((k : Nat) : Int))]) (cs := []) (by kernel_rfl) rfl trivial ?_
    intro a82 hF83; clear hF74 a73
    have hF84 := hF83.pick [9, 24, 5, 6, 7, 8, 22, 23] (G := [(9, .int .i64 ((k : Nat) : Int)), (24, .bool ((decide (((k : Nat) : Int) < ((((Nat.max ((dig 18446744073709551616 (nv 256 xs)).length) ((dig 18446744073709551616 (nv 256 ys)).length)) + 1) : Nat) : Int))))), (5, .slice A9 ((dig 18446744073709551616 (nv 256 xs)).length) c10), (6, .slice A22 ((dig 18446744073709551616 (nv 256 ys)).length) c23), (7, .slice A46 ((Nat.max ((dig 18446744073709551616 (nv 256 xs)).length) ((dig 18446744073709551616 (nv 256 ys)).length)) + 1) ((Nat.max ((dig 18446744073709551616 (nv 256 xs)).length) ((dig 18446744073709551616 (nv 256 ys)).length)) + 1)), (8, .int .u64 ((cy : Nat) : Int)), (22, .int .i64 ((((Nat.max ((dig 18446744073709551616 (nv 256 xs)).length) ((dig 18446744073709551616 (nv 256 ys)).length)) + 1) : Nat) : Int)), (23, .int .i64 ((k : Nat) : Int))]) (by kernel_rfl); clear hF83
    refine hK81 _ _ ?_
    refine wp_region_lit ?_
    refine pures hT 4 _ hF84 (F' := [(30, .int .i64 ((k : Nat) : Int)), (29, .slice A9 ((dig 18446744073709551616 (nv 256 xs)).length) c10), (28, .int .i64 ((k : Nat) : Int)), (27, .slice A46 ((Nat.max ((dig 18446744073709551616 (nv 256 xs)).length) ((dig 18446744073709551616 (nv 256 ys)).length)) + 1) ((Nat.max ((dig 18446744073709551616 (nv 256 xs)).length) ((dig 18446744073709551616 (nv 256 ys)).length)) + 1)), (9, .int .i64 ((k : Nat) : Int)), (24, .bool ((decide (((k : Nat) : Int) < ((((Nat.max ((dig 18446744073709551616 (nv 256 xs)).length) ((dig 18446744073709551616 (nv 256 ys)).length)) + 1) : Nat) : Int))))), (5, .slice A9 ((dig 18446744073709551616 (nv 256 xs)).length) c10), (6, .slice A22 ((dig 18446744073709551616 (nv 256 ys)).length) c23), (7, .slice A46 ((Nat.max ((dig 18446744073709551616 (nv 256 xs)).length) ((dig 18446744073709551616 (nv 256 ys)).length)) + 1) ((Nat.max ((dig 18446744073709551616 (nv 256 xs)).length) ((dig 18446744073709551616 (nv 256 ys)).length)) + 1)), (8, .int .u64 ((cy : Nat) : Int)), (22, .int .i64 ((((Nat.max ((dig 18446744073709551616 (nv 256 xs)).length) ((dig 18446744073709551616 (nv 256 ys)).length)) + 1) : Nat) : Int)), (23, .int .i64 ((k : Nat) : Int))]) (cs := []) (by kernel_rfl) trivial ?_
    intro a85 hF86; clear hF84 a82
    have hz90 := HE.size
    have hz91 := HE2.size
    have hz92 := HO45.base
    refine wl (s_call (d := 31) (f := 43) (l := [.slice A9 ((dig 18446744073709551616 (nv 256 xs)).length) c10, .int .i64 ((k : Nat) : Int)]) (by kernel_rfl) hF86 cl43 (nums_at A9 ((dig 18446744073709551616 (nv 256 xs)).length) c10 (dig 18446744073709551616 (nv 256 xs)) k _ (by first | assumption | omega | simp | decide) (HR39.ex HE2)) ?_)
    rintro a93 w87 v88 ⟨rfl, HX89⟩ ha95 hF94; clear ha95 hF86 a85
    replace HE := HE.thenN HX89.g
    replace HE2 := HE2.thenN HX89.g
    replace HO45 := HO45.growN HX89.g
    refine pures hT 2 _ hF94 (F' := [(33, .int .i64 ((k : Nat) : Int)), (32, .slice A22 ((dig 18446744073709551616 (nv 256 ys)).length) c23), (31, .int .u64 ((((dig 18446744073709551616 (nv 256 xs)).getD k 0) : Nat) : Int)), (30, .int .i64 ((k : Nat) : Int)), (29, .slice A9 ((dig 18446744073709551616 (nv 256 xs)).length) c10), (28, .int .i64 ((k : Nat) : Int)), (27, .slice A46 ((Nat.max ((dig 18446744073709551616 (nv 256 xs)).length) ((dig 18446744073709551616 (nv 256 ys)).length)) + 1) ((Nat.max ((dig 18446744073709551616 (nv 256 xs)).length) ((dig 18446744073709551616 (nv 256 ys)).length)) + 1)), (9, .int .i64 ((k : Nat) : Int)), (24, .bool ((decide (((k : Nat) : Int) < ((((Nat.max ((dig 18446744073709551616 (nv 256 xs)).length) ((dig 18446744073709551616 (nv 256 ys)).length)) + 1) : Nat) : Int))))), (5, .slice A9 ((dig 18446744073709551616 (nv 256 xs)).length) c10), (6, .slice A22 ((dig 18446744073709551616 (nv 256 ys)).length) c23), (7, .slice A46 ((Nat.max ((dig 18446744073709551616 (nv 256 xs)).length) ((dig 18446744073709551616 (nv 256 ys)).length)) + 1) ((Nat.max ((dig 18446744073709551616 (nv 256 xs)).length) ((dig 18446744073709551616 (nv 256 ys)).length)) + 1)), (8, .int .u64 ((cy : Nat) : Int)), (22, .int .i64 ((((Nat.max ((dig 18446744073709551616 (nv 256 xs)).length) ((dig 18446744073709551616 (nv 256 ys)).length)) + 1) : Nat) : Int)), (23, .int .i64 ((k : Nat) : Int))]) (cs := []) (by kernel_rfl) trivial ?_
    intro a96 hF97; clear hF94 a93
    have hz101 := HE.size
    have hz102 := HE2.size
    have hz103 := HO45.base
    refine wl (s_call (d := 34) (f := 43) (l := [.slice A22 ((dig 18446744073709551616 (nv 256 ys)).length) c23, .int .i64 ((k : Nat) : Int)]) (by kernel_rfl) hF97 cl43 (nums_at A22 ((dig 18446744073709551616 (nv 256 ys)).length) c23 (dig 18446744073709551616 (nv 256 ys)) k _ (by first | assumption | omega | simp | decide) (HR40.ex HE2)) ?_)
    rintro a104 w98 v99 ⟨rfl, HX100⟩ ha106 hF105; clear ha106 hF97 a96
    replace HE := HE.thenN HX100.g
    replace HE2 := HE2.thenN HX100.g
    replace HO45 := HO45.growN HX100.g
    refine pures hT 1 _ hF105 (F' := [(35, .int .u64 ((cy : Nat) : Int)), (34, .int .u64 ((((dig 18446744073709551616 (nv 256 ys)).getD k 0) : Nat) : Int)), (33, .int .i64 ((k : Nat) : Int)), (32, .slice A22 ((dig 18446744073709551616 (nv 256 ys)).length) c23), (31, .int .u64 ((((dig 18446744073709551616 (nv 256 xs)).getD k 0) : Nat) : Int)), (30, .int .i64 ((k : Nat) : Int)), (29, .slice A9 ((dig 18446744073709551616 (nv 256 xs)).length) c10), (28, .int .i64 ((k : Nat) : Int)), (27, .slice A46 ((Nat.max ((dig 18446744073709551616 (nv 256 xs)).length) ((dig 18446744073709551616 (nv 256 ys)).length)) + 1) ((Nat.max ((dig 18446744073709551616 (nv 256 xs)).length) ((dig 18446744073709551616 (nv 256 ys)).length)) + 1)), (9, .int .i64 ((k : Nat) : Int)), (24, .bool ((decide (((k : Nat) : Int) < ((((Nat.max ((dig 18446744073709551616 (nv 256 xs)).length) ((dig 18446744073709551616 (nv 256 ys)).length)) + 1) : Nat) : Int))))), (5, .slice A9 ((dig 18446744073709551616 (nv 256 xs)).length) c10), (6, .slice A22 ((dig 18446744073709551616 (nv 256 ys)).length) c23), (7, .slice A46 ((Nat.max ((dig 18446744073709551616 (nv 256 xs)).length) ((dig 18446744073709551616 (nv 256 ys)).length)) + 1) ((Nat.max ((dig 18446744073709551616 (nv 256 xs)).length) ((dig 18446744073709551616 (nv 256 ys)).length)) + 1)), (8, .int .u64 ((cy : Nat) : Int)), (22, .int .i64 ((((Nat.max ((dig 18446744073709551616 (nv 256 xs)).length) ((dig 18446744073709551616 (nv 256 ys)).length)) + 1) : Nat) : Int)), (23, .int .i64 ((k : Nat) : Int))]) (cs := []) (by kernel_rfl) trivial ?_
    intro a107 hF108; clear hF105 a104
    refine wl (s_ext (d := 36) (f := 42) (l := [.int .u64 ((((dig 18446744073709551616 (nv 256 xs)).getD k 0) : Nat) : Int), .int .u64 ((((dig 18446744073709551616 (nv 256 ys)).getD k 0) : Nat) : Int), .int .u64 ((cy : Nat) : Int)]) (by kernel_rfl) hF108 (ext_add64 ((dig 18446744073709551616 (nv 256 xs)).getD k 0) ((dig 18446744073709551616 (nv 256 ys)).getD k 0) cy (by omega) _) ?_)
    rintro a109 ha111 hF110; clear ha111 hF108 a107
    refine pures hT 4 _ hF110 (F' := [(39, .pointer (some ⟨(ablk A46), ((aoff A46) + k), none⟩)), (38, .int .u64 ((((((dig 18446744073709551616 (nv 256 xs)).getD k 0) + ((dig 18446744073709551616 (nv 256 ys)).getD k 0) + cy) / 18446744073709551616) : Nat) : Int)), (37, .int .u64 ((((((dig 18446744073709551616 (nv 256 xs)).getD k 0) + ((dig 18446744073709551616 (nv 256 ys)).getD k 0) + cy) % 18446744073709551616) : Nat) : Int)), (26, .tuple #[.int .u64 ((((((dig 18446744073709551616 (nv 256 xs)).getD k 0) + ((dig 18446744073709551616 (nv 256 ys)).getD k 0) + cy) % 18446744073709551616) : Nat) : Int), .int .u64 ((((((dig 18446744073709551616 (nv 256 xs)).getD k 0) + ((dig 18446744073709551616 (nv 256 ys)).getD k 0) + cy) / 18446744073709551616) : Nat) : Int)]), (36, .tuple #[.int .u64 ((((((dig 18446744073709551616 (nv 256 xs)).getD k 0) + ((dig 18446744073709551616 (nv 256 ys)).getD k 0) + cy) % 18446744073709551616) : Nat) : Int), .int .u64 ((((((dig 18446744073709551616 (nv 256 xs)).getD k 0) + ((dig 18446744073709551616 (nv 256 ys)).getD k 0) + cy) / 18446744073709551616) : Nat) : Int)]), (35, .int .u64 ((cy : Nat) : Int)), (34, .int .u64 ((((dig 18446744073709551616 (nv 256 ys)).getD k 0) : Nat) : Int)), (33, .int .i64 ((k : Nat) : Int)), (32, .slice A22 ((dig 18446744073709551616 (nv 256 ys)).length) c23), (31, .int .u64 ((((dig 18446744073709551616 (nv 256 xs)).getD k 0) : Nat) : Int)), (30, .int .i64 ((k : Nat) : Int)), (29, .slice A9 ((dig 18446744073709551616 (nv 256 xs)).length) c10), (28, .int .i64 ((k : Nat) : Int)), (27, .slice A46 ((Nat.max ((dig 18446744073709551616 (nv 256 xs)).length) ((dig 18446744073709551616 (nv 256 ys)).length)) + 1) ((Nat.max ((dig 18446744073709551616 (nv 256 xs)).length) ((dig 18446744073709551616 (nv 256 ys)).length)) + 1)), (9, .int .i64 ((k : Nat) : Int)), (24, .bool ((decide (((k : Nat) : Int) < ((((Nat.max ((dig 18446744073709551616 (nv 256 xs)).length) ((dig 18446744073709551616 (nv 256 ys)).length)) + 1) : Nat) : Int))))), (5, .slice A9 ((dig 18446744073709551616 (nv 256 xs)).length) c10), (6, .slice A22 ((dig 18446744073709551616 (nv 256 ys)).length) c23), (7, .slice A46 ((Nat.max ((dig 18446744073709551616 (nv 256 xs)).length) ((dig 18446744073709551616 (nv 256 ys)).length)) + 1) ((Nat.max ((dig 18446744073709551616 (nv 256 xs)).length) ((dig 18446744073709551616 (nv 256 ys)).length)) + 1)), (8, .int .u64 ((cy : Nat) : Int)), (22, .int .i64 ((((Nat.max ((dig 18446744073709551616 (nv 256 xs)).length) ((dig 18446744073709551616 (nv 256 ys)).length)) + 1) : Nat) : Int)), (23, .int .i64 ((k : Nat) : Int))]) (cs := [0 ≤ ((k : Nat) : Int), ((k : Nat) : Int) < ((((Nat.max ((dig 18446744073709551616 (nv 256 xs)).length) ((dig 18446744073709551616 (nv 256 ys)).length)) + 1) : Nat) : Int), (A46 : Option Addr) = some ⟨ablk A46, aoff A46, none⟩]) (by kernel_rfl) (And.intro (by omega) (And.intro (by omega) (And.intro (HO45.rd.some' (by (first | (simp only [vs_length, vi_length]; omega) | (simp; omega) | omega))) trivial))) ?_
    intro a112 hF113; clear hF110 a109
    refine wl (s_storeO hT (off := k) (p := ⟨(ablk A46), ((aoff A46) + k), none⟩) (v := .int .u64 ((((((dig 18446744073709551616 (nv 256 xs)).getD k 0) + ((dig 18446744073709551616 (nv 256 ys)).getD k 0) + cy) % 18446744073709551616) : Nat) : Int)) (by kernel_rfl) hF113 HO45 (by (first | (simp only [vs_length, vi_length]; omega) | (simp; omega) | omega)) rfl ?_)
    have HO45b := HO45.base
    rintro a116 w114 ha118 hF117 HO45x g115; clear ha118 hF113 a112; replace HO45 := HO45x
    rw [vs_set] at HO45
    replace HE := HE.thenR g115 (fun k hk => by have := (HO45b k hk).1; omega)
    replace HE2 := HE2.thenR g115 (fun k hk => by have := (HO45b k hk).1; omega)
    refine pures_end hT 1 _ hF117 (F' := [(8, .int .u64 ((((((dig 18446744073709551616 (nv 256 xs)).getD k 0) + ((dig 18446744073709551616 (nv 256 ys)).getD k 0) + cy) / 18446744073709551616) : Nat) : Int)), (39, .pointer (some ⟨(ablk A46), ((aoff A46) + k), none⟩)), (38, .int .u64 ((((((dig 18446744073709551616 (nv 256 xs)).getD k 0) + ((dig 18446744073709551616 (nv 256 ys)).getD k 0) + cy) / 18446744073709551616) : Nat) : Int)), (37, .int .u64 ((((((dig 18446744073709551616 (nv 256 xs)).getD k 0) + ((dig 18446744073709551616 (nv 256 ys)).getD k 0) + cy) % 18446744073709551616) : Nat) : Int)), (26, .tuple #[.int .u64 ((((((dig 18446744073709551616 (nv 256 xs)).getD k 0) + ((dig 18446744073709551616 (nv 256 ys)).getD k 0) + cy) % 18446744073709551616) : Nat) : Int), .int .u64 ((((((dig 18446744073709551616 (nv 256 xs)).getD k 0) + ((dig 18446744073709551616 (nv 256 ys)).getD k 0) + cy) / 18446744073709551616) : Nat) : Int)]), (36, .tuple #[.int .u64 ((((((dig 18446744073709551616 (nv 256 xs)).getD k 0) + ((dig 18446744073709551616 (nv 256 ys)).getD k 0) + cy) % 18446744073709551616) : Nat) : Int), .int .u64 ((((((dig 18446744073709551616 (nv 256 xs)).getD k 0) + ((dig 18446744073709551616 (nv 256 ys)).getD k 0) + cy) / 18446744073709551616) : Nat) : Int)]), (35, .int .u64 ((cy : Nat) : Int)), (34, .int .u64 ((((dig 18446744073709551616 (nv 256 ys)).getD k 0) : Nat) : Int)), (33, .int .i64 ((k : Nat) : Int)), (32, .slice A22 ((dig 18446744073709551616 (nv 256 ys)).length) c23), (31, .int .u64 ((((dig 18446744073709551616 (nv 256 xs)).getD k 0) : Nat) : Int)), (30, .int .i64 ((k : Nat) : Int)), (29, .slice A9 ((dig 18446744073709551616 (nv 256 xs)).length) c10), (28, .int .i64 ((k : Nat) : Int)), (27, .slice A46 ((Nat.max ((dig 18446744073709551616 (nv 256 xs)).length) ((dig 18446744073709551616 (nv 256 ys)).length)) + 1) ((Nat.max ((dig 18446744073709551616 (nv 256 xs)).length) ((dig 18446744073709551616 (nv 256 ys)).length)) + 1)), (9, .int .i64 ((k : Nat) : Int)), (24, .bool ((decide (((k : Nat) : Int) < ((((Nat.max ((dig 18446744073709551616 (nv 256 xs)).length) ((dig 18446744073709551616 (nv 256 ys)).length)) + 1) : Nat) : Int))))), (5, .slice A9 ((dig 18446744073709551616 (nv 256 xs)).length) c10), (6, .slice A22 ((dig 18446744073709551616 (nv 256 ys)).length) c23), (7, .slice A46 ((Nat.max ((dig 18446744073709551616 (nv 256 xs)).length) ((dig 18446744073709551616 (nv 256 ys)).length)) + 1) ((Nat.max ((dig 18446744073709551616 (nv 256 xs)).length) ((dig 18446744073709551616 (nv 256 ys)).length)) + 1)), (8, .int .u64 ((cy : Nat) : Int)), (22, .int .i64 ((((Nat.max ((dig 18446744073709551616 (nv 256 xs)).length) ((dig 18446744073709551616 (nv 256 ys)).length)) + 1) : Nat) : Int)), (23, .int .i64 ((k : Nat) : Int))]) (cs := []) (by kernel_rfl) rfl trivial ?_
    intro a119 hF120; clear hF117 a116
    have hF121 := hF120.pick [8, 9, 24, 5, 6, 7, 22, 23] (G := [(8, .int .u64 ((((((dig 18446744073709551616 (nv 256 xs)).getD k 0) + ((dig 18446744073709551616 (nv 256 ys)).getD k 0) + cy) / 18446744073709551616) : Nat) : Int)), (9, .int .i64 ((k : Nat) : Int)), (24, .bool ((decide (((k : Nat) : Int) < ((((Nat.max ((dig 18446744073709551616 (nv 256 xs)).length) ((dig 18446744073709551616 (nv 256 ys)).length)) + 1) : Nat) : Int))))), (5, .slice A9 ((dig 18446744073709551616 (nv 256 xs)).length) c10), (6, .slice A22 ((dig 18446744073709551616 (nv 256 ys)).length) c23), (7, .slice A46 ((Nat.max ((dig 18446744073709551616 (nv 256 xs)).length) ((dig 18446744073709551616 (nv 256 ys)).length)) + 1) ((Nat.max ((dig 18446744073709551616 (nv 256 xs)).length) ((dig 18446744073709551616 (nv 256 ys)).length)) + 1)), (22, .int .i64 ((((Nat.max ((dig 18446744073709551616 (nv 256 xs)).length) ((dig 18446744073709551616 (nv 256 ys)).length)) + 1) : Nat) : Int)), (23, .int .i64 ((k : Nat) : Int))]) (by kernel_rfl); clear hF120
    refine hK79 _ _ ?_
    refine wp_region_lit ?_
    refine pures_end hT 2 _ hF121 (F' := [(23, .int .i64 (((k + 1) : Nat) : Int)), (40, .int .i64 (((k + 1) : Nat) : Int)), (8, .int .u64 ((((((dig 18446744073709551616 (nv 256 xs)).getD k 0) + ((dig 18446744073709551616 (nv 256 ys)).getD k 0) + cy) / 18446744073709551616) : Nat) : Int)), (9, .int .i64 ((k : Nat) : Int)), (24, .bool ((decide (((k : Nat) : Int) < ((((Nat.max ((dig 18446744073709551616 (nv 256 xs)).length) ((dig 18446744073709551616 (nv 256 ys)).length)) + 1) : Nat) : Int))))), (5, .slice A9 ((dig 18446744073709551616 (nv 256 xs)).length) c10), (6, .slice A22 ((dig 18446744073709551616 (nv 256 ys)).length) c23), (7, .slice A46 ((Nat.max ((dig 18446744073709551616 (nv 256 xs)).length) ((dig 18446744073709551616 (nv 256 ys)).length)) + 1) ((Nat.max ((dig 18446744073709551616 (nv 256 xs)).length) ((dig 18446744073709551616 (nv 256 ys)).length)) + 1)), (22, .int .i64 ((((Nat.max ((dig 18446744073709551616 (nv 256 xs)).length) ((dig 18446744073709551616 (nv 256 ys)).length)) + 1) : Nat) : Int)), (23, .int .i64 ((k : Nat) : Int))]) (cs := [-9223372036854775808 ≤ (((k + 1) : Nat) : Int), (((k + 1) : Nat) : Int) ≤ 9223372036854775807]) (by kernel_rfl) rfl (And.intro (by omega) (And.intro (by omega) trivial)) ?_
    intro a122 hF123; clear hF121 a119
    have hF124 := hF123.pick [23, 8, 9, 24, 5, 6, 7, 22] (G := [(23, .int .i64 (((k + 1) : Nat) : Int)), (8, .int .u64 ((((((dig 18446744073709551616 (nv 256 xs)).getD k 0) + ((dig 18446744073709551616 (nv 256 ys)).getD k 0) + cy) / 18446744073709551616) : Nat) : Int)), (9, .int .i64 ((k : Nat) : Int)), (24, .bool ((decide (((k : Nat) : Int) < ((((Nat.max ((dig 18446744073709551616 (nv 256 xs)).length) ((dig 18446744073709551616 (nv 256 ys)).length)) + 1) : Nat) : Int))))), (5, .slice A9 ((dig 18446744073709551616 (nv 256 xs)).length) c10), (6, .slice A22 ((dig 18446744073709551616 (nv 256 ys)).length) c23), (7, .slice A46 ((Nat.max ((dig 18446744073709551616 (nv 256 xs)).length) ((dig 18446744073709551616 (nv 256 ys)).length)) + 1) ((Nat.max ((dig 18446744073709551616 (nv 256 xs)).length) ((dig 18446744073709551616 (nv 256 ys)).length)) + 1)), (22, .int .i64 ((((Nat.max ((dig 18446744073709551616 (nv 256 xs)).length) ((dig 18446744073709551616 (nv 256 ys)).length)) + 1) : Nat) : Int))]) (by kernel_rfl); clear hF123
    refine hK69 _ _ _ (by omega) ⟨(k + 1), (zs.set k ((((dig 18446744073709551616 (nv 256 xs)).getD k 0) + ((dig 18446744073709551616 (nv 256 ys)).getD k 0) + cy) % 18446744073709551616)), ((((dig 18446744073709551616 (nv 256 xs)).getD k 0) + ((dig 18446744073709551616 (nv 256 ys)).getD k 0) + cy) / 18446744073709551616), rfl, hF124.pick [5, 6, 7, 8, 22, 23] (by kernel_rfl), HE, HE2, HO45, (by omega), (by simpa using hzl), (set_lt hzb (Nat.mod_lt _ (by decide)) _), (by have h1 := getD_lt (by decide) hX k; have h2 := getD_lt (by decide) hY k; omega), (add_step (by omega) hv)⟩
  · -- h77
    refine wp_exit ?_
    refine hK60 _ _ ?_
    refine wp_seq_k (fun K125 hK126 => ?_)
    refine wp_region_lit ?_
    refine pures hT 1 _ hF74 (F' := [(41, .slice A46 ((Nat.max ((dig 18446744073709551616 (nv 256 xs)).length) ((dig 18446744073709551616 (nv 256 ys)).length)) + 1) ((Nat.max ((dig 18446744073709551616 (nv 256 xs)).length) ((dig 18446744073709551616 (nv 256 ys)).length)) + 1)), (24, .bool ((decide (((k : Nat) : Int) < ((((Nat.max ((dig 18446744073709551616 (nv 256 xs)).length) ((dig 18446744073709551616 (nv 256 ys)).length)) + 1) : Nat) : Int))))), (5, .slice A9 ((dig 18446744073709551616 (nv 256 xs)).length) c10), (6, .slice A22 ((dig 18446744073709551616 (nv 256 ys)).length) c23), (7, .slice A46 ((Nat.max ((dig 18446744073709551616 (nv 256 xs)).length) ((dig 18446744073709551616 (nv 256 ys)).length)) + 1) ((Nat.max ((dig 18446744073709551616 (nv 256 xs)).length) ((dig 18446744073709551616 (nv 256 ys)).length)) + 1)), (8, .int .u64 ((cy : Nat) : Int)), (22, .int .i64 ((((Nat.max ((dig 18446744073709551616 (nv 256 xs)).length) ((dig 18446744073709551616 (nv 256 ys)).length)) + 1) : Nat) : Int)), (23, .int .i64 ((k : Nat) : Int))]) (cs := []) (by kernel_rfl) trivial ?_
    intro a127 hF128; clear hF74 a73
    have hz135 := HE.size
    have hz136 := HE2.size
    have hz137 := HO45.base
    refine wl (s_call (d := 42) (f := 41) (l := [.slice A46 ((Nat.max ((dig 18446744073709551616 (nv 256 xs)).length) ((dig 18446744073709551616 (nv 256 ys)).length)) + 1) ((Nat.max ((dig 18446744073709551616 (nv 256 xs)).length) ((dig 18446744073709551616 (nv 256 ys)).length)) + 1)]) (by kernel_rfl) hF128 cl41 (nums_bytes A46 ((Nat.max ((dig 18446744073709551616 (nv 256 xs)).length) ((dig 18446744073709551616 (nv 256 ys)).length)) + 1) ((Nat.max ((dig 18446744073709551616 (nv 256 xs)).length) ((dig 18446744073709551616 (nv 256 ys)).length)) + 1) zs _ (by first | assumption | omega | simp | decide) HO45.rd (by first | assumption | omega | simp | decide) (by first | assumption | omega | simp | decide) (by first | assumption | omega | simp | decide)) ?_)
    rintro a138 w132 v133 ⟨A129, c130, rfl, HX134, HO131⟩ ha140 hF139; clear ha140 hF128 a127
    replace HE := HE.thenN HX134.g
    replace HE2 := HE2.thenN HX134.g
    replace HO45 := HO45.growN HX134.g
    have hcp141 := HO131.cap
    refine pures_end hT 1 _ hF139 (F' := [(4, .slice A129 ((dig 256 (nv 18446744073709551616 zs)).length) c130), (42, .slice A129 ((dig 256 (nv 18446744073709551616 zs)).length) c130), (41, .slice A46 ((Nat.max ((dig 18446744073709551616 (nv 256 xs)).length) ((dig 18446744073709551616 (nv 256 ys)).length)) + 1) ((Nat.max ((dig 18446744073709551616 (nv 256 xs)).length) ((dig 18446744073709551616 (nv 256 ys)).length)) + 1)), (24, .bool ((decide (((k : Nat) : Int) < ((((Nat.max ((dig 18446744073709551616 (nv 256 xs)).length) ((dig 18446744073709551616 (nv 256 ys)).length)) + 1) : Nat) : Int))))), (5, .slice A9 ((dig 18446744073709551616 (nv 256 xs)).length) c10), (6, .slice A22 ((dig 18446744073709551616 (nv 256 ys)).length) c23), (7, .slice A46 ((Nat.max ((dig 18446744073709551616 (nv 256 xs)).length) ((dig 18446744073709551616 (nv 256 ys)).length)) + 1) ((Nat.max ((dig 18446744073709551616 (nv 256 xs)).length) ((dig 18446744073709551616 (nv 256 ys)).length)) + 1)), (8, .int .u64 ((cy : Nat) : Int)), (22, .int .i64 ((((Nat.max ((dig 18446744073709551616 (nv 256 xs)).length) ((dig 18446744073709551616 (nv 256 ys)).length)) + 1) : Nat) : Int)), (23, .int .i64 ((k : Nat) : Int))]) (cs := []) (by kernel_rfl) rfl trivial ?_
    intro a142 hF143; clear hF139 a138
    have hF144 := hF143.pick [4, 24, 5, 6, 7, 8, 22, 23] (G := [(4, .slice A129 ((dig 256 (nv 18446744073709551616 zs)).length) c130), (24, .bool ((decide (((k : Nat) : Int) < ((((Nat.max ((dig 18446744073709551616 (nv 256 xs)).length) ((dig 18446744073709551616 (nv 256 ys)).length)) + 1) : Nat) : Int))))), (5, .slice A9 ((dig 18446744073709551616 (nv 256 xs)).length) c10), (6, .slice A22 ((dig 18446744073709551616 (nv 256 ys)).length) c23), (7, .slice A46 ((Nat.max ((dig 18446744073709551616 (nv 256 xs)).length) ((dig 18446744073709551616 (nv 256 ys)).length)) + 1) ((Nat.max ((dig 18446744073709551616 (nv 256 xs)).length) ((dig 18446744073709551616 (nv 256 ys)).length)) + 1)), (8, .int .u64 ((cy : Nat) : Int)), (22, .int .i64 ((((Nat.max ((dig 18446744073709551616 (nv 256 xs)).length) ((dig 18446744073709551616 (nv 256 ys)).length)) + 1) : Nat) : Int)), (23, .int .i64 ((k : Nat) : Int))]) (by kernel_rfl); clear hF143
    refine hK126 _ _ ?_
    refine wp_ret ?_
    refine ret1 hF144 rfl (v := .slice A129 ((dig 256 (nv 18446744073709551616 zs)).length) c130) (by kernel_rfl) ?_
    have hO := HO131
    have hs := add_done hzl (by omega) (by omega) hX hY (show k = _ from by omega) hv
    rw [nv_dig (by decide), nv_dig (by decide)] at hs
    rw [hs] at hO ⊢
    exact ⟨A129, c130, rfl, HE, hO.rebase (by omega)⟩

theorem nums_take (Bb : Nat) (A : Option Addr) (n c : Nat) (xs : List Nat) (A2 : Option Addr) (n2 c2 : Nat) (ys : List Nat) (w : World) (hn : xs.length = n) (hn2 : ys.length = n2) (HO : Own w Bb 47 1 A n c (vs .u64 xs)) (hR2 : Rd w A2 (vs .u64 ys)) (hne : oblk A = none ∨ oblk A ≠ oblk A2) (hx : ∀ x, x ∈ xs → x < 18446744073709551616) (hy : ∀ x, x ∈ ys → x < 18446744073709551616) (hl : n ≤ 1152921504606846976) (hl2 : n2 ≤ 1152921504606846976) (hle : nv 18446744073709551616 ys ≤ nv 18446744073709551616 xs) :
    Calls Try.prog 40 [.slice A n c, .slice A2 n2 c2].toArray w (Ret fun v w' => v = .slice A (dig 18446744073709551616 (nv 18446744073709551616 xs - nv 18446744073709551616 ys)).length c ∧ Own w' Bb 47 1 A (dig 18446744073709551616 (nv 18446744073709551616 xs - nv 18446744073709551616 ys)).length c (vs .u64 (dig 18446744073709551616 (nv 18446744073709551616 xs - nv 18446744073709551616 ys))) ∧ w.grownBy w' (oblk A)) := by
  refine enter Try.func40 rfl (n := 30) Try.ntmps40 (by simp) ?_
  intro a hF
  have HG : w.grownBy w (oblk A) := grown_refl w _
  refine wp_seq_k (fun K1 hK2 => ?_)
  refine wp_region_lit ?_
  refine pures_end hT 1 _ hF (F' := [(4, .slice none 0 0), (0, .slice A n c), (1, .slice A2 n2 c2)]) (cs := []) (by kernel_rfl) rfl trivial ?_
  intro a3 hF4; clear hF a
  refine hK2 _ _ ?_
  refine wp_seq_k (fun K5 hK6 => ?_)
  refine wp_region_lit ?_
  refine pures_end hT 1 _ hF4 (F' := [(5, .int .u64 0), (4, .slice none 0 0), (0, .slice A n c), (1, .slice A2 n2 c2)]) (cs := []) (by kernel_rfl) rfl trivial ?_
  intro a7 hF8; clear hF4 a3
  refine hK6 _ _ ?_
  refine wp_seq_k (fun K9 hK10 => ?_)
  refine wp_seq_k (fun K11 hK12 => ?_)
  refine wp_region_lit ?_
  refine pures_end hT 3 _ hF8 (F' := [(9, .int .i64 0), (8, .int .i64 ((n : Nat) : Int)), (7, .slice A n c), (5, .int .u64 0), (4, .slice none 0 0), (0, .slice A n c), (1, .slice A2 n2 c2)]) (cs := []) (by kernel_rfl) rfl trivial ?_
  intro a13 hF14; clear hF8 a7
  have hF15 := hF14.pick [9, 8, 5, 4, 0, 1] (G := [(9, .int .i64 0), (8, .int .i64 ((n : Nat) : Int)), (5, .int .u64 0), (4, .slice none 0 0), (0, .slice A n c), (1, .slice A2 n2 c2)]) (by kernel_rfl); clear hF14
  refine hK12 _ _ ?_
  refine wp_block ?_
  refine loopK (fun mm_ a W => ∃ (k : Nat), ∃ (zs : List Nat), ∃ (bw : Nat), (n - k) = mm_ ∧ (Fr 30 a [(0, .slice A n c), (1, .slice A2 n2 c2), (5, .int .u64 ((bw : Nat) : Int)), (8, .int .i64 ((n : Nat) : Int)), (9, .int .i64 ((k : Nat) : Int))]) ∧ (w.grownBy W (oblk A)) ∧ (Own W (Bb) 47 1 A n c (vs .u64 zs)) ∧ (k ≤ n) ∧ (zs.length = n) ∧ (∀ x, x ∈ zs → x < 18446744073709551616) ∧ (bw ≤ 1) ∧ (∀ j, k ≤ j → zs.getD j 0 = xs.getD j 0) ∧ (nv 18446744073709551616 (zs.take k) + nv 18446744073709551616 (ys.take k) = nv 18446744073709551616 (xs.take k) + bw * 18446744073709551616 ^ k)) _ ⟨0, xs, 0, rfl, hF15.pick [0, 1, 5, 8, 9] (by kernel_rfl), HG, HO, (by omega), hn, hx, (by omega), (fun j _ => rfl), (by simp)⟩ ?_
  clear hF15 HG HO
  rintro mm_ a16 w17 ⟨k, zs, bw, rfl, hF20, HG, HO, hk, hzl, hzb, hbw, hsame, hv⟩ K18 hK19
  refine wp_seq_k (fun K21 hK22 => ?_)
  refine wp_region_lit ?_
  refine pures_end hT 1 _ hF20 (F' := [(10, .bool ((decide (((k : Nat) : Int) < ((n : Nat) : Int))))), (0, .slice A n c), (1, .slice A2 n2 c2), (5, .int .u64 ((bw : Nat) : Int)), (8, .int .i64 ((n : Nat) : Int)), (9, .int .i64 ((k : Nat) : Int))]) (cs := []) (by kernel_rfl) rfl trivial ?_
  intro a23 hF24; clear hF20 a16
  refine hK22 _ _ ?_
  refine wp_seq_k (fun K25 hK26 => ?_)
  refine condK hF24 (p := ((k : Nat) : Int) < ((n : Nat) : Int)) (by kernel_rfl) (fun h27 => ?_) (fun h27 => ?_)
  · -- h27
    refine wp_skip ?_
    refine hK26 _ _ ?_
    refine wp_seq_k (fun K28 hK29 => ?_)
    refine wp_block ?_
    refine wp_seq_k (fun K30 hK31 => ?_)
    refine wp_region_lit ?_
    refine pures_end hT 2 _ hF24 (F' := [(6, .int .i64 ((k : Nat) : Int)), (11, .int .i64 ((k : Nat) : Int)), (10, .bool ((decide (((k : Nat) : Int) < ((n : Nat) : Int))))), (0, .slice A n c), (1, .slice A2 n2 c2), (5, .int .u64 ((bw : Nat) : Int)), (8, .int .i64 ((n : Nat) : Int)), (9, .int .i64 ((k : Nat) : Int))]) (cs := []) (by kernel_rfl) rfl trivial ?_
    intro a32 hF33; clear hF24 a23
    have hF34 := hF33.pick [6, 10, 0, 1, 5, 8, 9] (G := [(6, .int .i64 ((k : Nat) : Int)), (10, .bool ((decide (((k : Nat) : Int) < ((n : Nat) : Int))))), (0, .slice A n c), (1, .slice A2 n2 c2), (5, .int .u64 ((bw : Nat) : Int)), (8, .int .i64 ((n : Nat) : Int)), (9, .int .i64 ((k : Nat) : Int))]) (by kernel_rfl); clear hF33
    refine hK31 _ _ ?_
    have hz36 := HO.base
    have HZ35 : w17.heap.size ≤ w17.heap.size := Nat.le_refl _
    let SL_ : List SP := [SP.val (.slice A n c), SP.val (.int .i64 ((k : Nat) : Int)), SP.val (.slice A n c), SP.val (.int .i64 ((k : Nat) : Int)), SP.val (.pointer (some ⟨(ablk A), ((aoff A) + k), none⟩)), SP.val (.int .u64 (((zs.getD k 0) : Nat) : Int)), SP.val (.slice A2 n2 c2), SP.val (.int .i64 ((k : Nat) : Int)), SP.val (.int .u64 (((ys.getD k 0) : Nat) : Int)), SP.val (.int .u64 ((bw : Nat) : Int)), SP.val (.tuple #[.int .u64 (((((zs.getD k 0) + 18446744073709551616 - (ys.getD k 0) - bw) % 18446744073709551616) : Nat) : Int), .int .u64 (((if (zs.getD k 0) < (ys.getD k 0) + bw then 1 else 0) : Nat) : Int)]), SP.val (.tuple #[.int .u64 (((((zs.getD k 0) + 18446744073709551616 - (ys.getD k 0) - bw) % 18446744073709551616) : Nat) : Int), .int .u64 (((if (zs.getD k 0) < (ys.getD k 0) + bw then 1 else 0) : Nat) : Int)]), SP.val (.int .u64 (((((zs.getD k 0) + 18446744073709551616 - (ys.getD k 0) - bw) % 18446744073709551616) : Nat) : Int)), SP.val (.int .u64 (((if (zs.getD k 0) < (ys.getD k 0) + bw then 1 else 0) : Nat) : Int)), SP.val (.pointer (some ⟨(ablk A), ((aoff A) + k), none⟩)), SP.any, SP.val (.int .u64 (((if (zs.getD k 0) < (ys.getD k 0) + bw then 1 else 0) : Nat) : Int))]
    refine region_rel (SL := SL_) (J := (fun (b : Bool) (W : World) => (w.grownBy W (oblk A)) ∧ (match b with | true => Own W (Bb) 47 1 A n c (vs .u64 (zs.set k (((zs.getD k 0) + 18446744073709551616 - (ys.getD k 0) - bw) % 18446744073709551616))) | false => Own W (Bb) 47 1 A n c (vs .u64 zs)) ∧ (w17.heap.size ≤ W.heap.size))) (m := 15) wide (by kernel_rfl) (by kernel_rfl) hF34 rfl ?_ ⟨HG, HO, HZ35⟩ ⟨?_, ?_, ?_, ?_, ?_, ?_, ?_, ?_, ?_, ?_, ?_, ?_, ?_, ?_, ?_, ?_, ?_, trivial⟩ [(5, some 16), (6, none), (10, none), (0, none), (1, none), (8, none), (9, none)] (by kernel_rfl) ?_
    · intro b W W' hj g; cases b <;> exact ⟨World.grownBy.trans hj.1 (grown_weak g), hj.2.1.growN g, Nat.le_trans hj.2.2 g.size⟩
    · -- operation 0
      rintro a38 w37 b40 KK46 hs42 hd43 hJ44 hb45 hr48 hK41
      have hr48x : RD SL_ b40 a38 a32 w37 [(0, none)] := hr48 _ (by kernel_rfl)
      obtain ⟨q47, -⟩ := hr48x
      obtain rfl : b40 = false := by cases b40; rfl; exact absurd ((hb45 rfl).2 _ rfl) (by decide)
      obtain ⟨HG, HO, HZ35⟩ := hJ44
      have hF39 : Fr 30 a38 [(0, .slice A n c)] := Fr.of hs42 hd43 ⟨(Fr.init hF34 q47 (by kernel_rfl)), trivial⟩
      refine s_pure hT (d := 13) (v := .slice A n c) (cs := []) (by kernel_rfl) (by kernel_rfl) trivial hF39 ?_
      rintro a2 ha2 hF2; rw [ha2]; exact hK41 _ _ rfl (grown_refl _ _)
    · -- operation 1
      rintro a50 w49 b52 KK58 hs54 hd55 hJ56 hb57 hr60 hK53
      have hr60x : RD SL_ b52 a50 a32 w49 [(6, none)] := hr60 _ (by kernel_rfl)
      obtain ⟨q59, -⟩ := hr60x
      obtain rfl : b52 = false := by cases b52; rfl; exact absurd ((hb57 rfl).2 _ rfl) (by decide)
      obtain ⟨HG, HO, HZ35⟩ := hJ56
      have hF51 : Fr 30 a50 [(6, .int .i64 ((k : Nat) : Int))] := Fr.of hs54 hd55 ⟨(Fr.init hF34 q59 (by kernel_rfl)), trivial⟩
      refine s_pure hT (d := 14) (v := .int .i64 ((k : Nat) : Int)) (cs := []) (by kernel_rfl) (by kernel_rfl) trivial hF51 ?_
      rintro a2 ha2 hF2; rw [ha2]; exact hK53 _ _ rfl (grown_refl _ _)
    · -- operation 2
      rintro a62 w61 b64 KK70 hs66 hd67 hJ68 hb69 hr72 hK65
      have hr72x : RD SL_ b64 a62 a32 w61 [(0, none)] := hr72 _ (by kernel_rfl)
      obtain ⟨q71, -⟩ := hr72x
      obtain rfl : b64 = false := by cases b64; rfl; exact absurd ((hb69 rfl).2 _ rfl) (by decide)
      obtain ⟨HG, HO, HZ35⟩ := hJ68
      have hF63 : Fr 30 a62 [(0, .slice A n c)] := Fr.of hs66 hd67 ⟨(Fr.init hF34 q71 (by kernel_rfl)), trivial⟩
      refine s_pure hT (d := 15) (v := .slice A n c) (cs := []) (by kernel_rfl) (by kernel_rfl) trivial hF63 ?_
      rintro a2 ha2 hF2; rw [ha2]; exact hK65 _ _ rfl (grown_refl _ _)
    · -- operation 3
      rintro a74 w73 b76 KK82 hs78 hd79 hJ80 hb81 hr84 hK77
      have hr84x : RD SL_ b76 a74 a32 w73 [(6, none)] := hr84 _ (by kernel_rfl)
      obtain ⟨q83, -⟩ := hr84x
      obtain rfl : b76 = false := by cases b76; rfl; exact absurd ((hb81 rfl).2 _ rfl) (by decide)
      obtain ⟨HG, HO, HZ35⟩ := hJ80
      have hF75 : Fr 30 a74 [(6, .int .i64 ((k : Nat) : Int))] := Fr.of hs78 hd79 ⟨(Fr.init hF34 q83 (by kernel_rfl)), trivial⟩
      refine s_pure hT (d := 16) (v := .int .i64 ((k : Nat) : Int)) (cs := []) (by kernel_rfl) (by kernel_rfl) trivial hF75 ?_
      rintro a2 ha2 hF2; rw [ha2]; exact hK77 _ _ rfl (grown_refl _ _)
    · -- operation 4
      rintro a86 w85 b88 KK94 hs90 hd91 hJ92 hb93 hr101 hK89
      have hr101x : RD SL_ b88 a86 a32 w85 [(15, some 2), (16, some 3)] := hr101 _ (by kernel_rfl)
      obtain ⟨⟨v96, q95, s97⟩, ⟨v99, q98, s100⟩, -⟩ := hr101x
      obtain rfl : v96 = .slice A n c := s97
      obtain rfl : v99 = .int .i64 ((k : Nat) : Int) := s100
      obtain rfl : b88 = false := by cases b88; rfl; exact absurd ((hb93 rfl).2 _ rfl) (by decide)
      obtain ⟨HG, HO, HZ35⟩ := hJ92
      have hF87 : Fr 30 a86 [(15, .slice A n c), (16, .int .i64 ((k : Nat) : Int))] := Fr.of hs90 hd91 ⟨q95, q98, trivial⟩
      refine s_pure hT (d := 17) (v := .pointer (some ⟨(ablk A), ((aoff A) + k), none⟩)) (cs := [0 ≤ ((k : Nat) : Int), ((k : Nat) : Int) < ((n : Nat) : Int), (A : Option Addr) = some ⟨ablk A, aoff A, none⟩]) (by kernel_rfl) (by kernel_rfl) (And.intro (by omega) (And.intro (by omega) (And.intro (HO.rd.some' (by (first | (simp only [vs_length, vi_length]; omega) | (simp; omega) | omega))) trivial))) hF87 ?_
      rintro a2 ha2 hF2; rw [ha2]; exact hK89 _ _ rfl (grown_refl _ _)
    · -- operation 5
      rintro a103 w102 b105 KK111 hs107 hd108 hJ109 hb110 hr115 hK106
      have hr115x : RD SL_ b105 a103 a32 w102 [(17, some 4)] := hr115 _ (by kernel_rfl)
      obtain ⟨⟨v113, q112, s114⟩, -⟩ := hr115x
      obtain rfl : v113 = .pointer (some ⟨(ablk A), ((aoff A) + k), none⟩) := s114
      obtain rfl : b105 = false := by cases b105; rfl; exact absurd ((hb110 rfl).2 _ rfl) (by decide)
      obtain ⟨HG, HO, HZ35⟩ := hJ109
      have hF104 : Fr 30 a103 [(17, .pointer (some ⟨(ablk A), ((aoff A) + k), none⟩))] := Fr.of hs107 hd108 ⟨q112, trivial⟩
      refine s_load hT (d := 18) (A := ⟨(ablk A), ((aoff A) + k), none⟩) (by kernel_rfl) hF104 (HO.rd.cells.at (vs_get .u64 zs (i := k) (by omega)) rfl) ?_
      rintro a116 ha118 hF117
      rw [ha118]; exact hK106 _ _ rfl (grown_refl _ _)
    · -- operation 6
      rintro a120 w119 b122 KK128 hs124 hd125 hJ126 hb127 hr130 hK123
      have hr130x : RD SL_ b122 a120 a32 w119 [(1, none)] := hr130 _ (by kernel_rfl)
      obtain ⟨q129, -⟩ := hr130x
      obtain rfl : b122 = false := by cases b122; rfl; exact absurd ((hb127 rfl).2 _ rfl) (by decide)
      obtain ⟨HG, HO, HZ35⟩ := hJ126
      have hF121 : Fr 30 a120 [(1, .slice A2 n2 c2)] := Fr.of hs124 hd125 ⟨(Fr.init hF34 q129 (by kernel_rfl)), trivial⟩
      refine s_pure hT (d := 19) (v := .slice A2 n2 c2) (cs := []) (by kernel_rfl) (by kernel_rfl) trivial hF121 ?_
      rintro a2 ha2 hF2; rw [ha2]; exact hK123 _ _ rfl (grown_refl _ _)
    · -- operation 7
      rintro a132 w131 b134 KK140 hs136 hd137 hJ138 hb139 hr142 hK135
      have hr142x : RD SL_ b134 a132 a32 w131 [(6, none)] := hr142 _ (by kernel_rfl)
      obtain ⟨q141, -⟩ := hr142x
      obtain rfl : b134 = false := by cases b134; rfl; exact absurd ((hb139 rfl).2 _ rfl) (by decide)
      obtain ⟨HG, HO, HZ35⟩ := hJ138
      have hF133 : Fr 30 a132 [(6, .int .i64 ((k : Nat) : Int))] := Fr.of hs136 hd137 ⟨(Fr.init hF34 q141 (by kernel_rfl)), trivial⟩
      refine s_pure hT (d := 20) (v := .int .i64 ((k : Nat) : Int)) (cs := []) (by kernel_rfl) (by kernel_rfl) trivial hF133 ?_
      rintro a2 ha2 hF2; rw [ha2]; exact hK135 _ _ rfl (grown_refl _ _)
    · -- operation 8
      rintro a144 w143 b146 KK152 hs148 hd149 hJ150 hb151 hr159 hK147
      have hr159x : RD SL_ b146 a144 a32 w143 [(19, some 6), (20, some 7)] := hr159 _ (by kernel_rfl)
      obtain ⟨⟨v154, q153, s155⟩, ⟨v157, q156, s158⟩, -⟩ := hr159x
      obtain rfl : v154 = .slice A2 n2 c2 := s155
      obtain rfl : v157 = .int .i64 ((k : Nat) : Int) := s158
      obtain rfl : b146 = false := by cases b146; rfl; exact absurd ((hb151 rfl).2 _ rfl) (by decide)
      obtain ⟨HG, HO, HZ35⟩ := hJ150
      have hF145 : Fr 30 a144 [(19, .slice A2 n2 c2), (20, .int .i64 ((k : Nat) : Int))] := Fr.of hs148 hd149 ⟨q153, q156, trivial⟩
      have hz163 := HO.base
      refine s_call (d := 21) (f := 43) (l := [.slice A2 n2 c2, .int .i64 ((k : Nat) : Int)]) (by kernel_rfl) hF145 cl43 (nums_at A2 n2 c2 ys k _ (by first | assumption | omega | simp | decide) (hR2.grow' HG hne)) ?_
      rintro a164 w160 v161 ⟨rfl, HX162⟩ ha166 hF165
      replace HG := World.grownBy.trans HG (grown_weak HX162.g)
      replace HO := HO.growN HX162.g
      replace HZ35 := Nat.le_trans HZ35 HX162.g.size
      rw [ha166]; exact hK147 _ _ rfl HX162.g
    · -- operation 9
      rintro a168 w167 b170 KK176 hs172 hd173 hJ174 hb175 hr178 hK171
      have hr178x : RD SL_ b170 a168 a32 w167 [(5, none)] := hr178 _ (by kernel_rfl)
      obtain ⟨q177, -⟩ := hr178x
      obtain rfl : b170 = false := by cases b170; rfl; exact absurd ((hb175 rfl).2 _ rfl) (by decide)
      obtain ⟨HG, HO, HZ35⟩ := hJ174
      have hF169 : Fr 30 a168 [(5, .int .u64 ((bw : Nat) : Int))] := Fr.of hs172 hd173 ⟨(Fr.init hF34 q177 (by kernel_rfl)), trivial⟩
      refine s_pure hT (d := 22) (v := .int .u64 ((bw : Nat) : Int)) (cs := []) (by kernel_rfl) (by kernel_rfl) trivial hF169 ?_
      rintro a2 ha2 hF2; rw [ha2]; exact hK171 _ _ rfl (grown_refl _ _)
    · -- operation 10
      rintro a180 w179 b182 KK188 hs184 hd185 hJ186 hb187 hr198 hK183
      have hr198x : RD SL_ b182 a180 a32 w179 [(18, some 5), (21, some 8), (22, some 9)] := hr198 _ (by kernel_rfl)
      obtain ⟨⟨v190, q189, s191⟩, ⟨v193, q192, s194⟩, ⟨v196, q195, s197⟩, -⟩ := hr198x
      obtain rfl : v190 = .int .u64 (((zs.getD k 0) : Nat) : Int) := s191
      obtain rfl : v193 = .int .u64 (((ys.getD k 0) : Nat) : Int) := s194
      obtain rfl : v196 = .int .u64 ((bw : Nat) : Int) := s197
      obtain rfl : b182 = false := by cases b182; rfl; exact absurd ((hb187 rfl).2 _ rfl) (by decide)
      obtain ⟨HG, HO, HZ35⟩ := hJ186
      have hF181 : Fr 30 a180 [(18, .int .u64 (((zs.getD k 0) : Nat) : Int)), (21, .int .u64 (((ys.getD k 0) : Nat) : Int)), (22, .int .u64 ((bw : Nat) : Int))] := Fr.of hs184 hd185 ⟨q189, q192, q195, trivial⟩
      refine s_ext (d := 23) (f := 49) (l := [.int .u64 (((zs.getD k 0) : Nat) : Int), .int .u64 (((ys.getD k 0) : Nat) : Int), .int .u64 ((bw : Nat) : Int)]) (by kernel_rfl) hF181 (ext_sub64 (zs.getD k 0) (ys.getD k 0) bw (by omega) _) ?_
      rintro a199 ha201 hF200
      rw [ha201]; exact hK183 _ _ rfl (grown_refl _ _)
    · -- operation 11
      rintro a203 w202 b205 KK211 hs207 hd208 hJ209 hb210 hr215 hK206
      have hr215x : RD SL_ b205 a203 a32 w202 [(23, some 10)] := hr215 _ (by kernel_rfl)
      obtain ⟨⟨v213, q212, s214⟩, -⟩ := hr215x
      obtain rfl : v213 = .tuple #[.int .u64 (((((zs.getD k 0) + 18446744073709551616 - (ys.getD k 0) - bw) % 18446744073709551616) : Nat) : Int), .int .u64 (((if (zs.getD k 0) < (ys.getD k 0) + bw then 1 else 0) : Nat) : Int)] := s214
      obtain rfl : b205 = false := by cases b205; rfl; exact absurd ((hb210 rfl).2 _ rfl) (by decide)
      obtain ⟨HG, HO, HZ35⟩ := hJ209
      have hF204 : Fr 30 a203 [(23, .tuple #[.int .u64 (((((zs.getD k 0) + 18446744073709551616 - (ys.getD k 0) - bw) % 18446744073709551616) : Nat) : Int), .int .u64 (((if (zs.getD k 0) < (ys.getD k 0) + bw then 1 else 0) : Nat) : Int)])] := Fr.of hs207 hd208 ⟨q212, trivial⟩
      refine s_pure hT (d := 12) (v := .tuple #[.int .u64 (((((zs.getD k 0) + 18446744073709551616 - (ys.getD k 0) - bw) % 18446744073709551616) : Nat) : Int), .int .u64 (((if (zs.getD k 0) < (ys.getD k 0) + bw then 1 else 0) : Nat) : Int)]) (cs := []) (by kernel_rfl) (by kernel_rfl) trivial hF204 ?_
      rintro a2 ha2 hF2; rw [ha2]; exact hK206 _ _ rfl (grown_refl _ _)
    · -- operation 12
      rintro a217 w216 b219 KK225 hs221 hd222 hJ223 hb224 hr229 hK220
      have hr229x : RD SL_ b219 a217 a32 w216 [(12, some 11)] := hr229 _ (by kernel_rfl)
      obtain ⟨⟨v227, q226, s228⟩, -⟩ := hr229x
      obtain rfl : v227 = .tuple #[.int .u64 (((((zs.getD k 0) + 18446744073709551616 - (ys.getD k 0) - bw) % 18446744073709551616) : Nat) : Int), .int .u64 (((if (zs.getD k 0) < (ys.getD k 0) + bw then 1 else 0) : Nat) : Int)] := s228
      obtain rfl : b219 = false := by cases b219; rfl; exact absurd ((hb224 rfl).2 _ rfl) (by decide)
      obtain ⟨HG, HO, HZ35⟩ := hJ223
      have hF218 : Fr 30 a217 [(12, .tuple #[.int .u64 (((((zs.getD k 0) + 18446744073709551616 - (ys.getD k 0) - bw) % 18446744073709551616) : Nat) : Int), .int .u64 (((if (zs.getD k 0) < (ys.getD k 0) + bw then 1 else 0) : Nat) : Int)])] := Fr.of hs221 hd222 ⟨q226, trivial⟩
      refine s_pure hT (d := 24) (v := .int .u64 (((((zs.getD k 0) + 18446744073709551616 - (ys.getD k 0) - bw) % 18446744073709551616) : Nat) : Int)) (cs := []) (by kernel_rfl) (by kernel_rfl) trivial hF218 ?_
      rintro a2 ha2 hF2; rw [ha2]; exact hK220 _ _ rfl (grown_refl _ _)
    · -- operation 13
      rintro a231 w230 b233 KK239 hs235 hd236 hJ237 hb238 hr243 hK234
      have hr243x : RD SL_ b233 a231 a32 w230 [(12, some 11)] := hr243 _ (by kernel_rfl)
      obtain ⟨⟨v241, q240, s242⟩, -⟩ := hr243x
      obtain rfl : v241 = .tuple #[.int .u64 (((((zs.getD k 0) + 18446744073709551616 - (ys.getD k 0) - bw) % 18446744073709551616) : Nat) : Int), .int .u64 (((if (zs.getD k 0) < (ys.getD k 0) + bw then 1 else 0) : Nat) : Int)] := s242
      obtain ⟨HG, HO, HZ35⟩ := hJ237
      have hF232 : Fr 30 a231 [(12, .tuple #[.int .u64 (((((zs.getD k 0) + 18446744073709551616 - (ys.getD k 0) - bw) % 18446744073709551616) : Nat) : Int), .int .u64 (((if (zs.getD k 0) < (ys.getD k 0) + bw then 1 else 0) : Nat) : Int)])] := Fr.of hs235 hd236 ⟨q240, trivial⟩
      refine s_pure hT (d := 25) (v := .int .u64 (((if (zs.getD k 0) < (ys.getD k 0) + bw then 1 else 0) : Nat) : Int)) (cs := []) (by kernel_rfl) (by kernel_rfl) trivial hF232 ?_
      rintro a2 ha2 hF2; rw [ha2]; exact hK234 _ _ rfl (grown_refl _ _)
    · -- operation 14
      rintro a245 w244 b247 KK253 hs249 hd250 hJ251 hb252 hr260 hK248
      have hr260x : RD SL_ b247 a245 a32 w244 [(13, some 0), (14, some 1)] := hr260 _ (by kernel_rfl)
      obtain ⟨⟨v255, q254, s256⟩, ⟨v258, q257, s259⟩, -⟩ := hr260x
      obtain rfl : v255 = .slice A n c := s256
      obtain rfl : v258 = .int .i64 ((k : Nat) : Int) := s259
      obtain rfl : b247 = false := by cases b247; rfl; exact absurd ((hb252 rfl).2 _ rfl) (by decide)
      obtain ⟨HG, HO, HZ35⟩ := hJ251
      have hF246 : Fr 30 a245 [(13, .slice A n c), (14, .int .i64 ((k : Nat) : Int))] := Fr.of hs249 hd250 ⟨q254, q257, trivial⟩
      refine s_pure hT (d := 26) (v := .pointer (some ⟨(ablk A), ((aoff A) + k), none⟩)) (cs := [0 ≤ ((k : Nat) : Int), ((k : Nat) : Int) < ((n : Nat) : Int), (A : Option Addr) = some ⟨ablk A, aoff A, none⟩]) (by kernel_rfl) (by kernel_rfl) (And.intro (by omega) (And.intro (by omega) (And.intro (HO.rd.some' (by (first | (simp only [vs_length, vi_length]; omega) | (simp; omega) | omega))) trivial))) hF246 ?_
      rintro a2 ha2 hF2; rw [ha2]; exact hK248 _ _ rfl (grown_refl _ _)
    · -- operation 15
      rintro a262 w261 b264 KK270 hs266 hd267 hJ268 hb269 hr277 hK265
      have hr277x : RD SL_ b264 a262 a32 w261 [(26, some 14), (24, some 12)] := hr277 _ (by kernel_rfl)
      obtain ⟨⟨v272, q271, s273⟩, ⟨v275, q274, s276⟩, -⟩ := hr277x
      obtain rfl : v272 = .pointer (some ⟨(ablk A), ((aoff A) + k), none⟩) := s273
      obtain rfl : v275 = .int .u64 (((((zs.getD k 0) + 18446744073709551616 - (ys.getD k 0) - bw) % 18446744073709551616) : Nat) : Int) := s276
      obtain rfl : b264 = false := by cases b264; rfl; exact absurd rfl (hb269 rfl).1
      obtain ⟨HG, HO, HZ35⟩ := hJ268
      have hF263 : Fr 30 a262 [(26, .pointer (some ⟨(ablk A), ((aoff A) + k), none⟩)), (24, .int .u64 (((((zs.getD k 0) + 18446744073709551616 - (ys.getD k 0) - bw) % 18446744073709551616) : Nat) : Int))] := Fr.of hs266 hd267 ⟨q271, q274, trivial⟩
      refine s_storeO hT (off := k) (p := ⟨(ablk A), ((aoff A) + k), none⟩) (v := .int .u64 (((((zs.getD k 0) + 18446744073709551616 - (ys.getD k 0) - bw) % 18446744073709551616) : Nat) : Int)) (by kernel_rfl) hF263 HO (by (first | (simp only [vs_length, vi_length]; omega) | (simp; omega) | omega)) rfl ?_
      have HOb := HO.base
      rintro a280 w278 ha282 hF281 HOx g279; replace HO := HOx
      rw [vs_set] at HO
      replace HG := World.grownBy.trans HG g279
      replace HZ35 := Nat.le_trans HZ35 g279.size
      rw [ha282]; exact hK265 undef _ trivial ⟨⟨.inl rfl, .inl rfl, .inl rfl, .inl rfl, .inl rfl, .inl rfl, .inl rfl, .inl rfl, .inl rfl, .inl rfl, .inl rfl, .inl rfl, .inl rfl, .inl rfl, .inl rfl, .inl rfl, .inl rfl, trivial⟩, ⟨HG, HO, HZ35⟩⟩
    · -- operation 16
      rintro a284 w283 b286 KK292 hs288 hd289 hJ290 hb291 hr296 hK287
      have hr296x : RD SL_ b286 a284 a32 w283 [(25, some 13)] := hr296 _ (by kernel_rfl)
      obtain ⟨⟨v294, q293, s295⟩, -⟩ := hr296x
      obtain rfl : v294 = .int .u64 (((if (zs.getD k 0) < (ys.getD k 0) + bw then 1 else 0) : Nat) : Int) := s295
      obtain ⟨HG, HO, HZ35⟩ := hJ290
      have hF285 : Fr 30 a284 [(25, .int .u64 (((if (zs.getD k 0) < (ys.getD k 0) + bw then 1 else 0) : Nat) : Int))] := Fr.of hs288 hd289 ⟨q293, trivial⟩
      refine s_pure hT (d := 5) (v := .int .u64 (((if (zs.getD k 0) < (ys.getD k 0) + bw then 1 else 0) : Nat) : Int)) (cs := []) (by kernel_rfl) (by kernel_rfl) trivial hF285 ?_
      rintro a2 ha2 hF2; rw [ha2]; exact hK287 _ _ rfl (grown_refl _ _)
    · -- behind the region
      rintro a298 w299 hs300 hd301 ⟨⟨v303, q304, s305⟩, q306, q307, q308, q309, q310, q311, -⟩ ⟨HG, HO, HZ35⟩
      obtain rfl : v303 = .int .u64 (((if (zs.getD k 0) < (ys.getD k 0) + bw then 1 else 0) : Nat) : Int) := s305
      replace HO : Own w299 (Bb) 47 1 A n c (vs .u64 (zs.set k (((zs.getD k 0) + 18446744073709551616 - (ys.getD k 0) - bw) % 18446744073709551616))) := HO
      have hF312 : Fr 30 a298 [(5, .int .u64 (((if (zs.getD k 0) < (ys.getD k 0) + bw then 1 else 0) : Nat) : Int)), (6, .int .i64 ((k : Nat) : Int)), (10, .bool ((decide (((k : Nat) : Int) < ((n : Nat) : Int))))), (0, .slice A n c), (1, .slice A2 n2 c2), (8, .int .i64 ((n : Nat) : Int)), (9, .int .i64 ((k : Nat) : Int))] := Fr.of hs300 hd301 ⟨q304, (Fr.init hF34 q306 (by kernel_rfl)), (Fr.init hF34 q307 (by kernel_rfl)), (Fr.init hF34 q308 (by kernel_rfl)), (Fr.init hF34 q309 (by kernel_rfl)), (Fr.init hF34 q310 (by kernel_rfl)), (Fr.init hF34 q311 (by kernel_rfl)), trivial⟩
      clear hF34 hs300 hd301 q304 q306 q307 q308 q309 q310 q311
      refine hK29 _ _ ?_
      refine wp_region_lit ?_
      refine pures_end hT 2 _ hF312 (F' := [(9, .int .i64 (((k + 1) : Nat) : Int)), (27, .int .i64 (((k + 1) : Nat) : Int)), (5, .int .u64 (((if (zs.getD k 0) < (ys.getD k 0) + bw then 1 else 0) : Nat) : Int)), (6, .int .i64 ((k : Nat) : Int)), (10, .bool ((decide (((k : Nat) : Int) < ((n : Nat) : Int))))), (0, .slice A n c), (1, .slice A2 n2 c2), (8, .int .i64 ((n : Nat) : Int)), (9, .int .i64 ((k : Nat) : Int))]) (cs := [-9223372036854775808 ≤ (((k + 1) : Nat) : Int), (((k + 1) : Nat) : Int) ≤ 9223372036854775807]) (by kernel_rfl) rfl (And.intro (by omega) (And.intro (by omega) trivial)) ?_
      intro a313 hF314; clear hF312 a298
      have hF315 := hF314.pick [9, 5, 6, 10, 0, 1, 8] (G := [(9, .int .i64 (((k + 1) : Nat) : Int)), (5, .int .u64 (((if (zs.getD k 0) < (ys.getD k 0) + bw then 1 else 0) : Nat) : Int)), (6, .int .i64 ((k : Nat) : Int)), (10, .bool ((decide (((k : Nat) : Int) < ((n : Nat) : Int))))), (0, .slice A n c), (1, .slice A2 n2 c2), (8, .int .i64 ((n : Nat) : Int))]) (by kernel_rfl); clear hF314
      refine hK19 _ _ _ (by omega) ⟨(k + 1), (zs.set k (((zs.getD k 0) + 18446744073709551616 - (ys.getD k 0) - bw) % 18446744073709551616)), (if (zs.getD k 0) < (ys.getD k 0) + bw then 1 else 0), rfl, hF315.pick [0, 1, 5, 8, 9] (by kernel_rfl), HG, HO, (by omega), (by simpa using hzl), (set_lt hzb (Nat.mod_lt _ (by decide)) _), (by split <;> omega), (fun j hj => by rw [getD_set _ _ _ _ (by omega), if_neg (by omega)]; exact hsame j (by omega)), (by rw [hsame k (Nat.le_refl k)]; exact sub_step hbw (getD_lt (by decide) hx k) (getD_lt (by decide) hy k) (by omega) hv)⟩
  · -- h27
    refine wp_exit ?_
    refine hK10 _ _ ?_
    refine wp_seq_k (fun K316 hK317 => ?_)
    have hcap := HO.cap
    refine wp_region_lit ?_
    refine pures hT 1 _ hF24 (F' := [(28, .slice A n c), (10, .bool ((decide (((k : Nat) : Int) < ((n : Nat) : Int))))), (0, .slice A n c), (1, .slice A2 n2 c2), (5, .int .u64 ((bw : Nat) : Int)), (8, .int .i64 ((n : Nat) : Int)), (9, .int .i64 ((k : Nat) : Int))]) (cs := []) (by kernel_rfl) trivial ?_
    intro a318 hF319; clear hF24 a23
    have hz323 := HO.base
    refine wl (s_call (d := 29) (f := 48) (l := [.slice A n c]) (by kernel_rfl) hF319 cl48 (nums_trim A n c zs _ (by first | assumption | omega | simp | decide) HO.rd (by first | assumption | omega | simp | decide) (by first | assumption | omega | simp | decide)) ?_)
    rintro a324 w320 v321 ⟨rfl, HX322⟩ ha326 hF325; clear ha326 hF319 a318
    replace HG := World.grownBy.trans HG (grown_weak HX322.g)
    replace HO := HO.growN HX322.g
    refine pures_end hT 1 _ hF325 (F' := [(4, .slice A (tlen zs) c), (29, .slice A (tlen zs) c), (28, .slice A n c), (10, .bool ((decide (((k : Nat) : Int) < ((n : Nat) : Int))))), (0, .slice A n c), (1, .slice A2 n2 c2), (5, .int .u64 ((bw : Nat) : Int)), (8, .int .i64 ((n : Nat) : Int)), (9, .int .i64 ((k : Nat) : Int))]) (cs := []) (by kernel_rfl) rfl trivial ?_
    intro a327 hF328; clear hF325 a324
    have hF329 := hF328.pick [4, 10, 0, 1, 5, 8, 9] (G := [(4, .slice A (tlen zs) c), (10, .bool ((decide (((k : Nat) : Int) < ((n : Nat) : Int))))), (0, .slice A n c), (1, .slice A2 n2 c2), (5, .int .u64 ((bw : Nat) : Int)), (8, .int .i64 ((n : Nat) : Int)), (9, .int .i64 ((k : Nat) : Int))]) (by kernel_rfl); clear hF328
    refine hK317 _ _ ?_
    refine wp_ret ?_
    refine ret1 hF329 rfl (v := .slice A (tlen zs) c) (by kernel_rfl) ?_
    have ht := trimL_dig (b := 18446744073709551616) (by decide) hzb
    rw [sub_done hn hzl hzb hx hy hle (show k = n from by omega) hv] at ht
    rw [← ht]
    have hO := Own.cut HO (m := tlen zs) (by have := tlen_le zs; omega)
    rw [Nat.mul_one, vs_take] at hO
    exact ⟨by rw [trimL_length], by rw [trimL_length]; exact hO, HG⟩

theorem nums_double (A : Option Addr) (n c : Nat) (xs : List Nat) (bt : Nat) (w : World) (hn : xs.length = n) (hR : Rd w A (vs .u64 xs)) (hx : ∀ x, x ∈ xs → x < 18446744073709551616) (hb : bt ≤ 1) (hl : n ≤ 1099511627776) :
    Calls Try.prog 38 [.slice A n c, .int .u64 ((bt : Nat) : Int)].toArray w (Ret fun v w' => ∃ A' c', v = .slice A' (dig 18446744073709551616 (2 * nv 18446744073709551616 xs + bt)).length c' ∧ Ex w w' ∧ Own w' w.heap.size 47 1 A' (dig 18446744073709551616 (2 * nv 18446744073709551616 xs + bt)).length c' (vs .u64 (dig 18446744073709551616 (2 * nv 18446744073709551616 xs + bt)))) := by
  refine enter Try.func38 rfl (n := 37) Try.ntmps38 (by simp) ?_
  intro a hF
  have HE : Ex w w := Ex.refl w
  refine wp_seq_k (fun K1 hK2 => ?_)
  refine wp_region_lit ?_
  refine pures_end hT 1 _ hF (F' := [(4, .slice none 0 0), (0, .slice A n c), (1, .int .u64 ((bt : Nat) : Int))]) (cs := []) (by kernel_rfl) rfl trivial ?_
  intro a3 hF4; clear hF a
  refine hK2 _ _ ?_
  refine wp_seq_k (fun K5 hK6 => ?_)
  refine wp_region_lit ?_
  refine pures hT 3 _ hF4 (F' := [(9, .int .i64 (((n + 1) : Nat) : Int)), (8, .int .i64 ((n : Nat) : Int)), (7, .slice A n c), (4, .slice none 0 0), (0, .slice A n c), (1, .int .u64 ((bt : Nat) : Int))]) (cs := [-9223372036854775808 ≤ (((n + 1) : Nat) : Int), (((n + 1) : Nat) : Int) ≤ 9223372036854775807]) (by kernel_rfl) (And.intro (by omega) (And.intro (by omega) trivial)) ?_
  intro a7 hF8; clear hF4 a3
  have hz13 := HE.size
  refine wl (s_make hT (d := 10) (T := 47) (m := (n + 1)) (i := tr47) (by kernel_rfl) (by intro t x y h; cases h; rfl) hF8 (by show (n + 1) * 8 ≤ 281474976710656; omega) (by simp only [maxLen]; omega) ?_)
  rintro a14 w9 A12 HO11 g10 ha16 hF15; clear ha16 hF8 a7
  replace HO11 : Own w9 w.heap.size 47 1 A12 (n + 1) (n + 1) (vs .u64 (List.replicate (n + 1) 0)) := (made_vs HO11 rfl rfl)
  replace HE := HE.thenN g10
  refine pures_end hT 1 _ hF15 (F' := [(5, .slice A12 (n + 1) (n + 1)), (10, .slice A12 (n + 1) (n + 1)), (9, .int .i64 (((n + 1) : Nat) : Int)), (8, .int .i64 ((n : Nat) : Int)), (7, .slice A n c), (4, .slice none 0 0), (0, .slice A n c), (1, .int .u64 ((bt : Nat) : Int))]) (cs := []) (by kernel_rfl) rfl trivial ?_
  intro a17 hF18; clear hF15 a14
  have hF19 := hF18.pick [5, 4, 0, 1] (G := [(5, .slice A12 (n + 1) (n + 1)), (4, .slice none 0 0), (0, .slice A n c), (1, .int .u64 ((bt : Nat) : Int))]) (by kernel_rfl); clear hF18
  refine hK6 _ _ ?_
  refine wp_seq_k (fun K20 hK21 => ?_)
  obtain ⟨b22, hb23x, hb23, HBz⟩ := Own.blk HO11 (by omega)
  subst hb23x; clear HO11
  have hb23l := HBz.lt
  refine wp_region_lit ?_
  refine pures hT 2 _ hF19 (F' := [(12, .slice A n c), (11, .slice (some ⟨b22, 0, none⟩) (n + 1) (n + 1)), (5, .slice (some ⟨b22, 0, none⟩) (n + 1) (n + 1)), (4, .slice none 0 0), (0, .slice A n c), (1, .int .u64 ((bt : Nat) : Int))]) (cs := []) (by kernel_rfl) trivial ?_
  intro a24 hF25; clear hF19 a17
  refine wl (s_copy hT (d := 13) (b := b22) (off := 0) (m := (n + 1)) (A2 := A) (m2 := n) (cs := vs .u64 xs) (by kernel_rfl) hF25 HBz (hR.ex HE) (by rw [vs_length]; exact copy_n (by omega) (by omega)) (by simp only [vs_length, List.length_replicate]; omega) vs_one ?_)
  rintro a29 w26 HBzx g27 ha31 hF30; clear ha31 hF25 a24
  replace HBz : Blk w26 b22 47 (vs .u64 ((List.replicate (n + 1) 0).take 0 ++ xs ++ (List.replicate (n + 1) 0).drop (0 + xs.length))) := by have h := HBzx; rw [vs_take, ← vs_append, vs_length, vs_drop, ← vs_append] at h; exact h
  clear HBzx
  replace HE := HE.thenS g27 (by omega)
  refine wpList_nil ?_
  have hF32 := hF30.pick [5, 4, 0, 1] (G := [(5, .slice (some ⟨b22, 0, none⟩) (n + 1) (n + 1)), (4, .slice none 0 0), (0, .slice A n c), (1, .int .u64 ((bt : Nat) : Int))]) (by kernel_rfl); clear hF30
  refine hK21 _ _ ?_
  refine wp_seq_k (fun K33 hK34 => ?_)
  refine wp_seq_k (fun K35 hK36 => ?_)
  refine wp_region_lit ?_
  refine pures_end hT 3 _ hF32 (F' := [(16, .int .i64 0), (15, .int .i64 (((n + 1) : Nat) : Int)), (14, .slice (some ⟨b22, 0, none⟩) (n + 1) (n + 1)), (5, .slice (some ⟨b22, 0, none⟩) (n + 1) (n + 1)), (4, .slice none 0 0), (0, .slice A n c), (1, .int .u64 ((bt : Nat) : Int))]) (cs := []) (by kernel_rfl) rfl trivial ?_
  intro a37 hF38; clear hF32 a29
  have hF39 := hF38.pick [16, 15, 5, 4, 0, 1] (G := [(16, .int .i64 0), (15, .int .i64 (((n + 1) : Nat) : Int)), (5, .slice (some ⟨b22, 0, none⟩) (n + 1) (n + 1)), (4, .slice none 0 0), (0, .slice A n c), (1, .int .u64 ((bt : Nat) : Int))]) (by kernel_rfl); clear hF38
  refine hK36 _ _ ?_
  refine wp_block ?_
  refine loopK (fun mm_ a W => ∃ (k : Nat), ∃ (zs : List Nat), ∃ (cy : Nat), (n + 1 - k) = mm_ ∧ (Fr 37 a [(1, .int .u64 ((cy : Nat) : Int)), (5, .slice (some ⟨b22, 0, none⟩) (n + 1) (n + 1)), (15, .int .i64 (((n + 1) : Nat) : Int)), (16, .int .i64 ((k : Nat) : Int))]) ∧ (Ex w W) ∧ (Blk W b22 47 (vs .u64 zs)) ∧ (k ≤ n + 1) ∧ (zs.length = n + 1) ∧ (∀ x, x ∈ zs → x < 18446744073709551616) ∧ (cy ≤ 1) ∧ (∀ j, k ≤ j → zs.getD j 0 = xs.getD j 0) ∧ (nv 18446744073709551616 (zs.take k) + cy * 18446744073709551616 ^ k = 2 * nv 18446744073709551616 (xs.take k) + bt)) _ ⟨0, _, bt, rfl, hF39.pick [1, 5, 15, 16] (by kernel_rfl), HE, HBz, (by omega), (by simp; omega), (dbl_init_lt hn hx), hb, (fun j _ => dbl_init hn j), (by simp)⟩ ?_
  clear hF39 HE HBz
  rintro mm_ a40 w41 ⟨k, zs, cy, rfl, hF44, HE, HBz, hk, hzl, hzb, hcy, hsame, hv⟩ K42 hK43
  refine wp_seq_k (fun K45 hK46 => ?_)
  refine wp_region_lit ?_
  refine pures_end hT 1 _ hF44 (F' := [(17, .bool ((decide (((k : Nat) : Int) < (((n + 1) : Nat) : Int))))), (1, .int .u64 ((cy : Nat) : Int)), (5, .slice (some ⟨b22, 0, none⟩) (n + 1) (n + 1)), (15, .int .i64 (((n + 1) : Nat) : Int)), (16, .int .i64 ((k : Nat) : Int))]) (cs := []) (by kernel_rfl) rfl trivial ?_
  intro a47 hF48; clear hF44 a40
  refine hK46 _ _ ?_
  refine wp_seq_k (fun K49 hK50 => ?_)
  refine condK hF48 (p := ((k : Nat) : Int) < (((n + 1) : Nat) : Int)) (by kernel_rfl) (fun h51 => ?_) (fun h51 => ?_)
  · -- h51
    refine wp_skip ?_
    refine hK50 _ _ ?_
    refine wp_seq_k (fun K52 hK53 => ?_)
    refine wp_block ?_
    refine wp_seq_k (fun K54 hK55 => ?_)
    refine wp_region_lit ?_
    refine pures_end hT 2 _ hF48 (F' := [(6, .int .i64 ((k : Nat) : Int)), (18, .int .i64 ((k : Nat) : Int)), (17, .bool ((decide (((k : Nat) : Int) < (((n + 1) : Nat) : Int))))), (1, .int .u64 ((cy : Nat) : Int)), (5, .slice (some ⟨b22, 0, none⟩) (n + 1) (n + 1)), (15, .int .i64 (((n + 1) : Nat) : Int)), (16, .int .i64 ((k : Nat) : Int))]) (cs := []) (by kernel_rfl) rfl trivial ?_
    intro a56 hF57; clear hF48 a47
    have hF58 := hF57.pick [6, 17, 1, 5, 15, 16] (G := [(6, .int .i64 ((k : Nat) : Int)), (17, .bool ((decide (((k : Nat) : Int) < (((n + 1) : Nat) : Int))))), (1, .int .u64 ((cy : Nat) : Int)), (5, .slice (some ⟨b22, 0, none⟩) (n + 1) (n + 1)), (15, .int .i64 (((n + 1) : Nat) : Int)), (16, .int .i64 ((k : Nat) : Int))]) (by kernel_rfl); clear hF57
    refine hK55 _ _ ?_
    have hz60 := HE.size
    have hz61 := HBz.lt
    have HZ59 : w41.heap.size ≤ w41.heap.size := Nat.le_refl _
    let SL_ : List SP := [SP.val (.slice (some ⟨b22, 0, none⟩) (n + 1) (n + 1)), SP.val (.int .i64 ((k : Nat) : Int)), SP.val (.slice (some ⟨b22, 0, none⟩) (n + 1) (n + 1)), SP.val (.int .i64 ((k : Nat) : Int)), SP.val (.pointer (some ⟨b22, (0 + k), none⟩)), SP.val (.int .u64 (((zs.getD k 0) : Nat) : Int)), SP.val (.int .u64 ((((zs.getD k 0) * 2 ^ 1 % 18446744073709551616) : Nat) : Int)), SP.val (.int .u64 ((cy : Nat) : Int)), SP.val (.int .u64 (((((zs.getD k 0) * 2 ^ 1 % 18446744073709551616) ||| cy) : Nat) : Int)), SP.val (.slice (some ⟨b22, 0, none⟩) (n + 1) (n + 1)), SP.val (.int .i64 ((k : Nat) : Int)), SP.val (.pointer (some ⟨b22, (0 + k), none⟩)), SP.val (.int .u64 (((zs.getD k 0) : Nat) : Int)), SP.val (.int .u64 ((((zs.getD k 0) / 2 ^ 63) : Nat) : Int)), SP.val (.pointer (some ⟨b22, (0 + k), none⟩)), SP.any, SP.val (.int .u64 ((((zs.getD k 0) / 2 ^ 63) : Nat) : Int))]
    refine region_rel (SL := SL_) (J := (fun (b : Bool) (W : World) => (Ex w W) ∧ (match b with | true => Blk W b22 47 (vs .u64 (zs.set k (((zs.getD k 0) * 2 ^ 1 % 18446744073709551616) ||| cy))) | false => Blk W b22 47 (vs .u64 zs)) ∧ (w41.heap.size ≤ W.heap.size))) (m := 15) wide (by kernel_rfl) (by kernel_rfl) hF58 rfl ?_ ⟨HE, HBz, HZ59⟩ ⟨?_, ?_, ?_, ?_, ?_, ?_, ?_, ?_, ?_, ?_, ?_, ?_, ?_, ?_, ?_, ?_, ?_, trivial⟩ [(1, some 16), (6, none), (17, none), (5, none), (15, none), (16, none)] (by kernel_rfl) ?_
    · intro b W W' hj g; cases b <;> exact ⟨hj.1.thenN g, hj.2.1.growN g, Nat.le_trans hj.2.2 g.size⟩
    · -- operation 0
      rintro a63 w62 b65 KK71 hs67 hd68 hJ69 hb70 hr73 hK66
      have hr73x : RD SL_ b65 a63 a56 w62 [(5, none)] := hr73 _ (by kernel_rfl)
      obtain ⟨q72, -⟩ := hr73x
      obtain rfl : b65 = false := by cases b65; rfl; exact absurd ((hb70 rfl).2 _ rfl) (by decide)
      obtain ⟨HE, HBz, HZ59⟩ := hJ69
      have hF64 : Fr 37 a63 [(5, .slice (some ⟨b22, 0, none⟩) (n + 1) (n + 1))] := Fr.of hs67 hd68 ⟨(Fr.init hF58 q72 (by kernel_rfl)), trivial⟩
      refine s_pure hT (d := 19) (v := .slice (some ⟨b22, 0, none⟩) (n + 1) (n + 1)) (cs := []) (by kernel_rfl) (by kernel_rfl) trivial hF64 ?_
      rintro a2 ha2 hF2; rw [ha2]; exact hK66 _ _ rfl (grown_refl _ _)
    · -- operation 1
      rintro a75 w74 b77 KK83 hs79 hd80 hJ81 hb82 hr85 hK78
      have hr85x : RD SL_ b77 a75 a56 w74 [(6, none)] := hr85 _ (by kernel_rfl)
      obtain ⟨q84, -⟩ := hr85x
      obtain rfl : b77 = false := by cases b77; rfl; exact absurd ((hb82 rfl).2 _ rfl) (by decide)
      obtain ⟨HE, HBz, HZ59⟩ := hJ81
      have hF76 : Fr 37 a75 [(6, .int .i64 ((k : Nat) : Int))] := Fr.of hs79 hd80 ⟨(Fr.init hF58 q84 (by kernel_rfl)), trivial⟩
      refine s_pure hT (d := 20) (v := .int .i64 ((k : Nat) : Int)) (cs := []) (by kernel_rfl) (by kernel_rfl) trivial hF76 ?_
      rintro a2 ha2 hF2; rw [ha2]; exact hK78 _ _ rfl (grown_refl _ _)
    · -- operation 2
      rintro a87 w86 b89 KK95 hs91 hd92 hJ93 hb94 hr97 hK90
      have hr97x : RD SL_ b89 a87 a56 w86 [(5, none)] := hr97 _ (by kernel_rfl)
      obtain ⟨q96, -⟩ := hr97x
      obtain rfl : b89 = false := by cases b89; rfl; exact absurd ((hb94 rfl).2 _ rfl) (by decide)
      obtain ⟨HE, HBz, HZ59⟩ := hJ93
      have hF88 : Fr 37 a87 [(5, .slice (some ⟨b22, 0, none⟩) (n + 1) (n + 1))] := Fr.of hs91 hd92 ⟨(Fr.init hF58 q96 (by kernel_rfl)), trivial⟩
      refine s_pure hT (d := 21) (v := .slice (some ⟨b22, 0, none⟩) (n + 1) (n + 1)) (cs := []) (by kernel_rfl) (by kernel_rfl) trivial hF88 ?_
      rintro a2 ha2 hF2; rw [ha2]; exact hK90 _ _ rfl (grown_refl _ _)
    · -- operation 3
      rintro a99 w98 b101 KK107 hs103 hd104 hJ105 hb106 hr109 hK102
      have hr109x : RD SL_ b101 a99 a56 w98 [(6, none)] := hr109 _ (by kernel_rfl)
      obtain ⟨q108, -⟩ := hr109x
      obtain rfl : b101 = false := by cases b101; rfl; exact absurd ((hb106 rfl).2 _ rfl) (by decide)
      obtain ⟨HE, HBz, HZ59⟩ := hJ105
      have hF100 : Fr 37 a99 [(6, .int .i64 ((k : Nat) : Int))] := Fr.of hs103 hd104 ⟨(Fr.init hF58 q108 (by kernel_rfl)), trivial⟩
      refine s_pure hT (d := 22) (v := .int .i64 ((k : Nat) : Int)) (cs := []) (by kernel_rfl) (by kernel_rfl) trivial hF100 ?_
      rintro a2 ha2 hF2; rw [ha2]; exact hK102 _ _ rfl (grown_refl _ _)
    · -- operation 4
      rintro a111 w110 b113 KK119 hs115 hd116 hJ117 hb118 hr126 hK114
      have hr126x : RD SL_ b113 a111 a56 w110 [(21, some 2), (22, some 3)] := hr126 _ (by kernel_rfl)
      obtain ⟨⟨v121, q120, s122⟩, ⟨v124, q123, s125⟩, -⟩ := hr126x
      obtain rfl : v121 = .slice (some ⟨b22, 0, none⟩) (n + 1) (n + 1) := s122
      obtain rfl : v124 = .int .i64 ((k : Nat) : Int) := s125
      obtain rfl : b113 = false := by cases b113; rfl; exact absurd ((hb118 rfl).2 _ rfl) (by decide)
      obtain ⟨HE, HBz, HZ59⟩ := hJ117
      have hF112 : Fr 37 a111 [(21, .slice (some ⟨b22, 0, none⟩) (n + 1) (n + 1)), (22, .int .i64 ((k : Nat) : Int))] := Fr.of hs115 hd116 ⟨q120, q123, trivial⟩
      refine s_pure hT (d := 23) (v := .pointer (some ⟨b22, (0 + k), none⟩)) (cs := [0 ≤ ((k : Nat) : Int), ((k : Nat) : Int) < (((n + 1) : Nat) : Int), (some ⟨b22, 0, none⟩ : Option Addr) = some ⟨ablk (some ⟨b22, 0, none⟩), aoff (some ⟨b22, 0, none⟩), none⟩]) (by kernel_rfl) (by kernel_rfl) (And.intro (by omega) (And.intro (by omega) (And.intro rfl trivial))) hF112 ?_
      rintro a2 ha2 hF2; rw [ha2]; exact hK114 _ _ rfl (grown_refl _ _)
    · -- operation 5
      rintro a128 w127 b130 KK136 hs132 hd133 hJ134 hb135 hr140 hK131
      have hr140x : RD SL_ b130 a128 a56 w127 [(23, some 4)] := hr140 _ (by kernel_rfl)
      obtain ⟨⟨v138, q137, s139⟩, -⟩ := hr140x
      obtain rfl : v138 = .pointer (some ⟨b22, (0 + k), none⟩) := s139
      obtain rfl : b130 = false := by cases b130; rfl; exact absurd ((hb135 rfl).2 _ rfl) (by decide)
      obtain ⟨HE, HBz, HZ59⟩ := hJ134
      have hF129 : Fr 37 a128 [(23, .pointer (some ⟨b22, (0 + k), none⟩))] := Fr.of hs132 hd133 ⟨q137, trivial⟩
      refine s_load hT (d := 24) (A := ⟨b22, (0 + k), none⟩) (by kernel_rfl) hF129 (HBz.cells.at (vs_get .u64 zs (i := k) (by omega)) (by first | rfl | omega)) ?_
      rintro a141 ha143 hF142
      rw [ha143]; exact hK131 _ _ rfl (grown_refl _ _)
    · -- operation 6
      rintro a145 w144 b147 KK153 hs149 hd150 hJ151 hb152 hr157 hK148
      have hr157x : RD SL_ b147 a145 a56 w144 [(24, some 5)] := hr157 _ (by kernel_rfl)
      obtain ⟨⟨v155, q154, s156⟩, -⟩ := hr157x
      obtain rfl : v155 = .int .u64 (((zs.getD k 0) : Nat) : Int) := s156
      obtain rfl : b147 = false := by cases b147; rfl; exact absurd ((hb152 rfl).2 _ rfl) (by decide)
      obtain ⟨HE, HBz, HZ59⟩ := hJ151
      have hF146 : Fr 37 a145 [(24, .int .u64 (((zs.getD k 0) : Nat) : Int))] := Fr.of hs149 hd150 ⟨q154, trivial⟩
      refine s_pure hT (d := 25) (v := .int .u64 ((((zs.getD k 0) * 2 ^ 1 % 18446744073709551616) : Nat) : Int)) (cs := []) (by kernel_rfl) (by kernel_rfl) trivial hF146 ?_
      rintro a2 ha2 hF2; rw [ha2]; exact hK148 _ _ rfl (grown_refl _ _)
    · -- operation 7
      rintro a159 w158 b161 KK167 hs163 hd164 hJ165 hb166 hr169 hK162
      have hr169x : RD SL_ b161 a159 a56 w158 [(1, none)] := hr169 _ (by kernel_rfl)
      obtain ⟨q168, -⟩ := hr169x
      obtain rfl : b161 = false := by cases b161; rfl; exact absurd ((hb166 rfl).2 _ rfl) (by decide)
      obtain ⟨HE, HBz, HZ59⟩ := hJ165
      have hF160 : Fr 37 a159 [(1, .int .u64 ((cy : Nat) : Int))] := Fr.of hs163 hd164 ⟨(Fr.init hF58 q168 (by kernel_rfl)), trivial⟩
      refine s_pure hT (d := 26) (v := .int .u64 ((cy : Nat) : Int)) (cs := []) (by kernel_rfl) (by kernel_rfl) trivial hF160 ?_
      rintro a2 ha2 hF2; rw [ha2]; exact hK162 _ _ rfl (grown_refl _ _)
    · -- operation 8
      rintro a171 w170 b173 KK179 hs175 hd176 hJ177 hb178 hr186 hK174
      have hr186x : RD SL_ b173 a171 a56 w170 [(25, some 6), (26, some 7)] := hr186 _ (by kernel_rfl)
      obtain ⟨⟨v181, q180, s182⟩, ⟨v184, q183, s185⟩, -⟩ := hr186x
      obtain rfl : v181 = .int .u64 ((((zs.getD k 0) * 2 ^ 1 % 18446744073709551616) : Nat) : Int) := s182
      obtain rfl : v184 = .int .u64 ((cy : Nat) : Int) := s185
      obtain rfl : b173 = false := by cases b173; rfl; exact absurd ((hb178 rfl).2 _ rfl) (by decide)
      obtain ⟨HE, HBz, HZ59⟩ := hJ177
      have hF172 : Fr 37 a171 [(25, .int .u64 ((((zs.getD k 0) * 2 ^ 1 % 18446744073709551616) : Nat) : Int)), (26, .int .u64 ((cy : Nat) : Int))] := Fr.of hs175 hd176 ⟨q180, q183, trivial⟩
      refine s_pure hT (d := 27) (v := .int .u64 (((((zs.getD k 0) * 2 ^ 1 % 18446744073709551616) ||| cy) : Nat) : Int)) (cs := [((zs.getD k 0) * 2 ^ 1 % 18446744073709551616) < 18446744073709551616, cy < 18446744073709551616]) (by kernel_rfl) (by kernel_rfl) (And.intro (Nat.mod_lt _ (by decide)) (And.intro (by omega) trivial)) hF172 ?_
      rintro a2 ha2 hF2; rw [ha2]; exact hK174 _ _ rfl (grown_refl _ _)
    · -- operation 9
      rintro a188 w187 b190 KK196 hs192 hd193 hJ194 hb195 hr198 hK191
      have hr198x : RD SL_ b190 a188 a56 w187 [(5, none)] := hr198 _ (by kernel_rfl)
      obtain ⟨q197, -⟩ := hr198x
      obtain ⟨HE, HBz, HZ59⟩ := hJ194
      have hF189 : Fr 37 a188 [(5, .slice (some ⟨b22, 0, none⟩) (n + 1) (n + 1))] := Fr.of hs192 hd193 ⟨(Fr.init hF58 q197 (by kernel_rfl)), trivial⟩
      refine s_pure hT (d := 28) (v := .slice (some ⟨b22, 0, none⟩) (n + 1) (n + 1)) (cs := []) (by kernel_rfl) (by kernel_rfl) trivial hF189 ?_
      rintro a2 ha2 hF2; rw [ha2]; exact hK191 _ _ rfl (grown_refl _ _)
    · -- operation 10
      rintro a200 w199 b202 KK208 hs204 hd205 hJ206 hb207 hr210 hK203
      have hr210x : RD SL_ b202 a200 a56 w199 [(6, none)] := hr210 _ (by kernel_rfl)
      obtain ⟨q209, -⟩ := hr210x
      obtain ⟨HE, HBz, HZ59⟩ := hJ206
      have hF201 : Fr 37 a200 [(6, .int .i64 ((k : Nat) : Int))] := Fr.of hs204 hd205 ⟨(Fr.init hF58 q209 (by kernel_rfl)), trivial⟩
      refine s_pure hT (d := 29) (v := .int .i64 ((k : Nat) : Int)) (cs := []) (by kernel_rfl) (by kernel_rfl) trivial hF201 ?_
      rintro a2 ha2 hF2; rw [ha2]; exact hK203 _ _ rfl (grown_refl _ _)
    · -- operation 11
      rintro a212 w211 b214 KK220 hs216 hd217 hJ218 hb219 hr227 hK215
      have hr227x : RD SL_ b214 a212 a56 w211 [(28, some 9), (29, some 10)] := hr227 _ (by kernel_rfl)
      obtain ⟨⟨v222, q221, s223⟩, ⟨v225, q224, s226⟩, -⟩ := hr227x
      obtain rfl : v222 = .slice (some ⟨b22, 0, none⟩) (n + 1) (n + 1) := s223
      obtain rfl : v225 = .int .i64 ((k : Nat) : Int) := s226
      obtain ⟨HE, HBz, HZ59⟩ := hJ218
      have hF213 : Fr 37 a212 [(28, .slice (some ⟨b22, 0, none⟩) (n + 1) (n + 1)), (29, .int .i64 ((k : Nat) : Int))] := Fr.of hs216 hd217 ⟨q221, q224, trivial⟩
      refine s_pure hT (d := 30) (v := .pointer (some ⟨b22, (0 + k), none⟩)) (cs := [0 ≤ ((k : Nat) : Int), ((k : Nat) : Int) < (((n + 1) : Nat) : Int), (some ⟨b22, 0, none⟩ : Option Addr) = some ⟨ablk (some ⟨b22, 0, none⟩), aoff (some ⟨b22, 0, none⟩), none⟩]) (by kernel_rfl) (by kernel_rfl) (And.intro (by omega) (And.intro (by omega) (And.intro rfl trivial))) hF213 ?_
      rintro a2 ha2 hF2; rw [ha2]; exact hK215 _ _ rfl (grown_refl _ _)
    · -- operation 12
      rintro a229 w228 b231 KK237 hs233 hd234 hJ235 hb236 hr241 hK232
      have hr241x : RD SL_ b231 a229 a56 w228 [(30, some 11)] := hr241 _ (by kernel_rfl)
      obtain ⟨⟨v239, q238, s240⟩, -⟩ := hr241x
      obtain rfl : v239 = .pointer (some ⟨b22, (0 + k), none⟩) := s240
      obtain rfl : b231 = false := by cases b231; rfl; exact absurd ((hb236 rfl).2 _ rfl) (by decide)
      obtain ⟨HE, HBz, HZ59⟩ := hJ235
      have hF230 : Fr 37 a229 [(30, .pointer (some ⟨b22, (0 + k), none⟩))] := Fr.of hs233 hd234 ⟨q238, trivial⟩
      refine s_load hT (d := 31) (A := ⟨b22, (0 + k), none⟩) (by kernel_rfl) hF230 (HBz.cells.at (vs_get .u64 zs (i := k) (by omega)) (by first | rfl | omega)) ?_
      rintro a242 ha244 hF243
      rw [ha244]; exact hK232 _ _ rfl (grown_refl _ _)
    · -- operation 13
      rintro a246 w245 b248 KK254 hs250 hd251 hJ252 hb253 hr258 hK249
      have hr258x : RD SL_ b248 a246 a56 w245 [(31, some 12)] := hr258 _ (by kernel_rfl)
      obtain ⟨⟨v256, q255, s257⟩, -⟩ := hr258x
      obtain rfl : v256 = .int .u64 (((zs.getD k 0) : Nat) : Int) := s257
      obtain ⟨HE, HBz, HZ59⟩ := hJ252
      have hF247 : Fr 37 a246 [(31, .int .u64 (((zs.getD k 0) : Nat) : Int))] := Fr.of hs250 hd251 ⟨q255, trivial⟩
      refine s_pure hT (d := 32) (v := .int .u64 ((((zs.getD k 0) / 2 ^ 63) : Nat) : Int)) (cs := [(zs.getD k 0) < 18446744073709551616]) (by kernel_rfl) (by kernel_rfl) (And.intro (getD_lt (by decide) hzb _) trivial) hF247 ?_
      rintro a2 ha2 hF2; rw [ha2]; exact hK249 _ _ rfl (grown_refl _ _)
    · -- operation 14
      rintro a260 w259 b262 KK268 hs264 hd265 hJ266 hb267 hr275 hK263
      have hr275x : RD SL_ b262 a260 a56 w259 [(19, some 0), (20, some 1)] := hr275 _ (by kernel_rfl)
      obtain ⟨⟨v270, q269, s271⟩, ⟨v273, q272, s274⟩, -⟩ := hr275x
      obtain rfl : v270 = .slice (some ⟨b22, 0, none⟩) (n + 1) (n + 1) := s271
      obtain rfl : v273 = .int .i64 ((k : Nat) : Int) := s274
      obtain rfl : b262 = false := by cases b262; rfl; exact absurd ((hb267 rfl).2 _ rfl) (by decide)
      obtain ⟨HE, HBz, HZ59⟩ := hJ266
      have hF261 : Fr 37 a260 [(19, .slice (some ⟨b22, 0, none⟩) (n + 1) (n + 1)), (20, .int .i64 ((k : Nat) : Int))] := Fr.of hs264 hd265 ⟨q269, q272, trivial⟩
      refine s_pure hT (d := 33) (v := .pointer (some ⟨b22, (0 + k), none⟩)) (cs := [0 ≤ ((k : Nat) : Int), ((k : Nat) : Int) < (((n + 1) : Nat) : Int), (some ⟨b22, 0, none⟩ : Option Addr) = some ⟨ablk (some ⟨b22, 0, none⟩), aoff (some ⟨b22, 0, none⟩), none⟩]) (by kernel_rfl) (by kernel_rfl) (And.intro (by omega) (And.intro (by omega) (And.intro rfl trivial))) hF261 ?_
      rintro a2 ha2 hF2; rw [ha2]; exact hK263 _ _ rfl (grown_refl _ _)
    · -- operation 15
      rintro a277 w276 b279 KK285 hs281 hd282 hJ283 hb284 hr292 hK280
      have hr292x : RD SL_ b279 a277 a56 w276 [(33, some 14), (27, some 8)] := hr292 _ (by kernel_rfl)
      obtain ⟨⟨v287, q286, s288⟩, ⟨v290, q289, s291⟩, -⟩ := hr292x
      obtain rfl : v287 = .pointer (some ⟨b22, (0 + k), none⟩) := s288
      obtain rfl : v290 = .int .u64 (((((zs.getD k 0) * 2 ^ 1 % 18446744073709551616) ||| cy) : Nat) : Int) := s291
      obtain rfl : b279 = false := by cases b279; rfl; exact absurd rfl (hb284 rfl).1
      obtain ⟨HE, HBz, HZ59⟩ := hJ283
      have hF278 : Fr 37 a277 [(33, .pointer (some ⟨b22, (0 + k), none⟩)), (27, .int .u64 (((((zs.getD k 0) * 2 ^ 1 % 18446744073709551616) ||| cy) : Nat) : Int))] := Fr.of hs281 hd282 ⟨q286, q289, trivial⟩
      refine s_store hT (b := b22) (off := k) (p := ⟨b22, (0 + k), none⟩) (v := .int .u64 (((((zs.getD k 0) * 2 ^ 1 % 18446744073709551616) ||| cy) : Nat) : Int)) (by kernel_rfl) hF278 HBz (by first | rfl | (congr 1; omega)) (by (first | (simp only [vs_length, vi_length]; omega) | (simp; omega) | omega)) ?_
      rintro a295 w293 ha297 hF296 HBzx g294; replace HBz := HBzx
      rw [vs_set] at HBz
      replace HE := HE.thenS g294 (by omega)
      replace HZ59 := Nat.le_trans HZ59 g294.size
      rw [ha297]; exact hK280 undef _ trivial ⟨⟨.inl rfl, .inl rfl, .inl rfl, .inl rfl, .inl rfl, .inl rfl, .inl rfl, .inl rfl, .inl rfl, .inl rfl, .inl rfl, .inl rfl, .inl rfl, .inl rfl, .inl rfl, .inl rfl, .inl rfl, trivial⟩, ⟨HE, HBz, HZ59⟩⟩
    · -- operation 16
      rintro a299 w298 b301 KK307 hs303 hd304 hJ305 hb306 hr311 hK302
      have hr311x : RD SL_ b301 a299 a56 w298 [(32, some 13)] := hr311 _ (by kernel_rfl)
      obtain ⟨⟨v309, q308, s310⟩, -⟩ := hr311x
      obtain rfl : v309 = .int .u64 ((((zs.getD k 0) / 2 ^ 63) : Nat) : Int) := s310
      obtain ⟨HE, HBz, HZ59⟩ := hJ305
      have hF300 : Fr 37 a299 [(32, .int .u64 ((((zs.getD k 0) / 2 ^ 63) : Nat) : Int))] := Fr.of hs303 hd304 ⟨q308, trivial⟩
      refine s_pure hT (d := 1) (v := .int .u64 ((((zs.getD k 0) / 2 ^ 63) : Nat) : Int)) (cs := []) (by kernel_rfl) (by kernel_rfl) trivial hF300 ?_
      rintro a2 ha2 hF2; rw [ha2]; exact hK302 _ _ rfl (grown_refl _ _)
    · -- behind the region
      rintro a313 w314 hs315 hd316 ⟨⟨v318, q319, s320⟩, q321, q322, q323, q324, q325, -⟩ ⟨HE, HBz, HZ59⟩
      obtain rfl : v318 = .int .u64 ((((zs.getD k 0) / 2 ^ 63) : Nat) : Int) := s320
      replace HBz : Blk w314 b22 47 (vs .u64 (zs.set k (((zs.getD k 0) * 2 ^ 1 % 18446744073709551616) ||| cy))) := HBz
      have hF326 : Fr 37 a313 [(1, .int .u64 ((((zs.getD k 0) / 2 ^ 63) : Nat) : Int)), (6, .int .i64 ((k : Nat) : Int)), (17, .bool ((decide (((k : Nat) : Int) < (((n + 1) : Nat) : Int))))), (5, .slice (some ⟨b22, 0, none⟩) (n + 1) (n + 1)), (15, .int .i64 (((n + 1) : Nat) : Int)), (16, .int .i64 ((k : Nat) : Int))] := Fr.of hs315 hd316 ⟨q319, (Fr.init hF58 q321 (by kernel_rfl)), (Fr.init hF58 q322 (by kernel_rfl)), (Fr.init hF58 q323 (by kernel_rfl)), (Fr.init hF58 q324 (by kernel_rfl)), (Fr.init hF58 q325 (by kernel_rfl)), trivial⟩
      clear hF58 hs315 hd316 q319 q321 q322 q323 q324 q325
      refine hK53 _ _ ?_
      refine wp_region_lit ?_
      refine pures_end hT 2 _ hF326 (F' := [(16, .int .i64 (((k + 1) : Nat) : Int)), (34, .int .i64 (((k + 1) : Nat) : Int)), (1, .int .u64 ((((zs.getD k 0) / 2 ^ 63) : Nat) : Int)), (6, .int .i64 ((k : Nat) : Int)), (17, .bool ((decide (((k : Nat) : Int) < (((n + 1) : Nat) : Int))))), (5, .slice (some ⟨b22, 0, none⟩) (n + 1) (n + 1)), (15, .int .i64 (((n + 1) : Nat) : Int)), (16, .int .i64 ((k : Nat) : Int))]) (cs := [-9223372036854775808 ≤ (((k + 1) : Nat) : Int), (((k + 1) : Nat) : Int) ≤ 9223372036854775807]) (by kernel_rfl) rfl (And.intro (by omega) (And.intro (by omega) trivial)) ?_
      intro a327 hF328; clear hF326 a313
      have hF329 := hF328.pick [16, 1, 6, 17, 5, 15] (G := [(16, .int .i64 (((k + 1) : Nat) : Int)), (1, .int .u64 ((((zs.getD k 0) / 2 ^ 63) : Nat) : Int)), (6, .int .i64 ((k : Nat) : Int)), (17, .bool ((decide (((k : Nat) : Int) < (((n + 1) : Nat) : Int))))), (5, .slice (some ⟨b22, 0, none⟩) (n + 1) (n + 1)), (15, .int .i64 (((n + 1) : Nat) : Int))]) (by kernel_rfl); clear hF328
      refine hK43 _ _ _ (by omega) ⟨(k + 1), (zs.set k (((zs.getD k 0) * 2 ^ 1 % 18446744073709551616) ||| cy)), ((zs.getD k 0) / 2 ^ 63), rfl, hF329.pick [1, 5, 15, 16] (by kernel_rfl), HE, HBz, (by omega), (by simpa using hzl), (set_lt hzb (by rw [dbl_or hcy]; exact Nat.mod_lt _ (by decide)) _), (by have := getD_lt (by decide) hzb k; omega), (fun j hj => by rw [getD_set _ _ _ _ (by omega), if_neg (by omega)]; exact hsame j (by omega)), (by rw [dbl_or hcy, dbl_carry (getD_lt (by decide) hzb k) hcy, hsame k (Nat.le_refl k)]; exact dbl_step (by omega) (hsame k (Nat.le_refl k)) hv)⟩
  · -- h51
    refine wp_exit ?_
    refine hK34 _ _ ?_
    refine wp_seq_k (fun K330 hK331 => ?_)
    refine wp_region_lit ?_
    refine pures hT 1 _ hF48 (F' := [(35, .slice (some ⟨b22, 0, none⟩) (n + 1) (n + 1)), (17, .bool ((decide (((k : Nat) : Int) < (((n + 1) : Nat) : Int))))), (1, .int .u64 ((cy : Nat) : Int)), (5, .slice (some ⟨b22, 0, none⟩) (n + 1) (n + 1)), (15, .int .i64 (((n + 1) : Nat) : Int)), (16, .int .i64 ((k : Nat) : Int))]) (cs := []) (by kernel_rfl) trivial ?_
    intro a332 hF333; clear hF48 a47
    have hz337 := HE.size
    have hz338 := HBz.lt
    refine wl (s_call (d := 36) (f := 48) (l := [.slice (some ⟨b22, 0, none⟩) (n + 1) (n + 1)]) (by kernel_rfl) hF333 cl48 (nums_trim (some ⟨b22, 0, none⟩) (n + 1) (n + 1) zs _ (by first | assumption | omega | simp | decide) HBz.rd (by first | assumption | omega | simp | decide) (by first | assumption | omega | simp | decide)) ?_)
    rintro a339 w334 v335 ⟨rfl, HX336⟩ ha341 hF340; clear ha341 hF333 a332
    replace HE := HE.thenN HX336.g
    replace HBz := HBz.growN HX336.g
    refine pures_end hT 1 _ hF340 (F' := [(4, .slice (some ⟨b22, 0, none⟩) (tlen zs) (n + 1)), (36, .slice (some ⟨b22, 0, none⟩) (tlen zs) (n + 1)), (35, .slice (some ⟨b22, 0, none⟩) (n + 1) (n + 1)), (17, .bool ((decide (((k : Nat) : Int) < (((n + 1) : Nat) : Int))))), (1, .int .u64 ((cy : Nat) : Int)), (5, .slice (some ⟨b22, 0, none⟩) (n + 1) (n + 1)), (15, .int .i64 (((n + 1) : Nat) : Int)), (16, .int .i64 ((k : Nat) : Int))]) (cs := []) (by kernel_rfl) rfl trivial ?_
    intro a342 hF343; clear hF340 a339
    have hF344 := hF343.pick [4, 17, 1, 5, 15, 16] (G := [(4, .slice (some ⟨b22, 0, none⟩) (tlen zs) (n + 1)), (17, .bool ((decide (((k : Nat) : Int) < (((n + 1) : Nat) : Int))))), (1, .int .u64 ((cy : Nat) : Int)), (5, .slice (some ⟨b22, 0, none⟩) (n + 1) (n + 1)), (15, .int .i64 (((n + 1) : Nat) : Int)), (16, .int .i64 ((k : Nat) : Int))]) (by kernel_rfl); clear hF343
    refine hK331 _ _ ?_
    refine wp_ret ?_
    refine ret1 hF344 rfl (v := .slice (some ⟨b22, 0, none⟩) (tlen zs) (n + 1)) (by kernel_rfl) ?_
    have ht := trimL_dig (b := 18446744073709551616) (by decide) hzb
    rw [dbl_done hn hzl hx hb (show k = n + 1 from by omega) hv] at ht
    rw [← ht]
    have hO := Own.cut (HBz.own (B := w.heap.size) (by omega) (by simp only [vs_length, maxLen]; omega)) (m := tlen zs) (by simp only [vs_length]; exact tlen_le zs)
    rw [Nat.mul_one, vs_take] at hO
    simp only [vs_length, hzl] at hO
    exact ⟨_, _, by rw [trimL_length], HE, by rw [trimL_length]; exact hO⟩

end Go.Proofs.Ytdabkjflpbbpeaa
