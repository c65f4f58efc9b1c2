/- Walks of functions of the program: lemmas. -/
import Derived.Test.YtdabkjflpbbpeaaLa
import Derived.Test.YtdabkjflpbbpeaaWj
import Derived.Test.YtdabkjflpbbpeaaLd
import Derived.Test.YtdabkjflpbbpeaaKg
set_option maxRecDepth 100000
set_option linter.unusedVariables false
set_option linter.unusedSimpArgs false
namespace Go.Proofs.Ytdabkjflpbbpeaa
open Go.Proofs Go.RowKit

theorem scal_Order  (w : World)  :
    Calls Try.prog 26 [].toArray w (Ret fun v w' => v = .agg (vs .u8 oL).toArray ∧ Ex w w') := by
  refine enter Try.func26 rfl (n := 2) Try.ntmps26 (by simp) ?_
  intro a hF
  have HE : Ex w w := Ex.refl w
  refine wp_seq_k (fun K1 hK2 => ?_)
  refine wp_region_lit ?_
  have hz9 := HE.size
  refine wl (s_alloc hT (d := 0) (T := 32) (l := vs .u8 [0, 0, 0, 0, 0, 0, 0, 0, 0, 0, 0, 0, 0, 0, 0, 0, 0, 0, 0, 0, 0, 0, 0, 0, 0, 0, 0, 0, 0, 0, 0, 0]) (by kernel_rfl) hF ?_)
  rintro a10 w4 b3 h7 h8 HB6 g5 ha12 hF11; clear ha12 hF a
  replace HE := HE.thenN g5
  refine wpList_nil ?_
  refine hK2 _ _ ?_
  refine wp_seq_k (fun K13 hK14 => ?_)
  refine wp_region_lit ?_
  refine wl (s_build (d := 1) (t := 32) (ps := [(0, .int .u8 237), (1, .int .u8 211), (2, .int .u8 245), (3, .int .u8 92), (4, .int .u8 26), (5, .int .u8 99), (6, .int .u8 18), (7, .int .u8 88), (8, .int .u8 214), (9, .int .u8 156), (10, .int .u8 247), (11, .int .u8 162), (12, .int .u8 222), (13, .int .u8 249), (14, .int .u8 222), (15, .int .u8 20), (31, .int .u8 16)]) (cs := (vs .u8 [237, 211, 245, 92, 26, 99, 18, 88, 214, 156, 247, 162, 222, 249, 222, 20, 0, 0, 0, 0, 0, 0, 0, 0, 0, 0, 0, 0, 0, 0, 0, 16]).toArray) (by kernel_rfl) (by kernel_rfl) hF11 ?_)
  rintro a15 ha17 hF16; clear ha17 hF11 a10
  refine wl (s_storeV hT (b := b3) (l2 := vs .u8 [237, 211, 245, 92, 26, 99, 18, 88, 214, 156, 247, 162, 222, 249, 222, 20, 0, 0, 0, 0, 0, 0, 0, 0, 0, 0, 0, 0, 0, 0, 0, 16]) (sz := 32) (by kernel_rfl) hF16 HB6 (by first | rfl | (simp only [vs_length, vi_length]; first | assumption | omega) | (simp; done)) (by first | rfl | (simp only [vs_length, vi_length]; first | assumption | omega) | (simp; done) | (simp only [vs_length, vi_length]; simp; omega)) (by exact vs_one) ?_)
  rintro a20 w18 ha22 hF21 HB6x g19; clear ha22 hF16 a15; replace HB6 := HB6x
  replace HE := HE.thenS g19 (by omega)
  refine wpList_nil ?_
  have hF23 := hF21.pick [0] (G := [(0, .pointer (some ⟨b3, 0, none⟩))]) (by kernel_rfl); clear hF21
  refine hK14 _ _ ?_
  refine wp_ret ?_
  refine retR1 (by first | exact .inl rfl | exact .inr rfl) hF23 rfl (resC hT (t := 0) (ty := 32) (b := b3) (by kernel_rfl) (i := tr32) (by kernel_rfl) rfl HB6 (by show _ = 32; first | rfl | (simp only [vs_length, vi_length]; first | assumption | omega) | (simp; done))) ?_
  exact ⟨rfl, HE⟩

theorem scal_sum (A : Option Addr) (n c : Nat) (xs : List Nat) (x : Nat) (b : Nat) (zs : List Nat) (w : World) (hx : nv 256 xs = x) (hn : xs.length = n) (hR : Rd w A (vs .u8 xs)) (hbx : By xs) (hl : n ≤ 1048576) (hbz : By zs) (hz : zs.length = 32) (HB : Blk w b 32 (vs .u8 zs)) :
    Calls Try.prog 47 [.slice A n c, .pointer (some ⟨b, 0, none⟩)].toArray w (Ret fun v w' => ∃ A' c', v = .slice A' (dig 256 (x + nv 256 zs)).length c' ∧ Ex w w' ∧ Own w' w.heap.size 5 1 A' (dig 256 (x + nv 256 zs)).length c' (vs .u8 (dig 256 (x + nv 256 zs)))) := by
  subst hx
  subst hn
  refine enter Try.func47 rfl (n := 7) Try.ntmps47 (by simp) ?_
  intro a hF
  have HE : Ex w w := Ex.refl w
  refine wp_seq_k (fun K1 hK2 => ?_)
  refine wp_region_lit ?_
  refine pures_end hT 1 _ hF (F' := [(3, .slice none 0 0), (0, .slice A xs.length c), (1, .pointer (some ⟨b, 0, none⟩))]) (cs := []) (by kernel_rfl) rfl trivial ?_
  intro a3 hF4; clear hF a
  refine hK2 _ _ ?_
  refine wp_seq_k (fun K5 hK6 => ?_)
  refine wp_region_lit ?_
  refine pures hT 1 _ hF4 (F' := [(4, .slice A xs.length c), (3, .slice none 0 0), (0, .slice A xs.length c), (1, .pointer (some ⟨b, 0, none⟩))]) (cs := []) (by kernel_rfl) trivial ?_
  intro a7 hF8; clear hF4 a3
  refine wl (s_sliceA hT (d := 5) (b := b) (off := 0) (m := 32) (sz := 1) (lo := 0) (hi := 32) (by kernel_rfl) hF8 (by omega) (by omega) (by omega) ?_)
  rintro a9 ha11 hF10; clear ha11 hF8 a7
  replace hF10 : Fr 7 a9 [(5, .slice (some ⟨b, 0, none⟩) 32 32), (4, .slice A xs.length c), (3, .slice none 0 0), (0, .slice A xs.length c), (1, .pointer (some ⟨b, 0, none⟩))] := hF10
  have hz18 := HE.size
  have hz19 := HB.lt
  refine wl (s_call (d := 6) (f := 17) (l := [.slice A xs.length c, .slice (some ⟨b, 0, none⟩) 32 32]) (by kernel_rfl) hF10 cl17 (Add' (A := A) (n := xs.length) (c := c) (x := (nv 256 xs)) (xs := xs) (A2 := (some ⟨b, 0, none⟩)) (n2 := 32) (c2 := 32) (y := (nv 256 zs)) (ys := zs) (w := _) rfl rfl  rfl (by first | rfl | exact le_length _ _ | assumption) hR HB.rd hbx hbz hl (by decide)) ?_)
  rintro a20 w15 v16 ⟨A12, c13, rfl, HX17, HO14⟩ ha22 hF21; clear ha22 hF10 a9
  replace HE := HE.thenN HX17.g
  replace HB := HB.growN HX17.g
  have hcp23 := HO14.cap
  refine pures_end hT 1 _ hF21 (F' := [(3, .slice A12 ((dig 256 ((nv 256 xs) + (nv 256 zs))).length) c13), (6, .slice A12 ((dig 256 ((nv 256 xs) + (nv 256 zs))).length) c13), (5, .slice (some ⟨b, 0, none⟩) 32 32), (4, .slice A xs.length c), (3, .slice none 0 0), (0, .slice A xs.length c), (1, .pointer (some ⟨b, 0, none⟩))]) (cs := []) (by kernel_rfl) rfl trivial ?_
  intro a24 hF25; clear hF21 a20
  have hF26 := hF25.pick [3, 0, 1] (G := [(3, .slice A12 ((dig 256 ((nv 256 xs) + (nv 256 zs))).length) c13), (0, .slice A xs.length c), (1, .pointer (some ⟨b, 0, none⟩))]) (by kernel_rfl); clear hF25
  refine hK6 _ _ ?_
  refine wp_ret ?_
  refine ret1 hF26 rfl (v := .slice A12 ((dig 256 ((nv 256 xs) + (nv 256 zs))).length) c13) (by kernel_rfl) ?_
  exact ⟨_, _, rfl, HE, HO14.rebase (by omega)⟩

theorem scal_Clamp (xs : List Nat) (w : World) (hl : xs.length = 32) (hbx : By xs) :
    Calls Try.prog 34 [.agg (vs .u8 xs).toArray].toArray w (Ret fun v w' => v = .agg (vs .u8 (clampL xs)).toArray ∧ Ex w w') := by
  refine enter Try.func34 rfl (n := 13) Try.ntmps34 (by simp) ?_
  intro a hF
  have HE : Ex w w := Ex.refl w
  refine wp_seq_k (fun K1 hK2 => ?_)
  refine wp_region_lit ?_
  have hz9 := HE.size
  refine wl (s_alloc hT (d := 1) (T := 32) (l := vs .u8 xs) (by kernel_rfl) hF ?_)
  rintro a10 w4 b3 h7 h8 HB6 g5 ha12 hF11; clear ha12 hF a
  replace HE := HE.thenN g5
  have hz19 := HE.size
  have hz20 := HB6.lt
  refine wl (s_alloc hT (d := 2) (T := 32) (l := vs .u8 [0, 0, 0, 0, 0, 0, 0, 0, 0, 0, 0, 0, 0, 0, 0, 0, 0, 0, 0, 0, 0, 0, 0, 0, 0, 0, 0, 0, 0, 0, 0, 0]) (by kernel_rfl) hF11 ?_)
  rintro a21 w14 b13 h17 h18 HB16 g15 ha23 hF22; clear ha23 hF11 a10
  replace HE := HE.thenN g15
  replace HB6 := HB6.growN g15
  refine wpList_nil ?_
  refine hK2 _ _ ?_
  refine wp_seq_k (fun K24 hK25 => ?_)
  have hc0 := getD_lt (by decide) hbx 0
  have hc1 := getD_lt (by decide) hbx 31
  refine wp_region_lit ?_
  refine pures hT 1 _ hF22 (F' := [(3, .pointer (some ⟨b3, 0, none⟩)), (2, .pointer (some ⟨b13, 0, none⟩)), (1, .pointer (some ⟨b3, 0, none⟩)), (0, .agg (vs .u8 xs).toArray)]) (cs := [0 ≤ (0 : Int), (0 : Int) < 32]) (by kernel_rfl) (And.intro (by first | omega | (simp only [List.length_set]; omega)) (And.intro (by first | omega | (simp only [List.length_set]; omega)) trivial)) ?_
  intro a26 hF27; clear hF22 a21
  refine wl (s_load hT (d := 4) (A := ⟨b3, 0, none⟩) (by kernel_rfl) hF27 (HB6.cells.at (vs_get .u8 xs (i := 0) (by first | omega | (simp only [List.length_set]; omega))) (by first | rfl | omega)) ?_)
  rintro a28 ha30 hF29; clear ha30 hF27 a26
  refine pures hT 2 _ hF29 (F' := [(6, .pointer (some ⟨b3, 0, none⟩)), (5, .int .u8 ((((xs.getD 0 0) &&& 248) : Nat) : Int)), (4, .int .u8 (((xs.getD 0 0) : Nat) : Int)), (3, .pointer (some ⟨b3, 0, none⟩)), (2, .pointer (some ⟨b13, 0, none⟩)), (1, .pointer (some ⟨b3, 0, none⟩)), (0, .agg (vs .u8 xs).toArray)]) (cs := [(xs.getD 0 0) < 256, 248 < 256, 0 ≤ (0 : Int), (0 : Int) < 32]) (by kernel_rfl) (And.intro (by first | omega | (simp only [List.length_set]; omega)) (And.intro (by first | omega | (simp only [List.length_set]; omega)) (And.intro (by first | omega | (simp only [List.length_set]; omega)) (And.intro (by first | omega | (simp only [List.length_set]; omega)) trivial)))) ?_
  intro a31 hF32; clear hF29 a28
  refine wl (s_store hT (b := b3) (off := 0) (p := ⟨b3, 0, none⟩) (v := .int .u8 ((((xs.getD 0 0) &&& 248) : Nat) : Int)) (by kernel_rfl) hF32 HB6 (by first | rfl | (congr 1; omega)) (by (first | (simp only [vs_length, vi_length]; omega) | (simp only [vs_length, le_length, List.length_set]; done) | (simp only [vs_length, le_length, List.length_set]; first | rfl | assumption | (symm; assumption) | omega | simp) | (simp; omega) | omega)) ?_)
  rintro a35 w33 ha37 hF36 HB6x g34; clear ha37 hF32 a31; replace HB6 := HB6x
  rw [vs_set] at HB6
  replace HE := HE.thenS g34 (by first | omega | (simp only [List.length_set]; omega))
  replace HB16 := HB16.growS g34 (by first | omega | (simp only [List.length_set]; omega))
  refine wpList_nil ?_
  have hF38 := hF36.pick [2, 1, 0] (G := [(2, .pointer (some ⟨b13, 0, none⟩)), (1, .pointer (some ⟨b3, 0, none⟩)), (0, .agg (vs .u8 xs).toArray)]) (by kernel_rfl); clear hF36
  refine hK25 _ _ ?_
  refine wp_seq_k (fun K39 hK40 => ?_)
  refine wp_region_lit ?_
  refine pures hT 1 _ hF38 (F' := [(7, .pointer (some ⟨b3, 31, none⟩)), (2, .pointer (some ⟨b13, 0, none⟩)), (1, .pointer (some ⟨b3, 0, none⟩)), (0, .agg (vs .u8 xs).toArray)]) (cs := [0 ≤ (31 : Int), (31 : Int) < 32]) (by kernel_rfl) (And.intro (by first | omega | (simp only [List.length_set]; omega)) (And.intro (by first | omega | (simp only [List.length_set]; omega)) trivial)) ?_
  intro a41 hF42; clear hF38 a35
  refine wl (s_load hT (d := 8) (A := ⟨b3, 31, none⟩) (by kernel_rfl) hF42 (HB6.cells.at (vs_get .u8 (xs.set 0 ((xs.getD 0 0) &&& 248)) (i := 31) (by first | omega | (simp only [List.length_set]; omega))) (by first | rfl | omega)) ?_)
  rintro a43 ha45 hF44; clear ha45 hF42 a41
  refine pures hT 3 _ hF44 (F' := [(11, .pointer (some ⟨b3, 31, none⟩)), (10, .int .u8 ((((((xs.set 0 ((xs.getD 0 0) &&& 248)).getD 31 0) &&& 63) ||| 64) : Nat) : Int)), (9, .int .u8 (((((xs.set 0 ((xs.getD 0 0) &&& 248)).getD 31 0) &&& 63) : Nat) : Int)), (8, .int .u8 ((((xs.set 0 ((xs.getD 0 0) &&& 248)).getD 31 0) : Nat) : Int)), (7, .pointer (some ⟨b3, 31, none⟩)), (2, .pointer (some ⟨b13, 0, none⟩)), (1, .pointer (some ⟨b3, 0, none⟩)), (0, .agg (vs .u8 xs).toArray)]) (cs := [((xs.set 0 ((xs.getD 0 0) &&& 248)).getD 31 0) < 256, 63 < 256, (((xs.set 0 ((xs.getD 0 0) &&& 248)).getD 31 0) &&& 63) < 256, 64 < 256, 0 ≤ (31 : Int), (31 : Int) < 32]) (by kernel_rfl) (And.intro (by rw [getD_set _ _ _ _ (by omega), if_neg (by decide)]; have := Nat.and_le_right (n := xs.getD 31 0) (m := 63); omega) (And.intro (by first | omega | (simp only [List.length_set]; omega)) (And.intro (by rw [getD_set _ _ _ _ (by omega), if_neg (by decide)]; have := Nat.and_le_right (n := xs.getD 31 0) (m := 63); omega) (And.intro (by first | omega | (simp only [List.length_set]; omega)) (And.intro (by first | omega | (simp only [List.length_set]; omega)) (And.intro (by first | omega | (simp only [List.length_set]; omega)) trivial)))))) ?_
  intro a46 hF47; clear hF44 a43
  refine wl (s_store hT (b := b3) (off := 31) (p := ⟨b3, 31, none⟩) (v := .int .u8 ((((((xs.set 0 ((xs.getD 0 0) &&& 248)).getD 31 0) &&& 63) ||| 64) : Nat) : Int)) (by kernel_rfl) hF47 HB6 (by first | rfl | (congr 1; omega)) (by (first | (simp only [vs_length, vi_length]; omega) | (simp only [vs_length, le_length, List.length_set]; done) | (simp only [vs_length, le_length, List.length_set]; first | rfl | assumption | (symm; assumption) | omega | simp) | (simp; omega) | omega)) ?_)
  rintro a50 w48 ha52 hF51 HB6x g49; clear ha52 hF47 a46; replace HB6 := HB6x
  rw [vs_set] at HB6
  replace HE := HE.thenS g49 (by first | omega | (simp only [List.length_set]; omega))
  replace HB16 := HB16.growS g49 (by first | omega | (simp only [List.length_set]; omega))
  refine wpList_nil ?_
  have hF53 := hF51.pick [2, 1, 0] (G := [(2, .pointer (some ⟨b13, 0, none⟩)), (1, .pointer (some ⟨b3, 0, none⟩)), (0, .agg (vs .u8 xs).toArray)]) (by kernel_rfl); clear hF51
  refine hK40 _ _ ?_
  refine wp_seq_k (fun K54 hK55 => ?_)
  refine wp_region_lit ?_
  refine wl (s_loadA hT (d := 12) (b := b3) (off := 0) (sz := 32) (l := vs .u8 ((xs.set 0 ((xs.getD 0 0) &&& 248)).set 31 ((((xs.set 0 ((xs.getD 0 0) &&& 248)).getD 31 0) &&& 63) ||| 64))) (by kernel_rfl) hF53 HB6.cells (by (first | (simp only [vs_length, vi_length]; omega) | (simp only [vs_length, le_length, List.length_set]; done) | (simp only [vs_length, le_length, List.length_set]; first | rfl | assumption | (symm; assumption) | omega | simp) | (simp; omega) | omega)) ?_)
  rintro a56 ha58 hF57; clear ha58 hF53 a50
  refine wl (s_storeV hT (b := b13) (l2 := vs .u8 ((xs.set 0 ((xs.getD 0 0) &&& 248)).set 31 ((((xs.set 0 ((xs.getD 0 0) &&& 248)).getD 31 0) &&& 63) ||| 64))) (sz := 32) (by kernel_rfl) hF57 HB16 (by first | rfl | (simp only [vs_length, vi_length]; first | assumption | omega) | (simp only [vs_length, le_length, List.length_set]; done) | (simp only [vs_length, le_length, List.length_set]; first | rfl | assumption | (symm; assumption) | omega | simp) | (simp; done)) (by first | rfl | (simp only [vs_length, vi_length]; first | assumption | omega) | (simp only [vs_length, le_length, List.length_set]; done) | (simp only [vs_length, le_length, List.length_set]; first | rfl | assumption | (symm; assumption) | omega | simp) | (simp; done) | (simp only [vs_length, vi_length]; simp; omega)) (by exact vs_one) ?_)
  rintro a61 w59 ha63 hF62 HB16x g60; clear ha63 hF57 a56; replace HB16 := HB16x
  replace HE := HE.thenS g60 (by first | omega | (simp only [List.length_set]; omega))
  replace HB6 := HB6.growS g60 (by first | omega | (simp only [List.length_set]; omega))
  refine wpList_nil ?_
  have hF64 := hF62.pick [2, 1, 0] (G := [(2, .pointer (some ⟨b13, 0, none⟩)), (1, .pointer (some ⟨b3, 0, none⟩)), (0, .agg (vs .u8 xs).toArray)]) (by kernel_rfl); clear hF62
  refine hK55 _ _ ?_
  refine wp_ret ?_
  refine retR1 (by first | exact .inl rfl | exact .inr rfl) hF64 rfl (resC hT (t := 2) (ty := 32) (b := b13) (by kernel_rfl) (i := tr32) (by kernel_rfl) rfl HB16 (by show _ = 32; first | rfl | (simp only [vs_length, vi_length]; first | assumption | omega) | (simp only [vs_length, le_length, List.length_set]; done) | (simp only [vs_length, le_length, List.length_set]; first | rfl | assumption | (symm; assumption) | omega | simp) | (simp; done))) ?_
  refine ⟨?_, HE⟩
  unfold clampL
  have e1 : (xs.set 0 ((xs.getD 0 0 + 256 - xs.getD 0 0 % 8) % 256)).getD 31 0 = xs.getD 31 0 := by rw [getD_set _ _ _ _ (by omega), if_neg (by decide)]
  first | rw [e1] | rw [and248 hc0, e1, and63 hc1]

theorem ref18_Clamp (xs : List Nat) (w : World) (hl : xs.length = 32) (hbx : By xs) :
    Calls Try.prog 35 [.agg (vs .u8 xs).toArray].toArray w (Ret fun v w' => v = .agg (vs .u8 (clampL xs)).toArray ∧ Ex w w') := by
  refine enter Try.func35 rfl (n := 16) Try.ntmps35 (by simp) ?_
  intro a hF
  have HE : Ex w w := Ex.refl w
  refine wp_seq_k (fun K1 hK2 => ?_)
  refine wp_region_lit ?_
  have hz9 := HE.size
  refine wl (s_alloc hT (d := 1) (T := 32) (l := vs .u8 xs) (by kernel_rfl) hF ?_)
  rintro a10 w4 b3 h7 h8 HB6 g5 ha12 hF11; clear ha12 hF a
  replace HE := HE.thenN g5
  have hz19 := HE.size
  have hz20 := HB6.lt
  refine wl (s_alloc hT (d := 2) (T := 32) (l := vs .u8 [0, 0, 0, 0, 0, 0, 0, 0, 0, 0, 0, 0, 0, 0, 0, 0, 0, 0, 0, 0, 0, 0, 0, 0, 0, 0, 0, 0, 0, 0, 0, 0]) (by kernel_rfl) hF11 ?_)
  rintro a21 w14 b13 h17 h18 HB16 g15 ha23 hF22; clear ha23 hF11 a10
  replace HE := HE.thenN g15
  replace HB6 := HB6.growN g15
  refine wpList_nil ?_
  refine hK2 _ _ ?_
  refine wp_seq_k (fun K24 hK25 => ?_)
  have hc0 := getD_lt (by decide) hbx 0
  have hc1 := getD_lt (by decide) hbx 31
  refine wp_region_lit ?_
  refine pures hT 1 _ hF22 (F' := [(3, .pointer (some ⟨b3, 0, none⟩)), (2, .pointer (some ⟨b13, 0, none⟩)), (1, .pointer (some ⟨b3, 0, none⟩)), (0, .agg (vs .u8 xs).toArray)]) (cs := [0 ≤ (0 : Int), (0 : Int) < 32]) (by kernel_rfl) (And.intro (by first | omega | (simp only [List.length_set]; omega)) (And.intro (by first | omega | (simp only [List.length_set]; omega)) trivial)) ?_
  intro a26 hF27; clear hF22 a21
  refine wl (s_load hT (d := 4) (A := ⟨b3, 0, none⟩) (by kernel_rfl) hF27 (HB6.cells.at (vs_get .u8 xs (i := 0) (by first | omega | (simp only [List.length_set]; omega))) (by first | rfl | omega)) ?_)
  rintro a28 ha30 hF29; clear ha30 hF27 a26
  refine pures hT 1 _ hF29 (F' := [(5, .pointer (some ⟨b3, 0, none⟩)), (4, .int .u8 (((xs.getD 0 0) : Nat) : Int)), (3, .pointer (some ⟨b3, 0, none⟩)), (2, .pointer (some ⟨b13, 0, none⟩)), (1, .pointer (some ⟨b3, 0, none⟩)), (0, .agg (vs .u8 xs).toArray)]) (cs := [0 ≤ (0 : Int), (0 : Int) < 32]) (by kernel_rfl) (And.intro (by first | omega | (simp only [List.length_set]; omega)) (And.intro (by first | omega | (simp only [List.length_set]; omega)) trivial)) ?_
  intro a31 hF32; clear hF29 a28
  refine wl (s_load hT (d := 6) (A := ⟨b3, 0, none⟩) (by kernel_rfl) hF32 (HB6.cells.at (vs_get .u8 xs (i := 0) (by first | omega | (simp only [List.length_set]; omega))) (by first | rfl | omega)) ?_)
  rintro a33 ha35 hF34; clear ha35 hF32 a31
  refine pures hT 3 _ hF34 (F' := [(9, .pointer (some ⟨b3, 0, none⟩)), (8, .int .u8 (((((xs.getD 0 0) + 256 - ((xs.getD 0 0) % 8)) % 256) : Nat) : Int)), (7, .int .u8 ((((xs.getD 0 0) % 8) : Nat) : Int)), (6, .int .u8 (((xs.getD 0 0) : Nat) : Int)), (5, .pointer (some ⟨b3, 0, none⟩)), (4, .int .u8 (((xs.getD 0 0) : Nat) : Int)), (3, .pointer (some ⟨b3, 0, none⟩)), (2, .pointer (some ⟨b13, 0, none⟩)), (1, .pointer (some ⟨b3, 0, none⟩)), (0, .agg (vs .u8 xs).toArray)]) (cs := [0 < 8, ((xs.getD 0 0) % 8) ≤ 256, 0 ≤ (0 : Int), (0 : Int) < 32]) (by kernel_rfl) (And.intro (by first | omega | (simp only [List.length_set]; omega)) (And.intro (by first | omega | (simp only [List.length_set]; omega)) (And.intro (by first | omega | (simp only [List.length_set]; omega)) (And.intro (by first | omega | (simp only [List.length_set]; omega)) trivial)))) ?_
  intro a36 hF37; clear hF34 a33
  refine wl (s_store hT (b := b3) (off := 0) (p := ⟨b3, 0, none⟩) (v := .int .u8 (((((xs.getD 0 0) + 256 - ((xs.getD 0 0) % 8)) % 256) : Nat) : Int)) (by kernel_rfl) hF37 HB6 (by first | rfl | (congr 1; omega)) (by (first | (simp only [vs_length, vi_length]; omega) | (simp only [vs_length, le_length, List.length_set]; done) | (simp only [vs_length, le_length, List.length_set]; first | rfl | assumption | (symm; assumption) | omega | simp) | (simp; omega) | omega)) ?_)
  rintro a40 w38 ha42 hF41 HB6x g39; clear ha42 hF37 a36; replace HB6 := HB6x
  rw [vs_set] at HB6
  replace HE := HE.thenS g39 (by first | omega | (simp only [List.length_set]; omega))
  replace HB16 := HB16.growS g39 (by first | omega | (simp only [List.length_set]; omega))
  refine wpList_nil ?_
  have hF43 := hF41.pick [2, 1, 0] (G := [(2, .pointer (some ⟨b13, 0, none⟩)), (1, .pointer (some ⟨b3, 0, none⟩)), (0, .agg (vs .u8 xs).toArray)]) (by kernel_rfl); clear hF41
  refine hK25 _ _ ?_
  refine wp_seq_k (fun K44 hK45 => ?_)
  refine wp_region_lit ?_
  refine pures hT 1 _ hF43 (F' := [(10, .pointer (some ⟨b3, 31, none⟩)), (2, .pointer (some ⟨b13, 0, none⟩)), (1, .pointer (some ⟨b3, 0, none⟩)), (0, .agg (vs .u8 xs).toArray)]) (cs := [0 ≤ (31 : Int), (31 : Int) < 32]) (by kernel_rfl) (And.intro (by first | omega | (simp only [List.length_set]; omega)) (And.intro (by first | omega | (simp only [List.length_set]; omega)) trivial)) ?_
  intro a46 hF47; clear hF43 a40
  refine wl (s_load hT (d := 11) (A := ⟨b3, 31, none⟩) (by kernel_rfl) hF47 (HB6.cells.at (vs_get .u8 (xs.set 0 (((xs.getD 0 0) + 256 - ((xs.getD 0 0) % 8)) % 256)) (i := 31) (by first | omega | (simp only [List.length_set]; omega))) (by first | rfl | omega)) ?_)
  rintro a48 ha50 hF49; clear ha50 hF47 a46
  refine pures hT 3 _ hF49 (F' := [(14, .pointer (some ⟨b3, 31, none⟩)), (13, .int .u8 (((((((xs.set 0 (((xs.getD 0 0) + 256 - ((xs.getD 0 0) % 8)) % 256)).getD 31 0) % 64) + 64) % 256) : Nat) : Int)), (12, .int .u8 (((((xs.set 0 (((xs.getD 0 0) + 256 - ((xs.getD 0 0) % 8)) % 256)).getD 31 0) % 64) : Nat) : Int)), (11, .int .u8 ((((xs.set 0 (((xs.getD 0 0) + 256 - ((xs.getD 0 0) % 8)) % 256)).getD 31 0) : Nat) : Int)), (10, .pointer (some ⟨b3, 31, none⟩)), (2, .pointer (some ⟨b13, 0, none⟩)), (1, .pointer (some ⟨b3, 0, none⟩)), (0, .agg (vs .u8 xs).toArray)]) (cs := [0 < 64, 0 ≤ (31 : Int), (31 : Int) < 32]) (by kernel_rfl) (And.intro (by first | omega | (simp only [List.length_set]; omega)) (And.intro (by first | omega | (simp only [List.length_set]; omega)) (And.intro (by first | omega | (simp only [List.length_set]; omega)) trivial))) ?_
  intro a51 hF52; clear hF49 a48
  refine wl (s_store hT (b := b3) (off := 31) (p := ⟨b3, 31, none⟩) (v := .int .u8 (((((((xs.set 0 (((xs.getD 0 0) + 256 - ((xs.getD 0 0) % 8)) % 256)).getD 31 0) % 64) + 64) % 256) : Nat) : Int)) (by kernel_rfl) hF52 HB6 (by first | rfl | (congr 1; omega)) (by (first | (simp only [vs_length, vi_length]; omega) | (simp only [vs_length, le_length, List.length_set]; done) | (simp only [vs_length, le_length, List.length_set]; first | rfl | assumption | (symm; assumption) | omega | simp) | (simp; omega) | omega)) ?_)
  rintro a55 w53 ha57 hF56 HB6x g54; clear ha57 hF52 a51; replace HB6 := HB6x
  rw [vs_set] at HB6
  replace HE := HE.thenS g54 (by first | omega | (simp only [List.length_set]; omega))
  replace HB16 := HB16.growS g54 (by first | omega | (simp only [List.length_set]; omega))
  refine wpList_nil ?_
  have hF58 := hF56.pick [2, 1, 0] (G := [(2, .pointer (some ⟨b13, 0, none⟩)), (1, .pointer (some ⟨b3, 0, none⟩)), (0, .agg (vs .u8 xs).toArray)]) (by kernel_rfl); clear hF56
  refine hK45 _ _ ?_
  refine wp_seq_k (fun K59 hK60 => ?_)
  refine wp_region_lit ?_
  refine wl (s_loadA hT (d := 15) (b := b3) (off := 0) (sz := 32) (l := vs .u8 ((xs.set 0 (((xs.getD 0 0) + 256 - ((xs.getD 0 0) % 8)) % 256)).set 31 (((((xs.set 0 (((xs.getD 0 0) + 256 - ((xs.getD 0 0) % 8)) % 256)).getD 31 0) % 64) + 64) % 256))) (by kernel_rfl) hF58 HB6.cells (by (first | (simp only [vs_length, vi_length]; omega) | (simp only [vs_length, le_length, List.length_set]; done) | (simp only [vs_length, le_length, List.length_set]; first | rfl | assumption | (symm; assumption) | omega | simp) | (simp; omega) | omega)) ?_)
  rintro a61 ha63 hF62; clear ha63 hF58 a55
  refine wl (s_storeV hT (b := b13) (l2 := vs .u8 ((xs.set 0 (((xs.getD 0 0) + 256 - ((xs.getD 0 0) % 8)) % 256)).set 31 (((((xs.set 0 (((xs.getD 0 0) + 256 - ((xs.getD 0 0) % 8)) % 256)).getD 31 0) % 64) + 64) % 256))) (sz := 32) (by kernel_rfl) hF62 HB16 (by first | rfl | (simp only [vs_length, vi_length]; first | assumption | omega) | (simp only [vs_length, le_length, List.length_set]; done) | (simp only [vs_length, le_length, List.length_set]; first | rfl | assumption | (symm; assumption) | omega | simp) | (simp; done)) (by first | rfl | (simp only [vs_length, vi_length]; first | assumption | omega) | (simp only [vs_length, le_length, List.length_set]; done) | (simp only [vs_length, le_length, List.length_set]; first | rfl | assumption | (symm; assumption) | omega | simp) | (simp; done) | (simp only [vs_length, vi_length]; simp; omega)) (by exact vs_one) ?_)
  rintro a66 w64 ha68 hF67 HB16x g65; clear ha68 hF62 a61; replace HB16 := HB16x
  replace HE := HE.thenS g65 (by first | omega | (simp only [List.length_set]; omega))
  replace HB6 := HB6.growS g65 (by first | omega | (simp only [List.length_set]; omega))
  refine wpList_nil ?_
  have hF69 := hF67.pick [2, 1, 0] (G := [(2, .pointer (some ⟨b13, 0, none⟩)), (1, .pointer (some ⟨b3, 0, none⟩)), (0, .agg (vs .u8 xs).toArray)]) (by kernel_rfl); clear hF67
  refine hK60 _ _ ?_
  refine wp_ret ?_
  refine retR1 (by first | exact .inl rfl | exact .inr rfl) hF69 rfl (resC hT (t := 2) (ty := 32) (b := b13) (by kernel_rfl) (i := tr32) (by kernel_rfl) rfl HB16 (by show _ = 32; first | rfl | (simp only [vs_length, vi_length]; first | assumption | omega) | (simp only [vs_length, le_length, List.length_set]; done) | (simp only [vs_length, le_length, List.length_set]; first | rfl | assumption | (symm; assumption) | omega | simp) | (simp; done))) ?_
  refine ⟨?_, HE⟩
  unfold clampL
  have e1 : (xs.set 0 ((xs.getD 0 0 + 256 - xs.getD 0 0 % 8) % 256)).getD 31 0 = xs.getD 31 0 := by rw [getD_set _ _ _ _ (by omega), if_neg (by decide)]
  first | rw [e1] | rw [and248 hc0, e1, and63 hc1]

theorem law18_num (x : Nat) (w : World) (hx : x < 256) :
    Calls Try.prog 36 [.int .u8 ((x : Nat) : Int)].toArray w (Ret fun v w' => v = .agg (vs .u8 [x, 0, 0, 0, 0, 0, 0, 0, 0, 0, 0, 0, 0, 0, 0, 0, 0, 0, 0, 0, 0, 0, 0, 0, 0, 0, 0, 0, 0, 0, 0, 0]).toArray ∧ Ex w w') := by
  refine enter Try.func36 rfl (n := 5) Try.ntmps36 (by simp) ?_
  intro a hF
  have HE : Ex w w := Ex.refl w
  refine wp_seq_k (fun K1 hK2 => ?_)
  refine wp_region_lit ?_
  have hz9 := HE.size
  refine wl (s_alloc hT (d := 2) (T := 32) (l := vs .u8 [0, 0, 0, 0, 0, 0, 0, 0, 0, 0, 0, 0, 0, 0, 0, 0, 0, 0, 0, 0, 0, 0, 0, 0, 0, 0, 0, 0, 0, 0, 0, 0]) (by kernel_rfl) hF ?_)
  rintro a10 w4 b3 h7 h8 HB6 g5 ha12 hF11; clear ha12 hF a
  replace HE := HE.thenN g5
  refine wpList_nil ?_
  refine hK2 _ _ ?_
  refine wp_seq_k (fun K13 hK14 => ?_)
  refine wp_region_lit ?_
  refine pures hT 1 _ hF11 (F' := [(3, .int .u8 ((x : Nat) : Int)), (2, .pointer (some ⟨b3, 0, none⟩)), (0, .int .u8 ((x : Nat) : Int))]) (cs := []) (by kernel_rfl) trivial ?_
  intro a15 hF16; clear hF11 a10
  refine wl (s_build (d := 4) (t := 32) (ps := [(0, .int .u8 ((x : Nat) : Int))]) (cs := (vs .u8 [x, 0, 0, 0, 0, 0, 0, 0, 0, 0, 0, 0, 0, 0, 0, 0, 0, 0, 0, 0, 0, 0, 0, 0, 0, 0, 0, 0, 0, 0, 0, 0]).toArray) (by kernel_rfl) (by kernel_rfl) hF16 ?_)
  rintro a17 ha19 hF18; clear ha19 hF16 a15
  refine wl (s_storeV hT (b := b3) (l2 := vs .u8 [x, 0, 0, 0, 0, 0, 0, 0, 0, 0, 0, 0, 0, 0, 0, 0, 0, 0, 0, 0, 0, 0, 0, 0, 0, 0, 0, 0, 0, 0, 0, 0]) (sz := 32) (by kernel_rfl) hF18 HB6 (by first | rfl | (simp only [vs_length, vi_length]; first | assumption | omega) | (simp only [vs_length, le_length]; done) | (simp only [vs_length, le_length]; first | rfl | assumption | (symm; assumption) | omega | simp) | (simp; done)) (by first | rfl | (simp only [vs_length, vi_length]; first | assumption | omega) | (simp only [vs_length, le_length]; done) | (simp only [vs_length, le_length]; first | rfl | assumption | (symm; assumption) | omega | simp) | (simp; done) | (simp only [vs_length, vi_length]; simp; omega)) (by exact vs_one) ?_)
  rintro a22 w20 ha24 hF23 HB6x g21; clear ha24 hF18 a17; replace HB6 := HB6x
  replace HE := HE.thenS g21 (by omega)
  refine wpList_nil ?_
  have hF25 := hF23.pick [2, 0] (G := [(2, .pointer (some ⟨b3, 0, none⟩)), (0, .int .u8 ((x : Nat) : Int))]) (by kernel_rfl); clear hF23
  refine hK14 _ _ ?_
  refine wp_ret ?_
  refine retR1 (by first | exact .inl rfl | exact .inr rfl) hF25 rfl (resC hT (t := 2) (ty := 32) (b := b3) (by kernel_rfl) (i := tr32) (by kernel_rfl) rfl HB6 (by show _ = 32; first | rfl | (simp only [vs_length, vi_length]; first | assumption | omega) | (simp only [vs_length, le_length]; done) | (simp only [vs_length, le_length]; first | rfl | assumption | (symm; assumption) | omega | simp) | (simp; done))) ?_
  exact ⟨rfl, HE⟩

theorem ref16_Full (A : Option Addr) (n c : Nat) (xs : List Nat) (x : Nat) (w : World) (hx : nv 256 xs = x) (hn : xs.length = n) (hR : Rd w A (vs .u8 xs)) (hbx : By xs) (hl : n ≤ 1048576) :
    Calls Try.prog 46 [.slice A n c].toArray w (Ret fun v w' => v = .agg (vs .u8 (le 32 x)).toArray ∧ Ex w w') := by
  subst hx
  subst hn
  refine enter Try.func46 rfl (n := 22) Try.ntmps46 (by simp) ?_
  intro a hF
  have HE : Ex w w := Ex.refl w
  refine wp_seq_k (fun K1 hK2 => ?_)
  refine wp_region_lit ?_
  have hz9 := HE.size
  refine wl (s_alloc hT (d := 2) (T := 32) (l := vs .u8 [0, 0, 0, 0, 0, 0, 0, 0, 0, 0, 0, 0, 0, 0, 0, 0, 0, 0, 0, 0, 0, 0, 0, 0, 0, 0, 0, 0, 0, 0, 0, 0]) (by kernel_rfl) hF ?_)
  rintro a10 w4 b3 h7 h8 HB6 g5 ha12 hF11; clear ha12 hF a
  replace HE := HE.thenN g5
  refine wpList_nil ?_
  refine hK2 _ _ ?_
  refine wp_seq_k (fun K13 hK14 => ?_)
  refine wp_region_lit ?_
  have hz21 := HE.size
  have hz22 := HB6.lt
  refine wl (s_alloc hT (d := 3) (T := 32) (l := vs .u8 [0, 0, 0, 0, 0, 0, 0, 0, 0, 0, 0, 0, 0, 0, 0, 0, 0, 0, 0, 0, 0, 0, 0, 0, 0, 0, 0, 0, 0, 0, 0, 0]) (by kernel_rfl) hF11 ?_)
  rintro a23 w16 b15 h19 h20 HB18 g17 ha25 hF24; clear ha25 hF11 a10
  replace HE := HE.thenN g17
  replace HB6 := HB6.growN g17
  refine wpList_nil ?_
  refine hK14 _ _ ?_
  refine wp_seq_k (fun K26 hK27 => ?_)
  refine wp_seq_k (fun K28 hK29 => ?_)
  refine wp_region_lit ?_
  refine pures_end hT 1 _ hF24 (F' := [(4, .int .i64 0), (3, .pointer (some ⟨b15, 0, none⟩)), (2, .pointer (some ⟨b3, 0, none⟩)), (0, .slice A xs.length c)]) (cs := []) (by kernel_rfl) rfl trivial ?_
  intro a30 hF31; clear hF24 a23
  refine hK29 _ _ ?_
  refine wp_block ?_
  refine loopK (fun mm_ a W => ∃ (k : Nat), ∃ (zs : List Nat), (32 - k) = mm_ ∧ (Fr 22 a [(0, .slice A xs.length c), (2, .pointer (some ⟨b3, 0, none⟩)), (3, .pointer (some ⟨b15, 0, none⟩)), (4, .int .i64 ((k : Nat) : Int))]) ∧ (Ex w W) ∧ (Blk W b3 32 (vs .u8 [0, 0, 0, 0, 0, 0, 0, 0, 0, 0, 0, 0, 0, 0, 0, 0, 0, 0, 0, 0, 0, 0, 0, 0, 0, 0, 0, 0, 0, 0, 0, 0])) ∧ (Blk W b15 32 (vs .u8 zs)) ∧ (k ≤ 32) ∧ (zs.length = 32) ∧ (∀ j, j < k → zs.getD j 0 = xs.getD j 0) ∧ (∀ j, k ≤ j → zs.getD j 0 = 0)) _ ⟨0, _, rfl, hF31.pick [0, 2, 3, 4] (by kernel_rfl), HE, HB6, HB18, (by omega), rfl, (fun j hj => by omega), (fun j _ => rep_getD 32 j)⟩ ?_
  clear hF31 HE HB6 HB18
  rintro mm_ a32 w33 ⟨k, zs, rfl, hF36, HE, HB6, HB18, hk, hzl, hz, h0⟩ K34 hK35
  refine wp_seq_k (fun K37 hK38 => ?_)
  refine wp_seq_k (fun K39 hK40 => ?_)
  refine wp_region_lit ?_
  refine pures hT 5 _ hF36 (F' := [(9, .bool ((decide (((k : Nat) : Int) < ((xs.length : Nat) : Int))))), (8, .bool ((decide (((k : Nat) : Int) < ((xs.length : Nat) : Int))))), (7, .int .i64 ((xs.length : Nat) : Int)), (6, .slice A xs.length c), (5, .int .i64 ((k : Nat) : Int)), (0, .slice A xs.length c), (2, .pointer (some ⟨b3, 0, none⟩)), (3, .pointer (some ⟨b15, 0, none⟩)), (4, .int .i64 ((k : Nat) : Int))]) (cs := []) (by kernel_rfl) trivial ?_
  intro a41 hF42; clear hF36 a32
  rcases dec_cases (((k : Nat) : Int) < ((xs.length : Nat) : Int)) with ⟨h43, e44⟩ | ⟨h43, e44⟩
  · rw [e44] at hF42; clear e44
    refine pures_end hT 3 _ hF42 (F' := [(12, .bool ((decide (((k : Nat) : Int) < 32)))), (11, .bool ((decide (((k : Nat) : Int) < 32)))), (10, .int .i64 ((k : Nat) : Int)), (9, .bool true), (8, .bool true), (7, .int .i64 ((xs.length : Nat) : Int)), (6, .slice A xs.length c), (5, .int .i64 ((k : Nat) : Int)), (0, .slice A xs.length c), (2, .pointer (some ⟨b3, 0, none⟩)), (3, .pointer (some ⟨b15, 0, none⟩)), (4, .int .i64 ((k : Nat) : Int))]) (cs := []) (by kernel_rfl) rfl trivial ?_
    intro a45 hF46; clear hF42 a41
    have hF47 := hF46.pick [12, 0, 2, 3, 4] (G := [(12, .bool ((decide (((k : Nat) : Int) < 32)))), (0, .slice A xs.length c), (2, .pointer (some ⟨b3, 0, none⟩)), (3, .pointer (some ⟨b15, 0, none⟩)), (4, .int .i64 ((k : Nat) : Int))]) (by kernel_rfl); clear hF46
    refine hK40 _ _ ?_
    refine condK hF47 (p := ((k : Nat) : Int) < 32) (by kernel_rfl) (fun h48 => ?_) (fun h48 => ?_)
    · -- h48
      refine wp_skip ?_
      refine hK38 _ _ ?_
      refine wp_seq_k (fun K49 hK50 => ?_)
      refine wp_block ?_
      refine wp_region_lit ?_
      refine pures hT 4 _ hF47 (F' := [(18, .pointer (some ⟨(ablk A), ((aoff A) + k), none⟩)), (17, .int .i64 ((k : Nat) : Int)), (16, .slice A xs.length c), (15, .int .i64 ((k : Nat) : Int)), (12, .bool ((decide (((k : Nat) : Int) < 32)))), (0, .slice A xs.length c), (2, .pointer (some ⟨b3, 0, none⟩)), (3, .pointer (some ⟨b15, 0, none⟩)), (4, .int .i64 ((k : Nat) : Int))]) (cs := [0 ≤ ((k : Nat) : Int), ((k : Nat) : Int) < ((xs.length : Nat) : Int), (A : Option Addr) = some ⟨ablk A, aoff A, none⟩]) (by kernel_rfl) (And.intro (by omega) (And.intro (by omega) (And.intro ((hR.ex HE).some' (by (first | (simp only [vs_length, vi_length]; omega) | (simp only [vs_length, le_length]; done) | (simp only [vs_length, le_length]; first | rfl | assumption | (symm; assumption) | omega | simp) | (simp; omega) | omega))) trivial))) ?_
      intro a51 hF52; clear hF47 a45
      refine wl (s_load hT (d := 19) (A := ⟨(ablk A), ((aoff A) + k), none⟩) (by kernel_rfl) hF52 ((hR.ex HE).cells.at (vs_get .u8 xs (i := k) (by omega)) rfl) ?_)
      rintro a53 ha55 hF54; clear ha55 hF52 a51
      refine pures hT 1 _ hF54 (F' := [(20, .pointer (some ⟨b15, (0 + k), none⟩)), (19, .int .u8 (((xs.getD k 0) : Nat) : Int)), (18, .pointer (some ⟨(ablk A), ((aoff A) + k), none⟩)), (17, .int .i64 ((k : Nat) : Int)), (16, .slice A xs.length c), (15, .int .i64 ((k : Nat) : Int)), (12, .bool ((decide (((k : Nat) : Int) < 32)))), (0, .slice A xs.length c), (2, .pointer (some ⟨b3, 0, none⟩)), (3, .pointer (some ⟨b15, 0, none⟩)), (4, .int .i64 ((k : Nat) : Int))]) (cs := [0 ≤ ((k : Nat) : Int), ((k : Nat) : Int) < 32]) (by kernel_rfl) (And.intro (by omega) (And.intro (by omega) trivial)) ?_
      intro a56 hF57; clear hF54 a53
      refine wl (s_store hT (b := b15) (off := k) (p := ⟨b15, (0 + k), none⟩) (v := .int .u8 (((xs.getD k 0) : Nat) : Int)) (by kernel_rfl) hF57 HB18 (by first | rfl | (congr 1; omega)) (by (first | (simp only [vs_length, vi_length]; omega) | (simp only [vs_length, le_length]; done) | (simp only [vs_length, le_length]; first | rfl | assumption | (symm; assumption) | omega | simp) | (simp; omega) | omega)) ?_)
      rintro a60 w58 ha62 hF61 HB18x g59; clear ha62 hF57 a56; replace HB18 := HB18x
      rw [vs_set] at HB18
      replace HE := HE.thenS g59 (by omega)
      replace HB6 := HB6.growS g59 (by omega)
      refine wpList_nil ?_
      have hF63 := hF61.pick [12, 0, 2, 3, 4] (G := [(12, .bool ((decide (((k : Nat) : Int) < 32)))), (0, .slice A xs.length c), (2, .pointer (some ⟨b3, 0, none⟩)), (3, .pointer (some ⟨b15, 0, none⟩)), (4, .int .i64 ((k : Nat) : Int))]) (by kernel_rfl); clear hF61
      refine hK50 _ _ ?_
      refine wp_region_lit ?_
      refine pures_end hT 3 _ hF63 (F' := [(4, .int .i64 (((k + 1) : Nat) : Int)), (14, .int .i64 (((k + 1) : Nat) : Int)), (13, .int .i64 ((k : Nat) : Int)), (12, .bool ((decide (((k : Nat) : Int) < 32)))), (0, .slice A xs.length c), (2, .pointer (some ⟨b3, 0, none⟩)), (3, .pointer (some ⟨b15, 0, none⟩)), (4, .int .i64 ((k : Nat) : Int))]) (cs := [-9223372036854775808 ≤ (((k + 1) : Nat) : Int), (((k + 1) : Nat) : Int) ≤ 9223372036854775807]) (by kernel_rfl) rfl (And.intro (by omega) (And.intro (by omega) trivial)) ?_
      intro a64 hF65; clear hF63 a60
      have hF66 := hF65.pick [4, 12, 0, 2, 3] (G := [(4, .int .i64 (((k + 1) : Nat) : Int)), (12, .bool ((decide (((k : Nat) : Int) < 32)))), (0, .slice A xs.length c), (2, .pointer (some ⟨b3, 0, none⟩)), (3, .pointer (some ⟨b15, 0, none⟩))]) (by kernel_rfl); clear hF65
      refine hK35 _ _ _ (by omega) ⟨(k + 1), (zs.set k (xs.getD k 0)), rfl, hF66.pick [0, 2, 3, 4] (by kernel_rfl), HE, HB6, HB18, (by omega), (by simpa using hzl), (full_step (by omega) hz), (fun j hj => by rw [getD_set _ _ _ _ (by omega), if_neg (by omega)]; exact h0 j (by omega))⟩
    · -- h48
      refine wp_exit ?_
      refine hK27 _ _ ?_
      refine wp_seq_k (fun K67 hK68 => ?_)
      rw [full_end hbx hzl hk hz h0 (by omega)] at HB18
      refine wp_region_lit ?_
      refine wl (s_loadA hT (d := 21) (b := b15) (off := 0) (sz := 32) (l := vs .u8 (le 32 (nv 256 xs))) (by kernel_rfl) hF47 HB18.cells (by (first | (simp only [vs_length, vi_length]; omega) | (simp only [vs_length, le_length]; done) | (simp only [vs_length, le_length]; first | rfl | assumption | (symm; assumption) | omega | simp) | (simp; omega) | omega)) ?_)
      rintro a69 ha71 hF70; clear ha71 hF47 a45
      refine wl (s_storeV hT (b := b3) (l2 := vs .u8 (le 32 (nv 256 xs))) (sz := 32) (by kernel_rfl) hF70 HB6 (by first | rfl | (simp only [vs_length, vi_length]; first | assumption | omega) | (simp only [vs_length, le_length]; done) | (simp only [vs_length, le_length]; first | rfl | assumption | (symm; assumption) | omega | simp) | (simp; done)) (by first | rfl | (simp only [vs_length, vi_length]; first | assumption | omega) | (simp only [vs_length, le_length]; done) | (simp only [vs_length, le_length]; first | rfl | assumption | (symm; assumption) | omega | simp) | (simp; done) | (simp only [vs_length, vi_length]; simp; omega)) (by exact vs_one) ?_)
      rintro a74 w72 ha76 hF75 HB6x g73; clear ha76 hF70 a69; replace HB6 := HB6x
      replace HE := HE.thenS g73 (by omega)
      replace HB18 := HB18.growS g73 (by omega)
      refine wpList_nil ?_
      have hF77 := hF75.pick [12, 0, 2, 3, 4] (G := [(12, .bool ((decide (((k : Nat) : Int) < 32)))), (0, .slice A xs.length c), (2, .pointer (some ⟨b3, 0, none⟩)), (3, .pointer (some ⟨b15, 0, none⟩)), (4, .int .i64 ((k : Nat) : Int))]) (by kernel_rfl); clear hF75
      refine hK68 _ _ ?_
      refine wp_ret ?_
      refine retR1 (by first | exact .inl rfl | exact .inr rfl) hF77 rfl (resC hT (t := 2) (ty := 32) (b := b3) (by kernel_rfl) (i := tr32) (by kernel_rfl) rfl HB6 (by show _ = 32; first | rfl | (simp only [vs_length, vi_length]; first | assumption | omega) | (simp only [vs_length, le_length]; done) | (simp only [vs_length, le_length]; first | rfl | assumption | (symm; assumption) | omega | simp) | (simp; done))) ?_
      exact ⟨rfl, HE⟩
  · rw [e44] at hF42; clear e44
    refine pures_end hT 3 _ hF42 (F' := [(12, .bool false), (11, undef), (10, undef), (9, .bool false), (8, .bool false), (7, .int .i64 ((xs.length : Nat) : Int)), (6, .slice A xs.length c), (5, .int .i64 ((k : Nat) : Int)), (0, .slice A xs.length c), (2, .pointer (some ⟨b3, 0, none⟩)), (3, .pointer (some ⟨b15, 0, none⟩)), (4, .int .i64 ((k : Nat) : Int))]) (cs := []) (by kernel_rfl) rfl trivial ?_
    intro a78 hF79; clear hF42 a41
    have hF80 := hF79.pick [12, 0, 2, 3, 4] (G := [(12, .bool false), (0, .slice A xs.length c), (2, .pointer (some ⟨b3, 0, none⟩)), (3, .pointer (some ⟨b15, 0, none⟩)), (4, .int .i64 ((k : Nat) : Int))]) (by kernel_rfl); clear hF79
    refine hK40 _ _ ?_
    refine condF hF80 (by kernel_rfl) ?_
    refine wp_exit ?_
    refine hK27 _ _ ?_
    refine wp_seq_k (fun K81 hK82 => ?_)
    rw [full_end hbx hzl hk hz h0 (by omega)] at HB18
    refine wp_region_lit ?_
    refine wl (s_loadA hT (d := 21) (b := b15) (off := 0) (sz := 32) (l := vs .u8 (le 32 (nv 256 xs))) (by kernel_rfl) hF80 HB18.cells (by (first | (simp only [vs_length, vi_length]; omega) | (simp only [vs_length, le_length]; done) | (simp only [vs_length, le_length]; first | rfl | assumption | (symm; assumption) | omega | simp) | (simp; omega) | omega)) ?_)
    rintro a83 ha85 hF84; clear ha85 hF80 a78
    refine wl (s_storeV hT (b := b3) (l2 := vs .u8 (le 32 (nv 256 xs))) (sz := 32) (by kernel_rfl) hF84 HB6 (by first | rfl | (simp only [vs_length, vi_length]; first | assumption | omega) | (simp only [vs_length, le_length]; done) | (simp only [vs_length, le_length]; first | rfl | assumption | (symm; assumption) | omega | simp) | (simp; done)) (by first | rfl | (simp only [vs_length, vi_length]; first | assumption | omega) | (simp only [vs_length, le_length]; done) | (simp only [vs_length, le_length]; first | rfl | assumption | (symm; assumption) | omega | simp) | (simp; done) | (simp only [vs_length, vi_length]; simp; omega)) (by exact vs_one) ?_)
    rintro a88 w86 ha90 hF89 HB6x g87; clear ha90 hF84 a83; replace HB6 := HB6x
    replace HE := HE.thenS g87 (by omega)
    replace HB18 := HB18.growS g87 (by omega)
    refine wpList_nil ?_
    have hF91 := hF89.pick [12, 0, 2, 3, 4] (G := [(12, .bool false), (0, .slice A xs.length c), (2, .pointer (some ⟨b3, 0, none⟩)), (3, .pointer (some ⟨b15, 0, none⟩)), (4, .int .i64 ((k : Nat) : Int))]) (by kernel_rfl); clear hF89
    refine hK82 _ _ ?_
    refine wp_ret ?_
    refine retR1 (by first | exact .inl rfl | exact .inr rfl) hF91 rfl (resC hT (t := 2) (ty := 32) (b := b3) (by kernel_rfl) (i := tr32) (by kernel_rfl) rfl HB6 (by show _ = 32; first | rfl | (simp only [vs_length, vi_length]; first | assumption | omega) | (simp only [vs_length, le_length]; done) | (simp only [vs_length, le_length]; first | rfl | assumption | (symm; assumption) | omega | simp) | (simp; done))) ?_
    exact ⟨rfl, HE⟩

theorem ref18_Order  (w : World)  :
    Calls Try.prog 29 [].toArray w (Ret fun v w' => ∃ A' c', v = .slice A' (dig 256 Lq).length c' ∧ Ex w w' ∧ Own w' w.heap.size 5 1 A' (dig 256 Lq).length c' (vs .u8 (dig 256 Lq))) := by
  refine enter Try.func29 rfl (n := 27) Try.ntmps29 (by simp) ?_
  intro a hF
  have HE : Ex w w := Ex.refl w
  refine wp_seq_k (fun K1 hK2 => ?_)
  refine wp_region_lit ?_
  refine pures_end hT 1 _ hF (F' := [(0, .slice none 0 0)]) (cs := []) (by kernel_rfl) rfl trivial ?_
  intro a3 hF4; clear hF a
  refine hK2 _ _ ?_
  refine wp_seq_k (fun K5 hK6 => ?_)
  refine wp_region_lit ?_
  refine pures_end hT 1 _ hF4 (F' := [(1, .slice none 0 0), (0, .slice none 0 0)]) (cs := []) (by kernel_rfl) rfl trivial ?_
  intro a7 hF8; clear hF4 a3
  refine hK6 _ _ ?_
  refine wp_seq_k (fun K9 hK10 => ?_)
  refine wp_region_lit ?_
  refine pures_end hT 1 _ hF8 (F' := [(2, .string (str [50, 55, 55, 52, 50, 51, 49, 55, 55, 55, 55, 51, 55, 50, 51, 53, 51, 53, 51, 53, 56, 53, 49, 57, 51, 55, 55, 57, 48, 56, 56, 51, 54, 52, 56, 52, 57, 51])), (1, .slice none 0 0), (0, .slice none 0 0)]) (cs := []) (by kernel_rfl) rfl trivial ?_
  intro a11 hF12; clear hF8 a7
  refine hK10 _ _ ?_
  refine wp_seq_k (fun K13 hK14 => ?_)
  refine wp_seq_k (fun K15 hK16 => ?_)
  refine wp_region_lit ?_
  refine pures_end hT 1 _ hF12 (F' := [(3, .int .i64 0), (2, .string (str [50, 55, 55, 52, 50, 51, 49, 55, 55, 55, 55, 51, 55, 50, 51, 53, 51, 53, 51, 53, 56, 53, 49, 57, 51, 55, 55, 57, 48, 56, 56, 51, 54, 52, 56, 52, 57, 51])), (1, .slice none 0 0), (0, .slice none 0 0)]) (cs := []) (by kernel_rfl) rfl trivial ?_
  intro a17 hF18; clear hF12 a11
  refine hK16 _ _ ?_
  refine wp_block ?_
  refine loopK (fun mm_ a W => ∃ (k : Nat), ∃ (A3 : Option Addr), ∃ (c3 : Nat), (38 - k) = mm_ ∧ (Fr 27 a [(1, .slice A3 ((dig 256 (decF k)).length) c3), (2, .string (str oT)), (3, .int .i64 ((k : Nat) : Int))]) ∧ (Ex w W) ∧ (Rd W A3 (vs .u8 (dig 256 (decF k)))) ∧ (k ≤ 38)) _ ⟨0, none, 0, rfl, hF18.pick [1, 2, 3] (by kernel_rfl), HE, Rd.nil _ _, (by omega)⟩ ?_
  clear hF18 HE
  rintro mm_ a19 w20 ⟨k, A3, c3, rfl, hF23, HE, HO, hk⟩ K21 hK22
  refine wp_seq_k (fun K24 hK25 => ?_)
  refine wp_seq_k (fun K26 hK27 => ?_)
  refine wp_region_lit ?_
  refine pures_end hT 4 _ hF23 (F' := [(8, .bool ((decide (((k : Nat) : Int) < 38)))), (7, .int .i64 38), (6, .string (str oT)), (5, .int .i64 ((k : Nat) : Int)), (1, .slice A3 ((dig 256 (decF k)).length) c3), (2, .string (str oT)), (3, .int .i64 ((k : Nat) : Int))]) (cs := []) (by kernel_rfl) rfl trivial ?_
  intro a28 hF29; clear hF23 a19
  have hF30 := hF29.pick [8, 1, 2, 3] (G := [(8, .bool ((decide (((k : Nat) : Int) < 38)))), (1, .slice A3 ((dig 256 (decF k)).length) c3), (2, .string (str oT)), (3, .int .i64 ((k : Nat) : Int))]) (by kernel_rfl); clear hF29
  refine hK27 _ _ ?_
  refine condK hF30 (p := ((k : Nat) : Int) < 38) (by kernel_rfl) (fun h31 => ?_) (fun h31 => ?_)
  · -- h31
    refine wp_skip ?_
    refine hK25 _ _ ?_
    refine wp_seq_k (fun K32 hK33 => ?_)
    refine wp_block ?_
    have hdl := dlen (decF_lt (i := k) (by omega))
    have hdm := dlen (mul_lt (decF_lt (i := k) (by omega)) (show 10 < 256 ^ 1 from by decide))
    let SL_ : List SP := [SP.val (.slice A3 ((dig 256 (decF k)).length) c3), SP.mk' (fun _ v W => ∃ A c, v = .slice A 1 c ∧ Rd W A (vs .u8 [10])) (fun _ v w w' h g => by obtain ⟨A, c, e, h⟩ := h; exact ⟨A, c, e, h.grow g (by simp)⟩), SP.mk' (fun _ v W => ∃ A c, v = .slice A ((dig 256 ((decF k) * 10)).length) c ∧ Rd W A (vs .u8 (dig 256 ((decF k) * 10)))) (fun _ v w w' h g => by obtain ⟨A, c, e, h⟩ := h; exact ⟨A, c, e, h.grow g (by simp)⟩), SP.val (.string (str oT)), SP.val (.int .i64 ((k : Nat) : Int)), SP.val (.int .u8 (((oT.getD k 0) : Nat) : Int)), SP.val (.int .u8 (((((oT.getD k 0) + 256 - 48) % 256) : Nat) : Int)), SP.mk' (fun _ v W => ∃ A c, v = .slice A 1 c ∧ Rd W A (vs .u8 [(((oT.getD k 0) + 256 - 48) % 256)])) (fun _ v w w' h g => by obtain ⟨A, c, e, h⟩ := h; exact ⟨A, c, e, h.grow g (by simp)⟩), SP.mk' (fun _ v W => ∃ A c, v = .slice A ((dig 256 (((decF k) * 10) + (((oT.getD k 0) + 256 - 48) % 256))).length) c ∧ Rd W A (vs .u8 (dig 256 (((decF k) * 10) + (((oT.getD k 0) + 256 - 48) % 256))))) (fun _ v w w' h g => by obtain ⟨A, c, e, h⟩ := h; exact ⟨A, c, e, h.grow g (by simp)⟩), SP.mk' (fun _ v W => ∃ A c, v = .slice A ((dig 256 (((decF k) * 10) + (((oT.getD k 0) + 256 - 48) % 256))).length) c ∧ Rd W A (vs .u8 (dig 256 (((decF k) * 10) + (((oT.getD k 0) + 256 - 48) % 256))))) (fun _ v w w' h g => by obtain ⟨A, c, e, h⟩ := h; exact ⟨A, c, e, h.grow g (by simp)⟩)]
    refine region_rel (SL := SL_) (J := (fun (b : Bool) (W : World) => (Ex w W) ∧ (Rd W A3 (vs .u8 (dig 256 (decF k)))))) (m := 10) wide (by kernel_rfl) (by kernel_rfl) hF30 rfl ?_ ⟨HE, HO⟩ ⟨?_, ?_, ?_, ?_, ?_, ?_, ?_, ?_, ?_, ?_, trivial⟩ [(1, some 9), (8, none), (2, none), (3, none)] (by kernel_rfl) ?_
    · intro b W W' hj g; cases b <;> exact ⟨hj.1.thenN g, hj.2.grow g (by simp)⟩
    · -- operation 0
      rintro a35 w34 b37 KK43 hs39 hd40 hJ41 hb42 hr45 hK38
      have hr45x : RD SL_ b37 a35 a28 w34 [(1, none)] := hr45 _ (by kernel_rfl)
      obtain ⟨q44, -⟩ := hr45x
      obtain ⟨HE, HO⟩ := hJ41
      have hF36 : Fr 27 a35 [(1, .slice A3 ((dig 256 (decF k)).length) c3)] := Fr.of hs39 hd40 ⟨(Fr.init hF30 q44 (by kernel_rfl)), trivial⟩
      refine s_pure hT (d := 11) (v := .slice A3 ((dig 256 (decF k)).length) c3) (cs := []) (by kernel_rfl) (by kernel_rfl) trivial hF36 ?_
      rintro a2 ha2 hF2; rw [ha2]; exact hK38 _ _ rfl (grown_refl _ _)
    · -- operation 1
      rintro a47 w46 b49 KK55 hs51 hd52 hJ53 hb54 hr56 hK50
      have hr56x : RD SL_ b49 a47 a28 w46 [] := hr56 _ (by kernel_rfl)
      obtain ⟨HE, HO⟩ := hJ53
      have hF48 : Fr 27 a47 [] := Fr.of hs51 hd52 trivial
      have hz63 := HE.size
      refine s_lit hT (d := 12) (T := 5) (l := vs .u8 [10]) (by kernel_rfl) hF48 ?_
      rintro a64 w58 b57 h61 h62 HB60 g59 ha66 hF65
      replace HE := HE.thenN g59
      replace HO := HO.grow g59 (by simp)
      rw [ha66]; exact hK50 _ _ ⟨_, _, rfl, HB60.rd⟩ g59
    · -- operation 2
      rintro a68 w67 b70 KK76 hs72 hd73 hJ74 hb75 hr87 hK71
      have hr87x : RD SL_ b70 a68 a28 w67 [(11, some 0), (12, some 1)] := hr87 _ (by kernel_rfl)
      obtain ⟨⟨v78, q77, s79⟩, ⟨v81, q80, s82⟩, -⟩ := hr87x
      obtain rfl : v78 = .slice A3 ((dig 256 (decF k)).length) c3 := s79
      obtain ⟨A83, c84, rfl, HR85⟩ := s82
      obtain ⟨HE, HO⟩ := hJ74
      have hF69 : Fr 27 a68 [(11, .slice A3 ((dig 256 (decF k)).length) c3), (12, .slice A83 1 c84)] := Fr.of hs72 hd73 ⟨q77, q80, trivial⟩
      have hz94 := HE.size
      refine s_call (d := 13) (f := 24) (l := [.slice A3 ((dig 256 (decF k)).length) c3, .slice A83 1 c84]) (by kernel_rfl) hF69 cl24 (ref15_Mul A3 ((dig 256 (decF k)).length) c3 (dig 256 (decF k)) (decF k) A83 1 c84 [10] 10 _ (nvd _) (nv_one _) (by first | omega | assumption | (simp; done) | (simp; omega) | decide) (by first | omega | assumption | (simp; done) | (simp; omega) | decide) HO HR85 (by first | assumption | exact by_dig _ | exact by_one (Nat.mod_lt _ (by decide)) | omega | (simp; done) | decide) (byL rfl) (by first | omega | assumption | (simp; done) | (simp; omega) | decide) (by first | omega | assumption | (simp; done) | (simp; omega) | decide) ) ?_
      rintro a95 w91 v92 ⟨A88, c89, rfl, HX93, HO90⟩ ha97 hF96
      replace HE := HE.thenN HX93.g
      replace HO := HO.grow HX93.g (by simp)
      replace HR85 := HR85.grow HX93.g (by simp)
      have hcp98 := HO90.cap
      rw [ha97]; exact hK71 _ _ ⟨_, _, rfl, HO90.rd⟩ HX93.g
    · -- operation 3
      rintro a100 w99 b102 KK108 hs104 hd105 hJ106 hb107 hr110 hK103
      have hr110x : RD SL_ b102 a100 a28 w99 [(2, none)] := hr110 _ (by kernel_rfl)
      obtain ⟨q109, -⟩ := hr110x
      obtain ⟨HE, HO⟩ := hJ106
      have hF101 : Fr 27 a100 [(2, .string (str oT))] := Fr.of hs104 hd105 ⟨(Fr.init hF30 q109 (by kernel_rfl)), trivial⟩
      refine s_pure hT (d := 14) (v := .string (str oT)) (cs := []) (by kernel_rfl) (by kernel_rfl) trivial hF101 ?_
      rintro a2 ha2 hF2; rw [ha2]; exact hK103 _ _ rfl (grown_refl _ _)
    · -- operation 4
      rintro a112 w111 b114 KK120 hs116 hd117 hJ118 hb119 hr122 hK115
      have hr122x : RD SL_ b114 a112 a28 w111 [(3, none)] := hr122 _ (by kernel_rfl)
      obtain ⟨q121, -⟩ := hr122x
      obtain ⟨HE, HO⟩ := hJ118
      have hF113 : Fr 27 a112 [(3, .int .i64 ((k : Nat) : Int))] := Fr.of hs116 hd117 ⟨(Fr.init hF30 q121 (by kernel_rfl)), trivial⟩
      refine s_pure hT (d := 15) (v := .int .i64 ((k : Nat) : Int)) (cs := []) (by kernel_rfl) (by kernel_rfl) trivial hF113 ?_
      rintro a2 ha2 hF2; rw [ha2]; exact hK115 _ _ rfl (grown_refl _ _)
    · -- operation 5
      rintro a124 w123 b126 KK132 hs128 hd129 hJ130 hb131 hr139 hK127
      have hr139x : RD SL_ b126 a124 a28 w123 [(14, some 3), (15, some 4)] := hr139 _ (by kernel_rfl)
      obtain ⟨⟨v134, q133, s135⟩, ⟨v137, q136, s138⟩, -⟩ := hr139x
      obtain rfl : v134 = .string (str oT) := s135
      obtain rfl : v137 = .int .i64 ((k : Nat) : Int) := s138
      obtain ⟨HE, HO⟩ := hJ130
      have hF125 : Fr 27 a124 [(14, .string (str oT)), (15, .int .i64 ((k : Nat) : Int))] := Fr.of hs128 hd129 ⟨q133, q136, trivial⟩
      refine s_strIdx hT (d := 16) (j := k) (xs := oT) (by kernel_rfl) hF125 (by (show _ < 38; omega)) (byL rfl) ?_
      rintro a140 ha142 hF141
      rw [ha142]; exact hK127 _ _ rfl (grown_refl _ _)
    · -- operation 6
      rintro a144 w143 b146 KK152 hs148 hd149 hJ150 hb151 hr156 hK147
      have hr156x : RD SL_ b146 a144 a28 w143 [(16, some 5)] := hr156 _ (by kernel_rfl)
      obtain ⟨⟨v154, q153, s155⟩, -⟩ := hr156x
      obtain rfl : v154 = .int .u8 (((oT.getD k 0) : Nat) : Int) := s155
      obtain ⟨HE, HO⟩ := hJ150
      have hF145 : Fr 27 a144 [(16, .int .u8 (((oT.getD k 0) : Nat) : Int))] := Fr.of hs148 hd149 ⟨q153, trivial⟩
      refine s_pure hT (d := 17) (v := .int .u8 (((((oT.getD k 0) + 256 - 48) % 256) : Nat) : Int)) (cs := [48 ≤ 256]) (by kernel_rfl) (by kernel_rfl) (And.intro (by omega) trivial) hF145 ?_
      rintro a2 ha2 hF2; rw [ha2]; exact hK147 _ _ rfl (grown_refl _ _)
    · -- operation 7
      rintro a158 w157 b160 KK166 hs162 hd163 hJ164 hb165 hr170 hK161
      have hr170x : RD SL_ b160 a158 a28 w157 [(17, some 6)] := hr170 _ (by kernel_rfl)
      obtain ⟨⟨v168, q167, s169⟩, -⟩ := hr170x
      obtain rfl : v168 = .int .u8 (((((oT.getD k 0) + 256 - 48) % 256) : Nat) : Int) := s169
      obtain ⟨HE, HO⟩ := hJ164
      have hF159 : Fr 27 a158 [(17, .int .u8 (((((oT.getD k 0) + 256 - 48) % 256) : Nat) : Int))] := Fr.of hs162 hd163 ⟨q167, trivial⟩
      have hz177 := HE.size
      refine s_lit hT (d := 18) (T := 5) (l := vs .u8 [(((oT.getD k 0) + 256 - 48) % 256)]) (by kernel_rfl) hF159 ?_
      rintro a178 w172 b171 h175 h176 HB174 g173 ha180 hF179
      replace HE := HE.thenN g173
      replace HO := HO.grow g173 (by simp)
      rw [ha180]; exact hK161 _ _ ⟨_, _, rfl, HB174.rd⟩ g173
    · -- operation 8
      rintro a182 w181 b184 KK190 hs186 hd187 hJ188 hb189 hr205 hK185
      have hr205x : RD SL_ b184 a182 a28 w181 [(13, some 2), (18, some 7)] := hr205 _ (by kernel_rfl)
      obtain ⟨⟨v192, q191, s193⟩, ⟨v199, q198, s200⟩, -⟩ := hr205x
      obtain ⟨A194, c195, rfl, HR196⟩ := s193
      obtain ⟨A201, c202, rfl, HR203⟩ := s200
      obtain ⟨HE, HO⟩ := hJ188
      have hF183 : Fr 27 a182 [(13, .slice A194 ((dig 256 ((decF k) * 10)).length) c195), (18, .slice A201 1 c202)] := Fr.of hs186 hd187 ⟨q191, q198, trivial⟩
      have hz212 := HE.size
      refine s_call (d := 19) (f := 22) (l := [.slice A194 ((dig 256 ((decF k) * 10)).length) c195, .slice A201 1 c202]) (by kernel_rfl) hF183 cl22 (ref15_Add A194 ((dig 256 ((decF k) * 10)).length) c195 (dig 256 ((decF k) * 10)) ((decF k) * 10) A201 1 c202 [(((oT.getD k 0) + 256 - 48) % 256)] (((oT.getD k 0) + 256 - 48) % 256) _ (nvd _) (nv_one _) (by first | omega | assumption | (simp; done) | (simp; omega) | decide) (by first | omega | assumption | (simp; done) | (simp; omega) | decide) HR196 HR203 (by first | assumption | exact by_dig _ | exact by_one (Nat.mod_lt _ (by decide)) | omega | (simp; done) | decide) (by first | assumption | exact by_dig _ | exact by_one (Nat.mod_lt _ (by decide)) | omega | (simp; done) | decide) (by first | omega | assumption | (simp; done) | (simp; omega) | decide) (by first | omega | assumption | (simp; done) | (simp; omega) | decide) ) ?_
      rintro a213 w209 v210 ⟨A206, c207, rfl, HX211, HO208⟩ ha215 hF214
      replace HE := HE.thenN HX211.g
      replace HO := HO.grow HX211.g (by simp)
      replace HR196 := HR196.grow HX211.g (by simp)
      replace HR203 := HR203.grow HX211.g (by simp)
      have hcp216 := HO208.cap
      rw [ha215]; exact hK185 _ _ ⟨_, _, rfl, HO208.rd⟩ HX211.g
    · -- operation 9
      rintro a218 w217 b220 KK226 hs222 hd223 hJ224 hb225 hr234 hK221
      have hr234x : RD SL_ b220 a218 a28 w217 [(19, some 8)] := hr234 _ (by kernel_rfl)
      obtain ⟨⟨v228, q227, s229⟩, -⟩ := hr234x
      obtain ⟨A230, c231, rfl, HR232⟩ := s229
      obtain ⟨HE, HO⟩ := hJ224
      have hF219 : Fr 27 a218 [(19, .slice A230 ((dig 256 (((decF k) * 10) + (((oT.getD k 0) + 256 - 48) % 256))).length) c231)] := Fr.of hs222 hd223 ⟨q227, trivial⟩
      refine s_pure hT (d := 1) (v := .slice A230 ((dig 256 (((decF k) * 10) + (((oT.getD k 0) + 256 - 48) % 256))).length) c231) (cs := []) (by kernel_rfl) (by kernel_rfl) trivial hF219 ?_
      rintro a2 ha2 hF2; rw [ha2]; exact hK221 _ _ ⟨_, _, rfl, HR232⟩ (grown_refl _ _)
    · -- behind the region
      rintro a236 w237 hs238 hd239 ⟨⟨v241, q242, s243⟩, q248, q249, q250, -⟩ ⟨HE, HO⟩
      obtain ⟨A244, c245, rfl, HR246⟩ := s243
      have hF251 : Fr 27 a236 [(1, .slice A244 ((dig 256 (((decF k) * 10) + (((oT.getD k 0) + 256 - 48) % 256))).length) c245), (8, .bool ((decide (((k : Nat) : Int) < 38)))), (2, .string (str oT)), (3, .int .i64 ((k : Nat) : Int))] := Fr.of hs238 hd239 ⟨q242, (Fr.init hF30 q248 (by kernel_rfl)), (Fr.init hF30 q249 (by kernel_rfl)), (Fr.init hF30 q250 (by kernel_rfl)), trivial⟩
      clear hF30 hs238 hd239 q242 q248 q249 q250
      refine hK33 _ _ ?_
      refine wp_region_lit ?_
      refine pures_end hT 3 _ hF251 (F' := [(3, .int .i64 (((k + 1) : Nat) : Int)), (10, .int .i64 (((k + 1) : Nat) : Int)), (9, .int .i64 ((k : Nat) : Int)), (1, .slice A244 ((dig 256 (((decF k) * 10) + (((oT.getD k 0) + 256 - 48) % 256))).length) c245), (8, .bool ((decide (((k : Nat) : Int) < 38)))), (2, .string (str oT)), (3, .int .i64 ((k : Nat) : Int))]) (cs := [-9223372036854775808 ≤ (((k + 1) : Nat) : Int), (((k + 1) : Nat) : Int) ≤ 9223372036854775807]) (by kernel_rfl) rfl (And.intro (by omega) (And.intro (by omega) trivial)) ?_
      intro a252 hF253; clear hF251 a236
      have hF254 := hF253.pick [3, 1, 8, 2] (G := [(3, .int .i64 (((k + 1) : Nat) : Int)), (1, .slice A244 ((dig 256 (((decF k) * 10) + (((oT.getD k 0) + 256 - 48) % 256))).length) c245), (8, .bool ((decide (((k : Nat) : Int) < 38)))), (2, .string (str oT))]) (by kernel_rfl); clear hF253
      refine hK22 _ _ _ (by omega) ⟨(k + 1), A244, c245, rfl, hF254.pick [1, 2, 3] (by kernel_rfl), HE, HR246, (by omega)⟩
  · -- h31
    refine wp_exit ?_
    refine hK14 _ _ ?_
    refine wp_seq_k (fun K255 hK256 => ?_)
    have hdl := dlen (decF_lt (i := k) (by omega))
    have HEa : Ex w20 w20 := Ex.refl _
    refine wp_region_lit ?_
    have hz261 := HE.size
    have hz262 := HEa.size
    refine wl (s_make hT (d := 20) (T := 5) (m := 31) (i := tr5) (by kernel_rfl) (by intro t x y h; cases h; rfl) hF30 (by show 31 * 1 ≤ 281474976710656; omega) (by simp only [maxLen]; omega) ?_)
    rintro a263 w257 A260 HO259 g258 ha265 hF264; clear ha265 hF30 a28
    replace HO259 : Own w257 w20.heap.size 5 1 A260 31 31 (vs .u8 (List.replicate 31 0)) := (made_vs HO259 rfl rfl)
    replace HE := HE.thenN g258
    replace HEa := HEa.thenN g258
    refine pures_end hT 1 _ hF264 (F' := [(4, .slice A260 31 31), (20, .slice A260 31 31), (8, .bool ((decide (((k : Nat) : Int) < 38)))), (1, .slice A3 ((dig 256 (decF k)).length) c3), (2, .string (str oT)), (3, .int .i64 ((k : Nat) : Int))]) (cs := []) (by kernel_rfl) rfl trivial ?_
    intro a266 hF267; clear hF264 a263
    have hF268 := hF267.pick [4, 8, 1, 2, 3] (G := [(4, .slice A260 31 31), (8, .bool ((decide (((k : Nat) : Int) < 38)))), (1, .slice A3 ((dig 256 (decF k)).length) c3), (2, .string (str oT)), (3, .int .i64 ((k : Nat) : Int))]) (by kernel_rfl); clear hF267
    refine hK256 _ _ ?_
    refine wp_seq_k (fun K269 hK270 => ?_)
    refine wp_region_lit ?_
    refine pures hT 1 _ hF268 (F' := [(21, .slice A260 31 31), (4, .slice A260 31 31), (8, .bool ((decide (((k : Nat) : Int) < 38)))), (1, .slice A3 ((dig 256 (decF k)).length) c3), (2, .string (str oT)), (3, .int .i64 ((k : Nat) : Int))]) (cs := []) (by kernel_rfl) trivial ?_
    intro a271 hF272; clear hF268 a266
    have hz279 := HE.size
    have hz280 := HEa.size
    have hz281 := HO259.base
    refine wl (s_lit hT (d := 22) (T := 5) (l := vs .u8 [16]) (by kernel_rfl) hF272 ?_)
    rintro a282 w274 b273 h277 h278 HB276 g275 ha284 hF283; clear ha284 hF272 a271
    replace HE := HE.thenN g275
    replace HEa := HEa.thenN g275
    replace HO259 := HO259.growN g275
    have hz285 := HE.size
    have hz286 := HEa.size
    have hz287 := HO259.base
    have hz288 := HB276.lt
    refine wl (s_app hT (d := 23) (T := 5) (i := tr5) (B := w20.heap.size) (m := 31) (c := 31) (m2 := 1) (c2 := 1) (by kernel_rfl) hF283 rfl (by decide) HO259 HB276.rd (by show _ = 1 * 1; simp) vs_one (by show (31 + 1) * 1 ≤ 140737488355328; omega) (by decide) (by have := HE.size; omega) ?_)
    rintro a295 w289 A292 c293 HO291 g290 hat294 ha297 hF296; clear ha297 hF283 a282
    rw [← vs_append] at HO291
    replace HE := HE.thenR g290 (fun k hk => by have := (HO259.base k hk).1; omega)
    replace HEa := HEa.thenR g290 (fun k hk => by have := (HO259.base k hk).1; omega)
    replace HB276 := HB276.grow g290 (by intro h; have := (hz281 _ h).2; omega)
    clear HO259
    refine pures_end hT 1 _ hF296 (F' := [(4, .slice A292 (31 + 1) c293), (23, .slice A292 (31 + 1) c293), (22, .slice (some ⟨b273, 0, none⟩) 1 1), (21, .slice A260 31 31), (4, .slice A260 31 31), (8, .bool ((decide (((k : Nat) : Int) < 38)))), (1, .slice A3 ((dig 256 (decF k)).length) c3), (2, .string (str oT)), (3, .int .i64 ((k : Nat) : Int))]) (cs := []) (by kernel_rfl) rfl trivial ?_
    intro a298 hF299; clear hF296 a295
    have hF300 := hF299.pick [4, 8, 1, 2, 3] (G := [(4, .slice A292 (31 + 1) c293), (8, .bool ((decide (((k : Nat) : Int) < 38)))), (1, .slice A3 ((dig 256 (decF k)).length) c3), (2, .string (str oT)), (3, .int .i64 ((k : Nat) : Int))]) (by kernel_rfl); clear hF299
    refine hK270 _ _ ?_
    refine wp_seq_k (fun K301 hK302 => ?_)
    refine wp_region_lit ?_
    refine pures hT 2 _ hF300 (F' := [(25, .slice A292 (31 + 1) c293), (24, .slice A3 ((dig 256 (decF k)).length) c3), (4, .slice A292 (31 + 1) c293), (8, .bool ((decide (((k : Nat) : Int) < 38)))), (1, .slice A3 ((dig 256 (decF k)).length) c3), (2, .string (str oT)), (3, .int .i64 ((k : Nat) : Int))]) (cs := []) (by kernel_rfl) trivial ?_
    intro a303 hF304; clear hF300 a298
    have hz311 := HE.size
    have hz312 := HEa.size
    have hz313 := HB276.lt
    have hz314 := HO291.base
    refine wl (s_call (d := 26) (f := 22) (l := [.slice A3 ((dig 256 (decF k)).length) c3, .slice A292 (31 + 1) c293]) (by kernel_rfl) hF304 cl22 (ref15_Add A3 ((dig 256 (decF k)).length) c3 (dig 256 (decF k)) (decF k) A292 (31 + 1) c293 ((List.replicate 31 0) ++ [16]) (nv 256 ((List.replicate 31 0) ++ [16])) _ (nvd _) rfl (by first | omega | assumption | (simp; done) | (simp; omega) | decide) (by first | omega | assumption | (simp; done) | (simp; omega) | decide) (HO.ex HEa) HO291.rd (by first | assumption | exact by_dig _ | exact by_one (Nat.mod_lt _ (by decide)) | omega | (simp; done) | decide) (byL rfl) (by first | omega | assumption | (simp; done) | (simp; omega) | decide) (by first | omega | assumption | (simp; done) | (simp; omega) | decide) ) ?_)
    rintro a315 w308 v309 ⟨A305, c306, rfl, HX310, HO307⟩ ha317 hF316; clear ha317 hF304 a303
    replace HE := HE.thenN HX310.g
    replace HEa := HEa.thenN HX310.g
    replace HB276 := HB276.growN HX310.g
    replace HO291 := HO291.growN HX310.g
    have hcp318 := HO307.cap
    refine pures_end hT 1 _ hF316 (F' := [(0, .slice A305 ((dig 256 ((decF k) + (nv 256 ((List.replicate 31 0) ++ [16])))).length) c306), (26, .slice A305 ((dig 256 ((decF k) + (nv 256 ((List.replicate 31 0) ++ [16])))).length) c306), (25, .slice A292 (31 + 1) c293), (24, .slice A3 ((dig 256 (decF k)).length) c3), (4, .slice A292 (31 + 1) c293), (8, .bool ((decide (((k : Nat) : Int) < 38)))), (1, .slice A3 ((dig 256 (decF k)).length) c3), (2, .string (str oT)), (3, .int .i64 ((k : Nat) : Int))]) (cs := []) (by kernel_rfl) rfl trivial ?_
    intro a319 hF320; clear hF316 a315
    have hF321 := hF320.pick [0, 4, 8, 1, 2, 3] (G := [(0, .slice A305 ((dig 256 ((decF k) + (nv 256 ((List.replicate 31 0) ++ [16])))).length) c306), (4, .slice A292 (31 + 1) c293), (8, .bool ((decide (((k : Nat) : Int) < 38)))), (1, .slice A3 ((dig 256 (decF k)).length) c3), (2, .string (str oT)), (3, .int .i64 ((k : Nat) : Int))]) (by kernel_rfl); clear hF320
    refine hK302 _ _ ?_
    refine wp_ret ?_
    refine ret1 hF321 rfl (v := .slice A305 ((dig 256 ((decF k) + (nv 256 ((List.replicate 31 0) ++ [16])))).length) c306) (by kernel_rfl) ?_
    have hO := HO307
    obtain rfl : k = 38 := by omega
    rw [decF_top] at hO ⊢
    exact ⟨_, _, rfl, HE, hO.rebase (by omega)⟩

end Go.Proofs.Ytdabkjflpbbpeaa
