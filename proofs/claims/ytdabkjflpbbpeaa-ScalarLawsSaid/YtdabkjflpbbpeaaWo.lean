/- Walks of functions of the program: lemmas. -/
import Derived.Test.YtdabkjflpbbpeaaWn
import Derived.Test.YtdabkjflpbbpeaaLe
set_option maxRecDepth 100000
set_option linter.unusedVariables false
set_option linter.unusedSimpArgs false
namespace Go.Proofs.Ytdabkjflpbbpeaa
open Go.Proofs Go.RowKit

set_option maxHeartbeats 4000000 in
theorem law18_awake  (w : World)  :
    Calls Try.prog 28 [].toArray w (Ret fun v w' => v = .bool true ∧ Ex w w') := by
  refine enter Try.func28 rfl (n := 45) Try.ntmps28 (by simp) ?_
  intro a hF
  have HE : Ex w w := Ex.refl w
  refine wp_seq_k (fun K1 hK2 => ?_)
  refine wp_region_lit ?_
  refine pures_end hT 1 _ hF (F' := [(0, .bool false)]) (cs := []) (by kernel_rfl) rfl trivial ?_
  intro a3 hF4; clear hF a
  refine hK2 _ _ ?_
  refine wp_seq_k (fun K5 hK6 => ?_)
  refine wp_region_lit ?_
  have hz10 := HE.size
  refine wl (s_call (d := 5) (f := 26) (l := []) (by kernel_rfl) hF4 cl26 (scal_Order _) ?_)
  rintro a11 w7 v8 ⟨rfl, HX9⟩ ha13 hF12; clear ha13 hF4 a3
  replace HE := HE.thenN HX9.g
  have hz20 := HE.size
  refine wl (s_alloc hT (d := 1) (T := 32) (l := vs .u8 [0, 0, 0, 0, 0, 0, 0, 0, 0, 0, 0, 0, 0, 0, 0, 0, 0, 0, 0, 0, 0, 0, 0, 0, 0, 0, 0, 0, 0, 0, 0, 0]) (by kernel_rfl) hF12 ?_)
  rintro a21 w15 b14 h18 h19 HB17 g16 ha23 hF22; clear ha23 hF12 a11
  replace HE := HE.thenN g16
  refine wl (s_storeV hT (b := b14) (l2 := vs .u8 oL) (sz := 32) (by kernel_rfl) hF22 HB17 (by first | rfl | (simp only [vs_length, vi_length]; first | assumption | omega) | (simp only [vs_length, le_length]; done) | (simp only [vs_length, le_length]; first | rfl | assumption | (symm; assumption) | omega | simp) | rfl | (simp; done)) (by first | rfl | (simp only [vs_length, vi_length]; first | assumption | omega) | (simp only [vs_length, le_length]; done) | (simp only [vs_length, le_length]; first | rfl | assumption | (symm; assumption) | omega | simp) | rfl | (simp; done) | (simp only [vs_length, vi_length]; simp; omega)) (by exact vs_one) ?_)
  rintro a26 w24 ha28 hF27 HB17x g25; clear ha28 hF22 a21; replace HB17 := HB17x
  replace HE := HE.thenS g25 (by first | omega | (simp only [clampL_length, List.length_replicate]; first | done | omega | decide))
  refine wpList_nil ?_
  have hF29 := hF27.pick [1, 0] (G := [(1, .pointer (some ⟨b14, 0, none⟩)), (0, .bool false)]) (by kernel_rfl); clear hF27
  refine hK6 _ _ ?_
  refine wp_seq_k (fun K30 hK31 => ?_)
  refine wp_region_lit ?_
  have hz38 := HE.size
  have hz39 := HB17.lt
  refine wl (s_alloc hT (d := 2) (T := 32) (l := vs .u8 [0, 0, 0, 0, 0, 0, 0, 0, 0, 0, 0, 0, 0, 0, 0, 0, 0, 0, 0, 0, 0, 0, 0, 0, 0, 0, 0, 0, 0, 0, 0, 0]) (by kernel_rfl) hF29 ?_)
  rintro a40 w33 b32 h36 h37 HB35 g34 ha42 hF41; clear ha42 hF29 a26
  replace HE := HE.thenN g34
  replace HB17 := HB17.growN g34
  refine wpList_nil ?_
  refine hK31 _ _ ?_
  refine wp_seq_k (fun K43 hK44 => ?_)
  refine wp_seq_k (fun K45 hK46 => ?_)
  refine wp_region_lit ?_
  refine pures_end hT 1 _ hF41 (F' := [(3, .int .i64 0), (2, .pointer (some ⟨b32, 0, none⟩)), (1, .pointer (some ⟨b14, 0, none⟩)), (0, .bool false)]) (cs := []) (by kernel_rfl) rfl trivial ?_
  intro a47 hF48; clear hF41 a40
  refine hK46 _ _ ?_
  refine wp_block ?_
  refine loopK (fun mm_ a W => ∃ (k : Nat), ∃ (zs : List Nat), (32 - k) = mm_ ∧ (Fr 45 a [(1, .pointer (some ⟨b14, 0, none⟩)), (2, .pointer (some ⟨b32, 0, none⟩)), (3, .int .i64 ((k : Nat) : Int))]) ∧ (Ex w W) ∧ (Blk W b14 32 (vs .u8 oL)) ∧ (Blk W b32 32 (vs .u8 zs)) ∧ (k ≤ 32) ∧ (zs.length = 32) ∧ (∀ j, j < k → zs.getD j 0 = 255)) _ ⟨0, _, rfl, hF48.pick [1, 2, 3] (by kernel_rfl), HE, HB17, HB35, (by omega), rfl, (fun j hj => by omega)⟩ ?_
  clear hF48 HE HB17 HB35
  rintro mm_ a49 w50 ⟨k, zs, rfl, hF53, HE, HB17, HB35, hk, hzl, hz⟩ K51 hK52
  refine wp_seq_k (fun K54 hK55 => ?_)
  refine wp_seq_k (fun K56 hK57 => ?_)
  refine wp_region_lit ?_
  refine pures_end hT 2 _ hF53 (F' := [(7, .bool ((decide (((k : Nat) : Int) < 32)))), (6, .int .i64 ((k : Nat) : Int)), (1, .pointer (some ⟨b14, 0, none⟩)), (2, .pointer (some ⟨b32, 0, none⟩)), (3, .int .i64 ((k : Nat) : Int))]) (cs := []) (by kernel_rfl) rfl trivial ?_
  intro a58 hF59; clear hF53 a49
  have hF60 := hF59.pick [7, 1, 2, 3] (G := [(7, .bool ((decide (((k : Nat) : Int) < 32)))), (1, .pointer (some ⟨b14, 0, none⟩)), (2, .pointer (some ⟨b32, 0, none⟩)), (3, .int .i64 ((k : Nat) : Int))]) (by kernel_rfl); clear hF59
  refine hK57 _ _ ?_
  refine condK hF60 (p := ((k : Nat) : Int) < 32) (by kernel_rfl) (fun h61 => ?_) (fun h61 => ?_)
  · -- h61
    refine wp_skip ?_
    refine hK55 _ _ ?_
    refine wp_seq_k (fun K62 hK63 => ?_)
    refine wp_block ?_
    refine wp_region_lit ?_
    refine pures hT 2 _ hF60 (F' := [(11, .pointer (some ⟨b32, (0 + k), none⟩)), (10, .int .i64 ((k : Nat) : Int)), (7, .bool ((decide (((k : Nat) : Int) < 32)))), (1, .pointer (some ⟨b14, 0, none⟩)), (2, .pointer (some ⟨b32, 0, none⟩)), (3, .int .i64 ((k : Nat) : Int))]) (cs := [0 ≤ ((k : Nat) : Int), ((k : Nat) : Int) < 32]) (by kernel_rfl) (And.intro (by omega) (And.intro (by first | omega | (simp only [clampL_length, List.length_replicate]; first | done | omega | decide)) trivial)) ?_
    intro a64 hF65; clear hF60 a58
    refine wl (s_store hT (b := b32) (off := k) (p := ⟨b32, (0 + k), none⟩) (v := .int .u8 255) (by kernel_rfl) hF65 HB35 (by first | rfl | (congr 1; omega)) (by (first | (simp only [vs_length, vi_length]; omega) | (simp only [vs_length, le_length]; done) | (simp only [vs_length, le_length]; first | rfl | assumption | (symm; assumption) | omega | simp) | rfl | (simp; omega) | omega)) ?_)
    rintro a68 w66 ha70 hF69 HB35x g67; clear ha70 hF65 a64; replace HB35 := HB35x
    rw [show (Value.int .u8 255) = .int .u8 ((255 : Nat) : Int) from rfl, vs_set] at HB35
    replace HE := HE.thenS g67 (by first | omega | (simp only [clampL_length, List.length_replicate]; first | done | omega | decide))
    replace HB17 := HB17.growS g67 (by first | omega | (simp only [clampL_length, List.length_replicate]; first | done | omega | decide))
    refine wpList_nil ?_
    have hF71 := hF69.pick [7, 1, 2, 3] (G := [(7, .bool ((decide (((k : Nat) : Int) < 32)))), (1, .pointer (some ⟨b14, 0, none⟩)), (2, .pointer (some ⟨b32, 0, none⟩)), (3, .int .i64 ((k : Nat) : Int))]) (by kernel_rfl); clear hF69
    refine hK63 _ _ ?_
    refine wp_region_lit ?_
    refine pures_end hT 3 _ hF71 (F' := [(3, .int .i64 (((k + 1) : Nat) : Int)), (9, .int .i64 (((k + 1) : Nat) : Int)), (8, .int .i64 ((k : Nat) : Int)), (7, .bool ((decide (((k : Nat) : Int) < 32)))), (1, .pointer (some ⟨b14, 0, none⟩)), (2, .pointer (some ⟨b32, 0, none⟩)), (3, .int .i64 ((k : Nat) : Int))]) (cs := [-9223372036854775808 ≤ (((k + 1) : Nat) : Int), (((k + 1) : Nat) : Int) ≤ 9223372036854775807]) (by kernel_rfl) rfl (And.intro (by first | omega | (simp only [clampL_length, List.length_replicate]; first | done | omega | decide)) (And.intro (by first | omega | (simp only [clampL_length, List.length_replicate]; first | done | omega | decide)) trivial)) ?_
    intro a72 hF73; clear hF71 a68
    have hF74 := hF73.pick [3, 7, 1, 2] (G := [(3, .int .i64 (((k + 1) : Nat) : Int)), (7, .bool ((decide (((k : Nat) : Int) < 32)))), (1, .pointer (some ⟨b14, 0, none⟩)), (2, .pointer (some ⟨b32, 0, none⟩))]) (by kernel_rfl); clear hF73
    refine hK52 _ _ _ (by first | omega | (simp only [clampL_length, List.length_replicate]; first | done | omega | decide)) ⟨(k + 1), (zs.set k 255), rfl, hF74.pick [1, 2, 3] (by kernel_rfl), HE, HB17, HB35, (by omega), (by simpa using hzl), (fun j hj => by rw [getD_set _ _ _ _ (by omega)]; by_cases e : k = j; (rw [if_pos e]); (rw [if_neg e]; exact hz j (by omega)))⟩
  · -- h61
    refine wp_exit ?_
    refine hK44 _ _ ?_
    refine wp_seq_k (fun K75 hK76 => ?_)
    rw [all255 hzl (fun j hj => hz j (by omega))] at HB35
    refine wp_region_lit ?_
    refine wl (s_loadA hT (d := 12) (b := b32) (off := 0) (sz := 32) (l := vs .u8 (List.replicate 32 255)) (by kernel_rfl) hF60 HB35.cells (by (first | (simp only [vs_length, vi_length]; omega) | (simp only [vs_length, le_length]; done) | (simp only [vs_length, le_length]; first | rfl | assumption | (symm; assumption) | omega | simp) | rfl | (simp; omega) | omega)) ?_)
    rintro a77 ha79 hF78; clear ha79 hF60 a58
    have hz83 := HE.size
    have hz84 := HB17.lt
    have hz85 := HB35.lt
    refine wl (s_call (d := 13) (f := 34) (l := [.agg (vs .u8 (List.replicate 32 255)).toArray]) (by kernel_rfl) hF78 cl34 (scal_Clamp (List.replicate 32 255) _ (by first | rfl | exact le_length _ _ | assumption) (byL rfl)) ?_)
    rintro a86 w80 v81 ⟨rfl, HX82⟩ ha88 hF87; clear ha88 hF78 a77
    replace HE := HE.thenN HX82.g
    replace HB17 := HB17.growN HX82.g
    replace HB35 := HB35.growN HX82.g
    have hz95 := HE.size
    have hz96 := HB17.lt
    have hz97 := HB35.lt
    refine wl (s_alloc hT (d := 4) (T := 32) (l := vs .u8 [0, 0, 0, 0, 0, 0, 0, 0, 0, 0, 0, 0, 0, 0, 0, 0, 0, 0, 0, 0, 0, 0, 0, 0, 0, 0, 0, 0, 0, 0, 0, 0]) (by kernel_rfl) hF87 ?_)
    rintro a98 w90 b89 h93 h94 HB92 g91 ha100 hF99; clear ha100 hF87 a86
    replace HE := HE.thenN g91
    replace HB17 := HB17.growN g91
    replace HB35 := HB35.growN g91
    refine wl (s_storeV hT (b := b89) (l2 := vs .u8 (clampL (List.replicate 32 255))) (sz := 32) (by kernel_rfl) hF99 HB92 (by first | rfl | (simp only [vs_length, vi_length]; first | assumption | omega) | (simp only [vs_length, le_length]; done) | (simp only [vs_length, le_length]; first | rfl | assumption | (symm; assumption) | omega | simp) | rfl | (simp; done)) (by first | rfl | (simp only [vs_length, vi_length]; first | assumption | omega) | (simp only [vs_length, le_length]; done) | (simp only [vs_length, le_length]; first | rfl | assumption | (symm; assumption) | omega | simp) | rfl | (simp; done) | (simp only [vs_length, vi_length]; simp; omega)) (by exact vs_one) ?_)
    rintro a103 w101 ha105 hF104 HB92x g102; clear ha105 hF99 a98; replace HB92 := HB92x
    replace HE := HE.thenS g102 (by first | omega | (simp only [clampL_length, List.length_replicate]; first | done | omega | decide))
    replace HB17 := HB17.growS g102 (by first | omega | (simp only [clampL_length, List.length_replicate]; first | done | omega | decide))
    replace HB35 := HB35.growS g102 (by first | omega | (simp only [clampL_length, List.length_replicate]; first | done | omega | decide))
    refine wpList_nil ?_
    have hF106 := hF104.pick [4, 7, 1, 2, 3] (G := [(4, .pointer (some ⟨b89, 0, none⟩)), (7, .bool ((decide (((k : Nat) : Int) < 32)))), (1, .pointer (some ⟨b14, 0, none⟩)), (2, .pointer (some ⟨b32, 0, none⟩)), (3, .int .i64 ((k : Nat) : Int))]) (by kernel_rfl); clear hF104
    refine hK76 _ _ ?_
    refine wp_seq_k (fun K107 hK108 => ?_)
    refine wp_region_lit ?_
    refine wl (s_loadA hT (d := 14) (b := b14) (off := 0) (sz := 32) (l := vs .u8 oL) (by kernel_rfl) hF106 HB17.cells (by (first | (simp only [vs_length, vi_length]; omega) | (simp only [vs_length, le_length]; done) | (simp only [vs_length, le_length]; first | rfl | assumption | (symm; assumption) | omega | simp) | rfl | (simp; omega) | omega)) ?_)
    rintro a109 ha111 hF110; clear ha111 hF106 a103
    have hz115 := HE.size
    have hz116 := HB17.lt
    have hz117 := HB35.lt
    have hz118 := HB92.lt
    refine wl (s_call (d := 15) (f := 30) (l := [.agg (vs .u8 oL).toArray]) (by kernel_rfl) hF110 cl30 (scal_Is oL Lq _ oL_nv (by first | rfl | exact le_length _ _ | assumption) oL_by) ?_)
    rintro a119 w112 v113 ⟨rfl, HX114⟩ ha121 hF120; clear ha121 hF110 a109
    replace HE := HE.thenN HX114.g
    replace HB17 := HB17.growN HX114.g
    replace HB35 := HB35.growN HX114.g
    replace HB92 := HB92.growN HX114.g
    refine pures hT 1 _ hF120 (F' := [(16, .bool (!(decide (Lq < Lq)))), (15, .bool ((decide (Lq < Lq)))), (14, .agg (vs .u8 oL).toArray), (4, .pointer (some ⟨b89, 0, none⟩)), (7, .bool ((decide (((k : Nat) : Int) < 32)))), (1, .pointer (some ⟨b14, 0, none⟩)), (2, .pointer (some ⟨b32, 0, none⟩)), (3, .int .i64 ((k : Nat) : Int))]) (cs := []) (by kernel_rfl) trivial ?_
    intro a122 hF123; clear hF120 a119
    have hF124 : Fr 45 a122 [(16, .bool true), (15, .bool ((decide (Lq < Lq)))), (14, .agg (vs .u8 oL).toArray), (4, .pointer (some ⟨b89, 0, none⟩)), (7, .bool ((decide (((k : Nat) : Int) < 32)))), (1, .pointer (some ⟨b14, 0, none⟩)), (2, .pointer (some ⟨b32, 0, none⟩)), (3, .int .i64 ((k : Nat) : Int))] := by rw [show (!(decide (Lq < Lq))) = true from (congrArg Bool.not (decide_eq_false (Nat.lt_irrefl _)))] at hF123; exact hF123
    clear hF123
    refine pures hT 1 _ hF124 (F' := [(17, .bool true), (16, .bool true), (15, .bool ((decide (Lq < Lq)))), (14, .agg (vs .u8 oL).toArray), (4, .pointer (some ⟨b89, 0, none⟩)), (7, .bool ((decide (((k : Nat) : Int) < 32)))), (1, .pointer (some ⟨b14, 0, none⟩)), (2, .pointer (some ⟨b32, 0, none⟩)), (3, .int .i64 ((k : Nat) : Int))]) (cs := []) (by kernel_rfl) trivial ?_
    intro a125 hF126; clear hF124 a122
    refine wl (One.bare hF126 (by kernel_rfl) (s_sliceA hT (d := 18) (b := b14) (off := 0) (m := 32) (sz := 1) (lo := 0) (hi := 32) (by kernel_rfl) hF126 (by omega) (by omega) (by omega) ?_))
    rintro a127 ha129 hF128; clear ha129 hF126 a125
    replace hF128 : Fr 45 a127 [(18, .slice (some ⟨b14, 0, none⟩) 32 32), (17, .bool true), (16, .bool true), (15, .bool ((decide (Lq < Lq)))), (14, .agg (vs .u8 oL).toArray), (4, .pointer (some ⟨b89, 0, none⟩)), (7, .bool ((decide (((k : Nat) : Int) < 32)))), (1, .pointer (some ⟨b14, 0, none⟩)), (2, .pointer (some ⟨b32, 0, none⟩)), (3, .int .i64 ((k : Nat) : Int))] := hF128
    have hz133 := HE.size
    have hz134 := HB17.lt
    have hz135 := HB35.lt
    have hz136 := HB92.lt
    refine wl (One.bare hF128 (by kernel_rfl) (s_call (d := 19) (f := 27) (l := [.slice (some ⟨b14, 0, none⟩) 32 32]) (by kernel_rfl) hF128 cl27 (scal_Reduce (some ⟨b14, 0, none⟩) 32 32 oL Lq _ oL_nv (by first | rfl | omega | exact le_length _ _ | assumption) HB17.rd oL_by (by decide)) ?_))
    rintro a137 w130 v131 ⟨rfl, HX132⟩ ha139 hF138; clear ha139 hF128 a127
    replace HE := HE.thenN HX132.g
    replace HB17 := HB17.growN HX132.g
    replace HB35 := HB35.growN HX132.g
    replace HB92 := HB92.growN HX132.g
    have hz143 := HE.size
    have hz144 := HB17.lt
    have hz145 := HB35.lt
    have hz146 := HB92.lt
    refine wl (One.bare hF138 (by kernel_rfl) (s_call (d := 20) (f := 36) (l := [.int .u8 0]) (by kernel_rfl) hF138 cl36 (law18_num 0 _ (by omega)) ?_))
    rintro a147 w140 v141 ⟨rfl, HX142⟩ ha149 hF148; clear ha149 hF138 a137
    replace HE := HE.thenN HX142.g
    replace HB17 := HB17.growN HX142.g
    replace HB35 := HB35.growN HX142.g
    replace HB92 := HB92.growN HX142.g
    refine wl (One.bare hF148 (by kernel_rfl) (s_arrEq hT (d := 21) (m := 32) (e := true) (k := .u8) (xs := (le 32 (Lq % Lq))) (ys := [0, 0, 0, 0, 0, 0, 0, 0, 0, 0, 0, 0, 0, 0, 0, 0, 0, 0, 0, 0, 0, 0, 0, 0, 0, 0, 0, 0, 0, 0, 0, 0]) (b := (decide ((le 32 (Lq % Lq)) = [0, 0, 0, 0, 0, 0, 0, 0, 0, 0, 0, 0, 0, 0, 0, 0, 0, 0, 0, 0, 0, 0, 0, 0, 0, 0, 0, 0, 0, 0, 0, 0]))) (by kernel_rfl) (by intro t h; cases h; kernel_rfl) hF148 (by first | rfl | assumption | omega | (simp; done) | (simp; omega)) (by first | rfl | assumption | omega | (simp; done) | (simp; omega)) rfl ?_))
    rintro a150 ha152 hF151; clear ha152 hF148 a147
    have hF153 : Fr 45 a150 [(21, .bool true), (20, .agg (vs .u8 [0, 0, 0, 0, 0, 0, 0, 0, 0, 0, 0, 0, 0, 0, 0, 0, 0, 0, 0, 0, 0, 0, 0, 0, 0, 0, 0, 0, 0, 0, 0, 0]).toArray), (19, .agg (vs .u8 (le 32 (Lq % Lq))).toArray), (18, .slice (some ⟨b14, 0, none⟩) 32 32), (17, .bool true), (16, .bool true), (15, .bool ((decide (Lq < Lq)))), (14, .agg (vs .u8 oL).toArray), (4, .pointer (some ⟨b89, 0, none⟩)), (7, .bool ((decide (((k : Nat) : Int) < 32)))), (1, .pointer (some ⟨b14, 0, none⟩)), (2, .pointer (some ⟨b32, 0, none⟩)), (3, .int .i64 ((k : Nat) : Int))] := by rw [show ((decide ((le 32 (Lq % Lq)) = [0, 0, 0, 0, 0, 0, 0, 0, 0, 0, 0, 0, 0, 0, 0, 0, 0, 0, 0, 0, 0, 0, 0, 0, 0, 0, 0, 0, 0, 0, 0, 0]))) = true from (decide_eq_true (by decide +kernel))] at hF151; exact hF151
    clear hF151
    refine pures hT 2 _ hF153 (F' := [(23, .bool true), (22, .bool true), (21, .bool true), (20, .agg (vs .u8 [0, 0, 0, 0, 0, 0, 0, 0, 0, 0, 0, 0, 0, 0, 0, 0, 0, 0, 0, 0, 0, 0, 0, 0, 0, 0, 0, 0, 0, 0, 0, 0]).toArray), (19, .agg (vs .u8 (le 32 (Lq % Lq))).toArray), (18, .slice (some ⟨b14, 0, none⟩) 32 32), (17, .bool true), (16, .bool true), (15, .bool ((decide (Lq < Lq)))), (14, .agg (vs .u8 oL).toArray), (4, .pointer (some ⟨b89, 0, none⟩)), (7, .bool ((decide (((k : Nat) : Int) < 32)))), (1, .pointer (some ⟨b14, 0, none⟩)), (2, .pointer (some ⟨b32, 0, none⟩)), (3, .int .i64 ((k : Nat) : Int))]) (cs := []) (by kernel_rfl) trivial ?_
    intro a154 hF155; clear hF153 a150
    have hz159 := HE.size
    have hz160 := HB17.lt
    have hz161 := HB35.lt
    have hz162 := HB92.lt
    refine wl (One.bare hF155 (by kernel_rfl) (s_call (d := 24) (f := 36) (l := [.int .u8 2]) (by kernel_rfl) hF155 cl36 (law18_num 2 _ (by omega)) ?_))
    rintro a163 w156 v157 ⟨rfl, HX158⟩ ha165 hF164; clear ha165 hF155 a154
    replace HE := HE.thenN HX158.g
    replace HB17 := HB17.growN HX158.g
    replace HB35 := HB35.growN HX158.g
    replace HB92 := HB92.growN HX158.g
    have hz169 := HE.size
    have hz170 := HB17.lt
    have hz171 := HB35.lt
    have hz172 := HB92.lt
    refine wl (One.bare hF164 (by kernel_rfl) (s_call (d := 25) (f := 36) (l := [.int .u8 3]) (by kernel_rfl) hF164 cl36 (law18_num 3 _ (by omega)) ?_))
    rintro a173 w166 v167 ⟨rfl, HX168⟩ ha175 hF174; clear ha175 hF164 a163
    replace HE := HE.thenN HX168.g
    replace HB17 := HB17.growN HX168.g
    replace HB35 := HB35.growN HX168.g
    replace HB92 := HB92.growN HX168.g
    have hz179 := HE.size
    have hz180 := HB17.lt
    have hz181 := HB35.lt
    have hz182 := HB92.lt
    refine wl (One.bare hF174 (by kernel_rfl) (s_call (d := 26) (f := 36) (l := [.int .u8 4]) (by kernel_rfl) hF174 cl36 (law18_num 4 _ (by omega)) ?_))
    rintro a183 w176 v177 ⟨rfl, HX178⟩ ha185 hF184; clear ha185 hF174 a173
    replace HE := HE.thenN HX178.g
    replace HB17 := HB17.growN HX178.g
    replace HB35 := HB35.growN HX178.g
    replace HB92 := HB92.growN HX178.g
    have hz189 := HE.size
    have hz190 := HB17.lt
    have hz191 := HB35.lt
    have hz192 := HB92.lt
    refine wl (One.bare hF184 (by kernel_rfl) (s_call (d := 27) (f := 32) (l := [.agg (vs .u8 [2, 0, 0, 0, 0, 0, 0, 0, 0, 0, 0, 0, 0, 0, 0, 0, 0, 0, 0, 0, 0, 0, 0, 0, 0, 0, 0, 0, 0, 0, 0, 0]).toArray, .agg (vs .u8 [3, 0, 0, 0, 0, 0, 0, 0, 0, 0, 0, 0, 0, 0, 0, 0, 0, 0, 0, 0, 0, 0, 0, 0, 0, 0, 0, 0, 0, 0, 0, 0]).toArray, .agg (vs .u8 [4, 0, 0, 0, 0, 0, 0, 0, 0, 0, 0, 0, 0, 0, 0, 0, 0, 0, 0, 0, 0, 0, 0, 0, 0, 0, 0, 0, 0, 0, 0, 0]).toArray]) (by kernel_rfl) hF184 cl32 (scal_MulAdd [2, 0, 0, 0, 0, 0, 0, 0, 0, 0, 0, 0, 0, 0, 0, 0, 0, 0, 0, 0, 0, 0, 0, 0, 0, 0, 0, 0, 0, 0, 0, 0] 2 [3, 0, 0, 0, 0, 0, 0, 0, 0, 0, 0, 0, 0, 0, 0, 0, 0, 0, 0, 0, 0, 0, 0, 0, 0, 0, 0, 0, 0, 0, 0, 0] 3 [4, 0, 0, 0, 0, 0, 0, 0, 0, 0, 0, 0, 0, 0, 0, 0, 0, 0, 0, 0, 0, 0, 0, 0, 0, 0, 0, 0, 0, 0, 0, 0] 4 _ rfl rfl (byL rfl) rfl rfl (byL rfl) rfl rfl (byL rfl)) ?_))
    rintro a193 w186 v187 ⟨rfl, HX188⟩ ha195 hF194; clear ha195 hF184 a183
    replace HE := HE.thenN HX188.g
    replace HB17 := HB17.growN HX188.g
    replace HB35 := HB35.growN HX188.g
    replace HB92 := HB92.growN HX188.g
    have hz199 := HE.size
    have hz200 := HB17.lt
    have hz201 := HB35.lt
    have hz202 := HB92.lt
    refine wl (One.bare hF194 (by kernel_rfl) (s_call (d := 28) (f := 36) (l := [.int .u8 10]) (by kernel_rfl) hF194 cl36 (law18_num 10 _ (by omega)) ?_))
    rintro a203 w196 v197 ⟨rfl, HX198⟩ ha205 hF204; clear ha205 hF194 a193
    replace HE := HE.thenN HX198.g
    replace HB17 := HB17.growN HX198.g
    replace HB35 := HB35.growN HX198.g
    replace HB92 := HB92.growN HX198.g
    refine wl (One.bare hF204 (by kernel_rfl) (s_arrEq hT (d := 29) (m := 32) (e := true) (k := .u8) (xs := (le 32 ((2 * 3 + 4) % Lq))) (ys := [10, 0, 0, 0, 0, 0, 0, 0, 0, 0, 0, 0, 0, 0, 0, 0, 0, 0, 0, 0, 0, 0, 0, 0, 0, 0, 0, 0, 0, 0, 0, 0]) (b := (decide ((le 32 ((2 * 3 + 4) % Lq)) = [10, 0, 0, 0, 0, 0, 0, 0, 0, 0, 0, 0, 0, 0, 0, 0, 0, 0, 0, 0, 0, 0, 0, 0, 0, 0, 0, 0, 0, 0, 0, 0]))) (by kernel_rfl) (by intro t h; cases h; kernel_rfl) hF204 (by first | rfl | assumption | omega | (simp; done) | (simp; omega)) (by first | rfl | assumption | omega | (simp; done) | (simp; omega)) rfl ?_))
    rintro a206 ha208 hF207; clear ha208 hF204 a203
    have hF209 : Fr 45 a206 [(29, .bool true), (28, .agg (vs .u8 [10, 0, 0, 0, 0, 0, 0, 0, 0, 0, 0, 0, 0, 0, 0, 0, 0, 0, 0, 0, 0, 0, 0, 0, 0, 0, 0, 0, 0, 0, 0, 0]).toArray), (27, .agg (vs .u8 (le 32 ((2 * 3 + 4) % Lq))).toArray), (26, .agg (vs .u8 [4, 0, 0, 0, 0, 0, 0, 0, 0, 0, 0, 0, 0, 0, 0, 0, 0, 0, 0, 0, 0, 0, 0, 0, 0, 0, 0, 0, 0, 0, 0, 0]).toArray), (25, .agg (vs .u8 [3, 0, 0, 0, 0, 0, 0, 0, 0, 0, 0, 0, 0, 0, 0, 0, 0, 0, 0, 0, 0, 0, 0, 0, 0, 0, 0, 0, 0, 0, 0, 0]).toArray), (24, .agg (vs .u8 [2, 0, 0, 0, 0, 0, 0, 0, 0, 0, 0, 0, 0, 0, 0, 0, 0, 0, 0, 0, 0, 0, 0, 0, 0, 0, 0, 0, 0, 0, 0, 0]).toArray), (23, .bool true), (22, .bool true), (21, .bool true), (20, .agg (vs .u8 [0, 0, 0, 0, 0, 0, 0, 0, 0, 0, 0, 0, 0, 0, 0, 0, 0, 0, 0, 0, 0, 0, 0, 0, 0, 0, 0, 0, 0, 0, 0, 0]).toArray), (19, .agg (vs .u8 (le 32 (Lq % Lq))).toArray), (18, .slice (some ⟨b14, 0, none⟩) 32 32), (17, .bool true), (16, .bool true), (15, .bool ((decide (Lq < Lq)))), (14, .agg (vs .u8 oL).toArray), (4, .pointer (some ⟨b89, 0, none⟩)), (7, .bool ((decide (((k : Nat) : Int) < 32)))), (1, .pointer (some ⟨b14, 0, none⟩)), (2, .pointer (some ⟨b32, 0, none⟩)), (3, .int .i64 ((k : Nat) : Int))] := by rw [show ((decide ((le 32 ((2 * 3 + 4) % Lq)) = [10, 0, 0, 0, 0, 0, 0, 0, 0, 0, 0, 0, 0, 0, 0, 0, 0, 0, 0, 0, 0, 0, 0, 0, 0, 0, 0, 0, 0, 0, 0, 0]))) = true from (decide_eq_true (by decide +kernel))] at hF207; exact hF207
    clear hF207
    refine pures hT 3 _ hF209 (F' := [(32, .pointer (some ⟨b89, 0, none⟩)), (31, .bool true), (30, .bool true), (29, .bool true), (28, .agg (vs .u8 [10, 0, 0, 0, 0, 0, 0, 0, 0, 0, 0, 0, 0, 0, 0, 0, 0, 0, 0, 0, 0, 0, 0, 0, 0, 0, 0, 0, 0, 0, 0, 0]).toArray), (27, .agg (vs .u8 (le 32 ((2 * 3 + 4) % Lq))).toArray), (26, .agg (vs .u8 [4, 0, 0, 0, 0, 0, 0, 0, 0, 0, 0, 0, 0, 0, 0, 0, 0, 0, 0, 0, 0, 0, 0, 0, 0, 0, 0, 0, 0, 0, 0, 0]).toArray), (25, .agg (vs .u8 [3, 0, 0, 0, 0, 0, 0, 0, 0, 0, 0, 0, 0, 0, 0, 0, 0, 0, 0, 0, 0, 0, 0, 0, 0, 0, 0, 0, 0, 0, 0, 0]).toArray), (24, .agg (vs .u8 [2, 0, 0, 0, 0, 0, 0, 0, 0, 0, 0, 0, 0, 0, 0, 0, 0, 0, 0, 0, 0, 0, 0, 0, 0, 0, 0, 0, 0, 0, 0, 0]).toArray), (23, .bool true), (22, .bool true), (21, .bool true), (20, .agg (vs .u8 [0, 0, 0, 0, 0, 0, 0, 0, 0, 0, 0, 0, 0, 0, 0, 0, 0, 0, 0, 0, 0, 0, 0, 0, 0, 0, 0, 0, 0, 0, 0, 0]).toArray), (19, .agg (vs .u8 (le 32 (Lq % Lq))).toArray), (18, .slice (some ⟨b14, 0, none⟩) 32 32), (17, .bool true), (16, .bool true), (15, .bool ((decide (Lq < Lq)))), (14, .agg (vs .u8 oL).toArray), (4, .pointer (some ⟨b89, 0, none⟩)), (7, .bool ((decide (((k : Nat) : Int) < 32)))), (1, .pointer (some ⟨b14, 0, none⟩)), (2, .pointer (some ⟨b32, 0, none⟩)), (3, .int .i64 ((k : Nat) : Int))]) (cs := [0 ≤ (0 : Int), (0 : Int) < 32]) (by kernel_rfl) (And.intro (by first | omega | (simp only [clampL_length, List.length_replicate]; first | done | omega | decide)) (And.intro (by first | omega | (simp only [clampL_length, List.length_replicate]; first | done | omega | decide)) trivial)) ?_
    intro a210 hF211; clear hF209 a206
    refine wl (One.bare hF211 (by kernel_rfl) (s_load hT (d := 33) (A := ⟨b89, 0, none⟩) (by kernel_rfl) hF211 (HB92.cells.at (vs_get .u8 (clampL (List.replicate 32 255)) (i := 0) (by first | omega | (simp only [clampL_length, List.length_replicate]; first | done | omega | decide))) (by first | rfl | omega)) ?_))
    rintro a212 ha214 hF213; clear ha214 hF211 a210
    refine pures hT 1 _ hF213 (F' := [(34, .bool ((decide (((((clampL (List.replicate 32 255)).getD 0 0) : Nat) : Int) = 248)))), (33, .int .u8 ((((clampL (List.replicate 32 255)).getD 0 0) : Nat) : Int)), (32, .pointer (some ⟨b89, 0, none⟩)), (31, .bool true), (30, .bool true), (29, .bool true), (28, .agg (vs .u8 [10, 0, 0, 0, 0, 0, 0, 0, 0, 0, 0, 0, 0, 0, 0, 0, 0, 0, 0, 0, 0, 0, 0, 0, 0, 0, 0, 0, 0, 0, 0, 0]).toArray), (27, .agg (vs .u8 (le 32 ((2 * 3 + 4) % Lq))).toArray), (26, .agg (vs .u8 [4, 0, 0, 0, 0, 0, 0, 0, 0, 0, 0, 0, 0, 0, 0, 0, 0, 0, 0, 0, 0, 0, 0, 0, 0, 0, 0, 0, 0, 0, 0, 0]).toArray), (25, .agg (vs .u8 [3, 0, 0, 0, 0, 0, 0, 0, 0, 0, 0, 0, 0, 0, 0, 0, 0, 0, 0, 0, 0, 0, 0, 0, 0, 0, 0, 0, 0, 0, 0, 0]).toArray), (24, .agg (vs .u8 [2, 0, 0, 0, 0, 0, 0, 0, 0, 0, 0, 0, 0, 0, 0, 0, 0, 0, 0, 0, 0, 0, 0, 0, 0, 0, 0, 0, 0, 0, 0, 0]).toArray), (23, .bool true), (22, .bool true), (21, .bool true), (20, .agg (vs .u8 [0, 0, 0, 0, 0, 0, 0, 0, 0, 0, 0, 0, 0, 0, 0, 0, 0, 0, 0, 0, 0, 0, 0, 0, 0, 0, 0, 0, 0, 0, 0, 0]).toArray), (19, .agg (vs .u8 (le 32 (Lq % Lq))).toArray), (18, .slice (some ⟨b14, 0, none⟩) 32 32), (17, .bool true), (16, .bool true), (15, .bool ((decide (Lq < Lq)))), (14, .agg (vs .u8 oL).toArray), (4, .pointer (some ⟨b89, 0, none⟩)), (7, .bool ((decide (((k : Nat) : Int) < 32)))), (1, .pointer (some ⟨b14, 0, none⟩)), (2, .pointer (some ⟨b32, 0, none⟩)), (3, .int .i64 ((k : Nat) : Int))]) (cs := []) (by kernel_rfl) trivial ?_
    intro a215 hF216; clear hF213 a212
    have hF217 : Fr 45 a215 [(34, .bool true), (33, .int .u8 ((((clampL (List.replicate 32 255)).getD 0 0) : Nat) : Int)), (32, .pointer (some ⟨b89, 0, none⟩)), (31, .bool true), (30, .bool true), (29, .bool true), (28, .agg (vs .u8 [10, 0, 0, 0, 0, 0, 0, 0, 0, 0, 0, 0, 0, 0, 0, 0, 0, 0, 0, 0, 0, 0, 0, 0, 0, 0, 0, 0, 0, 0, 0, 0]).toArray), (27, .agg (vs .u8 (le 32 ((2 * 3 + 4) % Lq))).toArray), (26, .agg (vs .u8 [4, 0, 0, 0, 0, 0, 0, 0, 0, 0, 0, 0, 0, 0, 0, 0, 0, 0, 0, 0, 0, 0, 0, 0, 0, 0, 0, 0, 0, 0, 0, 0]).toArray), (25, .agg (vs .u8 [3, 0, 0, 0, 0, 0, 0, 0, 0, 0, 0, 0, 0, 0, 0, 0, 0, 0, 0, 0, 0, 0, 0, 0, 0, 0, 0, 0, 0, 0, 0, 0]).toArray), (24, .agg (vs .u8 [2, 0, 0, 0, 0, 0, 0, 0, 0, 0, 0, 0, 0, 0, 0, 0, 0, 0, 0, 0, 0, 0, 0, 0, 0, 0, 0, 0, 0, 0, 0, 0]).toArray), (23, .bool true), (22, .bool true), (21, .bool true), (20, .agg (vs .u8 [0, 0, 0, 0, 0, 0, 0, 0, 0, 0, 0, 0, 0, 0, 0, 0, 0, 0, 0, 0, 0, 0, 0, 0, 0, 0, 0, 0, 0, 0, 0, 0]).toArray), (19, .agg (vs .u8 (le 32 (Lq % Lq))).toArray), (18, .slice (some ⟨b14, 0, none⟩) 32 32), (17, .bool true), (16, .bool true), (15, .bool ((decide (Lq < Lq)))), (14, .agg (vs .u8 oL).toArray), (4, .pointer (some ⟨b89, 0, none⟩)), (7, .bool ((decide (((k : Nat) : Int) < 32)))), (1, .pointer (some ⟨b14, 0, none⟩)), (2, .pointer (some ⟨b32, 0, none⟩)), (3, .int .i64 ((k : Nat) : Int))] := by rw [show ((decide (((((clampL (List.replicate 32 255)).getD 0 0) : Nat) : Int) = 248))) = true from (decide_eq_true (by decide +kernel))] at hF216; exact hF216
    clear hF216
    refine pures hT 3 _ hF217 (F' := [(37, .pointer (some ⟨b89, 31, none⟩)), (36, .bool true), (35, .bool true), (34, .bool true), (33, .int .u8 ((((clampL (List.replicate 32 255)).getD 0 0) : Nat) : Int)), (32, .pointer (some ⟨b89, 0, none⟩)), (31, .bool true), (30, .bool true), (29, .bool true), (28, .agg (vs .u8 [10, 0, 0, 0, 0, 0, 0, 0, 0, 0, 0, 0, 0, 0, 0, 0, 0, 0, 0, 0, 0, 0, 0, 0, 0, 0, 0, 0, 0, 0, 0, 0]).toArray), (27, .agg (vs .u8 (le 32 ((2 * 3 + 4) % Lq))).toArray), (26, .agg (vs .u8 [4, 0, 0, 0, 0, 0, 0, 0, 0, 0, 0, 0, 0, 0, 0, 0, 0, 0, 0, 0, 0, 0, 0, 0, 0, 0, 0, 0, 0, 0, 0, 0]).toArray), (25, .agg (vs .u8 [3, 0, 0, 0, 0, 0, 0, 0, 0, 0, 0, 0, 0, 0, 0, 0, 0, 0, 0, 0, 0, 0, 0, 0, 0, 0, 0, 0, 0, 0, 0, 0]).toArray), (24, .agg (vs .u8 [2, 0, 0, 0, 0, 0, 0, 0, 0, 0, 0, 0, 0, 0, 0, 0, 0, 0, 0, 0, 0, 0, 0, 0, 0, 0, 0, 0, 0, 0, 0, 0]).toArray), (23, .bool true), (22, .bool true), (21, .bool true), (20, .agg (vs .u8 [0, 0, 0, 0, 0, 0, 0, 0, 0, 0, 0, 0, 0, 0, 0, 0, 0, 0, 0, 0, 0, 0, 0, 0, 0, 0, 0, 0, 0, 0, 0, 0]).toArray), (19, .agg (vs .u8 (le 32 (Lq % Lq))).toArray), (18, .slice (some ⟨b14, 0, none⟩) 32 32), (17, .bool true), (16, .bool true), (15, .bool ((decide (Lq < Lq)))), (14, .agg (vs .u8 oL).toArray), (4, .pointer (some ⟨b89, 0, none⟩)), (7, .bool ((decide (((k : Nat) : Int) < 32)))), (1, .pointer (some ⟨b14, 0, none⟩)), (2, .pointer (some ⟨b32, 0, none⟩)), (3, .int .i64 ((k : Nat) : Int))]) (cs := [0 ≤ (31 : Int), (31 : Int) < 32]) (by kernel_rfl) (And.intro (by first | omega | (simp only [clampL_length, List.length_replicate]; first | done | omega | decide)) (And.intro (by first | omega | (simp only [clampL_length, List.length_replicate]; first | done | omega | decide)) trivial)) ?_
    intro a218 hF219; clear hF217 a215
    refine wl (One.bare hF219 (by kernel_rfl) (s_load hT (d := 38) (A := ⟨b89, 31, none⟩) (by kernel_rfl) hF219 (HB92.cells.at (vs_get .u8 (clampL (List.replicate 32 255)) (i := 31) (by first | omega | (simp only [clampL_length, List.length_replicate]; first | done | omega | decide))) (by first | rfl | omega)) ?_))
    rintro a220 ha222 hF221; clear ha222 hF219 a218
    refine pures hT 1 _ hF221 (F' := [(39, .bool ((decide (((((clampL (List.replicate 32 255)).getD 31 0) : Nat) : Int) = 127)))), (38, .int .u8 ((((clampL (List.replicate 32 255)).getD 31 0) : Nat) : Int)), (37, .pointer (some ⟨b89, 31, none⟩)), (36, .bool true), (35, .bool true), (34, .bool true), (33, .int .u8 ((((clampL (List.replicate 32 255)).getD 0 0) : Nat) : Int)), (32, .pointer (some ⟨b89, 0, none⟩)), (31, .bool true), (30, .bool true), (29, .bool true), (28, .agg (vs .u8 [10, 0, 0, 0, 0, 0, 0, 0, 0, 0, 0, 0, 0, 0, 0, 0, 0, 0, 0, 0, 0, 0, 0, 0, 0, 0, 0, 0, 0, 0, 0, 0]).toArray), (27, .agg (vs .u8 (le 32 ((2 * 3 + 4) % Lq))).toArray), (26, .agg (vs .u8 [4, 0, 0, 0, 0, 0, 0, 0, 0, 0, 0, 0, 0, 0, 0, 0, 0, 0, 0, 0, 0, 0, 0, 0, 0, 0, 0, 0, 0, 0, 0, 0]).toArray), (25, .agg (vs .u8 [3, 0, 0, 0, 0, 0, 0, 0, 0, 0, 0, 0, 0, 0, 0, 0, 0, 0, 0, 0, 0, 0, 0, 0, 0, 0, 0, 0, 0, 0, 0, 0]).toArray), (24, .agg (vs .u8 [2, 0, 0, 0, 0, 0, 0, 0, 0, 0, 0, 0, 0, 0, 0, 0, 0, 0, 0, 0, 0, 0, 0, 0, 0, 0, 0, 0, 0, 0, 0, 0]).toArray), (23, .bool true), (22, .bool true), (21, .bool true), (20, .agg (vs .u8 [0, 0, 0, 0, 0, 0, 0, 0, 0, 0, 0, 0, 0, 0, 0, 0, 0, 0, 0, 0, 0, 0, 0, 0, 0, 0, 0, 0, 0, 0, 0, 0]).toArray), (19, .agg (vs .u8 (le 32 (Lq % Lq))).toArray), (18, .slice (some ⟨b14, 0, none⟩) 32 32), (17, .bool true), (16, .bool true), (15, .bool ((decide (Lq < Lq)))), (14, .agg (vs .u8 oL).toArray), (4, .pointer (some ⟨b89, 0, none⟩)), (7, .bool ((decide (((k : Nat) : Int) < 32)))), (1, .pointer (some ⟨b14, 0, none⟩)), (2, .pointer (some ⟨b32, 0, none⟩)), (3, .int .i64 ((k : Nat) : Int))]) (cs := []) (by kernel_rfl) trivial ?_
    intro a223 hF224; clear hF221 a220
    have hF225 : Fr 45 a223 [(39, .bool true), (38, .int .u8 ((((clampL (List.replicate 32 255)).getD 31 0) : Nat) : Int)), (37, .pointer (some ⟨b89, 31, none⟩)), (36, .bool true), (35, .bool true), (34, .bool true), (33, .int .u8 ((((clampL (List.replicate 32 255)).getD 0 0) : Nat) : Int)), (32, .pointer (some ⟨b89, 0, none⟩)), (31, .bool true), (30, .bool true), (29, .bool true), (28, .agg (vs .u8 [10, 0, 0, 0, 0, 0, 0, 0, 0, 0, 0, 0, 0, 0, 0, 0, 0, 0, 0, 0, 0, 0, 0, 0, 0, 0, 0, 0, 0, 0, 0, 0]).toArray), (27, .agg (vs .u8 (le 32 ((2 * 3 + 4) % Lq))).toArray), (26, .agg (vs .u8 [4, 0, 0, 0, 0, 0, 0, 0, 0, 0, 0, 0, 0, 0, 0, 0, 0, 0, 0, 0, 0, 0, 0, 0, 0, 0, 0, 0, 0, 0, 0, 0]).toArray), (25, .agg (vs .u8 [3, 0, 0, 0, 0, 0, 0, 0, 0, 0, 0, 0, 0, 0, 0, 0, 0, 0, 0, 0, 0, 0, 0, 0, 0, 0, 0, 0, 0, 0, 0, 0]).toArray), (24, .agg (vs .u8 [2, 0, 0, 0, 0, 0, 0, 0, 0, 0, 0, 0, 0, 0, 0, 0, 0, 0, 0, 0, 0, 0, 0, 0, 0, 0, 0, 0, 0, 0, 0, 0]).toArray), (23, .bool true), (22, .bool true), (21, .bool true), (20, .agg (vs .u8 [0, 0, 0, 0, 0, 0, 0, 0, 0, 0, 0, 0, 0, 0, 0, 0, 0, 0, 0, 0, 0, 0, 0, 0, 0, 0, 0, 0, 0, 0, 0, 0]).toArray), (19, .agg (vs .u8 (le 32 (Lq % Lq))).toArray), (18, .slice (some ⟨b14, 0, none⟩) 32 32), (17, .bool true), (16, .bool true), (15, .bool ((decide (Lq < Lq)))), (14, .agg (vs .u8 oL).toArray), (4, .pointer (some ⟨b89, 0, none⟩)), (7, .bool ((decide (((k : Nat) : Int) < 32)))), (1, .pointer (some ⟨b14, 0, none⟩)), (2, .pointer (some ⟨b32, 0, none⟩)), (3, .int .i64 ((k : Nat) : Int))] := by rw [show ((decide (((((clampL (List.replicate 32 255)).getD 31 0) : Nat) : Int) = 127))) = true from (decide_eq_true (by decide +kernel))] at hF224; exact hF224
    clear hF224
    refine pures hT 2 _ hF225 (F' := [(41, .bool true), (40, .bool true), (39, .bool true), (38, .int .u8 ((((clampL (List.replicate 32 255)).getD 31 0) : Nat) : Int)), (37, .pointer (some ⟨b89, 31, none⟩)), (36, .bool true), (35, .bool true), (34, .bool true), (33, .int .u8 ((((clampL (List.replicate 32 255)).getD 0 0) : Nat) : Int)), (32, .pointer (some ⟨b89, 0, none⟩)), (31, .bool true), (30, .bool true), (29, .bool true), (28, .agg (vs .u8 [10, 0, 0, 0, 0, 0, 0, 0, 0, 0, 0, 0, 0, 0, 0, 0, 0, 0, 0, 0, 0, 0, 0, 0, 0, 0, 0, 0, 0, 0, 0, 0]).toArray), (27, .agg (vs .u8 (le 32 ((2 * 3 + 4) % Lq))).toArray), (26, .agg (vs .u8 [4, 0, 0, 0, 0, 0, 0, 0, 0, 0, 0, 0, 0, 0, 0, 0, 0, 0, 0, 0, 0, 0, 0, 0, 0, 0, 0, 0, 0, 0, 0, 0]).toArray), (25, .agg (vs .u8 [3, 0, 0, 0, 0, 0, 0, 0, 0, 0, 0, 0, 0, 0, 0, 0, 0, 0, 0, 0, 0, 0, 0, 0, 0, 0, 0, 0, 0, 0, 0, 0]).toArray), (24, .agg (vs .u8 [2, 0, 0, 0, 0, 0, 0, 0, 0, 0, 0, 0, 0, 0, 0, 0, 0, 0, 0, 0, 0, 0, 0, 0, 0, 0, 0, 0, 0, 0, 0, 0]).toArray), (23, .bool true), (22, .bool true), (21, .bool true), (20, .agg (vs .u8 [0, 0, 0, 0, 0, 0, 0, 0, 0, 0, 0, 0, 0, 0, 0, 0, 0, 0, 0, 0, 0, 0, 0, 0, 0, 0, 0, 0, 0, 0, 0, 0]).toArray), (19, .agg (vs .u8 (le 32 (Lq % Lq))).toArray), (18, .slice (some ⟨b14, 0, none⟩) 32 32), (17, .bool true), (16, .bool true), (15, .bool ((decide (Lq < Lq)))), (14, .agg (vs .u8 oL).toArray), (4, .pointer (some ⟨b89, 0, none⟩)), (7, .bool ((decide (((k : Nat) : Int) < 32)))), (1, .pointer (some ⟨b14, 0, none⟩)), (2, .pointer (some ⟨b32, 0, none⟩)), (3, .int .i64 ((k : Nat) : Int))]) (cs := []) (by kernel_rfl) trivial ?_
    intro a226 hF227; clear hF225 a223
    have hz231 := HE.size
    have hz232 := HB17.lt
    have hz233 := HB35.lt
    have hz234 := HB92.lt
    refine wl (One.bare hF227 (by kernel_rfl) (s_call (d := 42) (f := 36) (l := [.int .u8 1]) (by kernel_rfl) hF227 cl36 (law18_num 1 _ (by omega)) ?_))
    rintro a235 w228 v229 ⟨rfl, HX230⟩ ha237 hF236; clear ha237 hF227 a226
    replace HE := HE.thenN HX230.g
    replace HB17 := HB17.growN HX230.g
    replace HB35 := HB35.growN HX230.g
    replace HB92 := HB92.growN HX230.g
    have hz241 := HE.size
    have hz242 := HB17.lt
    have hz243 := HB35.lt
    have hz244 := HB92.lt
    refine wl (One.bare hF236 (by kernel_rfl) (s_call (d := 43) (f := 30) (l := [.agg (vs .u8 [1, 0, 0, 0, 0, 0, 0, 0, 0, 0, 0, 0, 0, 0, 0, 0, 0, 0, 0, 0, 0, 0, 0, 0, 0, 0, 0, 0, 0, 0, 0, 0]).toArray]) (by kernel_rfl) hF236 cl30 (scal_Is [1, 0, 0, 0, 0, 0, 0, 0, 0, 0, 0, 0, 0, 0, 0, 0, 0, 0, 0, 0, 0, 0, 0, 0, 0, 0, 0, 0, 0, 0, 0, 0] 1 _ rfl rfl (byL rfl)) ?_))
    rintro a245 w238 v239 ⟨rfl, HX240⟩ ha247 hF246; clear ha247 hF236 a235
    replace HE := HE.thenN HX240.g
    replace HB17 := HB17.growN HX240.g
    replace HB35 := HB35.growN HX240.g
    replace HB92 := HB92.growN HX240.g
    refine pures hT 1 _ hF246 (F' := [(44, .bool ((decide (1 < Lq)))), (43, .bool ((decide (1 < Lq)))), (42, .agg (vs .u8 [1, 0, 0, 0, 0, 0, 0, 0, 0, 0, 0, 0, 0, 0, 0, 0, 0, 0, 0, 0, 0, 0, 0, 0, 0, 0, 0, 0, 0, 0, 0, 0]).toArray), (41, .bool true), (40, .bool true), (39, .bool true), (38, .int .u8 ((((clampL (List.replicate 32 255)).getD 31 0) : Nat) : Int)), (37, .pointer (some ⟨b89, 31, none⟩)), (36, .bool true), (35, .bool true), (34, .bool true), (33, .int .u8 ((((clampL (List.replicate 32 255)).getD 0 0) : Nat) : Int)), (32, .pointer (some ⟨b89, 0, none⟩)), (31, .bool true), (30, .bool true), (29, .bool true), (28, .agg (vs .u8 [10, 0, 0, 0, 0, 0, 0, 0, 0, 0, 0, 0, 0, 0, 0, 0, 0, 0, 0, 0, 0, 0, 0, 0, 0, 0, 0, 0, 0, 0, 0, 0]).toArray), (27, .agg (vs .u8 (le 32 ((2 * 3 + 4) % Lq))).toArray), (26, .agg (vs .u8 [4, 0, 0, 0, 0, 0, 0, 0, 0, 0, 0, 0, 0, 0, 0, 0, 0, 0, 0, 0, 0, 0, 0, 0, 0, 0, 0, 0, 0, 0, 0, 0]).toArray), (25, .agg (vs .u8 [3, 0, 0, 0, 0, 0, 0, 0, 0, 0, 0, 0, 0, 0, 0, 0, 0, 0, 0, 0, 0, 0, 0, 0, 0, 0, 0, 0, 0, 0, 0, 0]).toArray), (24, .agg (vs .u8 [2, 0, 0, 0, 0, 0, 0, 0, 0, 0, 0, 0, 0, 0, 0, 0, 0, 0, 0, 0, 0, 0, 0, 0, 0, 0, 0, 0, 0, 0, 0, 0]).toArray), (23, .bool true), (22, .bool true), (21, .bool true), (20, .agg (vs .u8 [0, 0, 0, 0, 0, 0, 0, 0, 0, 0, 0, 0, 0, 0, 0, 0, 0, 0, 0, 0, 0, 0, 0, 0, 0, 0, 0, 0, 0, 0, 0, 0]).toArray), (19, .agg (vs .u8 (le 32 (Lq % Lq))).toArray), (18, .slice (some ⟨b14, 0, none⟩) 32 32), (17, .bool true), (16, .bool true), (15, .bool ((decide (Lq < Lq)))), (14, .agg (vs .u8 oL).toArray), (4, .pointer (some ⟨b89, 0, none⟩)), (7, .bool ((decide (((k : Nat) : Int) < 32)))), (1, .pointer (some ⟨b14, 0, none⟩)), (2, .pointer (some ⟨b32, 0, none⟩)), (3, .int .i64 ((k : Nat) : Int))]) (cs := []) (by kernel_rfl) trivial ?_
    intro a248 hF249; clear hF246 a245
    have hF250 : Fr 45 a248 [(44, .bool true), (43, .bool ((decide (1 < Lq)))), (42, .agg (vs .u8 [1, 0, 0, 0, 0, 0, 0, 0, 0, 0, 0, 0, 0, 0, 0, 0, 0, 0, 0, 0, 0, 0, 0, 0, 0, 0, 0, 0, 0, 0, 0, 0]).toArray), (41, .bool true), (40, .bool true), (39, .bool true), (38, .int .u8 ((((clampL (List.replicate 32 255)).getD 31 0) : Nat) : Int)), (37, .pointer (some ⟨b89, 31, none⟩)), (36, .bool true), (35, .bool true), (34, .bool true), (33, .int .u8 ((((clampL (List.replicate 32 255)).getD 0 0) : Nat) : Int)), (32, .pointer (some ⟨b89, 0, none⟩)), (31, .bool true), (30, .bool true), (29, .bool true), (28, .agg (vs .u8 [10, 0, 0, 0, 0, 0, 0, 0, 0, 0, 0, 0, 0, 0, 0, 0, 0, 0, 0, 0, 0, 0, 0, 0, 0, 0, 0, 0, 0, 0, 0, 0]).toArray), (27, .agg (vs .u8 (le 32 ((2 * 3 + 4) % Lq))).toArray), (26, .agg (vs .u8 [4, 0, 0, 0, 0, 0, 0, 0, 0, 0, 0, 0, 0, 0, 0, 0, 0, 0, 0, 0, 0, 0, 0, 0, 0, 0, 0, 0, 0, 0, 0, 0]).toArray), (25, .agg (vs .u8 [3, 0, 0, 0, 0, 0, 0, 0, 0, 0, 0, 0, 0, 0, 0, 0, 0, 0, 0, 0, 0, 0, 0, 0, 0, 0, 0, 0, 0, 0, 0, 0]).toArray), (24, .agg (vs .u8 [2, 0, 0, 0, 0, 0, 0, 0, 0, 0, 0, 0, 0, 0, 0, 0, 0, 0, 0, 0, 0, 0, 0, 0, 0, 0, 0, 0, 0, 0, 0, 0]).toArray), (23, .bool true), (22, .bool true), (21, .bool true), (20, .agg (vs .u8 [0, 0, 0, 0, 0, 0, 0, 0, 0, 0, 0, 0, 0, 0, 0, 0, 0, 0, 0, 0, 0, 0, 0, 0, 0, 0, 0, 0, 0, 0, 0, 0]).toArray), (19, .agg (vs .u8 (le 32 (Lq % Lq))).toArray), (18, .slice (some ⟨b14, 0, none⟩) 32 32), (17, .bool true), (16, .bool true), (15, .bool ((decide (Lq < Lq)))), (14, .agg (vs .u8 oL).toArray), (4, .pointer (some ⟨b89, 0, none⟩)), (7, .bool ((decide (((k : Nat) : Int) < 32)))), (1, .pointer (some ⟨b14, 0, none⟩)), (2, .pointer (some ⟨b32, 0, none⟩)), (3, .int .i64 ((k : Nat) : Int))] := by rw [show ((decide (1 < Lq))) = true from (decide_eq_true (by decide +kernel))] at hF249; exact hF249
    clear hF249
    refine pures_end hT 1 _ hF250 (F' := [(0, .bool true), (44, .bool true), (43, .bool ((decide (1 < Lq)))), (42, .agg (vs .u8 [1, 0, 0, 0, 0, 0, 0, 0, 0, 0, 0, 0, 0, 0, 0, 0, 0, 0, 0, 0, 0, 0, 0, 0, 0, 0, 0, 0, 0, 0, 0, 0]).toArray), (41, .bool true), (40, .bool true), (39, .bool true), (38, .int .u8 ((((clampL (List.replicate 32 255)).getD 31 0) : Nat) : Int)), (37, .pointer (some ⟨b89, 31, none⟩)), (36, .bool true), (35, .bool true), (34, .bool true), (33, .int .u8 ((((clampL (List.replicate 32 255)).getD 0 0) : Nat) : Int)), (32, .pointer (some ⟨b89, 0, none⟩)), (31, .bool true), (30, .bool true), (29, .bool true), (28, .agg (vs .u8 [10, 0, 0, 0, 0, 0, 0, 0, 0, 0, 0, 0, 0, 0, 0, 0, 0, 0, 0, 0, 0, 0, 0, 0, 0, 0, 0, 0, 0, 0, 0, 0]).toArray), (27, .agg (vs .u8 (le 32 ((2 * 3 + 4) % Lq))).toArray), (26, .agg (vs .u8 [4, 0, 0, 0, 0, 0, 0, 0, 0, 0, 0, 0, 0, 0, 0, 0, 0, 0, 0, 0, 0, 0, 0, 0, 0, 0, 0, 0, 0, 0, 0, 0]).toArray), (25, .agg (vs .u8 [3, 0, 0, 0, 0, 0, 0, 0, 0, 0, 0, 0, 0, 0, 0, 0, 0, 0, 0, 0, 0, 0, 0, 0, 0, 0, 0, 0, 0, 0, 0, 0]).toArray), (24, .agg (vs .u8 [2, 0, 0, 0, 0, 0, 0, 0, 0, 0, 0, 0, 0, 0, 0, 0, 0, 0, 0, 0, 0, 0, 0, 0, 0, 0, 0, 0, 0, 0, 0, 0]).toArray), (23, .bool true), (22, .bool true), (21, .bool true), (20, .agg (vs .u8 [0, 0, 0, 0, 0, 0, 0, 0, 0, 0, 0, 0, 0, 0, 0, 0, 0, 0, 0, 0, 0, 0, 0, 0, 0, 0, 0, 0, 0, 0, 0, 0]).toArray), (19, .agg (vs .u8 (le 32 (Lq % Lq))).toArray), (18, .slice (some ⟨b14, 0, none⟩) 32 32), (17, .bool true), (16, .bool true), (15, .bool ((decide (Lq < Lq)))), (14, .agg (vs .u8 oL).toArray), (4, .pointer (some ⟨b89, 0, none⟩)), (7, .bool ((decide (((k : Nat) : Int) < 32)))), (1, .pointer (some ⟨b14, 0, none⟩)), (2, .pointer (some ⟨b32, 0, none⟩)), (3, .int .i64 ((k : Nat) : Int))]) (cs := []) (by kernel_rfl) rfl trivial ?_
    intro a251 hF252; clear hF250 a248
    have hF253 := hF252.pick [0, 4, 7, 1, 2, 3] (G := [(0, .bool true), (4, .pointer (some ⟨b89, 0, none⟩)), (7, .bool ((decide (((k : Nat) : Int) < 32)))), (1, .pointer (some ⟨b14, 0, none⟩)), (2, .pointer (some ⟨b32, 0, none⟩)), (3, .int .i64 ((k : Nat) : Int))]) (by kernel_rfl); clear hF252
    refine hK108 _ _ ?_
    refine wp_ret ?_
    refine ret1 hF253 rfl (v := .bool true) (by kernel_rfl) ?_
    exact ⟨rfl, HE⟩

end Go.Proofs.Ytdabkjflpbbpeaa
