/- Walks of functions of the program: lemmas. -/
import Derived.Test.YtdabkjflpbbpeaaWo
set_option maxRecDepth 100000
set_option linter.unusedVariables false
set_option linter.unusedSimpArgs false
namespace Go.Proofs.Ytdabkjflpbbpeaa
open Go.Proofs Go.RowKit

set_option maxHeartbeats 4000000 in
theorem law18_laws (Ab : Option Addr) (cb : Nat) (bs : List Nat) (xs : List Nat) (ys : List Nat) (w : World) (hRb : Rd w Ab (vs .u8 bs)) (hbb : By bs) (hmb : bs.length ≤ 9223372036854775807) (hxl : xs.length = 32) (hbx : By xs) (hyl : ys.length = 32) (hby : By ys) :
    Calls Try.prog 10 [.slice Ab bs.length cb, .agg (vs .u8 xs).toArray, .agg (vs .u8 ys).toArray].toArray w (Ret fun v w' => v = .bool true ∧ Ex w w') := by
  refine enter Try.func10 rfl (n := 67) Try.ntmps10 (by simp) ?_
  intro a hF
  have HE : Ex w w := Ex.refl w
  refine wp_seq_k (fun K1 hK2 => ?_)
  refine wp_region_lit ?_
  have hz9 := HE.size
  refine wl (s_alloc hT (d := 4) (T := 32) (l := vs .u8 xs) (by kernel_rfl) hF ?_)
  rintro a10 w4 b3 h7 h8 HB6 g5 ha12 hF11; clear ha12 hF a
  replace HE := HE.thenN g5
  have hz19 := HE.size
  have hz20 := HB6.lt
  refine wl (s_alloc hT (d := 5) (T := 32) (l := vs .u8 ys) (by kernel_rfl) hF11 ?_)
  rintro a21 w14 b13 h17 h18 HB16 g15 ha23 hF22; clear ha23 hF11 a10
  replace HE := HE.thenN g15
  replace HB6 := HB6.growN g15
  refine pures_end hT 1 _ hF22 (F' := [(6, .bool false), (5, .pointer (some ⟨b13, 0, none⟩)), (4, .pointer (some ⟨b3, 0, none⟩)), (0, .slice Ab bs.length cb), (1, .agg (vs .u8 xs).toArray), (2, .agg (vs .u8 ys).toArray)]) (cs := []) (by kernel_rfl) rfl trivial ?_
  intro a24 hF25; clear hF22 a21
  refine hK2 _ _ ?_
  refine wp_seq_k (fun K26 hK27 => ?_)
  refine wp_seq_k (fun K28 hK29 => ?_)
  refine wp_region_lit ?_
  refine pures_end hT 3 _ hF25 (F' := [(12, .bool ((decide (100 < ((bs.length : Nat) : Int))))), (11, .int .i64 ((bs.length : Nat) : Int)), (10, .slice Ab bs.length cb), (6, .bool false), (5, .pointer (some ⟨b13, 0, none⟩)), (4, .pointer (some ⟨b3, 0, none⟩)), (0, .slice Ab bs.length cb), (1, .agg (vs .u8 xs).toArray), (2, .agg (vs .u8 ys).toArray)]) (cs := []) (by kernel_rfl) rfl trivial ?_
  intro a30 hF31; clear hF25 a24
  have hF32 := hF31.pick [12, 6, 5, 4, 0, 1, 2] (G := [(12, .bool ((decide (100 < ((bs.length : Nat) : Int))))), (6, .bool false), (5, .pointer (some ⟨b13, 0, none⟩)), (4, .pointer (some ⟨b3, 0, none⟩)), (0, .slice Ab bs.length cb), (1, .agg (vs .u8 xs).toArray), (2, .agg (vs .u8 ys).toArray)]) (by kernel_rfl); clear hF31
  refine hK29 _ _ ?_
  refine condK hF32 (p := 100 < ((bs.length : Nat) : Int)) (by kernel_rfl) (fun h33 => ?_) (fun h33 => ?_)
  · -- h33
    refine wp_seq_k (fun K34 hK35 => ?_)
    refine wp_region_lit ?_
    refine pures_end hT 1 _ hF32 (F' := [(6, .bool true), (12, .bool ((decide (100 < ((bs.length : Nat) : Int))))), (6, .bool false), (5, .pointer (some ⟨b13, 0, none⟩)), (4, .pointer (some ⟨b3, 0, none⟩)), (0, .slice Ab bs.length cb), (1, .agg (vs .u8 xs).toArray), (2, .agg (vs .u8 ys).toArray)]) (cs := []) (by kernel_rfl) rfl trivial ?_
    intro a36 hF37; clear hF32 a30
    have hF38 := hF37.pick [6, 12, 5, 4, 0, 1, 2] (G := [(6, .bool true), (12, .bool ((decide (100 < ((bs.length : Nat) : Int))))), (5, .pointer (some ⟨b13, 0, none⟩)), (4, .pointer (some ⟨b3, 0, none⟩)), (0, .slice Ab bs.length cb), (1, .agg (vs .u8 xs).toArray), (2, .agg (vs .u8 ys).toArray)]) (by kernel_rfl); clear hF37
    refine hK35 _ _ ?_
    refine wp_ret ?_
    refine ret1 hF38 rfl (v := .bool true) (by kernel_rfl) ?_
    exact ⟨rfl, HE⟩
  · -- h33
    refine wp_skip ?_
    refine hK27 _ _ ?_
    refine wp_seq_k (fun K39 hK40 => ?_)
    have hlb : bs.length ≤ 100 := by omega
    refine wp_region_lit ?_
    refine pures hT 1 _ hF32 (F' := [(13, .slice Ab bs.length cb), (12, .bool ((decide (100 < ((bs.length : Nat) : Int))))), (6, .bool false), (5, .pointer (some ⟨b13, 0, none⟩)), (4, .pointer (some ⟨b3, 0, none⟩)), (0, .slice Ab bs.length cb), (1, .agg (vs .u8 xs).toArray), (2, .agg (vs .u8 ys).toArray)]) (cs := []) (by kernel_rfl) trivial ?_
    intro a41 hF42; clear hF32 a30
    have hz46 := HE.size
    have hz47 := HB6.lt
    have hz48 := HB16.lt
    refine wl (s_call (d := 14) (f := 27) (l := [.slice Ab bs.length cb]) (by kernel_rfl) hF42 cl27 (scal_Reduce Ab bs.length cb bs (nv 256 bs) _ rfl (by first | rfl | omega | exact le_length _ _ | assumption) (hRb.ex HE) hbb (Nat.le_trans hlb (by decide))) ?_)
    rintro a49 w43 v44 ⟨rfl, HX45⟩ ha51 hF50; clear ha51 hF42 a41
    replace HE := HE.thenN HX45.g
    replace HB6 := HB6.growN HX45.g
    replace HB16 := HB16.growN HX45.g
    have hz58 := HE.size
    have hz59 := HB6.lt
    have hz60 := HB16.lt
    refine wl (s_alloc hT (d := 7) (T := 32) (l := vs .u8 [0, 0, 0, 0, 0, 0, 0, 0, 0, 0, 0, 0, 0, 0, 0, 0, 0, 0, 0, 0, 0, 0, 0, 0, 0, 0, 0, 0, 0, 0, 0, 0]) (by kernel_rfl) hF50 ?_)
    rintro a61 w53 b52 h56 h57 HB55 g54 ha63 hF62; clear ha63 hF50 a49
    replace HE := HE.thenN g54
    replace HB6 := HB6.growN g54
    replace HB16 := HB16.growN g54
    refine wl (s_storeV hT (b := b52) (l2 := vs .u8 (le 32 ((nv 256 bs) % Lq))) (sz := 32) (by kernel_rfl) hF62 HB55 (by first | rfl | (simp only [vs_length, vi_length]; first | assumption | omega) | (simp only [vs_length, le_length]; done) | (simp only [vs_length, le_length]; first | rfl | assumption | (symm; assumption) | omega | (simp; done)) | (simp only [vs_length, clampL_length, le_length]; first | done | assumption | exact hxl | rfl) | rfl | (simp; done)) (by first | rfl | (simp only [vs_length, vi_length]; first | assumption | omega) | (simp only [vs_length, le_length]; done) | (simp only [vs_length, le_length]; first | rfl | assumption | (symm; assumption) | omega | (simp; done)) | (simp only [vs_length, clampL_length, le_length]; first | done | assumption | exact hxl | rfl) | rfl | (simp; done) | (simp only [vs_length, vi_length]; simp; omega)) (by exact vs_one) ?_)
    rintro a66 w64 ha68 hF67 HB55x g65; clear ha68 hF62 a61; replace HB55 := HB55x
    replace HE := HE.thenS g65 (by first | omega | (simp only [clampL_length]; omega))
    replace HB6 := HB6.growS g65 (by first | omega | (simp only [clampL_length]; omega))
    replace HB16 := HB16.growS g65 (by first | omega | (simp only [clampL_length]; omega))
    refine wpList_nil ?_
    have hF69 := hF67.pick [7, 12, 6, 5, 4, 0, 1, 2] (G := [(7, .pointer (some ⟨b52, 0, none⟩)), (12, .bool ((decide (100 < ((bs.length : Nat) : Int))))), (6, .bool false), (5, .pointer (some ⟨b13, 0, none⟩)), (4, .pointer (some ⟨b3, 0, none⟩)), (0, .slice Ab bs.length cb), (1, .agg (vs .u8 xs).toArray), (2, .agg (vs .u8 ys).toArray)]) (by kernel_rfl); clear hF67
    refine hK40 _ _ ?_
    refine wp_seq_k (fun K70 hK71 => ?_)
    refine wp_region_lit ?_
    refine wl (s_sliceA hT (d := 15) (b := b3) (off := 0) (m := 32) (sz := 1) (lo := 0) (hi := 32) (by kernel_rfl) hF69 (by omega) (by omega) (by omega) ?_)
    rintro a72 ha74 hF73; clear ha74 hF69 a66
    replace hF73 : Fr 67 a72 [(15, .slice (some ⟨b3, 0, none⟩) 32 32), (7, .pointer (some ⟨b52, 0, none⟩)), (12, .bool ((decide (100 < ((bs.length : Nat) : Int))))), (6, .bool false), (5, .pointer (some ⟨b13, 0, none⟩)), (4, .pointer (some ⟨b3, 0, none⟩)), (0, .slice Ab bs.length cb), (1, .agg (vs .u8 xs).toArray), (2, .agg (vs .u8 ys).toArray)] := hF73
    have hz78 := HE.size
    have hz79 := HB6.lt
    have hz80 := HB16.lt
    have hz81 := HB55.lt
    refine wl (s_call (d := 16) (f := 27) (l := [.slice (some ⟨b3, 0, none⟩) 32 32]) (by kernel_rfl) hF73 cl27 (scal_Reduce (some ⟨b3, 0, none⟩) 32 32 xs (nv 256 xs) _ rfl (by first | rfl | omega | exact le_length _ _ | assumption) HB6.rd hbx (by decide)) ?_)
    rintro a82 w75 v76 ⟨rfl, HX77⟩ ha84 hF83; clear ha84 hF73 a72
    replace HE := HE.thenN HX77.g
    replace HB6 := HB6.growN HX77.g
    replace HB16 := HB16.growN HX77.g
    replace HB55 := HB55.growN HX77.g
    have hz91 := HE.size
    have hz92 := HB6.lt
    have hz93 := HB16.lt
    have hz94 := HB55.lt
    refine wl (s_alloc hT (d := 8) (T := 32) (l := vs .u8 [0, 0, 0, 0, 0, 0, 0, 0, 0, 0, 0, 0, 0, 0, 0, 0, 0, 0, 0, 0, 0, 0, 0, 0, 0, 0, 0, 0, 0, 0, 0, 0]) (by kernel_rfl) hF83 ?_)
    rintro a95 w86 b85 h89 h90 HB88 g87 ha97 hF96; clear ha97 hF83 a82
    replace HE := HE.thenN g87
    replace HB6 := HB6.growN g87
    replace HB16 := HB16.growN g87
    replace HB55 := HB55.growN g87
    refine wl (s_storeV hT (b := b85) (l2 := vs .u8 (le 32 ((nv 256 xs) % Lq))) (sz := 32) (by kernel_rfl) hF96 HB88 (by first | rfl | (simp only [vs_length, vi_length]; first | assumption | omega) | (simp only [vs_length, le_length]; done) | (simp only [vs_length, le_length]; first | rfl | assumption | (symm; assumption) | omega | (simp; done)) | (simp only [vs_length, clampL_length, le_length]; first | done | assumption | exact hxl | rfl) | rfl | (simp; done)) (by first | rfl | (simp only [vs_length, vi_length]; first | assumption | omega) | (simp only [vs_length, le_length]; done) | (simp only [vs_length, le_length]; first | rfl | assumption | (symm; assumption) | omega | (simp; done)) | (simp only [vs_length, clampL_length, le_length]; first | done | assumption | exact hxl | rfl) | rfl | (simp; done) | (simp only [vs_length, vi_length]; simp; omega)) (by exact vs_one) ?_)
    rintro a100 w98 ha102 hF101 HB88x g99; clear ha102 hF96 a95; replace HB88 := HB88x
    replace HE := HE.thenS g99 (by first | omega | (simp only [clampL_length]; omega))
    replace HB6 := HB6.growS g99 (by first | omega | (simp only [clampL_length]; omega))
    replace HB16 := HB16.growS g99 (by first | omega | (simp only [clampL_length]; omega))
    replace HB55 := HB55.growS g99 (by first | omega | (simp only [clampL_length]; omega))
    refine wpList_nil ?_
    have hF103 := hF101.pick [8, 7, 12, 6, 5, 4, 0, 1, 2] (G := [(8, .pointer (some ⟨b85, 0, none⟩)), (7, .pointer (some ⟨b52, 0, none⟩)), (12, .bool ((decide (100 < ((bs.length : Nat) : Int))))), (6, .bool false), (5, .pointer (some ⟨b13, 0, none⟩)), (4, .pointer (some ⟨b3, 0, none⟩)), (0, .slice Ab bs.length cb), (1, .agg (vs .u8 xs).toArray), (2, .agg (vs .u8 ys).toArray)]) (by kernel_rfl); clear hF101
    refine hK71 _ _ ?_
    refine wp_seq_k (fun K104 hK105 => ?_)
    refine wp_region_lit ?_
    refine wl (s_sliceA hT (d := 17) (b := b13) (off := 0) (m := 32) (sz := 1) (lo := 0) (hi := 32) (by kernel_rfl) hF103 (by omega) (by omega) (by omega) ?_)
    rintro a106 ha108 hF107; clear ha108 hF103 a100
    replace hF107 : Fr 67 a106 [(17, .slice (some ⟨b13, 0, none⟩) 32 32), (8, .pointer (some ⟨b85, 0, none⟩)), (7, .pointer (some ⟨b52, 0, none⟩)), (12, .bool ((decide (100 < ((bs.length : Nat) : Int))))), (6, .bool false), (5, .pointer (some ⟨b13, 0, none⟩)), (4, .pointer (some ⟨b3, 0, none⟩)), (0, .slice Ab bs.length cb), (1, .agg (vs .u8 xs).toArray), (2, .agg (vs .u8 ys).toArray)] := hF107
    have hz112 := HE.size
    have hz113 := HB6.lt
    have hz114 := HB16.lt
    have hz115 := HB55.lt
    have hz116 := HB88.lt
    refine wl (s_call (d := 18) (f := 27) (l := [.slice (some ⟨b13, 0, none⟩) 32 32]) (by kernel_rfl) hF107 cl27 (scal_Reduce (some ⟨b13, 0, none⟩) 32 32 ys (nv 256 ys) _ rfl (by first | rfl | omega | exact le_length _ _ | assumption) HB16.rd hby (by decide)) ?_)
    rintro a117 w109 v110 ⟨rfl, HX111⟩ ha119 hF118; clear ha119 hF107 a106
    replace HE := HE.thenN HX111.g
    replace HB6 := HB6.growN HX111.g
    replace HB16 := HB16.growN HX111.g
    replace HB55 := HB55.growN HX111.g
    replace HB88 := HB88.growN HX111.g
    have hz126 := HE.size
    have hz127 := HB6.lt
    have hz128 := HB16.lt
    have hz129 := HB55.lt
    have hz130 := HB88.lt
    refine wl (s_alloc hT (d := 9) (T := 32) (l := vs .u8 [0, 0, 0, 0, 0, 0, 0, 0, 0, 0, 0, 0, 0, 0, 0, 0, 0, 0, 0, 0, 0, 0, 0, 0, 0, 0, 0, 0, 0, 0, 0, 0]) (by kernel_rfl) hF118 ?_)
    rintro a131 w121 b120 h124 h125 HB123 g122 ha133 hF132; clear ha133 hF118 a117
    replace HE := HE.thenN g122
    replace HB6 := HB6.growN g122
    replace HB16 := HB16.growN g122
    replace HB55 := HB55.growN g122
    replace HB88 := HB88.growN g122
    refine wl (s_storeV hT (b := b120) (l2 := vs .u8 (le 32 ((nv 256 ys) % Lq))) (sz := 32) (by kernel_rfl) hF132 HB123 (by first | rfl | (simp only [vs_length, vi_length]; first | assumption | omega) | (simp only [vs_length, le_length]; done) | (simp only [vs_length, le_length]; first | rfl | assumption | (symm; assumption) | omega | (simp; done)) | (simp only [vs_length, clampL_length, le_length]; first | done | assumption | exact hxl | rfl) | rfl | (simp; done)) (by first | rfl | (simp only [vs_length, vi_length]; first | assumption | omega) | (simp only [vs_length, le_length]; done) | (simp only [vs_length, le_length]; first | rfl | assumption | (symm; assumption) | omega | (simp; done)) | (simp only [vs_length, clampL_length, le_length]; first | done | assumption | exact hxl | rfl) | rfl | (simp; done) | (simp only [vs_length, vi_length]; simp; omega)) (by exact vs_one) ?_)
    rintro a136 w134 ha138 hF137 HB123x g135; clear ha138 hF132 a131; replace HB123 := HB123x
    replace HE := HE.thenS g135 (by first | omega | (simp only [clampL_length]; omega))
    replace HB6 := HB6.growS g135 (by first | omega | (simp only [clampL_length]; omega))
    replace HB16 := HB16.growS g135 (by first | omega | (simp only [clampL_length]; omega))
    replace HB55 := HB55.growS g135 (by first | omega | (simp only [clampL_length]; omega))
    replace HB88 := HB88.growS g135 (by first | omega | (simp only [clampL_length]; omega))
    refine wpList_nil ?_
    have hF139 := hF137.pick [9, 8, 7, 12, 6, 5, 4, 0, 1, 2] (G := [(9, .pointer (some ⟨b120, 0, none⟩)), (8, .pointer (some ⟨b85, 0, none⟩)), (7, .pointer (some ⟨b52, 0, none⟩)), (12, .bool ((decide (100 < ((bs.length : Nat) : Int))))), (6, .bool false), (5, .pointer (some ⟨b13, 0, none⟩)), (4, .pointer (some ⟨b3, 0, none⟩)), (0, .slice Ab bs.length cb), (1, .agg (vs .u8 xs).toArray), (2, .agg (vs .u8 ys).toArray)]) (by kernel_rfl); clear hF137
    refine hK105 _ _ ?_
    refine wp_seq_k (fun K140 hK141 => ?_)
    let SL_ : List SP := [SP.val (.bool true), SP.val (.bool true), SP.val (.agg (vs .u8 (le 32 ((nv 256 bs) % Lq))).toArray), SP.val (.bool ((decide (((nv 256 bs) % Lq) < Lq)))), SP.val (.bool true), SP.val (.bool true), SP.val (.slice (some ⟨b52, 0, none⟩) 32 32), SP.val (.agg (vs .u8 (le 32 (((nv 256 bs) % Lq) % Lq))).toArray), SP.val (.agg (vs .u8 (le 32 ((nv 256 bs) % Lq))).toArray), SP.val (.bool true), SP.val (.bool true), SP.val (.bool true), SP.val (.agg (vs .u8 xs).toArray), SP.val (.agg (vs .u8 ys).toArray), SP.val (.agg (vs .u8 (le 32 ((nv 256 bs) % Lq))).toArray), SP.val (.agg (vs .u8 (le 32 (((nv 256 xs) * (nv 256 ys) + ((nv 256 bs) % Lq)) % Lq))).toArray), SP.val (.agg (vs .u8 (le 32 ((nv 256 xs) % Lq))).toArray), SP.val (.agg (vs .u8 (le 32 ((nv 256 ys) % Lq))).toArray), SP.val (.agg (vs .u8 (le 32 ((nv 256 bs) % Lq))).toArray), SP.val (.agg (vs .u8 (le 32 ((((nv 256 xs) % Lq) * ((nv 256 ys) % Lq) + ((nv 256 bs) % Lq)) % Lq))).toArray), SP.val (.bool true), SP.val (.bool true), SP.val (.bool true), SP.val (.agg (vs .u8 xs).toArray), SP.val (.agg (vs .u8 ys).toArray), SP.val (.agg (vs .u8 (le 32 ((nv 256 bs) % Lq))).toArray), SP.val (.agg (vs .u8 (le 32 (((nv 256 xs) * (nv 256 ys) + ((nv 256 bs) % Lq)) % Lq))).toArray), SP.val (.agg (vs .u8 ys).toArray), SP.val (.agg (vs .u8 xs).toArray), SP.val (.agg (vs .u8 (le 32 ((nv 256 bs) % Lq))).toArray), SP.val (.agg (vs .u8 (le 32 (((nv 256 ys) * (nv 256 xs) + ((nv 256 bs) % Lq)) % Lq))).toArray), SP.val (.bool true), SP.val (.bool true), SP.val (.bool true), SP.val (.agg (vs .u8 xs).toArray), SP.val (.agg (vs .u8 [1, 0, 0, 0, 0, 0, 0, 0, 0, 0, 0, 0, 0, 0, 0, 0, 0, 0, 0, 0, 0, 0, 0, 0, 0, 0, 0, 0, 0, 0, 0, 0]).toArray), SP.val (.agg (vs .u8 [0, 0, 0, 0, 0, 0, 0, 0, 0, 0, 0, 0, 0, 0, 0, 0, 0, 0, 0, 0, 0, 0, 0, 0, 0, 0, 0, 0, 0, 0, 0, 0]).toArray), SP.val (.agg (vs .u8 (le 32 (((nv 256 xs) * 1 + 0) % Lq))).toArray), SP.val (.agg (vs .u8 (le 32 ((nv 256 xs) % Lq))).toArray), SP.val (.bool true), SP.val (.bool true), SP.val (.bool true), SP.val (.agg (vs .u8 xs).toArray), SP.val (.agg (vs .u8 ys).toArray), SP.val (.agg (vs .u8 xs).toArray), SP.val (.agg (vs .u8 (le 32 (((nv 256 xs) * (nv 256 ys) + (nv 256 xs)) % Lq))).toArray), SP.val (.bool ((decide ((((nv 256 xs) * (nv 256 ys) + (nv 256 xs)) % Lq) < Lq)))), SP.val (.bool true), SP.val (.bool true)]
    refine region_rel (SL := SL_) (J := (fun (b : Bool) (W : World) => (Ex w W) ∧ (Blk W b3 32 (vs .u8 xs)) ∧ (Blk W b13 32 (vs .u8 ys)) ∧ (Blk W b52 32 (vs .u8 (le 32 ((nv 256 bs) % Lq)))) ∧ (Blk W b85 32 (vs .u8 (le 32 ((nv 256 xs) % Lq)))) ∧ (Blk W b120 32 (vs .u8 (le 32 ((nv 256 ys) % Lq)))))) (m := 49) wide (by kernel_rfl) (by kernel_rfl) hF139 rfl ?_ ⟨HE, HB6, HB16, HB55, HB88, HB123⟩ ⟨?_, ?_, ?_, ?_, ?_, ?_, ?_, ?_, ?_, ?_, ?_, ?_, ?_, ?_, ?_, ?_, ?_, ?_, ?_, ?_, ?_, ?_, ?_, ?_, ?_, ?_, ?_, ?_, ?_, ?_, ?_, ?_, ?_, ?_, ?_, ?_, ?_, ?_, ?_, ?_, ?_, ?_, ?_, ?_, ?_, ?_, ?_, ?_, ?_, trivial⟩ [(6, some 48), (9, none), (8, none), (7, none), (12, none), (5, none), (4, none), (0, none), (1, none), (2, none)] (by kernel_rfl) ?_
    · intro b W W' hj g; cases b <;> exact ⟨hj.1.thenN g, hj.2.1.growN g, hj.2.2.1.growN g, hj.2.2.2.1.growN g, hj.2.2.2.2.1.growN g, hj.2.2.2.2.2.growN g⟩
    · -- operation 0
      rintro a143 w142 b145 KK151 hs147 hd148 hJ149 hb150 hr152 hK146
      have hr152x : RD SL_ b145 a143 a136 w142 [] := hr152 _ (by kernel_rfl)
      obtain ⟨HE, HB6, HB16, HB55, HB88, HB123⟩ := hJ149
      have hF144 : Fr 67 a143 [] := Fr.of hs147 hd148 trivial
      have hz156 := HE.size
      have hz157 := HB6.lt
      have hz158 := HB16.lt
      have hz159 := HB55.lt
      have hz160 := HB88.lt
      have hz161 := HB123.lt
      refine s_call (d := 19) (f := 28) (l := []) (by kernel_rfl) hF144 cl28 (law18_awake _) ?_
      rintro a162 w153 v154 ⟨rfl, HX155⟩ ha164 hF163
      replace HE := HE.thenN HX155.g
      replace HB6 := HB6.growN HX155.g
      replace HB16 := HB16.growN HX155.g
      replace HB55 := HB55.growN HX155.g
      replace HB88 := HB88.growN HX155.g
      replace HB123 := HB123.growN HX155.g
      rw [ha164]; exact hK146 _ _ rfl HX155.g
    · -- operation 1
      rintro a166 w165 b168 KK174 hs170 hd171 hJ172 hb173 hr178 hK169
      have hr178x : RD SL_ b168 a166 a136 w165 [(19, some 0)] := hr178 _ (by kernel_rfl)
      obtain ⟨⟨v176, q175, s177⟩, -⟩ := hr178x
      obtain rfl : v176 = .bool true := s177
      obtain ⟨HE, HB6, HB16, HB55, HB88, HB123⟩ := hJ172
      have hF167 : Fr 67 a166 [(19, .bool true)] := Fr.of hs170 hd171 ⟨q175, trivial⟩
      refine s_pure hT (d := 20) (v := .bool true) (cs := []) (by kernel_rfl) (by kernel_rfl) trivial hF167 ?_
      rintro a2 ha2 hF2; rw [ha2]; exact hK169 _ _ rfl (grown_refl _ _)
    · -- operation 2
      rintro a180 w179 b182 KK188 hs184 hd185 hJ186 hb187 hr193 hK183
      have hr193x : RD SL_ b182 a180 a136 w179 [(7, none), (20, some 1)] := hr193 _ (by kernel_rfl)
      obtain ⟨q189, ⟨v191, q190, s192⟩, -⟩ := hr193x
      obtain rfl : v191 = .bool true := s192
      obtain ⟨HE, HB6, HB16, HB55, HB88, HB123⟩ := hJ186
      have hF181 : Fr 67 a180 [(7, .pointer (some ⟨b52, 0, none⟩)), (20, .bool true)] := Fr.of hs184 hd185 ⟨(Fr.init hF139 q189 (by kernel_rfl)), q190, trivial⟩
      refine One.bare hF181 (by kernel_rfl) (s_loadA hT (d := 21) (b := b52) (off := 0) (sz := 32) (l := vs .u8 (le 32 ((nv 256 bs) % Lq))) (by kernel_rfl) hF181 HB55.cells (by (first | (simp only [vs_length, vi_length]; omega) | (simp only [vs_length, le_length]; done) | (simp only [vs_length, le_length]; first | rfl | assumption | (symm; assumption) | omega | (simp; done)) | (simp only [vs_length, clampL_length, le_length]; first | done | assumption | exact hxl | rfl) | rfl | (simp; omega) | omega)) ?_)
      rintro a194 ha196 hF195
      rw [ha196]; exact hK183 _ _ rfl (grown_refl _ _)
    · -- operation 3
      rintro a198 w197 b200 KK206 hs202 hd203 hJ204 hb205 hr213 hK201
      have hr213x : RD SL_ b200 a198 a136 w197 [(21, some 2), (20, some 1)] := hr213 _ (by kernel_rfl)
      obtain ⟨⟨v208, q207, s209⟩, ⟨v211, q210, s212⟩, -⟩ := hr213x
      obtain rfl : v208 = .agg (vs .u8 (le 32 ((nv 256 bs) % Lq))).toArray := s209
      obtain rfl : v211 = .bool true := s212
      obtain ⟨HE, HB6, HB16, HB55, HB88, HB123⟩ := hJ204
      have hF199 : Fr 67 a198 [(21, .agg (vs .u8 (le 32 ((nv 256 bs) % Lq))).toArray), (20, .bool true)] := Fr.of hs202 hd203 ⟨q207, q210, trivial⟩
      have hz217 := HE.size
      have hz218 := HB6.lt
      have hz219 := HB16.lt
      have hz220 := HB55.lt
      have hz221 := HB88.lt
      have hz222 := HB123.lt
      refine One.bare hF199 (by kernel_rfl) (s_call (d := 22) (f := 30) (l := [.agg (vs .u8 (le 32 ((nv 256 bs) % Lq))).toArray]) (by kernel_rfl) hF199 cl30 (scal_Is (le 32 ((nv 256 bs) % Lq)) ((nv 256 bs) % Lq) _ (nvle _) (by first | rfl | exact le_length _ _ | assumption) (by_le _ _)) ?_)
      rintro a223 w214 v215 ⟨rfl, HX216⟩ ha225 hF224
      replace HE := HE.thenN HX216.g
      replace HB6 := HB6.growN HX216.g
      replace HB16 := HB16.growN HX216.g
      replace HB55 := HB55.growN HX216.g
      replace HB88 := HB88.growN HX216.g
      replace HB123 := HB123.growN HX216.g
      rw [ha225]; exact hK201 _ _ rfl HX216.g
    · -- operation 4
      rintro a227 w226 b229 KK235 hs231 hd232 hJ233 hb234 hr242 hK230
      have hr242x : RD SL_ b229 a227 a136 w226 [(20, some 1), (22, some 3)] := hr242 _ (by kernel_rfl)
      obtain ⟨⟨v237, q236, s238⟩, ⟨v240, q239, s241⟩, -⟩ := hr242x
      obtain rfl : v237 = .bool true := s238
      obtain rfl : v240 = .bool ((decide (((nv 256 bs) % Lq) < Lq))) := s241
      obtain ⟨HE, HB6, HB16, HB55, HB88, HB123⟩ := hJ233
      have hF228 : Fr 67 a227 [(20, .bool true), (22, .bool ((decide (((nv 256 bs) % Lq) < Lq))))] := Fr.of hs231 hd232 ⟨q236, q239, trivial⟩
      refine s_pure hT (d := 23) (v := .bool ((decide (((nv 256 bs) % Lq) < Lq)))) (cs := []) (by kernel_rfl) (by kernel_rfl) trivial hF228 ?_
      have htr : ((decide (((nv 256 bs) % Lq) < Lq))) = true := (decide_eq_true (Nat.mod_lt _ Lq_pos))
      rintro a2 ha2 hF2; rw [ha2]; exact hK230 _ _ (congrArg Value.bool htr) (grown_refl _ _)
    · -- operation 5
      rintro a244 w243 b246 KK252 hs248 hd249 hJ250 hb251 hr256 hK247
      have hr256x : RD SL_ b246 a244 a136 w243 [(23, some 4)] := hr256 _ (by kernel_rfl)
      obtain ⟨⟨v254, q253, s255⟩, -⟩ := hr256x
      obtain rfl : v254 = .bool true := s255
      obtain ⟨HE, HB6, HB16, HB55, HB88, HB123⟩ := hJ250
      have hF245 : Fr 67 a244 [(23, .bool true)] := Fr.of hs248 hd249 ⟨q253, trivial⟩
      refine s_pure hT (d := 24) (v := .bool true) (cs := []) (by kernel_rfl) (by kernel_rfl) trivial hF245 ?_
      rintro a2 ha2 hF2; rw [ha2]; exact hK247 _ _ rfl (grown_refl _ _)
    · -- operation 6
      rintro a258 w257 b260 KK266 hs262 hd263 hJ264 hb265 hr271 hK261
      have hr271x : RD SL_ b260 a258 a136 w257 [(7, none), (24, some 5)] := hr271 _ (by kernel_rfl)
      obtain ⟨q267, ⟨v269, q268, s270⟩, -⟩ := hr271x
      obtain rfl : v269 = .bool true := s270
      obtain ⟨HE, HB6, HB16, HB55, HB88, HB123⟩ := hJ264
      have hF259 : Fr 67 a258 [(7, .pointer (some ⟨b52, 0, none⟩)), (24, .bool true)] := Fr.of hs262 hd263 ⟨(Fr.init hF139 q267 (by kernel_rfl)), q268, trivial⟩
      refine One.bare hF259 (by kernel_rfl) (s_sliceA hT (d := 25) (b := b52) (off := 0) (m := 32) (sz := 1) (lo := 0) (hi := 32) (by kernel_rfl) hF259 (by omega) (by omega) (by omega) ?_)
      rintro a272 ha274 hF273
      replace hF273 : Fr 67 a272 [(25, .slice (some ⟨b52, 0, none⟩) 32 32), (7, .pointer (some ⟨b52, 0, none⟩)), (24, .bool true)] := hF273
      rw [ha274]; exact hK261 _ _ rfl (grown_refl _ _)
    · -- operation 7
      rintro a276 w275 b278 KK284 hs280 hd281 hJ282 hb283 hr291 hK279
      have hr291x : RD SL_ b278 a276 a136 w275 [(25, some 6), (24, some 5)] := hr291 _ (by kernel_rfl)
      obtain ⟨⟨v286, q285, s287⟩, ⟨v289, q288, s290⟩, -⟩ := hr291x
      obtain rfl : v286 = .slice (some ⟨b52, 0, none⟩) 32 32 := s287
      obtain rfl : v289 = .bool true := s290
      obtain ⟨HE, HB6, HB16, HB55, HB88, HB123⟩ := hJ282
      have hF277 : Fr 67 a276 [(25, .slice (some ⟨b52, 0, none⟩) 32 32), (24, .bool true)] := Fr.of hs280 hd281 ⟨q285, q288, trivial⟩
      have hz295 := HE.size
      have hz296 := HB6.lt
      have hz297 := HB16.lt
      have hz298 := HB55.lt
      have hz299 := HB88.lt
      have hz300 := HB123.lt
      refine One.bare hF277 (by kernel_rfl) (s_call (d := 26) (f := 27) (l := [.slice (some ⟨b52, 0, none⟩) 32 32]) (by kernel_rfl) hF277 cl27 (scal_Reduce (some ⟨b52, 0, none⟩) 32 32 (le 32 ((nv 256 bs) % Lq)) ((nv 256 bs) % Lq) _ (nvle _) (by first | rfl | omega | exact le_length _ _ | assumption) HB55.rd (by_le _ _) (by decide)) ?_)
      rintro a301 w292 v293 ⟨rfl, HX294⟩ ha303 hF302
      replace HE := HE.thenN HX294.g
      replace HB6 := HB6.growN HX294.g
      replace HB16 := HB16.growN HX294.g
      replace HB55 := HB55.growN HX294.g
      replace HB88 := HB88.growN HX294.g
      replace HB123 := HB123.growN HX294.g
      rw [ha303]; exact hK279 _ _ rfl HX294.g
    · -- operation 8
      rintro a305 w304 b307 KK313 hs309 hd310 hJ311 hb312 hr318 hK308
      have hr318x : RD SL_ b307 a305 a136 w304 [(7, none), (24, some 5)] := hr318 _ (by kernel_rfl)
      obtain ⟨q314, ⟨v316, q315, s317⟩, -⟩ := hr318x
      obtain rfl : v316 = .bool true := s317
      obtain ⟨HE, HB6, HB16, HB55, HB88, HB123⟩ := hJ311
      have hF306 : Fr 67 a305 [(7, .pointer (some ⟨b52, 0, none⟩)), (24, .bool true)] := Fr.of hs309 hd310 ⟨(Fr.init hF139 q314 (by kernel_rfl)), q315, trivial⟩
      refine One.bare hF306 (by kernel_rfl) (s_loadA hT (d := 27) (b := b52) (off := 0) (sz := 32) (l := vs .u8 (le 32 ((nv 256 bs) % Lq))) (by kernel_rfl) hF306 HB55.cells (by (first | (simp only [vs_length, vi_length]; omega) | (simp only [vs_length, le_length]; done) | (simp only [vs_length, le_length]; first | rfl | assumption | (symm; assumption) | omega | (simp; done)) | (simp only [vs_length, clampL_length, le_length]; first | done | assumption | exact hxl | rfl) | rfl | (simp; omega) | omega)) ?_)
      rintro a319 ha321 hF320
      rw [ha321]; exact hK308 _ _ rfl (grown_refl _ _)
    · -- operation 9
      rintro a323 w322 b325 KK331 hs327 hd328 hJ329 hb330 hr341 hK326
      have hr341x : RD SL_ b325 a323 a136 w322 [(26, some 7), (27, some 8), (24, some 5)] := hr341 _ (by kernel_rfl)
      obtain ⟨⟨v333, q332, s334⟩, ⟨v336, q335, s337⟩, ⟨v339, q338, s340⟩, -⟩ := hr341x
      obtain rfl : v333 = .agg (vs .u8 (le 32 (((nv 256 bs) % Lq) % Lq))).toArray := s334
      obtain rfl : v336 = .agg (vs .u8 (le 32 ((nv 256 bs) % Lq))).toArray := s337
      obtain rfl : v339 = .bool true := s340
      obtain ⟨HE, HB6, HB16, HB55, HB88, HB123⟩ := hJ329
      have hF324 : Fr 67 a323 [(26, .agg (vs .u8 (le 32 (((nv 256 bs) % Lq) % Lq))).toArray), (27, .agg (vs .u8 (le 32 ((nv 256 bs) % Lq))).toArray), (24, .bool true)] := Fr.of hs327 hd328 ⟨q332, q335, q338, trivial⟩
      refine One.bare hF324 (by kernel_rfl) (s_arrEq hT (d := 28) (m := 32) (e := true) (k := .u8) (xs := (le 32 (((nv 256 bs) % Lq) % Lq))) (ys := (le 32 ((nv 256 bs) % Lq))) (b := (decide ((le 32 (((nv 256 bs) % Lq) % Lq)) = (le 32 ((nv 256 bs) % Lq))))) (by kernel_rfl) (by intro t h; cases h; kernel_rfl) hF324 (by first | rfl | assumption | exact le_length _ _ | (rw [clampL_length]; assumption) | (rw [clampL_length, clampL_length]; assumption) | decide) (by first | rfl | assumption | exact le_length _ _ | (rw [clampL_length]; assumption) | (rw [clampL_length, clampL_length]; assumption) | decide) rfl ?_)
      rintro a342 ha344 hF343
      rw [ha344]; exact hK326 _ _ (congrArg Value.bool ((decide_eq_true (le_congr (Nat.mod_mod _ _))) : ((decide ((le 32 (((nv 256 bs) % Lq) % Lq)) = (le 32 ((nv 256 bs) % Lq))))) = true)) (grown_refl _ _)
    · -- operation 10
      rintro a346 w345 b348 KK354 hs350 hd351 hJ352 hb353 hr361 hK349
      have hr361x : RD SL_ b348 a346 a136 w345 [(24, some 5), (28, some 9)] := hr361 _ (by kernel_rfl)
      obtain ⟨⟨v356, q355, s357⟩, ⟨v359, q358, s360⟩, -⟩ := hr361x
      obtain rfl : v356 = .bool true := s357
      obtain rfl : v359 = .bool true := s360
      obtain ⟨HE, HB6, HB16, HB55, HB88, HB123⟩ := hJ352
      have hF347 : Fr 67 a346 [(24, .bool true), (28, .bool true)] := Fr.of hs350 hd351 ⟨q355, q358, trivial⟩
      refine s_pure hT (d := 29) (v := .bool true) (cs := []) (by kernel_rfl) (by kernel_rfl) trivial hF347 ?_
      rintro a2 ha2 hF2; rw [ha2]; exact hK349 _ _ rfl (grown_refl _ _)
    · -- operation 11
      rintro a363 w362 b365 KK371 hs367 hd368 hJ369 hb370 hr375 hK366
      have hr375x : RD SL_ b365 a363 a136 w362 [(29, some 10)] := hr375 _ (by kernel_rfl)
      obtain ⟨⟨v373, q372, s374⟩, -⟩ := hr375x
      obtain rfl : v373 = .bool true := s374
      obtain ⟨HE, HB6, HB16, HB55, HB88, HB123⟩ := hJ369
      have hF364 : Fr 67 a363 [(29, .bool true)] := Fr.of hs367 hd368 ⟨q372, trivial⟩
      refine s_pure hT (d := 30) (v := .bool true) (cs := []) (by kernel_rfl) (by kernel_rfl) trivial hF364 ?_
      rintro a2 ha2 hF2; rw [ha2]; exact hK366 _ _ rfl (grown_refl _ _)
    · -- operation 12
      rintro a377 w376 b379 KK385 hs381 hd382 hJ383 hb384 hr390 hK380
      have hr390x : RD SL_ b379 a377 a136 w376 [(4, none), (30, some 11)] := hr390 _ (by kernel_rfl)
      obtain ⟨q386, ⟨v388, q387, s389⟩, -⟩ := hr390x
      obtain rfl : v388 = .bool true := s389
      obtain ⟨HE, HB6, HB16, HB55, HB88, HB123⟩ := hJ383
      have hF378 : Fr 67 a377 [(4, .pointer (some ⟨b3, 0, none⟩)), (30, .bool true)] := Fr.of hs381 hd382 ⟨(Fr.init hF139 q386 (by kernel_rfl)), q387, trivial⟩
      refine One.bare hF378 (by kernel_rfl) (s_loadA hT (d := 31) (b := b3) (off := 0) (sz := 32) (l := vs .u8 xs) (by kernel_rfl) hF378 HB6.cells (by (first | (simp only [vs_length, vi_length]; omega) | (simp only [vs_length, le_length]; done) | (simp only [vs_length, le_length]; first | rfl | assumption | (symm; assumption) | omega | (simp; done)) | (simp only [vs_length, clampL_length, le_length]; first | done | assumption | exact hxl | rfl) | rfl | (simp; omega) | omega)) ?_)
      rintro a391 ha393 hF392
      rw [ha393]; exact hK380 _ _ rfl (grown_refl _ _)
    · -- operation 13
      rintro a395 w394 b397 KK403 hs399 hd400 hJ401 hb402 hr408 hK398
      have hr408x : RD SL_ b397 a395 a136 w394 [(5, none), (30, some 11)] := hr408 _ (by kernel_rfl)
      obtain ⟨q404, ⟨v406, q405, s407⟩, -⟩ := hr408x
      obtain rfl : v406 = .bool true := s407
      obtain ⟨HE, HB6, HB16, HB55, HB88, HB123⟩ := hJ401
      have hF396 : Fr 67 a395 [(5, .pointer (some ⟨b13, 0, none⟩)), (30, .bool true)] := Fr.of hs399 hd400 ⟨(Fr.init hF139 q404 (by kernel_rfl)), q405, trivial⟩
      refine One.bare hF396 (by kernel_rfl) (s_loadA hT (d := 32) (b := b13) (off := 0) (sz := 32) (l := vs .u8 ys) (by kernel_rfl) hF396 HB16.cells (by (first | (simp only [vs_length, vi_length]; omega) | (simp only [vs_length, le_length]; done) | (simp only [vs_length, le_length]; first | rfl | assumption | (symm; assumption) | omega | (simp; done)) | (simp only [vs_length, clampL_length, le_length]; first | done | assumption | exact hxl | rfl) | rfl | (simp; omega) | omega)) ?_)
      rintro a409 ha411 hF410
      rw [ha411]; exact hK398 _ _ rfl (grown_refl _ _)
    · -- operation 14
      rintro a413 w412 b415 KK421 hs417 hd418 hJ419 hb420 hr426 hK416
      have hr426x : RD SL_ b415 a413 a136 w412 [(7, none), (30, some 11)] := hr426 _ (by kernel_rfl)
      obtain ⟨q422, ⟨v424, q423, s425⟩, -⟩ := hr426x
      obtain rfl : v424 = .bool true := s425
      obtain ⟨HE, HB6, HB16, HB55, HB88, HB123⟩ := hJ419
      have hF414 : Fr 67 a413 [(7, .pointer (some ⟨b52, 0, none⟩)), (30, .bool true)] := Fr.of hs417 hd418 ⟨(Fr.init hF139 q422 (by kernel_rfl)), q423, trivial⟩
      refine One.bare hF414 (by kernel_rfl) (s_loadA hT (d := 33) (b := b52) (off := 0) (sz := 32) (l := vs .u8 (le 32 ((nv 256 bs) % Lq))) (by kernel_rfl) hF414 HB55.cells (by (first | (simp only [vs_length, vi_length]; omega) | (simp only [vs_length, le_length]; done) | (simp only [vs_length, le_length]; first | rfl | assumption | (symm; assumption) | omega | (simp; done)) | (simp only [vs_length, clampL_length, le_length]; first | done | assumption | exact hxl | rfl) | rfl | (simp; omega) | omega)) ?_)
      rintro a427 ha429 hF428
      rw [ha429]; exact hK416 _ _ rfl (grown_refl _ _)
    · -- operation 15
      rintro a431 w430 b433 KK439 hs435 hd436 hJ437 hb438 hr452 hK434
      have hr452x : RD SL_ b433 a431 a136 w430 [(31, some 12), (32, some 13), (33, some 14), (30, some 11)] := hr452 _ (by kernel_rfl)
      obtain ⟨⟨v441, q440, s442⟩, ⟨v444, q443, s445⟩, ⟨v447, q446, s448⟩, ⟨v450, q449, s451⟩, -⟩ := hr452x
      obtain rfl : v441 = .agg (vs .u8 xs).toArray := s442
      obtain rfl : v444 = .agg (vs .u8 ys).toArray := s445
      obtain rfl : v447 = .agg (vs .u8 (le 32 ((nv 256 bs) % Lq))).toArray := s448
      obtain rfl : v450 = .bool true := s451
      obtain ⟨HE, HB6, HB16, HB55, HB88, HB123⟩ := hJ437
      have hF432 : Fr 67 a431 [(31, .agg (vs .u8 xs).toArray), (32, .agg (vs .u8 ys).toArray), (33, .agg (vs .u8 (le 32 ((nv 256 bs) % Lq))).toArray), (30, .bool true)] := Fr.of hs435 hd436 ⟨q440, q443, q446, q449, trivial⟩
      have hz456 := HE.size
      have hz457 := HB6.lt
      have hz458 := HB16.lt
      have hz459 := HB55.lt
      have hz460 := HB88.lt
      have hz461 := HB123.lt
      refine One.bare hF432 (by kernel_rfl) (s_call (d := 34) (f := 32) (l := [.agg (vs .u8 xs).toArray, .agg (vs .u8 ys).toArray, .agg (vs .u8 (le 32 ((nv 256 bs) % Lq))).toArray]) (by kernel_rfl) hF432 cl32 (scal_MulAdd xs (nv 256 xs) ys (nv 256 ys) (le 32 ((nv 256 bs) % Lq)) ((nv 256 bs) % Lq) _ rfl (by first | rfl | exact le_length _ _ | assumption) hbx rfl (by first | rfl | exact le_length _ _ | assumption) hby (nvle _) (by first | rfl | exact le_length _ _ | assumption) (by_le _ _)) ?_)
      rintro a462 w453 v454 ⟨rfl, HX455⟩ ha464 hF463
      replace HE := HE.thenN HX455.g
      replace HB6 := HB6.growN HX455.g
      replace HB16 := HB16.growN HX455.g
      replace HB55 := HB55.growN HX455.g
      replace HB88 := HB88.growN HX455.g
      replace HB123 := HB123.growN HX455.g
      rw [ha464]; exact hK434 _ _ rfl HX455.g
    · -- operation 16
      rintro a466 w465 b468 KK474 hs470 hd471 hJ472 hb473 hr479 hK469
      have hr479x : RD SL_ b468 a466 a136 w465 [(8, none), (30, some 11)] := hr479 _ (by kernel_rfl)
      obtain ⟨q475, ⟨v477, q476, s478⟩, -⟩ := hr479x
      obtain rfl : v477 = .bool true := s478
      obtain ⟨HE, HB6, HB16, HB55, HB88, HB123⟩ := hJ472
      have hF467 : Fr 67 a466 [(8, .pointer (some ⟨b85, 0, none⟩)), (30, .bool true)] := Fr.of hs470 hd471 ⟨(Fr.init hF139 q475 (by kernel_rfl)), q476, trivial⟩
      refine One.bare hF467 (by kernel_rfl) (s_loadA hT (d := 35) (b := b85) (off := 0) (sz := 32) (l := vs .u8 (le 32 ((nv 256 xs) % Lq))) (by kernel_rfl) hF467 HB88.cells (by (first | (simp only [vs_length, vi_length]; omega) | (simp only [vs_length, le_length]; done) | (simp only [vs_length, le_length]; first | rfl | assumption | (symm; assumption) | omega | (simp; done)) | (simp only [vs_length, clampL_length, le_length]; first | done | assumption | exact hxl | rfl) | rfl | (simp; omega) | omega)) ?_)
      rintro a480 ha482 hF481
      rw [ha482]; exact hK469 _ _ rfl (grown_refl _ _)
    · -- operation 17
      rintro a484 w483 b486 KK492 hs488 hd489 hJ490 hb491 hr497 hK487
      have hr497x : RD SL_ b486 a484 a136 w483 [(9, none), (30, some 11)] := hr497 _ (by kernel_rfl)
      obtain ⟨q493, ⟨v495, q494, s496⟩, -⟩ := hr497x
      obtain rfl : v495 = .bool true := s496
      obtain ⟨HE, HB6, HB16, HB55, HB88, HB123⟩ := hJ490
      have hF485 : Fr 67 a484 [(9, .pointer (some ⟨b120, 0, none⟩)), (30, .bool true)] := Fr.of hs488 hd489 ⟨(Fr.init hF139 q493 (by kernel_rfl)), q494, trivial⟩
      refine One.bare hF485 (by kernel_rfl) (s_loadA hT (d := 36) (b := b120) (off := 0) (sz := 32) (l := vs .u8 (le 32 ((nv 256 ys) % Lq))) (by kernel_rfl) hF485 HB123.cells (by (first | (simp only [vs_length, vi_length]; omega) | (simp only [vs_length, le_length]; done) | (simp only [vs_length, le_length]; first | rfl | assumption | (symm; assumption) | omega | (simp; done)) | (simp only [vs_length, clampL_length, le_length]; first | done | assumption | exact hxl | rfl) | rfl | (simp; omega) | omega)) ?_)
      rintro a498 ha500 hF499
      rw [ha500]; exact hK487 _ _ rfl (grown_refl _ _)
    · -- operation 18
      rintro a502 w501 b504 KK510 hs506 hd507 hJ508 hb509 hr515 hK505
      have hr515x : RD SL_ b504 a502 a136 w501 [(7, none), (30, some 11)] := hr515 _ (by kernel_rfl)
      obtain ⟨q511, ⟨v513, q512, s514⟩, -⟩ := hr515x
      obtain rfl : v513 = .bool true := s514
      obtain ⟨HE, HB6, HB16, HB55, HB88, HB123⟩ := hJ508
      have hF503 : Fr 67 a502 [(7, .pointer (some ⟨b52, 0, none⟩)), (30, .bool true)] := Fr.of hs506 hd507 ⟨(Fr.init hF139 q511 (by kernel_rfl)), q512, trivial⟩
      refine One.bare hF503 (by kernel_rfl) (s_loadA hT (d := 37) (b := b52) (off := 0) (sz := 32) (l := vs .u8 (le 32 ((nv 256 bs) % Lq))) (by kernel_rfl) hF503 HB55.cells (by (first | (simp only [vs_length, vi_length]; omega) | (simp only [vs_length, le_length]; done) | (simp only [vs_length, le_length]; first | rfl | assumption | (symm; assumption) | omega | (simp; done)) | (simp only [vs_length, clampL_length, le_length]; first | done | assumption | exact hxl | rfl) | rfl | (simp; omega) | omega)) ?_)
      rintro a516 ha518 hF517
      rw [ha518]; exact hK505 _ _ rfl (grown_refl _ _)
    · -- operation 19
      rintro a520 w519 b522 KK528 hs524 hd525 hJ526 hb527 hr541 hK523
      have hr541x : RD SL_ b522 a520 a136 w519 [(35, some 16), (36, some 17), (37, some 18), (30, some 11)] := hr541 _ (by kernel_rfl)
      obtain ⟨⟨v530, q529, s531⟩, ⟨v533, q532, s534⟩, ⟨v536, q535, s537⟩, ⟨v539, q538, s540⟩, -⟩ := hr541x
      obtain rfl : v530 = .agg (vs .u8 (le 32 ((nv 256 xs) % Lq))).toArray := s531
      obtain rfl : v533 = .agg (vs .u8 (le 32 ((nv 256 ys) % Lq))).toArray := s534
      obtain rfl : v536 = .agg (vs .u8 (le 32 ((nv 256 bs) % Lq))).toArray := s537
      obtain rfl : v539 = .bool true := s540
      obtain ⟨HE, HB6, HB16, HB55, HB88, HB123⟩ := hJ526
      have hF521 : Fr 67 a520 [(35, .agg (vs .u8 (le 32 ((nv 256 xs) % Lq))).toArray), (36, .agg (vs .u8 (le 32 ((nv 256 ys) % Lq))).toArray), (37, .agg (vs .u8 (le 32 ((nv 256 bs) % Lq))).toArray), (30, .bool true)] := Fr.of hs524 hd525 ⟨q529, q532, q535, q538, trivial⟩
      have hz545 := HE.size
      have hz546 := HB6.lt
      have hz547 := HB16.lt
      have hz548 := HB55.lt
      have hz549 := HB88.lt
      have hz550 := HB123.lt
      refine One.bare hF521 (by kernel_rfl) (s_call (d := 38) (f := 32) (l := [.agg (vs .u8 (le 32 ((nv 256 xs) % Lq))).toArray, .agg (vs .u8 (le 32 ((nv 256 ys) % Lq))).toArray, .agg (vs .u8 (le 32 ((nv 256 bs) % Lq))).toArray]) (by kernel_rfl) hF521 cl32 (scal_MulAdd (le 32 ((nv 256 xs) % Lq)) ((nv 256 xs) % Lq) (le 32 ((nv 256 ys) % Lq)) ((nv 256 ys) % Lq) (le 32 ((nv 256 bs) % Lq)) ((nv 256 bs) % Lq) _ (nvle _) (by first | rfl | exact le_length _ _ | assumption) (by_le _ _) (nvle _) (by first | rfl | exact le_length _ _ | assumption) (by_le _ _) (nvle _) (by first | rfl | exact le_length _ _ | assumption) (by_le _ _)) ?_)
      rintro a551 w542 v543 ⟨rfl, HX544⟩ ha553 hF552
      replace HE := HE.thenN HX544.g
      replace HB6 := HB6.growN HX544.g
      replace HB16 := HB16.growN HX544.g
      replace HB55 := HB55.growN HX544.g
      replace HB88 := HB88.growN HX544.g
      replace HB123 := HB123.growN HX544.g
      rw [ha553]; exact hK523 _ _ rfl HX544.g
    · -- operation 20
      rintro a555 w554 b557 KK563 hs559 hd560 hJ561 hb562 hr573 hK558
      have hr573x : RD SL_ b557 a555 a136 w554 [(34, some 15), (38, some 19), (30, some 11)] := hr573 _ (by kernel_rfl)
      obtain ⟨⟨v565, q564, s566⟩, ⟨v568, q567, s569⟩, ⟨v571, q570, s572⟩, -⟩ := hr573x
      obtain rfl : v565 = .agg (vs .u8 (le 32 (((nv 256 xs) * (nv 256 ys) + ((nv 256 bs) % Lq)) % Lq))).toArray := s566
      obtain rfl : v568 = .agg (vs .u8 (le 32 ((((nv 256 xs) % Lq) * ((nv 256 ys) % Lq) + ((nv 256 bs) % Lq)) % Lq))).toArray := s569
      obtain rfl : v571 = .bool true := s572
      obtain ⟨HE, HB6, HB16, HB55, HB88, HB123⟩ := hJ561
      have hF556 : Fr 67 a555 [(34, .agg (vs .u8 (le 32 (((nv 256 xs) * (nv 256 ys) + ((nv 256 bs) % Lq)) % Lq))).toArray), (38, .agg (vs .u8 (le 32 ((((nv 256 xs) % Lq) * ((nv 256 ys) % Lq) + ((nv 256 bs) % Lq)) % Lq))).toArray), (30, .bool true)] := Fr.of hs559 hd560 ⟨q564, q567, q570, trivial⟩
      refine One.bare hF556 (by kernel_rfl) (s_arrEq hT (d := 39) (m := 32) (e := true) (k := .u8) (xs := (le 32 (((nv 256 xs) * (nv 256 ys) + ((nv 256 bs) % Lq)) % Lq))) (ys := (le 32 ((((nv 256 xs) % Lq) * ((nv 256 ys) % Lq) + ((nv 256 bs) % Lq)) % Lq))) (b := (decide ((le 32 (((nv 256 xs) * (nv 256 ys) + ((nv 256 bs) % Lq)) % Lq)) = (le 32 ((((nv 256 xs) % Lq) * ((nv 256 ys) % Lq) + ((nv 256 bs) % Lq)) % Lq))))) (by kernel_rfl) (by intro t h; cases h; kernel_rfl) hF556 (by first | rfl | assumption | exact le_length _ _ | (rw [clampL_length]; assumption) | (rw [clampL_length, clampL_length]; assumption) | decide) (by first | rfl | assumption | exact le_length _ _ | (rw [clampL_length]; assumption) | (rw [clampL_length, clampL_length]; assumption) | decide) rfl ?_)
      rintro a574 ha576 hF575
      rw [ha576]; exact hK558 _ _ (congrArg Value.bool ((decide_eq_true (le_congr (ma1 _ _ _ _))) : ((decide ((le 32 (((nv 256 xs) * (nv 256 ys) + ((nv 256 bs) % Lq)) % Lq)) = (le 32 ((((nv 256 xs) % Lq) * ((nv 256 ys) % Lq) + ((nv 256 bs) % Lq)) % Lq))))) = true)) (grown_refl _ _)
    · -- operation 21
      rintro a578 w577 b580 KK586 hs582 hd583 hJ584 hb585 hr593 hK581
      have hr593x : RD SL_ b580 a578 a136 w577 [(30, some 11), (39, some 20)] := hr593 _ (by kernel_rfl)
      obtain ⟨⟨v588, q587, s589⟩, ⟨v591, q590, s592⟩, -⟩ := hr593x
      obtain rfl : v588 = .bool true := s589
      obtain rfl : v591 = .bool true := s592
      obtain ⟨HE, HB6, HB16, HB55, HB88, HB123⟩ := hJ584
      have hF579 : Fr 67 a578 [(30, .bool true), (39, .bool true)] := Fr.of hs582 hd583 ⟨q587, q590, trivial⟩
      refine s_pure hT (d := 40) (v := .bool true) (cs := []) (by kernel_rfl) (by kernel_rfl) trivial hF579 ?_
      rintro a2 ha2 hF2; rw [ha2]; exact hK581 _ _ rfl (grown_refl _ _)
    · -- operation 22
      rintro a595 w594 b597 KK603 hs599 hd600 hJ601 hb602 hr607 hK598
      have hr607x : RD SL_ b597 a595 a136 w594 [(40, some 21)] := hr607 _ (by kernel_rfl)
      obtain ⟨⟨v605, q604, s606⟩, -⟩ := hr607x
      obtain rfl : v605 = .bool true := s606
      obtain ⟨HE, HB6, HB16, HB55, HB88, HB123⟩ := hJ601
      have hF596 : Fr 67 a595 [(40, .bool true)] := Fr.of hs599 hd600 ⟨q604, trivial⟩
      refine s_pure hT (d := 41) (v := .bool true) (cs := []) (by kernel_rfl) (by kernel_rfl) trivial hF596 ?_
      rintro a2 ha2 hF2; rw [ha2]; exact hK598 _ _ rfl (grown_refl _ _)
    · -- operation 23
      rintro a609 w608 b611 KK617 hs613 hd614 hJ615 hb616 hr622 hK612
      have hr622x : RD SL_ b611 a609 a136 w608 [(4, none), (41, some 22)] := hr622 _ (by kernel_rfl)
      obtain ⟨q618, ⟨v620, q619, s621⟩, -⟩ := hr622x
      obtain rfl : v620 = .bool true := s621
      obtain ⟨HE, HB6, HB16, HB55, HB88, HB123⟩ := hJ615
      have hF610 : Fr 67 a609 [(4, .pointer (some ⟨b3, 0, none⟩)), (41, .bool true)] := Fr.of hs613 hd614 ⟨(Fr.init hF139 q618 (by kernel_rfl)), q619, trivial⟩
      refine One.bare hF610 (by kernel_rfl) (s_loadA hT (d := 42) (b := b3) (off := 0) (sz := 32) (l := vs .u8 xs) (by kernel_rfl) hF610 HB6.cells (by (first | (simp only [vs_length, vi_length]; omega) | (simp only [vs_length, le_length]; done) | (simp only [vs_length, le_length]; first | rfl | assumption | (symm; assumption) | omega | (simp; done)) | (simp only [vs_length, clampL_length, le_length]; first | done | assumption | exact hxl | rfl) | rfl | (simp; omega) | omega)) ?_)
      rintro a623 ha625 hF624
      rw [ha625]; exact hK612 _ _ rfl (grown_refl _ _)
    · -- operation 24
      rintro a627 w626 b629 KK635 hs631 hd632 hJ633 hb634 hr640 hK630
      have hr640x : RD SL_ b629 a627 a136 w626 [(5, none), (41, some 22)] := hr640 _ (by kernel_rfl)
      obtain ⟨q636, ⟨v638, q637, s639⟩, -⟩ := hr640x
      obtain rfl : v638 = .bool true := s639
      obtain ⟨HE, HB6, HB16, HB55, HB88, HB123⟩ := hJ633
      have hF628 : Fr 67 a627 [(5, .pointer (some ⟨b13, 0, none⟩)), (41, .bool true)] := Fr.of hs631 hd632 ⟨(Fr.init hF139 q636 (by kernel_rfl)), q637, trivial⟩
      refine One.bare hF628 (by kernel_rfl) (s_loadA hT (d := 43) (b := b13) (off := 0) (sz := 32) (l := vs .u8 ys) (by kernel_rfl) hF628 HB16.cells (by (first | (simp only [vs_length, vi_length]; omega) | (simp only [vs_length, le_length]; done) | (simp only [vs_length, le_length]; first | rfl | assumption | (symm; assumption) | omega | (simp; done)) | (simp only [vs_length, clampL_length, le_length]; first | done | assumption | exact hxl | rfl) | rfl | (simp; omega) | omega)) ?_)
      rintro a641 ha643 hF642
      rw [ha643]; exact hK630 _ _ rfl (grown_refl _ _)
    · -- operation 25
      rintro a645 w644 b647 KK653 hs649 hd650 hJ651 hb652 hr658 hK648
      have hr658x : RD SL_ b647 a645 a136 w644 [(7, none), (41, some 22)] := hr658 _ (by kernel_rfl)
      obtain ⟨q654, ⟨v656, q655, s657⟩, -⟩ := hr658x
      obtain rfl : v656 = .bool true := s657
      obtain ⟨HE, HB6, HB16, HB55, HB88, HB123⟩ := hJ651
      have hF646 : Fr 67 a645 [(7, .pointer (some ⟨b52, 0, none⟩)), (41, .bool true)] := Fr.of hs649 hd650 ⟨(Fr.init hF139 q654 (by kernel_rfl)), q655, trivial⟩
      refine One.bare hF646 (by kernel_rfl) (s_loadA hT (d := 44) (b := b52) (off := 0) (sz := 32) (l := vs .u8 (le 32 ((nv 256 bs) % Lq))) (by kernel_rfl) hF646 HB55.cells (by (first | (simp only [vs_length, vi_length]; omega) | (simp only [vs_length, le_length]; done) | (simp only [vs_length, le_length]; first | rfl | assumption | (symm; assumption) | omega | (simp; done)) | (simp only [vs_length, clampL_length, le_length]; first | done | assumption | exact hxl | rfl) | rfl | (simp; omega) | omega)) ?_)
      rintro a659 ha661 hF660
      rw [ha661]; exact hK648 _ _ rfl (grown_refl _ _)
    · -- operation 26
      rintro a663 w662 b665 KK671 hs667 hd668 hJ669 hb670 hr684 hK666
      have hr684x : RD SL_ b665 a663 a136 w662 [(42, some 23), (43, some 24), (44, some 25), (41, some 22)] := hr684 _ (by kernel_rfl)
      obtain ⟨⟨v673, q672, s674⟩, ⟨v676, q675, s677⟩, ⟨v679, q678, s680⟩, ⟨v682, q681, s683⟩, -⟩ := hr684x
      obtain rfl : v673 = .agg (vs .u8 xs).toArray := s674
      obtain rfl : v676 = .agg (vs .u8 ys).toArray := s677
      obtain rfl : v679 = .agg (vs .u8 (le 32 ((nv 256 bs) % Lq))).toArray := s680
      obtain rfl : v682 = .bool true := s683
      obtain ⟨HE, HB6, HB16, HB55, HB88, HB123⟩ := hJ669
      have hF664 : Fr 67 a663 [(42, .agg (vs .u8 xs).toArray), (43, .agg (vs .u8 ys).toArray), (44, .agg (vs .u8 (le 32 ((nv 256 bs) % Lq))).toArray), (41, .bool true)] := Fr.of hs667 hd668 ⟨q672, q675, q678, q681, trivial⟩
      have hz688 := HE.size
      have hz689 := HB6.lt
      have hz690 := HB16.lt
      have hz691 := HB55.lt
      have hz692 := HB88.lt
      have hz693 := HB123.lt
      refine One.bare hF664 (by kernel_rfl) (s_call (d := 45) (f := 32) (l := [.agg (vs .u8 xs).toArray, .agg (vs .u8 ys).toArray, .agg (vs .u8 (le 32 ((nv 256 bs) % Lq))).toArray]) (by kernel_rfl) hF664 cl32 (scal_MulAdd xs (nv 256 xs) ys (nv 256 ys) (le 32 ((nv 256 bs) % Lq)) ((nv 256 bs) % Lq) _ rfl (by first | rfl | exact le_length _ _ | assumption) hbx rfl (by first | rfl | exact le_length _ _ | assumption) hby (nvle _) (by first | rfl | exact le_length _ _ | assumption) (by_le _ _)) ?_)
      rintro a694 w685 v686 ⟨rfl, HX687⟩ ha696 hF695
      replace HE := HE.thenN HX687.g
      replace HB6 := HB6.growN HX687.g
      replace HB16 := HB16.growN HX687.g
      replace HB55 := HB55.growN HX687.g
      replace HB88 := HB88.growN HX687.g
      replace HB123 := HB123.growN HX687.g
      rw [ha696]; exact hK666 _ _ rfl HX687.g
    · -- operation 27
      rintro a698 w697 b700 KK706 hs702 hd703 hJ704 hb705 hr711 hK701
      have hr711x : RD SL_ b700 a698 a136 w697 [(5, none), (41, some 22)] := hr711 _ (by kernel_rfl)
      obtain ⟨q707, ⟨v709, q708, s710⟩, -⟩ := hr711x
      obtain rfl : v709 = .bool true := s710
      obtain ⟨HE, HB6, HB16, HB55, HB88, HB123⟩ := hJ704
      have hF699 : Fr 67 a698 [(5, .pointer (some ⟨b13, 0, none⟩)), (41, .bool true)] := Fr.of hs702 hd703 ⟨(Fr.init hF139 q707 (by kernel_rfl)), q708, trivial⟩
      refine One.bare hF699 (by kernel_rfl) (s_loadA hT (d := 46) (b := b13) (off := 0) (sz := 32) (l := vs .u8 ys) (by kernel_rfl) hF699 HB16.cells (by (first | (simp only [vs_length, vi_length]; omega) | (simp only [vs_length, le_length]; done) | (simp only [vs_length, le_length]; first | rfl | assumption | (symm; assumption) | omega | (simp; done)) | (simp only [vs_length, clampL_length, le_length]; first | done | assumption | exact hxl | rfl) | rfl | (simp; omega) | omega)) ?_)
      rintro a712 ha714 hF713
      rw [ha714]; exact hK701 _ _ rfl (grown_refl _ _)
    · -- operation 28
      rintro a716 w715 b718 KK724 hs720 hd721 hJ722 hb723 hr729 hK719
      have hr729x : RD SL_ b718 a716 a136 w715 [(4, none), (41, some 22)] := hr729 _ (by kernel_rfl)
      obtain ⟨q725, ⟨v727, q726, s728⟩, -⟩ := hr729x
      obtain rfl : v727 = .bool true := s728
      obtain ⟨HE, HB6, HB16, HB55, HB88, HB123⟩ := hJ722
      have hF717 : Fr 67 a716 [(4, .pointer (some ⟨b3, 0, none⟩)), (41, .bool true)] := Fr.of hs720 hd721 ⟨(Fr.init hF139 q725 (by kernel_rfl)), q726, trivial⟩
      refine One.bare hF717 (by kernel_rfl) (s_loadA hT (d := 47) (b := b3) (off := 0) (sz := 32) (l := vs .u8 xs) (by kernel_rfl) hF717 HB6.cells (by (first | (simp only [vs_length, vi_length]; omega) | (simp only [vs_length, le_length]; done) | (simp only [vs_length, le_length]; first | rfl | assumption | (symm; assumption) | omega | (simp; done)) | (simp only [vs_length, clampL_length, le_length]; first | done | assumption | exact hxl | rfl) | rfl | (simp; omega) | omega)) ?_)
      rintro a730 ha732 hF731
      rw [ha732]; exact hK719 _ _ rfl (grown_refl _ _)
    · -- operation 29
      rintro a734 w733 b736 KK742 hs738 hd739 hJ740 hb741 hr747 hK737
      have hr747x : RD SL_ b736 a734 a136 w733 [(7, none), (41, some 22)] := hr747 _ (by kernel_rfl)
      obtain ⟨q743, ⟨v745, q744, s746⟩, -⟩ := hr747x
      obtain rfl : v745 = .bool true := s746
      obtain ⟨HE, HB6, HB16, HB55, HB88, HB123⟩ := hJ740
      have hF735 : Fr 67 a734 [(7, .pointer (some ⟨b52, 0, none⟩)), (41, .bool true)] := Fr.of hs738 hd739 ⟨(Fr.init hF139 q743 (by kernel_rfl)), q744, trivial⟩
      refine One.bare hF735 (by kernel_rfl) (s_loadA hT (d := 48) (b := b52) (off := 0) (sz := 32) (l := vs .u8 (le 32 ((nv 256 bs) % Lq))) (by kernel_rfl) hF735 HB55.cells (by (first | (simp only [vs_length, vi_length]; omega) | (simp only [vs_length, le_length]; done) | (simp only [vs_length, le_length]; first | rfl | assumption | (symm; assumption) | omega | (simp; done)) | (simp only [vs_length, clampL_length, le_length]; first | done | assumption | exact hxl | rfl) | rfl | (simp; omega) | omega)) ?_)
      rintro a748 ha750 hF749
      rw [ha750]; exact hK737 _ _ rfl (grown_refl _ _)
    · -- operation 30
      rintro a752 w751 b754 KK760 hs756 hd757 hJ758 hb759 hr773 hK755
      have hr773x : RD SL_ b754 a752 a136 w751 [(46, some 27), (47, some 28), (48, some 29), (41, some 22)] := hr773 _ (by kernel_rfl)
      obtain ⟨⟨v762, q761, s763⟩, ⟨v765, q764, s766⟩, ⟨v768, q767, s769⟩, ⟨v771, q770, s772⟩, -⟩ := hr773x
      obtain rfl : v762 = .agg (vs .u8 ys).toArray := s763
      obtain rfl : v765 = .agg (vs .u8 xs).toArray := s766
      obtain rfl : v768 = .agg (vs .u8 (le 32 ((nv 256 bs) % Lq))).toArray := s769
      obtain rfl : v771 = .bool true := s772
      obtain ⟨HE, HB6, HB16, HB55, HB88, HB123⟩ := hJ758
      have hF753 : Fr 67 a752 [(46, .agg (vs .u8 ys).toArray), (47, .agg (vs .u8 xs).toArray), (48, .agg (vs .u8 (le 32 ((nv 256 bs) % Lq))).toArray), (41, .bool true)] := Fr.of hs756 hd757 ⟨q761, q764, q767, q770, trivial⟩
      have hz777 := HE.size
      have hz778 := HB6.lt
      have hz779 := HB16.lt
      have hz780 := HB55.lt
      have hz781 := HB88.lt
      have hz782 := HB123.lt
      refine One.bare hF753 (by kernel_rfl) (s_call (d := 49) (f := 32) (l := [.agg (vs .u8 ys).toArray, .agg (vs .u8 xs).toArray, .agg (vs .u8 (le 32 ((nv 256 bs) % Lq))).toArray]) (by kernel_rfl) hF753 cl32 (scal_MulAdd ys (nv 256 ys) xs (nv 256 xs) (le 32 ((nv 256 bs) % Lq)) ((nv 256 bs) % Lq) _ rfl (by first | rfl | exact le_length _ _ | assumption) hby rfl (by first | rfl | exact le_length _ _ | assumption) hbx (nvle _) (by first | rfl | exact le_length _ _ | assumption) (by_le _ _)) ?_)
      rintro a783 w774 v775 ⟨rfl, HX776⟩ ha785 hF784
      replace HE := HE.thenN HX776.g
      replace HB6 := HB6.growN HX776.g
      replace HB16 := HB16.growN HX776.g
      replace HB55 := HB55.growN HX776.g
      replace HB88 := HB88.growN HX776.g
      replace HB123 := HB123.growN HX776.g
      rw [ha785]; exact hK755 _ _ rfl HX776.g
    · -- operation 31
      rintro a787 w786 b789 KK795 hs791 hd792 hJ793 hb794 hr805 hK790
      have hr805x : RD SL_ b789 a787 a136 w786 [(45, some 26), (49, some 30), (41, some 22)] := hr805 _ (by kernel_rfl)
      obtain ⟨⟨v797, q796, s798⟩, ⟨v800, q799, s801⟩, ⟨v803, q802, s804⟩, -⟩ := hr805x
      obtain rfl : v797 = .agg (vs .u8 (le 32 (((nv 256 xs) * (nv 256 ys) + ((nv 256 bs) % Lq)) % Lq))).toArray := s798
      obtain rfl : v800 = .agg (vs .u8 (le 32 (((nv 256 ys) * (nv 256 xs) + ((nv 256 bs) % Lq)) % Lq))).toArray := s801
      obtain rfl : v803 = .bool true := s804
      obtain ⟨HE, HB6, HB16, HB55, HB88, HB123⟩ := hJ793
      have hF788 : Fr 67 a787 [(45, .agg (vs .u8 (le 32 (((nv 256 xs) * (nv 256 ys) + ((nv 256 bs) % Lq)) % Lq))).toArray), (49, .agg (vs .u8 (le 32 (((nv 256 ys) * (nv 256 xs) + ((nv 256 bs) % Lq)) % Lq))).toArray), (41, .bool true)] := Fr.of hs791 hd792 ⟨q796, q799, q802, trivial⟩
      refine One.bare hF788 (by kernel_rfl) (s_arrEq hT (d := 50) (m := 32) (e := true) (k := .u8) (xs := (le 32 (((nv 256 xs) * (nv 256 ys) + ((nv 256 bs) % Lq)) % Lq))) (ys := (le 32 (((nv 256 ys) * (nv 256 xs) + ((nv 256 bs) % Lq)) % Lq))) (b := (decide ((le 32 (((nv 256 xs) * (nv 256 ys) + ((nv 256 bs) % Lq)) % Lq)) = (le 32 (((nv 256 ys) * (nv 256 xs) + ((nv 256 bs) % Lq)) % Lq))))) (by kernel_rfl) (by intro t h; cases h; kernel_rfl) hF788 (by first | rfl | assumption | exact le_length _ _ | (rw [clampL_length]; assumption) | (rw [clampL_length, clampL_length]; assumption) | decide) (by first | rfl | assumption | exact le_length _ _ | (rw [clampL_length]; assumption) | (rw [clampL_length, clampL_length]; assumption) | decide) rfl ?_)
      rintro a806 ha808 hF807
      rw [ha808]; exact hK790 _ _ (congrArg Value.bool ((decide_eq_true (le_congr (by rw [Nat.mul_comm]))) : ((decide ((le 32 (((nv 256 xs) * (nv 256 ys) + ((nv 256 bs) % Lq)) % Lq)) = (le 32 (((nv 256 ys) * (nv 256 xs) + ((nv 256 bs) % Lq)) % Lq))))) = true)) (grown_refl _ _)
    · -- operation 32
      rintro a810 w809 b812 KK818 hs814 hd815 hJ816 hb817 hr825 hK813
      have hr825x : RD SL_ b812 a810 a136 w809 [(41, some 22), (50, some 31)] := hr825 _ (by kernel_rfl)
      obtain ⟨⟨v820, q819, s821⟩, ⟨v823, q822, s824⟩, -⟩ := hr825x
      obtain rfl : v820 = .bool true := s821
      obtain rfl : v823 = .bool true := s824
      obtain ⟨HE, HB6, HB16, HB55, HB88, HB123⟩ := hJ816
      have hF811 : Fr 67 a810 [(41, .bool true), (50, .bool true)] := Fr.of hs814 hd815 ⟨q819, q822, trivial⟩
      refine s_pure hT (d := 51) (v := .bool true) (cs := []) (by kernel_rfl) (by kernel_rfl) trivial hF811 ?_
      rintro a2 ha2 hF2; rw [ha2]; exact hK813 _ _ rfl (grown_refl _ _)
    · -- operation 33
      rintro a827 w826 b829 KK835 hs831 hd832 hJ833 hb834 hr839 hK830
      have hr839x : RD SL_ b829 a827 a136 w826 [(51, some 32)] := hr839 _ (by kernel_rfl)
      obtain ⟨⟨v837, q836, s838⟩, -⟩ := hr839x
      obtain rfl : v837 = .bool true := s838
      obtain ⟨HE, HB6, HB16, HB55, HB88, HB123⟩ := hJ833
      have hF828 : Fr 67 a827 [(51, .bool true)] := Fr.of hs831 hd832 ⟨q836, trivial⟩
      refine s_pure hT (d := 52) (v := .bool true) (cs := []) (by kernel_rfl) (by kernel_rfl) trivial hF828 ?_
      rintro a2 ha2 hF2; rw [ha2]; exact hK830 _ _ rfl (grown_refl _ _)
    · -- operation 34
      rintro a841 w840 b843 KK849 hs845 hd846 hJ847 hb848 hr854 hK844
      have hr854x : RD SL_ b843 a841 a136 w840 [(4, none), (52, some 33)] := hr854 _ (by kernel_rfl)
      obtain ⟨q850, ⟨v852, q851, s853⟩, -⟩ := hr854x
      obtain rfl : v852 = .bool true := s853
      obtain ⟨HE, HB6, HB16, HB55, HB88, HB123⟩ := hJ847
      have hF842 : Fr 67 a841 [(4, .pointer (some ⟨b3, 0, none⟩)), (52, .bool true)] := Fr.of hs845 hd846 ⟨(Fr.init hF139 q850 (by kernel_rfl)), q851, trivial⟩
      refine One.bare hF842 (by kernel_rfl) (s_loadA hT (d := 53) (b := b3) (off := 0) (sz := 32) (l := vs .u8 xs) (by kernel_rfl) hF842 HB6.cells (by (first | (simp only [vs_length, vi_length]; omega) | (simp only [vs_length, le_length]; done) | (simp only [vs_length, le_length]; first | rfl | assumption | (symm; assumption) | omega | (simp; done)) | (simp only [vs_length, clampL_length, le_length]; first | done | assumption | exact hxl | rfl) | rfl | (simp; omega) | omega)) ?_)
      rintro a855 ha857 hF856
      rw [ha857]; exact hK844 _ _ rfl (grown_refl _ _)
    · -- operation 35
      rintro a859 w858 b861 KK867 hs863 hd864 hJ865 hb866 hr871 hK862
      have hr871x : RD SL_ b861 a859 a136 w858 [(52, some 33)] := hr871 _ (by kernel_rfl)
      obtain ⟨⟨v869, q868, s870⟩, -⟩ := hr871x
      obtain rfl : v869 = .bool true := s870
      obtain ⟨HE, HB6, HB16, HB55, HB88, HB123⟩ := hJ865
      have hF860 : Fr 67 a859 [(52, .bool true)] := Fr.of hs863 hd864 ⟨q868, trivial⟩
      have hz875 := HE.size
      have hz876 := HB6.lt
      have hz877 := HB16.lt
      have hz878 := HB55.lt
      have hz879 := HB88.lt
      have hz880 := HB123.lt
      refine One.bare hF860 (by kernel_rfl) (s_call (d := 54) (f := 36) (l := [.int .u8 1]) (by kernel_rfl) hF860 cl36 (law18_num 1 _ (by omega)) ?_)
      rintro a881 w872 v873 ⟨rfl, HX874⟩ ha883 hF882
      replace HE := HE.thenN HX874.g
      replace HB6 := HB6.growN HX874.g
      replace HB16 := HB16.growN HX874.g
      replace HB55 := HB55.growN HX874.g
      replace HB88 := HB88.growN HX874.g
      replace HB123 := HB123.growN HX874.g
      rw [ha883]; exact hK862 _ _ rfl HX874.g
    · -- operation 36
      rintro a885 w884 b887 KK893 hs889 hd890 hJ891 hb892 hr897 hK888
      have hr897x : RD SL_ b887 a885 a136 w884 [(52, some 33)] := hr897 _ (by kernel_rfl)
      obtain ⟨⟨v895, q894, s896⟩, -⟩ := hr897x
      obtain rfl : v895 = .bool true := s896
      obtain ⟨HE, HB6, HB16, HB55, HB88, HB123⟩ := hJ891
      have hF886 : Fr 67 a885 [(52, .bool true)] := Fr.of hs889 hd890 ⟨q894, trivial⟩
      have hz901 := HE.size
      have hz902 := HB6.lt
      have hz903 := HB16.lt
      have hz904 := HB55.lt
      have hz905 := HB88.lt
      have hz906 := HB123.lt
      refine One.bare hF886 (by kernel_rfl) (s_call (d := 55) (f := 36) (l := [.int .u8 0]) (by kernel_rfl) hF886 cl36 (law18_num 0 _ (by omega)) ?_)
      rintro a907 w898 v899 ⟨rfl, HX900⟩ ha909 hF908
      replace HE := HE.thenN HX900.g
      replace HB6 := HB6.growN HX900.g
      replace HB16 := HB16.growN HX900.g
      replace HB55 := HB55.growN HX900.g
      replace HB88 := HB88.growN HX900.g
      replace HB123 := HB123.growN HX900.g
      rw [ha909]; exact hK888 _ _ rfl HX900.g
    · -- operation 37
      rintro a911 w910 b913 KK919 hs915 hd916 hJ917 hb918 hr932 hK914
      have hr932x : RD SL_ b913 a911 a136 w910 [(53, some 34), (54, some 35), (55, some 36), (52, some 33)] := hr932 _ (by kernel_rfl)
      obtain ⟨⟨v921, q920, s922⟩, ⟨v924, q923, s925⟩, ⟨v927, q926, s928⟩, ⟨v930, q929, s931⟩, -⟩ := hr932x
      obtain rfl : v921 = .agg (vs .u8 xs).toArray := s922
      obtain rfl : v924 = .agg (vs .u8 [1, 0, 0, 0, 0, 0, 0, 0, 0, 0, 0, 0, 0, 0, 0, 0, 0, 0, 0, 0, 0, 0, 0, 0, 0, 0, 0, 0, 0, 0, 0, 0]).toArray := s925
      obtain rfl : v927 = .agg (vs .u8 [0, 0, 0, 0, 0, 0, 0, 0, 0, 0, 0, 0, 0, 0, 0, 0, 0, 0, 0, 0, 0, 0, 0, 0, 0, 0, 0, 0, 0, 0, 0, 0]).toArray := s928
      obtain rfl : v930 = .bool true := s931
      obtain ⟨HE, HB6, HB16, HB55, HB88, HB123⟩ := hJ917
      have hF912 : Fr 67 a911 [(53, .agg (vs .u8 xs).toArray), (54, .agg (vs .u8 [1, 0, 0, 0, 0, 0, 0, 0, 0, 0, 0, 0, 0, 0, 0, 0, 0, 0, 0, 0, 0, 0, 0, 0, 0, 0, 0, 0, 0, 0, 0, 0]).toArray), (55, .agg (vs .u8 [0, 0, 0, 0, 0, 0, 0, 0, 0, 0, 0, 0, 0, 0, 0, 0, 0, 0, 0, 0, 0, 0, 0, 0, 0, 0, 0, 0, 0, 0, 0, 0]).toArray), (52, .bool true)] := Fr.of hs915 hd916 ⟨q920, q923, q926, q929, trivial⟩
      have hz936 := HE.size
      have hz937 := HB6.lt
      have hz938 := HB16.lt
      have hz939 := HB55.lt
      have hz940 := HB88.lt
      have hz941 := HB123.lt
      refine One.bare hF912 (by kernel_rfl) (s_call (d := 56) (f := 32) (l := [.agg (vs .u8 xs).toArray, .agg (vs .u8 [1, 0, 0, 0, 0, 0, 0, 0, 0, 0, 0, 0, 0, 0, 0, 0, 0, 0, 0, 0, 0, 0, 0, 0, 0, 0, 0, 0, 0, 0, 0, 0]).toArray, .agg (vs .u8 [0, 0, 0, 0, 0, 0, 0, 0, 0, 0, 0, 0, 0, 0, 0, 0, 0, 0, 0, 0, 0, 0, 0, 0, 0, 0, 0, 0, 0, 0, 0, 0]).toArray]) (by kernel_rfl) hF912 cl32 (scal_MulAdd xs (nv 256 xs) [1, 0, 0, 0, 0, 0, 0, 0, 0, 0, 0, 0, 0, 0, 0, 0, 0, 0, 0, 0, 0, 0, 0, 0, 0, 0, 0, 0, 0, 0, 0, 0] 1 [0, 0, 0, 0, 0, 0, 0, 0, 0, 0, 0, 0, 0, 0, 0, 0, 0, 0, 0, 0, 0, 0, 0, 0, 0, 0, 0, 0, 0, 0, 0, 0] 0 _ rfl (by first | rfl | exact le_length _ _ | assumption) hbx rfl rfl (byL rfl) rfl rfl (byL rfl)) ?_)
      rintro a942 w933 v934 ⟨rfl, HX935⟩ ha944 hF943
      replace HE := HE.thenN HX935.g
      replace HB6 := HB6.growN HX935.g
      replace HB16 := HB16.growN HX935.g
      replace HB55 := HB55.growN HX935.g
      replace HB88 := HB88.growN HX935.g
      replace HB123 := HB123.growN HX935.g
      rw [ha944]; exact hK914 _ _ rfl HX935.g
    · -- operation 38
      rintro a946 w945 b948 KK954 hs950 hd951 hJ952 hb953 hr959 hK949
      have hr959x : RD SL_ b948 a946 a136 w945 [(8, none), (52, some 33)] := hr959 _ (by kernel_rfl)
      obtain ⟨q955, ⟨v957, q956, s958⟩, -⟩ := hr959x
      obtain rfl : v957 = .bool true := s958
      obtain ⟨HE, HB6, HB16, HB55, HB88, HB123⟩ := hJ952
      have hF947 : Fr 67 a946 [(8, .pointer (some ⟨b85, 0, none⟩)), (52, .bool true)] := Fr.of hs950 hd951 ⟨(Fr.init hF139 q955 (by kernel_rfl)), q956, trivial⟩
      refine One.bare hF947 (by kernel_rfl) (s_loadA hT (d := 57) (b := b85) (off := 0) (sz := 32) (l := vs .u8 (le 32 ((nv 256 xs) % Lq))) (by kernel_rfl) hF947 HB88.cells (by (first | (simp only [vs_length, vi_length]; omega) | (simp only [vs_length, le_length]; done) | (simp only [vs_length, le_length]; first | rfl | assumption | (symm; assumption) | omega | (simp; done)) | (simp only [vs_length, clampL_length, le_length]; first | done | assumption | exact hxl | rfl) | rfl | (simp; omega) | omega)) ?_)
      rintro a960 ha962 hF961
      rw [ha962]; exact hK949 _ _ rfl (grown_refl _ _)
    · -- operation 39
      rintro a964 w963 b966 KK972 hs968 hd969 hJ970 hb971 hr982 hK967
      have hr982x : RD SL_ b966 a964 a136 w963 [(56, some 37), (57, some 38), (52, some 33)] := hr982 _ (by kernel_rfl)
      obtain ⟨⟨v974, q973, s975⟩, ⟨v977, q976, s978⟩, ⟨v980, q979, s981⟩, -⟩ := hr982x
      obtain rfl : v974 = .agg (vs .u8 (le 32 (((nv 256 xs) * 1 + 0) % Lq))).toArray := s975
      obtain rfl : v977 = .agg (vs .u8 (le 32 ((nv 256 xs) % Lq))).toArray := s978
      obtain rfl : v980 = .bool true := s981
      obtain ⟨HE, HB6, HB16, HB55, HB88, HB123⟩ := hJ970
      have hF965 : Fr 67 a964 [(56, .agg (vs .u8 (le 32 (((nv 256 xs) * 1 + 0) % Lq))).toArray), (57, .agg (vs .u8 (le 32 ((nv 256 xs) % Lq))).toArray), (52, .bool true)] := Fr.of hs968 hd969 ⟨q973, q976, q979, trivial⟩
      refine One.bare hF965 (by kernel_rfl) (s_arrEq hT (d := 58) (m := 32) (e := true) (k := .u8) (xs := (le 32 (((nv 256 xs) * 1 + 0) % Lq))) (ys := (le 32 ((nv 256 xs) % Lq))) (b := (decide ((le 32 (((nv 256 xs) * 1 + 0) % Lq)) = (le 32 ((nv 256 xs) % Lq))))) (by kernel_rfl) (by intro t h; cases h; kernel_rfl) hF965 (by first | rfl | assumption | exact le_length _ _ | (rw [clampL_length]; assumption) | (rw [clampL_length, clampL_length]; assumption) | decide) (by first | rfl | assumption | exact le_length _ _ | (rw [clampL_length]; assumption) | (rw [clampL_length, clampL_length]; assumption) | decide) rfl ?_)
      rintro a983 ha985 hF984
      rw [ha985]; exact hK967 _ _ (congrArg Value.bool ((decide_eq_true (le_congr (by rw [Nat.mul_one, Nat.add_zero]))) : ((decide ((le 32 (((nv 256 xs) * 1 + 0) % Lq)) = (le 32 ((nv 256 xs) % Lq))))) = true)) (grown_refl _ _)
    · -- operation 40
      rintro a987 w986 b989 KK995 hs991 hd992 hJ993 hb994 hr1002 hK990
      have hr1002x : RD SL_ b989 a987 a136 w986 [(52, some 33), (58, some 39)] := hr1002 _ (by kernel_rfl)
      obtain ⟨⟨v997, q996, s998⟩, ⟨v1000, q999, s1001⟩, -⟩ := hr1002x
      obtain rfl : v997 = .bool true := s998
      obtain rfl : v1000 = .bool true := s1001
      obtain ⟨HE, HB6, HB16, HB55, HB88, HB123⟩ := hJ993
      have hF988 : Fr 67 a987 [(52, .bool true), (58, .bool true)] := Fr.of hs991 hd992 ⟨q996, q999, trivial⟩
      refine s_pure hT (d := 59) (v := .bool true) (cs := []) (by kernel_rfl) (by kernel_rfl) trivial hF988 ?_
      rintro a2 ha2 hF2; rw [ha2]; exact hK990 _ _ rfl (grown_refl _ _)
    · -- operation 41
      rintro a1004 w1003 b1006 KK1012 hs1008 hd1009 hJ1010 hb1011 hr1016 hK1007
      have hr1016x : RD SL_ b1006 a1004 a136 w1003 [(59, some 40)] := hr1016 _ (by kernel_rfl)
      obtain ⟨⟨v1014, q1013, s1015⟩, -⟩ := hr1016x
      obtain rfl : v1014 = .bool true := s1015
      obtain ⟨HE, HB6, HB16, HB55, HB88, HB123⟩ := hJ1010
      have hF1005 : Fr 67 a1004 [(59, .bool true)] := Fr.of hs1008 hd1009 ⟨q1013, trivial⟩
      refine s_pure hT (d := 60) (v := .bool true) (cs := []) (by kernel_rfl) (by kernel_rfl) trivial hF1005 ?_
      rintro a2 ha2 hF2; rw [ha2]; exact hK1007 _ _ rfl (grown_refl _ _)
    · -- operation 42
      rintro a1018 w1017 b1020 KK1026 hs1022 hd1023 hJ1024 hb1025 hr1031 hK1021
      have hr1031x : RD SL_ b1020 a1018 a136 w1017 [(4, none), (60, some 41)] := hr1031 _ (by kernel_rfl)
      obtain ⟨q1027, ⟨v1029, q1028, s1030⟩, -⟩ := hr1031x
      obtain rfl : v1029 = .bool true := s1030
      obtain ⟨HE, HB6, HB16, HB55, HB88, HB123⟩ := hJ1024
      have hF1019 : Fr 67 a1018 [(4, .pointer (some ⟨b3, 0, none⟩)), (60, .bool true)] := Fr.of hs1022 hd1023 ⟨(Fr.init hF139 q1027 (by kernel_rfl)), q1028, trivial⟩
      refine One.bare hF1019 (by kernel_rfl) (s_loadA hT (d := 61) (b := b3) (off := 0) (sz := 32) (l := vs .u8 xs) (by kernel_rfl) hF1019 HB6.cells (by (first | (simp only [vs_length, vi_length]; omega) | (simp only [vs_length, le_length]; done) | (simp only [vs_length, le_length]; first | rfl | assumption | (symm; assumption) | omega | (simp; done)) | (simp only [vs_length, clampL_length, le_length]; first | done | assumption | exact hxl | rfl) | rfl | (simp; omega) | omega)) ?_)
      rintro a1032 ha1034 hF1033
      rw [ha1034]; exact hK1021 _ _ rfl (grown_refl _ _)
    · -- operation 43
      rintro a1036 w1035 b1038 KK1044 hs1040 hd1041 hJ1042 hb1043 hr1049 hK1039
      have hr1049x : RD SL_ b1038 a1036 a136 w1035 [(5, none), (60, some 41)] := hr1049 _ (by kernel_rfl)
      obtain ⟨q1045, ⟨v1047, q1046, s1048⟩, -⟩ := hr1049x
      obtain rfl : v1047 = .bool true := s1048
      obtain ⟨HE, HB6, HB16, HB55, HB88, HB123⟩ := hJ1042
      have hF1037 : Fr 67 a1036 [(5, .pointer (some ⟨b13, 0, none⟩)), (60, .bool true)] := Fr.of hs1040 hd1041 ⟨(Fr.init hF139 q1045 (by kernel_rfl)), q1046, trivial⟩
      refine One.bare hF1037 (by kernel_rfl) (s_loadA hT (d := 62) (b := b13) (off := 0) (sz := 32) (l := vs .u8 ys) (by kernel_rfl) hF1037 HB16.cells (by (first | (simp only [vs_length, vi_length]; omega) | (simp only [vs_length, le_length]; done) | (simp only [vs_length, le_length]; first | rfl | assumption | (symm; assumption) | omega | (simp; done)) | (simp only [vs_length, clampL_length, le_length]; first | done | assumption | exact hxl | rfl) | rfl | (simp; omega) | omega)) ?_)
      rintro a1050 ha1052 hF1051
      rw [ha1052]; exact hK1039 _ _ rfl (grown_refl _ _)
    · -- operation 44
      rintro a1054 w1053 b1056 KK1062 hs1058 hd1059 hJ1060 hb1061 hr1067 hK1057
      have hr1067x : RD SL_ b1056 a1054 a136 w1053 [(4, none), (60, some 41)] := hr1067 _ (by kernel_rfl)
      obtain ⟨q1063, ⟨v1065, q1064, s1066⟩, -⟩ := hr1067x
      obtain rfl : v1065 = .bool true := s1066
      obtain ⟨HE, HB6, HB16, HB55, HB88, HB123⟩ := hJ1060
      have hF1055 : Fr 67 a1054 [(4, .pointer (some ⟨b3, 0, none⟩)), (60, .bool true)] := Fr.of hs1058 hd1059 ⟨(Fr.init hF139 q1063 (by kernel_rfl)), q1064, trivial⟩
      refine One.bare hF1055 (by kernel_rfl) (s_loadA hT (d := 63) (b := b3) (off := 0) (sz := 32) (l := vs .u8 xs) (by kernel_rfl) hF1055 HB6.cells (by (first | (simp only [vs_length, vi_length]; omega) | (simp only [vs_length, le_length]; done) | (simp only [vs_length, le_length]; first | rfl | assumption | (symm; assumption) | omega | (simp; done)) | (simp only [vs_length, clampL_length, le_length]; first | done | assumption | exact hxl | rfl) | rfl | (simp; omega) | omega)) ?_)
      rintro a1068 ha1070 hF1069
      rw [ha1070]; exact hK1057 _ _ rfl (grown_refl _ _)
    · -- operation 45
      rintro a1072 w1071 b1074 KK1080 hs1076 hd1077 hJ1078 hb1079 hr1093 hK1075
      have hr1093x : RD SL_ b1074 a1072 a136 w1071 [(61, some 42), (62, some 43), (63, some 44), (60, some 41)] := hr1093 _ (by kernel_rfl)
      obtain ⟨⟨v1082, q1081, s1083⟩, ⟨v1085, q1084, s1086⟩, ⟨v1088, q1087, s1089⟩, ⟨v1091, q1090, s1092⟩, -⟩ := hr1093x
      obtain rfl : v1082 = .agg (vs .u8 xs).toArray := s1083
      obtain rfl : v1085 = .agg (vs .u8 ys).toArray := s1086
      obtain rfl : v1088 = .agg (vs .u8 xs).toArray := s1089
      obtain rfl : v1091 = .bool true := s1092
      obtain ⟨HE, HB6, HB16, HB55, HB88, HB123⟩ := hJ1078
      have hF1073 : Fr 67 a1072 [(61, .agg (vs .u8 xs).toArray), (62, .agg (vs .u8 ys).toArray), (63, .agg (vs .u8 xs).toArray), (60, .bool true)] := Fr.of hs1076 hd1077 ⟨q1081, q1084, q1087, q1090, trivial⟩
      have hz1097 := HE.size
      have hz1098 := HB6.lt
      have hz1099 := HB16.lt
      have hz1100 := HB55.lt
      have hz1101 := HB88.lt
      have hz1102 := HB123.lt
      refine One.bare hF1073 (by kernel_rfl) (s_call (d := 64) (f := 32) (l := [.agg (vs .u8 xs).toArray, .agg (vs .u8 ys).toArray, .agg (vs .u8 xs).toArray]) (by kernel_rfl) hF1073 cl32 (scal_MulAdd xs (nv 256 xs) ys (nv 256 ys) xs (nv 256 xs) _ rfl (by first | rfl | exact le_length _ _ | assumption) hbx rfl (by first | rfl | exact le_length _ _ | assumption) hby rfl (by first | rfl | exact le_length _ _ | assumption) hbx) ?_)
      rintro a1103 w1094 v1095 ⟨rfl, HX1096⟩ ha1105 hF1104
      replace HE := HE.thenN HX1096.g
      replace HB6 := HB6.growN HX1096.g
      replace HB16 := HB16.growN HX1096.g
      replace HB55 := HB55.growN HX1096.g
      replace HB88 := HB88.growN HX1096.g
      replace HB123 := HB123.growN HX1096.g
      rw [ha1105]; exact hK1075 _ _ rfl HX1096.g
    · -- operation 46
      rintro a1107 w1106 b1109 KK1115 hs1111 hd1112 hJ1113 hb1114 hr1122 hK1110
      have hr1122x : RD SL_ b1109 a1107 a136 w1106 [(64, some 45), (60, some 41)] := hr1122 _ (by kernel_rfl)
      obtain ⟨⟨v1117, q1116, s1118⟩, ⟨v1120, q1119, s1121⟩, -⟩ := hr1122x
      obtain rfl : v1117 = .agg (vs .u8 (le 32 (((nv 256 xs) * (nv 256 ys) + (nv 256 xs)) % Lq))).toArray := s1118
      obtain rfl : v1120 = .bool true := s1121
      obtain ⟨HE, HB6, HB16, HB55, HB88, HB123⟩ := hJ1113
      have hF1108 : Fr 67 a1107 [(64, .agg (vs .u8 (le 32 (((nv 256 xs) * (nv 256 ys) + (nv 256 xs)) % Lq))).toArray), (60, .bool true)] := Fr.of hs1111 hd1112 ⟨q1116, q1119, trivial⟩
      have hz1126 := HE.size
      have hz1127 := HB6.lt
      have hz1128 := HB16.lt
      have hz1129 := HB55.lt
      have hz1130 := HB88.lt
      have hz1131 := HB123.lt
      refine One.bare hF1108 (by kernel_rfl) (s_call (d := 65) (f := 30) (l := [.agg (vs .u8 (le 32 (((nv 256 xs) * (nv 256 ys) + (nv 256 xs)) % Lq))).toArray]) (by kernel_rfl) hF1108 cl30 (scal_Is (le 32 (((nv 256 xs) * (nv 256 ys) + (nv 256 xs)) % Lq)) (((nv 256 xs) * (nv 256 ys) + (nv 256 xs)) % Lq) _ (nvle _) (by first | rfl | exact le_length _ _ | assumption) (by_le _ _)) ?_)
      rintro a1132 w1123 v1124 ⟨rfl, HX1125⟩ ha1134 hF1133
      replace HE := HE.thenN HX1125.g
      replace HB6 := HB6.growN HX1125.g
      replace HB16 := HB16.growN HX1125.g
      replace HB55 := HB55.growN HX1125.g
      replace HB88 := HB88.growN HX1125.g
      replace HB123 := HB123.growN HX1125.g
      rw [ha1134]; exact hK1110 _ _ rfl HX1125.g
    · -- operation 47
      rintro a1136 w1135 b1138 KK1144 hs1140 hd1141 hJ1142 hb1143 hr1151 hK1139
      have hr1151x : RD SL_ b1138 a1136 a136 w1135 [(60, some 41), (65, some 46)] := hr1151 _ (by kernel_rfl)
      obtain ⟨⟨v1146, q1145, s1147⟩, ⟨v1149, q1148, s1150⟩, -⟩ := hr1151x
      obtain rfl : v1146 = .bool true := s1147
      obtain rfl : v1149 = .bool ((decide ((((nv 256 xs) * (nv 256 ys) + (nv 256 xs)) % Lq) < Lq))) := s1150
      obtain ⟨HE, HB6, HB16, HB55, HB88, HB123⟩ := hJ1142
      have hF1137 : Fr 67 a1136 [(60, .bool true), (65, .bool ((decide ((((nv 256 xs) * (nv 256 ys) + (nv 256 xs)) % Lq) < Lq))))] := Fr.of hs1140 hd1141 ⟨q1145, q1148, trivial⟩
      refine s_pure hT (d := 66) (v := .bool ((decide ((((nv 256 xs) * (nv 256 ys) + (nv 256 xs)) % Lq) < Lq)))) (cs := []) (by kernel_rfl) (by kernel_rfl) trivial hF1137 ?_
      have htr : ((decide ((((nv 256 xs) * (nv 256 ys) + (nv 256 xs)) % Lq) < Lq))) = true := (decide_eq_true (Nat.mod_lt _ Lq_pos))
      rintro a2 ha2 hF2; rw [ha2]; exact hK1139 _ _ (congrArg Value.bool htr) (grown_refl _ _)
    · -- operation 48
      rintro a1153 w1152 b1155 KK1161 hs1157 hd1158 hJ1159 hb1160 hr1165 hK1156
      have hr1165x : RD SL_ b1155 a1153 a136 w1152 [(66, some 47)] := hr1165 _ (by kernel_rfl)
      obtain ⟨⟨v1163, q1162, s1164⟩, -⟩ := hr1165x
      obtain rfl : v1163 = .bool true := s1164
      obtain ⟨HE, HB6, HB16, HB55, HB88, HB123⟩ := hJ1159
      have hF1154 : Fr 67 a1153 [(66, .bool true)] := Fr.of hs1157 hd1158 ⟨q1162, trivial⟩
      refine s_pure hT (d := 6) (v := .bool true) (cs := []) (by kernel_rfl) (by kernel_rfl) trivial hF1154 ?_
      rintro a2 ha2 hF2; rw [ha2]; exact hK1156 _ _ rfl (grown_refl _ _)
    · -- behind the region
      rintro a1167 w1168 hs1169 hd1170 ⟨⟨v1172, q1173, s1174⟩, q1175, q1176, q1177, q1178, q1179, q1180, q1181, q1182, q1183, -⟩ ⟨HE, HB6, HB16, HB55, HB88, HB123⟩
      obtain rfl : v1172 = .bool true := s1174
      have hF1184 : Fr 67 a1167 [(6, .bool true), (9, .pointer (some ⟨b120, 0, none⟩)), (8, .pointer (some ⟨b85, 0, none⟩)), (7, .pointer (some ⟨b52, 0, none⟩)), (12, .bool ((decide (100 < ((bs.length : Nat) : Int))))), (5, .pointer (some ⟨b13, 0, none⟩)), (4, .pointer (some ⟨b3, 0, none⟩)), (0, .slice Ab bs.length cb), (1, .agg (vs .u8 xs).toArray), (2, .agg (vs .u8 ys).toArray)] := Fr.of hs1169 hd1170 ⟨q1173, (Fr.init hF139 q1175 (by kernel_rfl)), (Fr.init hF139 q1176 (by kernel_rfl)), (Fr.init hF139 q1177 (by kernel_rfl)), (Fr.init hF139 q1178 (by kernel_rfl)), (Fr.init hF139 q1179 (by kernel_rfl)), (Fr.init hF139 q1180 (by kernel_rfl)), (Fr.init hF139 q1181 (by kernel_rfl)), (Fr.init hF139 q1182 (by kernel_rfl)), (Fr.init hF139 q1183 (by kernel_rfl)), trivial⟩
      clear hF139 hs1169 hd1170 q1173 q1175 q1176 q1177 q1178 q1179 q1180 q1181 q1182 q1183
      refine hK141 _ _ ?_
      refine wp_ret ?_
      refine ret1 hF1184 rfl (v := .bool true) (by kernel_rfl) ?_
      exact ⟨rfl, HE⟩

end Go.Proofs.Ytdabkjflpbbpeaa
