/- Walks of functions of the program: lemmas. -/
import Derived.Test.YtdabkjflpbbpeaaWo
set_option maxRecDepth 100000
set_option linter.unusedVariables false
set_option linter.unusedSimpArgs false
namespace Go.Proofs.Ytdabkjflpbbpeaa
open Go.Proofs Go.RowKit

set_option maxHeartbeats 4000000 in
theorem law18_groups (xs : List Nat) (ys : List Nat) (zs : List Nat) (w : World) (hxl : xs.length = 32) (hbx : By xs) (hyl : ys.length = 32) (hby : By ys) (hz : zs.length = 32) (hbz : By zs) :
    Calls Try.prog 11 [.agg (vs .u8 xs).toArray, .agg (vs .u8 ys).toArray, .agg (vs .u8 zs).toArray].toArray w (Ret fun v w' => v = .bool true ∧ Ex w w') := by
  refine enter Try.func11 rfl (n := 72) Try.ntmps11 (by simp) ?_
  intro a hF
  have HE : Ex w w := Ex.refl w
  refine wp_seq_k (fun K1 hK2 => ?_)
  refine wp_region_lit ?_
  have hz9 := HE.size
  refine wl (s_alloc hT (d := 3) (T := 32) (l := vs .u8 xs) (by kernel_rfl) hF ?_)
  rintro a10 w4 b3 h7 h8 HB6 g5 ha12 hF11; clear ha12 hF a
  replace HE := HE.thenN g5
  have hz19 := HE.size
  have hz20 := HB6.lt
  refine wl (s_alloc hT (d := 4) (T := 32) (l := vs .u8 ys) (by kernel_rfl) hF11 ?_)
  rintro a21 w14 b13 h17 h18 HB16 g15 ha23 hF22; clear ha23 hF11 a10
  replace HE := HE.thenN g15
  replace HB6 := HB6.growN g15
  have hz30 := HE.size
  have hz31 := HB6.lt
  have hz32 := HB16.lt
  refine wl (s_alloc hT (d := 5) (T := 32) (l := vs .u8 zs) (by kernel_rfl) hF22 ?_)
  rintro a33 w25 b24 h28 h29 HB27 g26 ha35 hF34; clear ha35 hF22 a21
  replace HE := HE.thenN g26
  replace HB6 := HB6.growN g26
  replace HB16 := HB16.growN g26
  refine pures_end hT 1 _ hF34 (F' := [(6, .bool false), (5, .pointer (some ⟨b24, 0, none⟩)), (4, .pointer (some ⟨b13, 0, none⟩)), (3, .pointer (some ⟨b3, 0, none⟩)), (0, .agg (vs .u8 xs).toArray), (1, .agg (vs .u8 ys).toArray), (2, .agg (vs .u8 zs).toArray)]) (cs := []) (by kernel_rfl) rfl trivial ?_
  intro a36 hF37; clear hF34 a33
  refine hK2 _ _ ?_
  refine wp_seq_k (fun K38 hK39 => ?_)
  refine wp_region_lit ?_
  have hz43 := HE.size
  have hz44 := HB6.lt
  have hz45 := HB16.lt
  have hz46 := HB27.lt
  refine wl (s_call (d := 12) (f := 36) (l := [.int .u8 0]) (by kernel_rfl) hF37 cl36 (law18_num 0 _ (by omega)) ?_)
  rintro a47 w40 v41 ⟨rfl, HX42⟩ ha49 hF48; clear ha49 hF37 a36
  replace HE := HE.thenN HX42.g
  replace HB6 := HB6.growN HX42.g
  replace HB16 := HB16.growN HX42.g
  replace HB27 := HB27.growN HX42.g
  have hz56 := HE.size
  have hz57 := HB6.lt
  have hz58 := HB16.lt
  have hz59 := HB27.lt
  refine wl (s_alloc hT (d := 7) (T := 32) (l := vs .u8 [0, 0, 0, 0, 0, 0, 0, 0, 0, 0, 0, 0, 0, 0, 0, 0, 0, 0, 0, 0, 0, 0, 0, 0, 0, 0, 0, 0, 0, 0, 0, 0]) (by kernel_rfl) hF48 ?_)
  rintro a60 w51 b50 h54 h55 HB53 g52 ha62 hF61; clear ha62 hF48 a47
  replace HE := HE.thenN g52
  replace HB6 := HB6.growN g52
  replace HB16 := HB16.growN g52
  replace HB27 := HB27.growN g52
  refine wl (s_storeV hT (b := b50) (l2 := vs .u8 [0, 0, 0, 0, 0, 0, 0, 0, 0, 0, 0, 0, 0, 0, 0, 0, 0, 0, 0, 0, 0, 0, 0, 0, 0, 0, 0, 0, 0, 0, 0, 0]) (sz := 32) (by kernel_rfl) hF61 HB53 (by first | rfl | (simp only [vs_length, vi_length]; first | assumption | omega) | (simp only [vs_length, le_length]; done) | (simp only [vs_length, le_length]; first | rfl | assumption | (symm; assumption) | omega | (simp; done)) | (simp only [vs_length, clampL_length, le_length]; first | done | assumption | exact hxl | rfl) | rfl | (simp; done)) (by first | rfl | (simp only [vs_length, vi_length]; first | assumption | omega) | (simp only [vs_length, le_length]; done) | (simp only [vs_length, le_length]; first | rfl | assumption | (symm; assumption) | omega | (simp; done)) | (simp only [vs_length, clampL_length, le_length]; first | done | assumption | exact hxl | rfl) | rfl | (simp; done) | (simp only [vs_length, vi_length]; simp; omega)) (by exact vs_one) ?_)
  rintro a65 w63 ha67 hF66 HB53x g64; clear ha67 hF61 a60; replace HB53 := HB53x
  replace HE := HE.thenS g64 (by first | omega | (simp only [clampL_length]; omega))
  replace HB6 := HB6.growS g64 (by first | omega | (simp only [clampL_length]; omega))
  replace HB16 := HB16.growS g64 (by first | omega | (simp only [clampL_length]; omega))
  replace HB27 := HB27.growS g64 (by first | omega | (simp only [clampL_length]; omega))
  refine wpList_nil ?_
  have hF68 := hF66.pick [7, 6, 5, 4, 3, 0, 1, 2] (G := [(7, .pointer (some ⟨b50, 0, none⟩)), (6, .bool false), (5, .pointer (some ⟨b24, 0, none⟩)), (4, .pointer (some ⟨b13, 0, none⟩)), (3, .pointer (some ⟨b3, 0, none⟩)), (0, .agg (vs .u8 xs).toArray), (1, .agg (vs .u8 ys).toArray), (2, .agg (vs .u8 zs).toArray)]) (by kernel_rfl); clear hF66
  refine hK39 _ _ ?_
  refine wp_seq_k (fun K69 hK70 => ?_)
  refine wp_region_lit ?_
  refine wl (s_loadA hT (d := 13) (b := b3) (off := 0) (sz := 32) (l := vs .u8 xs) (by kernel_rfl) hF68 HB6.cells (by (first | (simp only [vs_length, vi_length]; omega) | (simp only [vs_length, le_length]; done) | (simp only [vs_length, le_length]; first | rfl | assumption | (symm; assumption) | omega | (simp; done)) | (simp only [vs_length, clampL_length, le_length]; first | done | assumption | exact hxl | rfl) | rfl | (simp; omega) | omega)) ?_)
  rintro a71 ha73 hF72; clear ha73 hF68 a65
  refine wl (s_loadA hT (d := 14) (b := b13) (off := 0) (sz := 32) (l := vs .u8 ys) (by kernel_rfl) hF72 HB16.cells (by (first | (simp only [vs_length, vi_length]; omega) | (simp only [vs_length, le_length]; done) | (simp only [vs_length, le_length]; first | rfl | assumption | (symm; assumption) | omega | (simp; done)) | (simp only [vs_length, clampL_length, le_length]; first | done | assumption | exact hxl | rfl) | rfl | (simp; omega) | omega)) ?_)
  rintro a74 ha76 hF75; clear ha76 hF72 a71
  refine wl (s_loadA hT (d := 15) (b := b50) (off := 0) (sz := 32) (l := vs .u8 [0, 0, 0, 0, 0, 0, 0, 0, 0, 0, 0, 0, 0, 0, 0, 0, 0, 0, 0, 0, 0, 0, 0, 0, 0, 0, 0, 0, 0, 0, 0, 0]) (by kernel_rfl) hF75 HB53.cells (by (first | (simp only [vs_length, vi_length]; omega) | (simp only [vs_length, le_length]; done) | (simp only [vs_length, le_length]; first | rfl | assumption | (symm; assumption) | omega | (simp; done)) | (simp only [vs_length, clampL_length, le_length]; first | done | assumption | exact hxl | rfl) | rfl | (simp; omega) | omega)) ?_)
  rintro a77 ha79 hF78; clear ha79 hF75 a74
  have hz83 := HE.size
  have hz84 := HB6.lt
  have hz85 := HB16.lt
  have hz86 := HB27.lt
  have hz87 := HB53.lt
  refine wl (s_call (d := 16) (f := 32) (l := [.agg (vs .u8 xs).toArray, .agg (vs .u8 ys).toArray, .agg (vs .u8 [0, 0, 0, 0, 0, 0, 0, 0, 0, 0, 0, 0, 0, 0, 0, 0, 0, 0, 0, 0, 0, 0, 0, 0, 0, 0, 0, 0, 0, 0, 0, 0]).toArray]) (by kernel_rfl) hF78 cl32 (scal_MulAdd xs (nv 256 xs) ys (nv 256 ys) [0, 0, 0, 0, 0, 0, 0, 0, 0, 0, 0, 0, 0, 0, 0, 0, 0, 0, 0, 0, 0, 0, 0, 0, 0, 0, 0, 0, 0, 0, 0, 0] 0 _ rfl (by first | rfl | exact le_length _ _ | assumption) hbx rfl (by first | rfl | exact le_length _ _ | assumption) hby rfl rfl (byL rfl)) ?_)
  rintro a88 w80 v81 ⟨rfl, HX82⟩ ha90 hF89; clear ha90 hF78 a77
  replace HE := HE.thenN HX82.g
  replace HB6 := HB6.growN HX82.g
  replace HB16 := HB16.growN HX82.g
  replace HB27 := HB27.growN HX82.g
  replace HB53 := HB53.growN HX82.g
  have hz97 := HE.size
  have hz98 := HB6.lt
  have hz99 := HB16.lt
  have hz100 := HB27.lt
  have hz101 := HB53.lt
  refine wl (s_alloc hT (d := 8) (T := 32) (l := vs .u8 [0, 0, 0, 0, 0, 0, 0, 0, 0, 0, 0, 0, 0, 0, 0, 0, 0, 0, 0, 0, 0, 0, 0, 0, 0, 0, 0, 0, 0, 0, 0, 0]) (by kernel_rfl) hF89 ?_)
  rintro a102 w92 b91 h95 h96 HB94 g93 ha104 hF103; clear ha104 hF89 a88
  replace HE := HE.thenN g93
  replace HB6 := HB6.growN g93
  replace HB16 := HB16.growN g93
  replace HB27 := HB27.growN g93
  replace HB53 := HB53.growN g93
  refine wl (s_storeV hT (b := b91) (l2 := vs .u8 (le 32 (((nv 256 xs) * (nv 256 ys) + 0) % Lq))) (sz := 32) (by kernel_rfl) hF103 HB94 (by first | rfl | (simp only [vs_length, vi_length]; first | assumption | omega) | (simp only [vs_length, le_length]; done) | (simp only [vs_length, le_length]; first | rfl | assumption | (symm; assumption) | omega | (simp; done)) | (simp only [vs_length, clampL_length, le_length]; first | done | assumption | exact hxl | rfl) | rfl | (simp; done)) (by first | rfl | (simp only [vs_length, vi_length]; first | assumption | omega) | (simp only [vs_length, le_length]; done) | (simp only [vs_length, le_length]; first | rfl | assumption | (symm; assumption) | omega | (simp; done)) | (simp only [vs_length, clampL_length, le_length]; first | done | assumption | exact hxl | rfl) | rfl | (simp; done) | (simp only [vs_length, vi_length]; simp; omega)) (by exact vs_one) ?_)
  rintro a107 w105 ha109 hF108 HB94x g106; clear ha109 hF103 a102; replace HB94 := HB94x
  replace HE := HE.thenS g106 (by first | omega | (simp only [clampL_length]; omega))
  replace HB6 := HB6.growS g106 (by first | omega | (simp only [clampL_length]; omega))
  replace HB16 := HB16.growS g106 (by first | omega | (simp only [clampL_length]; omega))
  replace HB27 := HB27.growS g106 (by first | omega | (simp only [clampL_length]; omega))
  replace HB53 := HB53.growS g106 (by first | omega | (simp only [clampL_length]; omega))
  refine wpList_nil ?_
  have hF110 := hF108.pick [8, 7, 6, 5, 4, 3, 0, 1, 2] (G := [(8, .pointer (some ⟨b91, 0, none⟩)), (7, .pointer (some ⟨b50, 0, none⟩)), (6, .bool false), (5, .pointer (some ⟨b24, 0, none⟩)), (4, .pointer (some ⟨b13, 0, none⟩)), (3, .pointer (some ⟨b3, 0, none⟩)), (0, .agg (vs .u8 xs).toArray), (1, .agg (vs .u8 ys).toArray), (2, .agg (vs .u8 zs).toArray)]) (by kernel_rfl); clear hF108
  refine hK70 _ _ ?_
  refine wp_seq_k (fun K111 hK112 => ?_)
  refine wp_region_lit ?_
  refine wl (s_loadA hT (d := 17) (b := b13) (off := 0) (sz := 32) (l := vs .u8 ys) (by kernel_rfl) hF110 HB16.cells (by (first | (simp only [vs_length, vi_length]; omega) | (simp only [vs_length, le_length]; done) | (simp only [vs_length, le_length]; first | rfl | assumption | (symm; assumption) | omega | (simp; done)) | (simp only [vs_length, clampL_length, le_length]; first | done | assumption | exact hxl | rfl) | rfl | (simp; omega) | omega)) ?_)
  rintro a113 ha115 hF114; clear ha115 hF110 a107
  refine wl (s_loadA hT (d := 18) (b := b24) (off := 0) (sz := 32) (l := vs .u8 zs) (by kernel_rfl) hF114 HB27.cells (by (first | (simp only [vs_length, vi_length]; omega) | (simp only [vs_length, le_length]; done) | (simp only [vs_length, le_length]; first | rfl | assumption | (symm; assumption) | omega | (simp; done)) | (simp only [vs_length, clampL_length, le_length]; first | done | assumption | exact hxl | rfl) | rfl | (simp; omega) | omega)) ?_)
  rintro a116 ha118 hF117; clear ha118 hF114 a113
  refine wl (s_loadA hT (d := 19) (b := b50) (off := 0) (sz := 32) (l := vs .u8 [0, 0, 0, 0, 0, 0, 0, 0, 0, 0, 0, 0, 0, 0, 0, 0, 0, 0, 0, 0, 0, 0, 0, 0, 0, 0, 0, 0, 0, 0, 0, 0]) (by kernel_rfl) hF117 HB53.cells (by (first | (simp only [vs_length, vi_length]; omega) | (simp only [vs_length, le_length]; done) | (simp only [vs_length, le_length]; first | rfl | assumption | (symm; assumption) | omega | (simp; done)) | (simp only [vs_length, clampL_length, le_length]; first | done | assumption | exact hxl | rfl) | rfl | (simp; omega) | omega)) ?_)
  rintro a119 ha121 hF120; clear ha121 hF117 a116
  have hz125 := HE.size
  have hz126 := HB6.lt
  have hz127 := HB16.lt
  have hz128 := HB27.lt
  have hz129 := HB53.lt
  have hz130 := HB94.lt
  refine wl (s_call (d := 20) (f := 32) (l := [.agg (vs .u8 ys).toArray, .agg (vs .u8 zs).toArray, .agg (vs .u8 [0, 0, 0, 0, 0, 0, 0, 0, 0, 0, 0, 0, 0, 0, 0, 0, 0, 0, 0, 0, 0, 0, 0, 0, 0, 0, 0, 0, 0, 0, 0, 0]).toArray]) (by kernel_rfl) hF120 cl32 (scal_MulAdd ys (nv 256 ys) zs (nv 256 zs) [0, 0, 0, 0, 0, 0, 0, 0, 0, 0, 0, 0, 0, 0, 0, 0, 0, 0, 0, 0, 0, 0, 0, 0, 0, 0, 0, 0, 0, 0, 0, 0] 0 _ rfl (by first | rfl | exact le_length _ _ | assumption) hby rfl (by first | rfl | exact le_length _ _ | assumption) hbz rfl rfl (byL rfl)) ?_)
  rintro a131 w122 v123 ⟨rfl, HX124⟩ ha133 hF132; clear ha133 hF120 a119
  replace HE := HE.thenN HX124.g
  replace HB6 := HB6.growN HX124.g
  replace HB16 := HB16.growN HX124.g
  replace HB27 := HB27.growN HX124.g
  replace HB53 := HB53.growN HX124.g
  replace HB94 := HB94.growN HX124.g
  have hz140 := HE.size
  have hz141 := HB6.lt
  have hz142 := HB16.lt
  have hz143 := HB27.lt
  have hz144 := HB53.lt
  have hz145 := HB94.lt
  refine wl (s_alloc hT (d := 9) (T := 32) (l := vs .u8 [0, 0, 0, 0, 0, 0, 0, 0, 0, 0, 0, 0, 0, 0, 0, 0, 0, 0, 0, 0, 0, 0, 0, 0, 0, 0, 0, 0, 0, 0, 0, 0]) (by kernel_rfl) hF132 ?_)
  rintro a146 w135 b134 h138 h139 HB137 g136 ha148 hF147; clear ha148 hF132 a131
  replace HE := HE.thenN g136
  replace HB6 := HB6.growN g136
  replace HB16 := HB16.growN g136
  replace HB27 := HB27.growN g136
  replace HB53 := HB53.growN g136
  replace HB94 := HB94.growN g136
  refine wl (s_storeV hT (b := b134) (l2 := vs .u8 (le 32 (((nv 256 ys) * (nv 256 zs) + 0) % Lq))) (sz := 32) (by kernel_rfl) hF147 HB137 (by first | rfl | (simp only [vs_length, vi_length]; first | assumption | omega) | (simp only [vs_length, le_length]; done) | (simp only [vs_length, le_length]; first | rfl | assumption | (symm; assumption) | omega | (simp; done)) | (simp only [vs_length, clampL_length, le_length]; first | done | assumption | exact hxl | rfl) | rfl | (simp; done)) (by first | rfl | (simp only [vs_length, vi_length]; first | assumption | omega) | (simp only [vs_length, le_length]; done) | (simp only [vs_length, le_length]; first | rfl | assumption | (symm; assumption) | omega | (simp; done)) | (simp only [vs_length, clampL_length, le_length]; first | done | assumption | exact hxl | rfl) | rfl | (simp; done) | (simp only [vs_length, vi_length]; simp; omega)) (by exact vs_one) ?_)
  rintro a151 w149 ha153 hF152 HB137x g150; clear ha153 hF147 a146; replace HB137 := HB137x
  replace HE := HE.thenS g150 (by first | omega | (simp only [clampL_length]; omega))
  replace HB6 := HB6.growS g150 (by first | omega | (simp only [clampL_length]; omega))
  replace HB16 := HB16.growS g150 (by first | omega | (simp only [clampL_length]; omega))
  replace HB27 := HB27.growS g150 (by first | omega | (simp only [clampL_length]; omega))
  replace HB53 := HB53.growS g150 (by first | omega | (simp only [clampL_length]; omega))
  replace HB94 := HB94.growS g150 (by first | omega | (simp only [clampL_length]; omega))
  refine wpList_nil ?_
  have hF154 := hF152.pick [9, 8, 7, 6, 5, 4, 3, 0, 1, 2] (G := [(9, .pointer (some ⟨b134, 0, none⟩)), (8, .pointer (some ⟨b91, 0, none⟩)), (7, .pointer (some ⟨b50, 0, none⟩)), (6, .bool false), (5, .pointer (some ⟨b24, 0, none⟩)), (4, .pointer (some ⟨b13, 0, none⟩)), (3, .pointer (some ⟨b3, 0, none⟩)), (0, .agg (vs .u8 xs).toArray), (1, .agg (vs .u8 ys).toArray), (2, .agg (vs .u8 zs).toArray)]) (by kernel_rfl); clear hF152
  refine hK112 _ _ ?_
  refine wp_seq_k (fun K155 hK156 => ?_)
  have hz158 := HE.size
  have hz159 := HB6.lt
  have hz160 := HB16.lt
  have hz161 := HB27.lt
  have hz162 := HB53.lt
  have hz163 := HB94.lt
  have hz164 := HB137.lt
  have HZ157 : w149.heap.size ≤ w149.heap.size := Nat.le_refl _
  let SL_ : List SP := [SP.val (.agg (vs .u8 xs).toArray), SP.val (.agg (vs .u8 [1, 0, 0, 0, 0, 0, 0, 0, 0, 0, 0, 0, 0, 0, 0, 0, 0, 0, 0, 0, 0, 0, 0, 0, 0, 0, 0, 0, 0, 0, 0, 0]).toArray), SP.val (.agg (vs .u8 ys).toArray), SP.val (.agg (vs .u8 (le 32 (((nv 256 xs) * 1 + (nv 256 ys)) % Lq))).toArray), SP.mk' (fun B v W => ∃ b, v = .pointer (some ⟨b, 0, none⟩) ∧ w149.heap.size ≤ b ∧ (B = false → Blk W b 32 (vs .u8 [0, 0, 0, 0, 0, 0, 0, 0, 0, 0, 0, 0, 0, 0, 0, 0, 0, 0, 0, 0, 0, 0, 0, 0, 0, 0, 0, 0, 0, 0, 0, 0])) ∧ (B = true → Blk W b 32 (vs .u8 (le 32 (((nv 256 xs) * 1 + (nv 256 ys)) % Lq))))) (fun B v w w' h g => by obtain ⟨b, e, h0, h1, h2⟩ := h; exact ⟨b, e, h0, fun q => (h1 q).growN g, fun q => (h2 q).growN g⟩), SP.any]
  refine region_rel (SL := SL_) (J := (fun (b : Bool) (W : World) => (Ex w W) ∧ (Blk W b3 32 (vs .u8 xs)) ∧ (Blk W b13 32 (vs .u8 ys)) ∧ (Blk W b24 32 (vs .u8 zs)) ∧ (Blk W b50 32 (vs .u8 [0, 0, 0, 0, 0, 0, 0, 0, 0, 0, 0, 0, 0, 0, 0, 0, 0, 0, 0, 0, 0, 0, 0, 0, 0, 0, 0, 0, 0, 0, 0, 0])) ∧ (Blk W b91 32 (vs .u8 (le 32 (((nv 256 xs) * (nv 256 ys) + 0) % Lq)))) ∧ (Blk W b134 32 (vs .u8 (le 32 (((nv 256 ys) * (nv 256 zs) + 0) % Lq)))) ∧ (w149.heap.size ≤ W.heap.size))) (m := 5) wide (by kernel_rfl) (by kernel_rfl) hF154 rfl ?_ ⟨HE, HB6, HB16, HB27, HB53, HB94, HB137, HZ157⟩ ⟨?_, ?_, ?_, ?_, ?_, ?_, trivial⟩ [(10, some 4), (9, none), (8, none), (7, none), (6, none), (5, none), (4, none), (3, none), (0, none), (1, none), (2, none)] (by kernel_rfl) ?_
  · intro b W W' hj g; cases b <;> exact ⟨hj.1.thenN g, hj.2.1.growN g, hj.2.2.1.growN g, hj.2.2.2.1.growN g, hj.2.2.2.2.1.growN g, hj.2.2.2.2.2.1.growN g, hj.2.2.2.2.2.2.1.growN g, Nat.le_trans hj.2.2.2.2.2.2.2 g.size⟩
  · -- operation 0
    rintro a166 w165 b168 KK174 hs170 hd171 hJ172 hb173 hr176 hK169
    have hr176x : RD SL_ b168 a166 a151 w165 [(3, none)] := hr176 _ (by kernel_rfl)
    obtain ⟨q175, -⟩ := hr176x
    obtain rfl : b168 = false := by cases b168; rfl; exact absurd ((hb173 rfl).2 _ rfl) (by decide)
    obtain ⟨HE, HB6, HB16, HB27, HB53, HB94, HB137, HZ157⟩ := hJ172
    have hF167 : Fr 72 a166 [(3, .pointer (some ⟨b3, 0, none⟩))] := Fr.of hs170 hd171 ⟨(Fr.init hF154 q175 (by kernel_rfl)), trivial⟩
    refine s_loadA hT (d := 21) (b := b3) (off := 0) (sz := 32) (l := vs .u8 xs) (by kernel_rfl) hF167 HB6.cells (by (first | (simp only [vs_length, vi_length]; omega) | (simp only [vs_length, le_length]; done) | (simp only [vs_length, le_length]; first | rfl | assumption | (symm; assumption) | omega | (simp; done)) | (simp only [vs_length, clampL_length, le_length]; first | done | assumption | exact hxl | rfl) | rfl | (simp; omega) | omega)) ?_
    rintro a177 ha179 hF178
    rw [ha179]; exact hK169 _ _ rfl (grown_refl _ _)
  · -- operation 1
    rintro a181 w180 b183 KK189 hs185 hd186 hJ187 hb188 hr190 hK184
    have hr190x : RD SL_ b183 a181 a151 w180 [] := hr190 _ (by kernel_rfl)
    obtain rfl : b183 = false := by cases b183; rfl; exact absurd ((hb188 rfl).2 _ rfl) (by decide)
    obtain ⟨HE, HB6, HB16, HB27, HB53, HB94, HB137, HZ157⟩ := hJ187
    have hF182 : Fr 72 a181 [] := Fr.of hs185 hd186 trivial
    have hz194 := HE.size
    have hz195 := HB6.lt
    have hz196 := HB16.lt
    have hz197 := HB27.lt
    have hz198 := HB53.lt
    have hz199 := HB94.lt
    have hz200 := HB137.lt
    have hz201 := HZ157
    refine s_call (d := 22) (f := 36) (l := [.int .u8 1]) (by kernel_rfl) hF182 cl36 (law18_num 1 _ (by omega)) ?_
    rintro a202 w191 v192 ⟨rfl, HX193⟩ ha204 hF203
    replace HE := HE.thenN HX193.g
    replace HB6 := HB6.growN HX193.g
    replace HB16 := HB16.growN HX193.g
    replace HB27 := HB27.growN HX193.g
    replace HB53 := HB53.growN HX193.g
    replace HB94 := HB94.growN HX193.g
    replace HB137 := HB137.growN HX193.g
    replace HZ157 := Nat.le_trans HZ157 HX193.g.size
    rw [ha204]; exact hK184 _ _ rfl HX193.g
  · -- operation 2
    rintro a206 w205 b208 KK214 hs210 hd211 hJ212 hb213 hr216 hK209
    have hr216x : RD SL_ b208 a206 a151 w205 [(4, none)] := hr216 _ (by kernel_rfl)
    obtain ⟨q215, -⟩ := hr216x
    obtain rfl : b208 = false := by cases b208; rfl; exact absurd ((hb213 rfl).2 _ rfl) (by decide)
    obtain ⟨HE, HB6, HB16, HB27, HB53, HB94, HB137, HZ157⟩ := hJ212
    have hF207 : Fr 72 a206 [(4, .pointer (some ⟨b13, 0, none⟩))] := Fr.of hs210 hd211 ⟨(Fr.init hF154 q215 (by kernel_rfl)), trivial⟩
    refine s_loadA hT (d := 23) (b := b13) (off := 0) (sz := 32) (l := vs .u8 ys) (by kernel_rfl) hF207 HB16.cells (by (first | (simp only [vs_length, vi_length]; omega) | (simp only [vs_length, le_length]; done) | (simp only [vs_length, le_length]; first | rfl | assumption | (symm; assumption) | omega | (simp; done)) | (simp only [vs_length, clampL_length, le_length]; first | done | assumption | exact hxl | rfl) | rfl | (simp; omega) | omega)) ?_
    rintro a217 ha219 hF218
    rw [ha219]; exact hK209 _ _ rfl (grown_refl _ _)
  · -- operation 3
    rintro a221 w220 b223 KK229 hs225 hd226 hJ227 hb228 hr239 hK224
    have hr239x : RD SL_ b223 a221 a151 w220 [(21, some 0), (22, some 1), (23, some 2)] := hr239 _ (by kernel_rfl)
    obtain ⟨⟨v231, q230, s232⟩, ⟨v234, q233, s235⟩, ⟨v237, q236, s238⟩, -⟩ := hr239x
    obtain rfl : v231 = .agg (vs .u8 xs).toArray := s232
    obtain rfl : v234 = .agg (vs .u8 [1, 0, 0, 0, 0, 0, 0, 0, 0, 0, 0, 0, 0, 0, 0, 0, 0, 0, 0, 0, 0, 0, 0, 0, 0, 0, 0, 0, 0, 0, 0, 0]).toArray := s235
    obtain rfl : v237 = .agg (vs .u8 ys).toArray := s238
    obtain rfl : b223 = false := by cases b223; rfl; exact absurd ((hb228 rfl).2 _ rfl) (by decide)
    obtain ⟨HE, HB6, HB16, HB27, HB53, HB94, HB137, HZ157⟩ := hJ227
    have hF222 : Fr 72 a221 [(21, .agg (vs .u8 xs).toArray), (22, .agg (vs .u8 [1, 0, 0, 0, 0, 0, 0, 0, 0, 0, 0, 0, 0, 0, 0, 0, 0, 0, 0, 0, 0, 0, 0, 0, 0, 0, 0, 0, 0, 0, 0, 0]).toArray), (23, .agg (vs .u8 ys).toArray)] := Fr.of hs225 hd226 ⟨q230, q233, q236, trivial⟩
    have hz243 := HE.size
    have hz244 := HB6.lt
    have hz245 := HB16.lt
    have hz246 := HB27.lt
    have hz247 := HB53.lt
    have hz248 := HB94.lt
    have hz249 := HB137.lt
    have hz250 := HZ157
    refine s_call (d := 24) (f := 32) (l := [.agg (vs .u8 xs).toArray, .agg (vs .u8 [1, 0, 0, 0, 0, 0, 0, 0, 0, 0, 0, 0, 0, 0, 0, 0, 0, 0, 0, 0, 0, 0, 0, 0, 0, 0, 0, 0, 0, 0, 0, 0]).toArray, .agg (vs .u8 ys).toArray]) (by kernel_rfl) hF222 cl32 (scal_MulAdd xs (nv 256 xs) [1, 0, 0, 0, 0, 0, 0, 0, 0, 0, 0, 0, 0, 0, 0, 0, 0, 0, 0, 0, 0, 0, 0, 0, 0, 0, 0, 0, 0, 0, 0, 0] 1 ys (nv 256 ys) _ rfl (by first | rfl | exact le_length _ _ | assumption) hbx rfl rfl (byL rfl) rfl (by first | rfl | exact le_length _ _ | assumption) hby) ?_
    rintro a251 w240 v241 ⟨rfl, HX242⟩ ha253 hF252
    replace HE := HE.thenN HX242.g
    replace HB6 := HB6.growN HX242.g
    replace HB16 := HB16.growN HX242.g
    replace HB27 := HB27.growN HX242.g
    replace HB53 := HB53.growN HX242.g
    replace HB94 := HB94.growN HX242.g
    replace HB137 := HB137.growN HX242.g
    replace HZ157 := Nat.le_trans HZ157 HX242.g.size
    rw [ha253]; exact hK224 _ _ rfl HX242.g
  · -- operation 4
    rintro a255 w254 b257 KK263 hs259 hd260 hJ261 hb262 hr264 hK258
    have hr264x : RD SL_ b257 a255 a151 w254 [] := hr264 _ (by kernel_rfl)
    obtain rfl : b257 = false := by cases b257; rfl; exact absurd ((hb262 rfl).2 _ rfl) (by decide)
    obtain ⟨HE, HB6, HB16, HB27, HB53, HB94, HB137, HZ157⟩ := hJ261
    have hF256 : Fr 72 a255 [] := Fr.of hs259 hd260 trivial
    have hz271 := HE.size
    have hz272 := HB6.lt
    have hz273 := HB16.lt
    have hz274 := HB27.lt
    have hz275 := HB53.lt
    have hz276 := HB94.lt
    have hz277 := HB137.lt
    have hz278 := HZ157
    refine s_alloc hT (d := 10) (T := 32) (l := vs .u8 [0, 0, 0, 0, 0, 0, 0, 0, 0, 0, 0, 0, 0, 0, 0, 0, 0, 0, 0, 0, 0, 0, 0, 0, 0, 0, 0, 0, 0, 0, 0, 0]) (by kernel_rfl) hF256 ?_
    rintro a279 w266 b265 h269 h270 HB268 g267 ha281 hF280
    replace HE := HE.thenN g267
    replace HB6 := HB6.growN g267
    replace HB16 := HB16.growN g267
    replace HB27 := HB27.growN g267
    replace HB53 := HB53.growN g267
    replace HB94 := HB94.growN g267
    replace HB137 := HB137.growN g267
    replace HZ157 := Nat.le_trans HZ157 g267.size
    rw [ha281]; exact hK258 _ _ ⟨_, rfl, (by omega), fun _ => HB268, fun e => absurd e (by decide)⟩ g267
  · -- operation 5
    rintro a283 w282 b285 KK291 hs287 hd288 hJ289 hb290 hr303 hK286
    have hr303x : RD SL_ b285 a283 a151 w282 [(10, some 4), (24, some 3)] := hr303 _ (by kernel_rfl)
    obtain ⟨⟨v293, q292, s294⟩, ⟨v301, q300, s302⟩, -⟩ := hr303x
    obtain ⟨b295, rfl, h296, h297, h298⟩ := s294
    obtain rfl : v301 = .agg (vs .u8 (le 32 (((nv 256 xs) * 1 + (nv 256 ys)) % Lq))).toArray := s302
    obtain rfl : b285 = false := by cases b285; rfl; exact absurd rfl (hb290 rfl).1
    have HB299 := h297 rfl
    obtain ⟨HE, HB6, HB16, HB27, HB53, HB94, HB137, HZ157⟩ := hJ289
    have hF284 : Fr 72 a283 [(10, .pointer (some ⟨b295, 0, none⟩)), (24, .agg (vs .u8 (le 32 (((nv 256 xs) * 1 + (nv 256 ys)) % Lq))).toArray)] := Fr.of hs287 hd288 ⟨q292, q300, trivial⟩
    refine s_storeV hT (b := b295) (l2 := vs .u8 (le 32 (((nv 256 xs) * 1 + (nv 256 ys)) % Lq))) (sz := 32) (by kernel_rfl) hF284 HB299 (by first | rfl | (simp only [vs_length, vi_length]; first | assumption | omega) | (simp only [vs_length, le_length]; done) | (simp only [vs_length, le_length]; first | rfl | assumption | (symm; assumption) | omega | (simp; done)) | (simp only [vs_length, clampL_length, le_length]; first | done | assumption | exact hxl | rfl) | rfl | (simp; done)) (by first | rfl | (simp only [vs_length, vi_length]; first | assumption | omega) | (simp only [vs_length, le_length]; done) | (simp only [vs_length, le_length]; first | rfl | assumption | (symm; assumption) | omega | (simp; done)) | (simp only [vs_length, clampL_length, le_length]; first | done | assumption | exact hxl | rfl) | rfl | (simp; done) | (simp only [vs_length, vi_length]; simp; omega)) (by exact vs_one) ?_
    rintro a306 w304 ha308 hF307 HB299x g305; replace HB299 := HB299x
    replace HE := HE.thenS g305 (by first | omega | (simp only [clampL_length]; omega))
    replace HB6 := HB6.growS g305 (by first | omega | (simp only [clampL_length]; omega))
    replace HB16 := HB16.growS g305 (by first | omega | (simp only [clampL_length]; omega))
    replace HB27 := HB27.growS g305 (by first | omega | (simp only [clampL_length]; omega))
    replace HB53 := HB53.growS g305 (by first | omega | (simp only [clampL_length]; omega))
    replace HB94 := HB94.growS g305 (by first | omega | (simp only [clampL_length]; omega))
    replace HB137 := HB137.growS g305 (by first | omega | (simp only [clampL_length]; omega))
    replace HZ157 := Nat.le_trans HZ157 g305.size
    rw [ha308]; exact hK286 undef _ trivial ⟨⟨.inl rfl, .inl rfl, .inl rfl, .inl rfl, .inr (fun d v hd hv q => by cases hd; rw [q292] at hv; cases hv; exact ⟨_, rfl, h296, fun h => absurd h (by decide), fun _ => HB299⟩), .inl rfl, trivial⟩, ⟨HE, HB6, HB16, HB27, HB53, HB94, HB137, HZ157⟩⟩
  · -- behind the region
    rintro a310 w311 hs312 hd313 ⟨⟨v315, q316, s317⟩, q323, q324, q325, q326, q327, q328, q329, q330, q331, q332, -⟩ ⟨HE, HB6, HB16, HB27, HB53, HB94, HB137, HZ157⟩
    obtain ⟨b318, rfl, h319, h320, h321⟩ := s317
    have HB322 := h321 rfl
    have hF333 : Fr 72 a310 [(10, .pointer (some ⟨b318, 0, none⟩)), (9, .pointer (some ⟨b134, 0, none⟩)), (8, .pointer (some ⟨b91, 0, none⟩)), (7, .pointer (some ⟨b50, 0, none⟩)), (6, .bool false), (5, .pointer (some ⟨b24, 0, none⟩)), (4, .pointer (some ⟨b13, 0, none⟩)), (3, .pointer (some ⟨b3, 0, none⟩)), (0, .agg (vs .u8 xs).toArray), (1, .agg (vs .u8 ys).toArray), (2, .agg (vs .u8 zs).toArray)] := Fr.of hs312 hd313 ⟨q316, (Fr.init hF154 q323 (by kernel_rfl)), (Fr.init hF154 q324 (by kernel_rfl)), (Fr.init hF154 q325 (by kernel_rfl)), (Fr.init hF154 q326 (by kernel_rfl)), (Fr.init hF154 q327 (by kernel_rfl)), (Fr.init hF154 q328 (by kernel_rfl)), (Fr.init hF154 q329 (by kernel_rfl)), (Fr.init hF154 q330 (by kernel_rfl)), (Fr.init hF154 q331 (by kernel_rfl)), (Fr.init hF154 q332 (by kernel_rfl)), trivial⟩
    clear hF154 hs312 hd313 q316 q323 q324 q325 q326 q327 q328 q329 q330 q331 q332
    refine hK156 _ _ ?_
    refine wp_seq_k (fun K334 hK335 => ?_)
    refine wp_region_lit ?_
    refine wl (s_loadA hT (d := 25) (b := b3) (off := 0) (sz := 32) (l := vs .u8 xs) (by kernel_rfl) hF333 HB6.cells (by (first | (simp only [vs_length, vi_length]; omega) | (simp only [vs_length, le_length]; done) | (simp only [vs_length, le_length]; first | rfl | assumption | (symm; assumption) | omega | (simp; done)) | (simp only [vs_length, clampL_length, le_length]; first | done | assumption | exact hxl | rfl) | rfl | (simp; omega) | omega)) ?_)
    rintro a336 ha338 hF337; clear ha338 hF333 a310
    have hz342 := HE.size
    have hz343 := HB6.lt
    have hz344 := HB16.lt
    have hz345 := HB27.lt
    have hz346 := HB53.lt
    have hz347 := HB94.lt
    have hz348 := HB137.lt
    have hz349 := HB322.lt
    refine wl (s_call (d := 26) (f := 34) (l := [.agg (vs .u8 xs).toArray]) (by kernel_rfl) hF337 cl34 (scal_Clamp xs _ (by first | rfl | exact le_length _ _ | assumption) hbx) ?_)
    rintro a350 w339 v340 ⟨rfl, HX341⟩ ha352 hF351; clear ha352 hF337 a336
    replace HE := HE.thenN HX341.g
    replace HB6 := HB6.growN HX341.g
    replace HB16 := HB16.growN HX341.g
    replace HB27 := HB27.growN HX341.g
    replace HB53 := HB53.growN HX341.g
    replace HB94 := HB94.growN HX341.g
    replace HB137 := HB137.growN HX341.g
    replace HB322 := HB322.growN HX341.g
    have hz359 := HE.size
    have hz360 := HB6.lt
    have hz361 := HB16.lt
    have hz362 := HB27.lt
    have hz363 := HB53.lt
    have hz364 := HB94.lt
    have hz365 := HB137.lt
    have hz366 := HB322.lt
    refine wl (s_alloc hT (d := 11) (T := 32) (l := vs .u8 [0, 0, 0, 0, 0, 0, 0, 0, 0, 0, 0, 0, 0, 0, 0, 0, 0, 0, 0, 0, 0, 0, 0, 0, 0, 0, 0, 0, 0, 0, 0, 0]) (by kernel_rfl) hF351 ?_)
    rintro a367 w354 b353 h357 h358 HB356 g355 ha369 hF368; clear ha369 hF351 a350
    replace HE := HE.thenN g355
    replace HB6 := HB6.growN g355
    replace HB16 := HB16.growN g355
    replace HB27 := HB27.growN g355
    replace HB53 := HB53.growN g355
    replace HB94 := HB94.growN g355
    replace HB137 := HB137.growN g355
    replace HB322 := HB322.growN g355
    refine wl (s_storeV hT (b := b353) (l2 := vs .u8 (clampL xs)) (sz := 32) (by kernel_rfl) hF368 HB356 (by first | rfl | (simp only [vs_length, vi_length]; first | assumption | omega) | (simp only [vs_length, le_length]; done) | (simp only [vs_length, le_length]; first | rfl | assumption | (symm; assumption) | omega | (simp; done)) | (simp only [vs_length, clampL_length, le_length]; first | done | assumption | exact hxl | rfl) | rfl | (simp; done)) (by first | rfl | (simp only [vs_length, vi_length]; first | assumption | omega) | (simp only [vs_length, le_length]; done) | (simp only [vs_length, le_length]; first | rfl | assumption | (symm; assumption) | omega | (simp; done)) | (simp only [vs_length, clampL_length, le_length]; first | done | assumption | exact hxl | rfl) | rfl | (simp; done) | (simp only [vs_length, vi_length]; simp; omega)) (by exact vs_one) ?_)
    rintro a372 w370 ha374 hF373 HB356x g371; clear ha374 hF368 a367; replace HB356 := HB356x
    replace HE := HE.thenS g371 (by first | omega | (simp only [clampL_length]; omega))
    replace HB6 := HB6.growS g371 (by first | omega | (simp only [clampL_length]; omega))
    replace HB16 := HB16.growS g371 (by first | omega | (simp only [clampL_length]; omega))
    replace HB27 := HB27.growS g371 (by first | omega | (simp only [clampL_length]; omega))
    replace HB53 := HB53.growS g371 (by first | omega | (simp only [clampL_length]; omega))
    replace HB94 := HB94.growS g371 (by first | omega | (simp only [clampL_length]; omega))
    replace HB137 := HB137.growS g371 (by first | omega | (simp only [clampL_length]; omega))
    replace HB322 := HB322.growS g371 (by first | omega | (simp only [clampL_length]; omega))
    refine wpList_nil ?_
    have hF375 := hF373.pick [11, 10, 9, 8, 7, 6, 5, 4, 3, 0, 1, 2] (G := [(11, .pointer (some ⟨b353, 0, none⟩)), (10, .pointer (some ⟨b318, 0, none⟩)), (9, .pointer (some ⟨b134, 0, none⟩)), (8, .pointer (some ⟨b91, 0, none⟩)), (7, .pointer (some ⟨b50, 0, none⟩)), (6, .bool false), (5, .pointer (some ⟨b24, 0, none⟩)), (4, .pointer (some ⟨b13, 0, none⟩)), (3, .pointer (some ⟨b3, 0, none⟩)), (0, .agg (vs .u8 xs).toArray), (1, .agg (vs .u8 ys).toArray), (2, .agg (vs .u8 zs).toArray)]) (by kernel_rfl); clear hF373
    refine hK335 _ _ ?_
    refine wp_seq_k (fun K376 hK377 => ?_)
    let SL_ : List SP := [SP.val (.bool true), SP.val (.bool true), SP.val (.agg (vs .u8 (le 32 (((nv 256 xs) * (nv 256 ys) + 0) % Lq))).toArray), SP.val (.agg (vs .u8 zs).toArray), SP.val (.agg (vs .u8 [0, 0, 0, 0, 0, 0, 0, 0, 0, 0, 0, 0, 0, 0, 0, 0, 0, 0, 0, 0, 0, 0, 0, 0, 0, 0, 0, 0, 0, 0, 0, 0]).toArray), SP.val (.agg (vs .u8 (le 32 (((((nv 256 xs) * (nv 256 ys) + 0) % Lq) * (nv 256 zs) + 0) % Lq))).toArray), SP.val (.agg (vs .u8 xs).toArray), SP.val (.agg (vs .u8 (le 32 (((nv 256 ys) * (nv 256 zs) + 0) % Lq))).toArray), SP.val (.agg (vs .u8 [0, 0, 0, 0, 0, 0, 0, 0, 0, 0, 0, 0, 0, 0, 0, 0, 0, 0, 0, 0, 0, 0, 0, 0, 0, 0, 0, 0, 0, 0, 0, 0]).toArray), SP.val (.agg (vs .u8 (le 32 (((nv 256 xs) * (((nv 256 ys) * (nv 256 zs) + 0) % Lq) + 0) % Lq))).toArray), SP.val (.bool true), SP.val (.bool true), SP.val (.bool true), SP.val (.agg (vs .u8 (le 32 (((nv 256 xs) * 1 + (nv 256 ys)) % Lq))).toArray), SP.val (.agg (vs .u8 zs).toArray), SP.val (.agg (vs .u8 [0, 0, 0, 0, 0, 0, 0, 0, 0, 0, 0, 0, 0, 0, 0, 0, 0, 0, 0, 0, 0, 0, 0, 0, 0, 0, 0, 0, 0, 0, 0, 0]).toArray), SP.val (.agg (vs .u8 (le 32 (((((nv 256 xs) * 1 + (nv 256 ys)) % Lq) * (nv 256 zs) + 0) % Lq))).toArray), SP.val (.agg (vs .u8 xs).toArray), SP.val (.agg (vs .u8 zs).toArray), SP.val (.agg (vs .u8 (le 32 (((nv 256 ys) * (nv 256 zs) + 0) % Lq))).toArray), SP.val (.agg (vs .u8 (le 32 (((nv 256 xs) * (nv 256 zs) + (((nv 256 ys) * (nv 256 zs) + 0) % Lq)) % Lq))).toArray), SP.val (.bool true), SP.val (.bool true), SP.val (.bool true), SP.val (.agg (vs .u8 (clampL xs)).toArray), SP.val (.agg (vs .u8 (clampL (clampL xs))).toArray), SP.val (.agg (vs .u8 (clampL xs)).toArray), SP.val (.bool true), SP.val (.bool true), SP.val (.bool true), SP.val (.pointer (some ⟨b353, 0, none⟩)), SP.val (.int .u8 ((((clampL xs).getD 0 0) : Nat) : Int)), SP.val (.int .u8 (((((clampL xs).getD 0 0) % 8) : Nat) : Int)), SP.val (.bool true), SP.val (.bool true), SP.val (.bool true), SP.val (.pointer (some ⟨b353, 31, none⟩)), SP.val (.int .u8 ((((clampL xs).getD 31 0) : Nat) : Int)), SP.val (.bool true), SP.val (.bool true), SP.val (.bool true), SP.val (.pointer (some ⟨b353, 31, none⟩)), SP.val (.int .u8 ((((clampL xs).getD 31 0) : Nat) : Int)), SP.val (.bool true), SP.val (.bool true), SP.val (.bool true)]
    refine region_rel (SL := SL_) (J := (fun (b : Bool) (W : World) => (Ex w W) ∧ (Blk W b3 32 (vs .u8 xs)) ∧ (Blk W b13 32 (vs .u8 ys)) ∧ (Blk W b24 32 (vs .u8 zs)) ∧ (Blk W b50 32 (vs .u8 [0, 0, 0, 0, 0, 0, 0, 0, 0, 0, 0, 0, 0, 0, 0, 0, 0, 0, 0, 0, 0, 0, 0, 0, 0, 0, 0, 0, 0, 0, 0, 0])) ∧ (Blk W b91 32 (vs .u8 (le 32 (((nv 256 xs) * (nv 256 ys) + 0) % Lq)))) ∧ (Blk W b134 32 (vs .u8 (le 32 (((nv 256 ys) * (nv 256 zs) + 0) % Lq)))) ∧ (Blk W b318 32 (vs .u8 (le 32 (((nv 256 xs) * 1 + (nv 256 ys)) % Lq)))) ∧ (Blk W b353 32 (vs .u8 (clampL xs))))) (m := 46) wide (by kernel_rfl) (by kernel_rfl) hF375 rfl ?_ ⟨HE, HB6, HB16, HB27, HB53, HB94, HB137, HB322, HB356⟩ ⟨?_, ?_, ?_, ?_, ?_, ?_, ?_, ?_, ?_, ?_, ?_, ?_, ?_, ?_, ?_, ?_, ?_, ?_, ?_, ?_, ?_, ?_, ?_, ?_, ?_, ?_, ?_, ?_, ?_, ?_, ?_, ?_, ?_, ?_, ?_, ?_, ?_, ?_, ?_, ?_, ?_, ?_, ?_, ?_, ?_, ?_, trivial⟩ [(6, some 45), (11, none), (10, none), (9, none), (8, none), (7, none), (5, none), (4, none), (3, none), (0, none), (1, none), (2, none)] (by kernel_rfl) ?_
    · intro b W W' hj g; cases b <;> exact ⟨hj.1.thenN g, hj.2.1.growN g, hj.2.2.1.growN g, hj.2.2.2.1.growN g, hj.2.2.2.2.1.growN g, hj.2.2.2.2.2.1.growN g, hj.2.2.2.2.2.2.1.growN g, hj.2.2.2.2.2.2.2.1.growN g, hj.2.2.2.2.2.2.2.2.growN g⟩
    · -- operation 0
      rintro a379 w378 b381 KK387 hs383 hd384 hJ385 hb386 hr388 hK382
      have hr388x : RD SL_ b381 a379 a372 w378 [] := hr388 _ (by kernel_rfl)
      obtain ⟨HE, HB6, HB16, HB27, HB53, HB94, HB137, HB322, HB356⟩ := hJ385
      have hF380 : Fr 72 a379 [] := Fr.of hs383 hd384 trivial
      have hz392 := HE.size
      have hz393 := HB6.lt
      have hz394 := HB16.lt
      have hz395 := HB27.lt
      have hz396 := HB53.lt
      have hz397 := HB94.lt
      have hz398 := HB137.lt
      have hz399 := HB322.lt
      have hz400 := HB356.lt
      refine s_call (d := 27) (f := 28) (l := []) (by kernel_rfl) hF380 cl28 (law18_awake _) ?_
      rintro a401 w389 v390 ⟨rfl, HX391⟩ ha403 hF402
      replace HE := HE.thenN HX391.g
      replace HB6 := HB6.growN HX391.g
      replace HB16 := HB16.growN HX391.g
      replace HB27 := HB27.growN HX391.g
      replace HB53 := HB53.growN HX391.g
      replace HB94 := HB94.growN HX391.g
      replace HB137 := HB137.growN HX391.g
      replace HB322 := HB322.growN HX391.g
      replace HB356 := HB356.growN HX391.g
      rw [ha403]; exact hK382 _ _ rfl HX391.g
    · -- operation 1
      rintro a405 w404 b407 KK413 hs409 hd410 hJ411 hb412 hr417 hK408
      have hr417x : RD SL_ b407 a405 a372 w404 [(27, some 0)] := hr417 _ (by kernel_rfl)
      obtain ⟨⟨v415, q414, s416⟩, -⟩ := hr417x
      obtain rfl : v415 = .bool true := s416
      obtain ⟨HE, HB6, HB16, HB27, HB53, HB94, HB137, HB322, HB356⟩ := hJ411
      have hF406 : Fr 72 a405 [(27, .bool true)] := Fr.of hs409 hd410 ⟨q414, trivial⟩
      refine s_pure hT (d := 28) (v := .bool true) (cs := []) (by kernel_rfl) (by kernel_rfl) trivial hF406 ?_
      rintro a2 ha2 hF2; rw [ha2]; exact hK408 _ _ rfl (grown_refl _ _)
    · -- operation 2
      rintro a419 w418 b421 KK427 hs423 hd424 hJ425 hb426 hr432 hK422
      have hr432x : RD SL_ b421 a419 a372 w418 [(8, none), (28, some 1)] := hr432 _ (by kernel_rfl)
      obtain ⟨q428, ⟨v430, q429, s431⟩, -⟩ := hr432x
      obtain rfl : v430 = .bool true := s431
      obtain ⟨HE, HB6, HB16, HB27, HB53, HB94, HB137, HB322, HB356⟩ := hJ425
      have hF420 : Fr 72 a419 [(8, .pointer (some ⟨b91, 0, none⟩)), (28, .bool true)] := Fr.of hs423 hd424 ⟨(Fr.init hF375 q428 (by kernel_rfl)), q429, trivial⟩
      refine One.bare hF420 (by kernel_rfl) (s_loadA hT (d := 29) (b := b91) (off := 0) (sz := 32) (l := vs .u8 (le 32 (((nv 256 xs) * (nv 256 ys) + 0) % Lq))) (by kernel_rfl) hF420 HB94.cells (by (first | (simp only [vs_length, vi_length]; omega) | (simp only [vs_length, le_length]; done) | (simp only [vs_length, le_length]; first | rfl | assumption | (symm; assumption) | omega | (simp; done)) | (simp only [vs_length, clampL_length, le_length]; first | done | assumption | exact hxl | rfl) | rfl | (simp; omega) | omega)) ?_)
      rintro a433 ha435 hF434
      rw [ha435]; exact hK422 _ _ rfl (grown_refl _ _)
    · -- operation 3
      rintro a437 w436 b439 KK445 hs441 hd442 hJ443 hb444 hr450 hK440
      have hr450x : RD SL_ b439 a437 a372 w436 [(5, none), (28, some 1)] := hr450 _ (by kernel_rfl)
      obtain ⟨q446, ⟨v448, q447, s449⟩, -⟩ := hr450x
      obtain rfl : v448 = .bool true := s449
      obtain ⟨HE, HB6, HB16, HB27, HB53, HB94, HB137, HB322, HB356⟩ := hJ443
      have hF438 : Fr 72 a437 [(5, .pointer (some ⟨b24, 0, none⟩)), (28, .bool true)] := Fr.of hs441 hd442 ⟨(Fr.init hF375 q446 (by kernel_rfl)), q447, trivial⟩
      refine One.bare hF438 (by kernel_rfl) (s_loadA hT (d := 30) (b := b24) (off := 0) (sz := 32) (l := vs .u8 zs) (by kernel_rfl) hF438 HB27.cells (by (first | (simp only [vs_length, vi_length]; omega) | (simp only [vs_length, le_length]; done) | (simp only [vs_length, le_length]; first | rfl | assumption | (symm; assumption) | omega | (simp; done)) | (simp only [vs_length, clampL_length, le_length]; first | done | assumption | exact hxl | rfl) | rfl | (simp; omega) | omega)) ?_)
      rintro a451 ha453 hF452
      rw [ha453]; exact hK440 _ _ rfl (grown_refl _ _)
    · -- operation 4
      rintro a455 w454 b457 KK463 hs459 hd460 hJ461 hb462 hr468 hK458
      have hr468x : RD SL_ b457 a455 a372 w454 [(7, none), (28, some 1)] := hr468 _ (by kernel_rfl)
      obtain ⟨q464, ⟨v466, q465, s467⟩, -⟩ := hr468x
      obtain rfl : v466 = .bool true := s467
      obtain ⟨HE, HB6, HB16, HB27, HB53, HB94, HB137, HB322, HB356⟩ := hJ461
      have hF456 : Fr 72 a455 [(7, .pointer (some ⟨b50, 0, none⟩)), (28, .bool true)] := Fr.of hs459 hd460 ⟨(Fr.init hF375 q464 (by kernel_rfl)), q465, trivial⟩
      refine One.bare hF456 (by kernel_rfl) (s_loadA hT (d := 31) (b := b50) (off := 0) (sz := 32) (l := vs .u8 [0, 0, 0, 0, 0, 0, 0, 0, 0, 0, 0, 0, 0, 0, 0, 0, 0, 0, 0, 0, 0, 0, 0, 0, 0, 0, 0, 0, 0, 0, 0, 0]) (by kernel_rfl) hF456 HB53.cells (by (first | (simp only [vs_length, vi_length]; omega) | (simp only [vs_length, le_length]; done) | (simp only [vs_length, le_length]; first | rfl | assumption | (symm; assumption) | omega | (simp; done)) | (simp only [vs_length, clampL_length, le_length]; first | done | assumption | exact hxl | rfl) | rfl | (simp; omega) | omega)) ?_)
      rintro a469 ha471 hF470
      rw [ha471]; exact hK458 _ _ rfl (grown_refl _ _)
    · -- operation 5
      rintro a473 w472 b475 KK481 hs477 hd478 hJ479 hb480 hr494 hK476
      have hr494x : RD SL_ b475 a473 a372 w472 [(29, some 2), (30, some 3), (31, some 4), (28, some 1)] := hr494 _ (by kernel_rfl)
      obtain ⟨⟨v483, q482, s484⟩, ⟨v486, q485, s487⟩, ⟨v489, q488, s490⟩, ⟨v492, q491, s493⟩, -⟩ := hr494x
      obtain rfl : v483 = .agg (vs .u8 (le 32 (((nv 256 xs) * (nv 256 ys) + 0) % Lq))).toArray := s484
      obtain rfl : v486 = .agg (vs .u8 zs).toArray := s487
      obtain rfl : v489 = .agg (vs .u8 [0, 0, 0, 0, 0, 0, 0, 0, 0, 0, 0, 0, 0, 0, 0, 0, 0, 0, 0, 0, 0, 0, 0, 0, 0, 0, 0, 0, 0, 0, 0, 0]).toArray := s490
      obtain rfl : v492 = .bool true := s493
      obtain ⟨HE, HB6, HB16, HB27, HB53, HB94, HB137, HB322, HB356⟩ := hJ479
      have hF474 : Fr 72 a473 [(29, .agg (vs .u8 (le 32 (((nv 256 xs) * (nv 256 ys) + 0) % Lq))).toArray), (30, .agg (vs .u8 zs).toArray), (31, .agg (vs .u8 [0, 0, 0, 0, 0, 0, 0, 0, 0, 0, 0, 0, 0, 0, 0, 0, 0, 0, 0, 0, 0, 0, 0, 0, 0, 0, 0, 0, 0, 0, 0, 0]).toArray), (28, .bool true)] := Fr.of hs477 hd478 ⟨q482, q485, q488, q491, trivial⟩
      have hz498 := HE.size
      have hz499 := HB6.lt
      have hz500 := HB16.lt
      have hz501 := HB27.lt
      have hz502 := HB53.lt
      have hz503 := HB94.lt
      have hz504 := HB137.lt
      have hz505 := HB322.lt
      have hz506 := HB356.lt
      refine One.bare hF474 (by kernel_rfl) (s_call (d := 32) (f := 32) (l := [.agg (vs .u8 (le 32 (((nv 256 xs) * (nv 256 ys) + 0) % Lq))).toArray, .agg (vs .u8 zs).toArray, .agg (vs .u8 [0, 0, 0, 0, 0, 0, 0, 0, 0, 0, 0, 0, 0, 0, 0, 0, 0, 0, 0, 0, 0, 0, 0, 0, 0, 0, 0, 0, 0, 0, 0, 0]).toArray]) (by kernel_rfl) hF474 cl32 (scal_MulAdd (le 32 (((nv 256 xs) * (nv 256 ys) + 0) % Lq)) (((nv 256 xs) * (nv 256 ys) + 0) % Lq) zs (nv 256 zs) [0, 0, 0, 0, 0, 0, 0, 0, 0, 0, 0, 0, 0, 0, 0, 0, 0, 0, 0, 0, 0, 0, 0, 0, 0, 0, 0, 0, 0, 0, 0, 0] 0 _ (nvle _) (by first | rfl | exact le_length _ _ | assumption) (by_le _ _) rfl (by first | rfl | exact le_length _ _ | assumption) hbz rfl rfl (byL rfl)) ?_)
      rintro a507 w495 v496 ⟨rfl, HX497⟩ ha509 hF508
      replace HE := HE.thenN HX497.g
      replace HB6 := HB6.growN HX497.g
      replace HB16 := HB16.growN HX497.g
      replace HB27 := HB27.growN HX497.g
      replace HB53 := HB53.growN HX497.g
      replace HB94 := HB94.growN HX497.g
      replace HB137 := HB137.growN HX497.g
      replace HB322 := HB322.growN HX497.g
      replace HB356 := HB356.growN HX497.g
      rw [ha509]; exact hK476 _ _ rfl HX497.g
    · -- operation 6
      rintro a511 w510 b513 KK519 hs515 hd516 hJ517 hb518 hr524 hK514
      have hr524x : RD SL_ b513 a511 a372 w510 [(3, none), (28, some 1)] := hr524 _ (by kernel_rfl)
      obtain ⟨q520, ⟨v522, q521, s523⟩, -⟩ := hr524x
      obtain rfl : v522 = .bool true := s523
      obtain ⟨HE, HB6, HB16, HB27, HB53, HB94, HB137, HB322, HB356⟩ := hJ517
      have hF512 : Fr 72 a511 [(3, .pointer (some ⟨b3, 0, none⟩)), (28, .bool true)] := Fr.of hs515 hd516 ⟨(Fr.init hF375 q520 (by kernel_rfl)), q521, trivial⟩
      refine One.bare hF512 (by kernel_rfl) (s_loadA hT (d := 33) (b := b3) (off := 0) (sz := 32) (l := vs .u8 xs) (by kernel_rfl) hF512 HB6.cells (by (first | (simp only [vs_length, vi_length]; omega) | (simp only [vs_length, le_length]; done) | (simp only [vs_length, le_length]; first | rfl | assumption | (symm; assumption) | omega | (simp; done)) | (simp only [vs_length, clampL_length, le_length]; first | done | assumption | exact hxl | rfl) | rfl | (simp; omega) | omega)) ?_)
      rintro a525 ha527 hF526
      rw [ha527]; exact hK514 _ _ rfl (grown_refl _ _)
    · -- operation 7
      rintro a529 w528 b531 KK537 hs533 hd534 hJ535 hb536 hr542 hK532
      have hr542x : RD SL_ b531 a529 a372 w528 [(9, none), (28, some 1)] := hr542 _ (by kernel_rfl)
      obtain ⟨q538, ⟨v540, q539, s541⟩, -⟩ := hr542x
      obtain rfl : v540 = .bool true := s541
      obtain ⟨HE, HB6, HB16, HB27, HB53, HB94, HB137, HB322, HB356⟩ := hJ535
      have hF530 : Fr 72 a529 [(9, .pointer (some ⟨b134, 0, none⟩)), (28, .bool true)] := Fr.of hs533 hd534 ⟨(Fr.init hF375 q538 (by kernel_rfl)), q539, trivial⟩
      refine One.bare hF530 (by kernel_rfl) (s_loadA hT (d := 34) (b := b134) (off := 0) (sz := 32) (l := vs .u8 (le 32 (((nv 256 ys) * (nv 256 zs) + 0) % Lq))) (by kernel_rfl) hF530 HB137.cells (by (first | (simp only [vs_length, vi_length]; omega) | (simp only [vs_length, le_length]; done) | (simp only [vs_length, le_length]; first | rfl | assumption | (symm; assumption) | omega | (simp; done)) | (simp only [vs_length, clampL_length, le_length]; first | done | assumption | exact hxl | rfl) | rfl | (simp; omega) | omega)) ?_)
      rintro a543 ha545 hF544
      rw [ha545]; exact hK532 _ _ rfl (grown_refl _ _)
    · -- operation 8
      rintro a547 w546 b549 KK555 hs551 hd552 hJ553 hb554 hr560 hK550
      have hr560x : RD SL_ b549 a547 a372 w546 [(7, none), (28, some 1)] := hr560 _ (by kernel_rfl)
      obtain ⟨q556, ⟨v558, q557, s559⟩, -⟩ := hr560x
      obtain rfl : v558 = .bool true := s559
      obtain ⟨HE, HB6, HB16, HB27, HB53, HB94, HB137, HB322, HB356⟩ := hJ553
      have hF548 : Fr 72 a547 [(7, .pointer (some ⟨b50, 0, none⟩)), (28, .bool true)] := Fr.of hs551 hd552 ⟨(Fr.init hF375 q556 (by kernel_rfl)), q557, trivial⟩
      refine One.bare hF548 (by kernel_rfl) (s_loadA hT (d := 35) (b := b50) (off := 0) (sz := 32) (l := vs .u8 [0, 0, 0, 0, 0, 0, 0, 0, 0, 0, 0, 0, 0, 0, 0, 0, 0, 0, 0, 0, 0, 0, 0, 0, 0, 0, 0, 0, 0, 0, 0, 0]) (by kernel_rfl) hF548 HB53.cells (by (first | (simp only [vs_length, vi_length]; omega) | (simp only [vs_length, le_length]; done) | (simp only [vs_length, le_length]; first | rfl | assumption | (symm; assumption) | omega | (simp; done)) | (simp only [vs_length, clampL_length, le_length]; first | done | assumption | exact hxl | rfl) | rfl | (simp; omega) | omega)) ?_)
      rintro a561 ha563 hF562
      rw [ha563]; exact hK550 _ _ rfl (grown_refl _ _)
    · -- operation 9
      rintro a565 w564 b567 KK573 hs569 hd570 hJ571 hb572 hr586 hK568
      have hr586x : RD SL_ b567 a565 a372 w564 [(33, some 6), (34, some 7), (35, some 8), (28, some 1)] := hr586 _ (by kernel_rfl)
      obtain ⟨⟨v575, q574, s576⟩, ⟨v578, q577, s579⟩, ⟨v581, q580, s582⟩, ⟨v584, q583, s585⟩, -⟩ := hr586x
      obtain rfl : v575 = .agg (vs .u8 xs).toArray := s576
      obtain rfl : v578 = .agg (vs .u8 (le 32 (((nv 256 ys) * (nv 256 zs) + 0) % Lq))).toArray := s579
      obtain rfl : v581 = .agg (vs .u8 [0, 0, 0, 0, 0, 0, 0, 0, 0, 0, 0, 0, 0, 0, 0, 0, 0, 0, 0, 0, 0, 0, 0, 0, 0, 0, 0, 0, 0, 0, 0, 0]).toArray := s582
      obtain rfl : v584 = .bool true := s585
      obtain ⟨HE, HB6, HB16, HB27, HB53, HB94, HB137, HB322, HB356⟩ := hJ571
      have hF566 : Fr 72 a565 [(33, .agg (vs .u8 xs).toArray), (34, .agg (vs .u8 (le 32 (((nv 256 ys) * (nv 256 zs) + 0) % Lq))).toArray), (35, .agg (vs .u8 [0, 0, 0, 0, 0, 0, 0, 0, 0, 0, 0, 0, 0, 0, 0, 0, 0, 0, 0, 0, 0, 0, 0, 0, 0, 0, 0, 0, 0, 0, 0, 0]).toArray), (28, .bool true)] := Fr.of hs569 hd570 ⟨q574, q577, q580, q583, trivial⟩
      have hz590 := HE.size
      have hz591 := HB6.lt
      have hz592 := HB16.lt
      have hz593 := HB27.lt
      have hz594 := HB53.lt
      have hz595 := HB94.lt
      have hz596 := HB137.lt
      have hz597 := HB322.lt
      have hz598 := HB356.lt
      refine One.bare hF566 (by kernel_rfl) (s_call (d := 36) (f := 32) (l := [.agg (vs .u8 xs).toArray, .agg (vs .u8 (le 32 (((nv 256 ys) * (nv 256 zs) + 0) % Lq))).toArray, .agg (vs .u8 [0, 0, 0, 0, 0, 0, 0, 0, 0, 0, 0, 0, 0, 0, 0, 0, 0, 0, 0, 0, 0, 0, 0, 0, 0, 0, 0, 0, 0, 0, 0, 0]).toArray]) (by kernel_rfl) hF566 cl32 (scal_MulAdd xs (nv 256 xs) (le 32 (((nv 256 ys) * (nv 256 zs) + 0) % Lq)) (((nv 256 ys) * (nv 256 zs) + 0) % Lq) [0, 0, 0, 0, 0, 0, 0, 0, 0, 0, 0, 0, 0, 0, 0, 0, 0, 0, 0, 0, 0, 0, 0, 0, 0, 0, 0, 0, 0, 0, 0, 0] 0 _ rfl (by first | rfl | exact le_length _ _ | assumption) hbx (nvle _) (by first | rfl | exact le_length _ _ | assumption) (by_le _ _) rfl rfl (byL rfl)) ?_)
      rintro a599 w587 v588 ⟨rfl, HX589⟩ ha601 hF600
      replace HE := HE.thenN HX589.g
      replace HB6 := HB6.growN HX589.g
      replace HB16 := HB16.growN HX589.g
      replace HB27 := HB27.growN HX589.g
      replace HB53 := HB53.growN HX589.g
      replace HB94 := HB94.growN HX589.g
      replace HB137 := HB137.growN HX589.g
      replace HB322 := HB322.growN HX589.g
      replace HB356 := HB356.growN HX589.g
      rw [ha601]; exact hK568 _ _ rfl HX589.g
    · -- operation 10
      rintro a603 w602 b605 KK611 hs607 hd608 hJ609 hb610 hr621 hK606
      have hr621x : RD SL_ b605 a603 a372 w602 [(32, some 5), (36, some 9), (28, some 1)] := hr621 _ (by kernel_rfl)
      obtain ⟨⟨v613, q612, s614⟩, ⟨v616, q615, s617⟩, ⟨v619, q618, s620⟩, -⟩ := hr621x
      obtain rfl : v613 = .agg (vs .u8 (le 32 (((((nv 256 xs) * (nv 256 ys) + 0) % Lq) * (nv 256 zs) + 0) % Lq))).toArray := s614
      obtain rfl : v616 = .agg (vs .u8 (le 32 (((nv 256 xs) * (((nv 256 ys) * (nv 256 zs) + 0) % Lq) + 0) % Lq))).toArray := s617
      obtain rfl : v619 = .bool true := s620
      obtain ⟨HE, HB6, HB16, HB27, HB53, HB94, HB137, HB322, HB356⟩ := hJ609
      have hF604 : Fr 72 a603 [(32, .agg (vs .u8 (le 32 (((((nv 256 xs) * (nv 256 ys) + 0) % Lq) * (nv 256 zs) + 0) % Lq))).toArray), (36, .agg (vs .u8 (le 32 (((nv 256 xs) * (((nv 256 ys) * (nv 256 zs) + 0) % Lq) + 0) % Lq))).toArray), (28, .bool true)] := Fr.of hs607 hd608 ⟨q612, q615, q618, trivial⟩
      refine One.bare hF604 (by kernel_rfl) (s_arrEq hT (d := 37) (m := 32) (e := true) (k := .u8) (xs := (le 32 (((((nv 256 xs) * (nv 256 ys) + 0) % Lq) * (nv 256 zs) + 0) % Lq))) (ys := (le 32 (((nv 256 xs) * (((nv 256 ys) * (nv 256 zs) + 0) % Lq) + 0) % Lq))) (b := (decide ((le 32 (((((nv 256 xs) * (nv 256 ys) + 0) % Lq) * (nv 256 zs) + 0) % Lq)) = (le 32 (((nv 256 xs) * (((nv 256 ys) * (nv 256 zs) + 0) % Lq) + 0) % Lq))))) (by kernel_rfl) (by intro t h; cases h; kernel_rfl) hF604 (by first | rfl | assumption | exact le_length _ _ | (rw [clampL_length]; assumption) | (rw [clampL_length, clampL_length]; assumption) | decide) (by first | rfl | assumption | exact le_length _ _ | (rw [clampL_length]; assumption) | (rw [clampL_length, clampL_length]; assumption) | decide) rfl ?_)
      rintro a622 ha624 hF623
      rw [ha624]; exact hK606 _ _ (congrArg Value.bool ((decide_eq_true (le_congr (ma2 _ _ _ _))) : ((decide ((le 32 (((((nv 256 xs) * (nv 256 ys) + 0) % Lq) * (nv 256 zs) + 0) % Lq)) = (le 32 (((nv 256 xs) * (((nv 256 ys) * (nv 256 zs) + 0) % Lq) + 0) % Lq))))) = true)) (grown_refl _ _)
    · -- operation 11
      rintro a626 w625 b628 KK634 hs630 hd631 hJ632 hb633 hr641 hK629
      have hr641x : RD SL_ b628 a626 a372 w625 [(28, some 1), (37, some 10)] := hr641 _ (by kernel_rfl)
      obtain ⟨⟨v636, q635, s637⟩, ⟨v639, q638, s640⟩, -⟩ := hr641x
      obtain rfl : v636 = .bool true := s637
      obtain rfl : v639 = .bool true := s640
      obtain ⟨HE, HB6, HB16, HB27, HB53, HB94, HB137, HB322, HB356⟩ := hJ632
      have hF627 : Fr 72 a626 [(28, .bool true), (37, .bool true)] := Fr.of hs630 hd631 ⟨q635, q638, trivial⟩
      refine s_pure hT (d := 38) (v := .bool true) (cs := []) (by kernel_rfl) (by kernel_rfl) trivial hF627 ?_
      rintro a2 ha2 hF2; rw [ha2]; exact hK629 _ _ rfl (grown_refl _ _)
    · -- operation 12
      rintro a643 w642 b645 KK651 hs647 hd648 hJ649 hb650 hr655 hK646
      have hr655x : RD SL_ b645 a643 a372 w642 [(38, some 11)] := hr655 _ (by kernel_rfl)
      obtain ⟨⟨v653, q652, s654⟩, -⟩ := hr655x
      obtain rfl : v653 = .bool true := s654
      obtain ⟨HE, HB6, HB16, HB27, HB53, HB94, HB137, HB322, HB356⟩ := hJ649
      have hF644 : Fr 72 a643 [(38, .bool true)] := Fr.of hs647 hd648 ⟨q652, trivial⟩
      refine s_pure hT (d := 39) (v := .bool true) (cs := []) (by kernel_rfl) (by kernel_rfl) trivial hF644 ?_
      rintro a2 ha2 hF2; rw [ha2]; exact hK646 _ _ rfl (grown_refl _ _)
    · -- operation 13
      rintro a657 w656 b659 KK665 hs661 hd662 hJ663 hb664 hr670 hK660
      have hr670x : RD SL_ b659 a657 a372 w656 [(10, none), (39, some 12)] := hr670 _ (by kernel_rfl)
      obtain ⟨q666, ⟨v668, q667, s669⟩, -⟩ := hr670x
      obtain rfl : v668 = .bool true := s669
      obtain ⟨HE, HB6, HB16, HB27, HB53, HB94, HB137, HB322, HB356⟩ := hJ663
      have hF658 : Fr 72 a657 [(10, .pointer (some ⟨b318, 0, none⟩)), (39, .bool true)] := Fr.of hs661 hd662 ⟨(Fr.init hF375 q666 (by kernel_rfl)), q667, trivial⟩
      refine One.bare hF658 (by kernel_rfl) (s_loadA hT (d := 40) (b := b318) (off := 0) (sz := 32) (l := vs .u8 (le 32 (((nv 256 xs) * 1 + (nv 256 ys)) % Lq))) (by kernel_rfl) hF658 HB322.cells (by (first | (simp only [vs_length, vi_length]; omega) | (simp only [vs_length, le_length]; done) | (simp only [vs_length, le_length]; first | rfl | assumption | (symm; assumption) | omega | (simp; done)) | (simp only [vs_length, clampL_length, le_length]; first | done | assumption | exact hxl | rfl) | rfl | (simp; omega) | omega)) ?_)
      rintro a671 ha673 hF672
      rw [ha673]; exact hK660 _ _ rfl (grown_refl _ _)
    · -- operation 14
      rintro a675 w674 b677 KK683 hs679 hd680 hJ681 hb682 hr688 hK678
      have hr688x : RD SL_ b677 a675 a372 w674 [(5, none), (39, some 12)] := hr688 _ (by kernel_rfl)
      obtain ⟨q684, ⟨v686, q685, s687⟩, -⟩ := hr688x
      obtain rfl : v686 = .bool true := s687
      obtain ⟨HE, HB6, HB16, HB27, HB53, HB94, HB137, HB322, HB356⟩ := hJ681
      have hF676 : Fr 72 a675 [(5, .pointer (some ⟨b24, 0, none⟩)), (39, .bool true)] := Fr.of hs679 hd680 ⟨(Fr.init hF375 q684 (by kernel_rfl)), q685, trivial⟩
      refine One.bare hF676 (by kernel_rfl) (s_loadA hT (d := 41) (b := b24) (off := 0) (sz := 32) (l := vs .u8 zs) (by kernel_rfl) hF676 HB27.cells (by (first | (simp only [vs_length, vi_length]; omega) | (simp only [vs_length, le_length]; done) | (simp only [vs_length, le_length]; first | rfl | assumption | (symm; assumption) | omega | (simp; done)) | (simp only [vs_length, clampL_length, le_length]; first | done | assumption | exact hxl | rfl) | rfl | (simp; omega) | omega)) ?_)
      rintro a689 ha691 hF690
      rw [ha691]; exact hK678 _ _ rfl (grown_refl _ _)
    · -- operation 15
      rintro a693 w692 b695 KK701 hs697 hd698 hJ699 hb700 hr706 hK696
      have hr706x : RD SL_ b695 a693 a372 w692 [(7, none), (39, some 12)] := hr706 _ (by kernel_rfl)
      obtain ⟨q702, ⟨v704, q703, s705⟩, -⟩ := hr706x
      obtain rfl : v704 = .bool true := s705
      obtain ⟨HE, HB6, HB16, HB27, HB53, HB94, HB137, HB322, HB356⟩ := hJ699
      have hF694 : Fr 72 a693 [(7, .pointer (some ⟨b50, 0, none⟩)), (39, .bool true)] := Fr.of hs697 hd698 ⟨(Fr.init hF375 q702 (by kernel_rfl)), q703, trivial⟩
      refine One.bare hF694 (by kernel_rfl) (s_loadA hT (d := 42) (b := b50) (off := 0) (sz := 32) (l := vs .u8 [0, 0, 0, 0, 0, 0, 0, 0, 0, 0, 0, 0, 0, 0, 0, 0, 0, 0, 0, 0, 0, 0, 0, 0, 0, 0, 0, 0, 0, 0, 0, 0]) (by kernel_rfl) hF694 HB53.cells (by (first | (simp only [vs_length, vi_length]; omega) | (simp only [vs_length, le_length]; done) | (simp only [vs_length, le_length]; first | rfl | assumption | (symm; assumption) | omega | (simp; done)) | (simp only [vs_length, clampL_length, le_length]; first | done | assumption | exact hxl | rfl) | rfl | (simp; omega) | omega)) ?_)
      rintro a707 ha709 hF708
      rw [ha709]; exact hK696 _ _ rfl (grown_refl _ _)
    · -- operation 16
      rintro a711 w710 b713 KK719 hs715 hd716 hJ717 hb718 hr732 hK714
      have hr732x : RD SL_ b713 a711 a372 w710 [(40, some 13), (41, some 14), (42, some 15), (39, some 12)] := hr732 _ (by kernel_rfl)
      obtain ⟨⟨v721, q720, s722⟩, ⟨v724, q723, s725⟩, ⟨v727, q726, s728⟩, ⟨v730, q729, s731⟩, -⟩ := hr732x
      obtain rfl : v721 = .agg (vs .u8 (le 32 (((nv 256 xs) * 1 + (nv 256 ys)) % Lq))).toArray := s722
      obtain rfl : v724 = .agg (vs .u8 zs).toArray := s725
      obtain rfl : v727 = .agg (vs .u8 [0, 0, 0, 0, 0, 0, 0, 0, 0, 0, 0, 0, 0, 0, 0, 0, 0, 0, 0, 0, 0, 0, 0, 0, 0, 0, 0, 0, 0, 0, 0, 0]).toArray := s728
      obtain rfl : v730 = .bool true := s731
      obtain ⟨HE, HB6, HB16, HB27, HB53, HB94, HB137, HB322, HB356⟩ := hJ717
      have hF712 : Fr 72 a711 [(40, .agg (vs .u8 (le 32 (((nv 256 xs) * 1 + (nv 256 ys)) % Lq))).toArray), (41, .agg (vs .u8 zs).toArray), (42, .agg (vs .u8 [0, 0, 0, 0, 0, 0, 0, 0, 0, 0, 0, 0, 0, 0, 0, 0, 0, 0, 0, 0, 0, 0, 0, 0, 0, 0, 0, 0, 0, 0, 0, 0]).toArray), (39, .bool true)] := Fr.of hs715 hd716 ⟨q720, q723, q726, q729, trivial⟩
      have hz736 := HE.size
      have hz737 := HB6.lt
      have hz738 := HB16.lt
      have hz739 := HB27.lt
      have hz740 := HB53.lt
      have hz741 := HB94.lt
      have hz742 := HB137.lt
      have hz743 := HB322.lt
      have hz744 := HB356.lt
      refine One.bare hF712 (by kernel_rfl) (s_call (d := 43) (f := 32) (l := [.agg (vs .u8 (le 32 (((nv 256 xs) * 1 + (nv 256 ys)) % Lq))).toArray, .agg (vs .u8 zs).toArray, .agg (vs .u8 [0, 0, 0, 0, 0, 0, 0, 0, 0, 0, 0, 0, 0, 0, 0, 0, 0, 0, 0, 0, 0, 0, 0, 0, 0, 0, 0, 0, 0, 0, 0, 0]).toArray]) (by kernel_rfl) hF712 cl32 (scal_MulAdd (le 32 (((nv 256 xs) * 1 + (nv 256 ys)) % Lq)) (((nv 256 xs) * 1 + (nv 256 ys)) % Lq) zs (nv 256 zs) [0, 0, 0, 0, 0, 0, 0, 0, 0, 0, 0, 0, 0, 0, 0, 0, 0, 0, 0, 0, 0, 0, 0, 0, 0, 0, 0, 0, 0, 0, 0, 0] 0 _ (nvle _) (by first | rfl | exact le_length _ _ | assumption) (by_le _ _) rfl (by first | rfl | exact le_length _ _ | assumption) hbz rfl rfl (byL rfl)) ?_)
      rintro a745 w733 v734 ⟨rfl, HX735⟩ ha747 hF746
      replace HE := HE.thenN HX735.g
      replace HB6 := HB6.growN HX735.g
      replace HB16 := HB16.growN HX735.g
      replace HB27 := HB27.growN HX735.g
      replace HB53 := HB53.growN HX735.g
      replace HB94 := HB94.growN HX735.g
      replace HB137 := HB137.growN HX735.g
      replace HB322 := HB322.growN HX735.g
      replace HB356 := HB356.growN HX735.g
      rw [ha747]; exact hK714 _ _ rfl HX735.g
    · -- operation 17
      rintro a749 w748 b751 KK757 hs753 hd754 hJ755 hb756 hr762 hK752
      have hr762x : RD SL_ b751 a749 a372 w748 [(3, none), (39, some 12)] := hr762 _ (by kernel_rfl)
      obtain ⟨q758, ⟨v760, q759, s761⟩, -⟩ := hr762x
      obtain rfl : v760 = .bool true := s761
      obtain ⟨HE, HB6, HB16, HB27, HB53, HB94, HB137, HB322, HB356⟩ := hJ755
      have hF750 : Fr 72 a749 [(3, .pointer (some ⟨b3, 0, none⟩)), (39, .bool true)] := Fr.of hs753 hd754 ⟨(Fr.init hF375 q758 (by kernel_rfl)), q759, trivial⟩
      refine One.bare hF750 (by kernel_rfl) (s_loadA hT (d := 44) (b := b3) (off := 0) (sz := 32) (l := vs .u8 xs) (by kernel_rfl) hF750 HB6.cells (by (first | (simp only [vs_length, vi_length]; omega) | (simp only [vs_length, le_length]; done) | (simp only [vs_length, le_length]; first | rfl | assumption | (symm; assumption) | omega | (simp; done)) | (simp only [vs_length, clampL_length, le_length]; first | done | assumption | exact hxl | rfl) | rfl | (simp; omega) | omega)) ?_)
      rintro a763 ha765 hF764
      rw [ha765]; exact hK752 _ _ rfl (grown_refl _ _)
    · -- operation 18
      rintro a767 w766 b769 KK775 hs771 hd772 hJ773 hb774 hr780 hK770
      have hr780x : RD SL_ b769 a767 a372 w766 [(5, none), (39, some 12)] := hr780 _ (by kernel_rfl)
      obtain ⟨q776, ⟨v778, q777, s779⟩, -⟩ := hr780x
      obtain rfl : v778 = .bool true := s779
      obtain ⟨HE, HB6, HB16, HB27, HB53, HB94, HB137, HB322, HB356⟩ := hJ773
      have hF768 : Fr 72 a767 [(5, .pointer (some ⟨b24, 0, none⟩)), (39, .bool true)] := Fr.of hs771 hd772 ⟨(Fr.init hF375 q776 (by kernel_rfl)), q777, trivial⟩
      refine One.bare hF768 (by kernel_rfl) (s_loadA hT (d := 45) (b := b24) (off := 0) (sz := 32) (l := vs .u8 zs) (by kernel_rfl) hF768 HB27.cells (by (first | (simp only [vs_length, vi_length]; omega) | (simp only [vs_length, le_length]; done) | (simp only [vs_length, le_length]; first | rfl | assumption | (symm; assumption) | omega | (simp; done)) | (simp only [vs_length, clampL_length, le_length]; first | done | assumption | exact hxl | rfl) | rfl | (simp; omega) | omega)) ?_)
      rintro a781 ha783 hF782
      rw [ha783]; exact hK770 _ _ rfl (grown_refl _ _)
    · -- operation 19
      rintro a785 w784 b787 KK793 hs789 hd790 hJ791 hb792 hr798 hK788
      have hr798x : RD SL_ b787 a785 a372 w784 [(9, none), (39, some 12)] := hr798 _ (by kernel_rfl)
      obtain ⟨q794, ⟨v796, q795, s797⟩, -⟩ := hr798x
      obtain rfl : v796 = .bool true := s797
      obtain ⟨HE, HB6, HB16, HB27, HB53, HB94, HB137, HB322, HB356⟩ := hJ791
      have hF786 : Fr 72 a785 [(9, .pointer (some ⟨b134, 0, none⟩)), (39, .bool true)] := Fr.of hs789 hd790 ⟨(Fr.init hF375 q794 (by kernel_rfl)), q795, trivial⟩
      refine One.bare hF786 (by kernel_rfl) (s_loadA hT (d := 46) (b := b134) (off := 0) (sz := 32) (l := vs .u8 (le 32 (((nv 256 ys) * (nv 256 zs) + 0) % Lq))) (by kernel_rfl) hF786 HB137.cells (by (first | (simp only [vs_length, vi_length]; omega) | (simp only [vs_length, le_length]; done) | (simp only [vs_length, le_length]; first | rfl | assumption | (symm; assumption) | omega | (simp; done)) | (simp only [vs_length, clampL_length, le_length]; first | done | assumption | exact hxl | rfl) | rfl | (simp; omega) | omega)) ?_)
      rintro a799 ha801 hF800
      rw [ha801]; exact hK788 _ _ rfl (grown_refl _ _)
    · -- operation 20
      rintro a803 w802 b805 KK811 hs807 hd808 hJ809 hb810 hr824 hK806
      have hr824x : RD SL_ b805 a803 a372 w802 [(44, some 17), (45, some 18), (46, some 19), (39, some 12)] := hr824 _ (by kernel_rfl)
      obtain ⟨⟨v813, q812, s814⟩, ⟨v816, q815, s817⟩, ⟨v819, q818, s820⟩, ⟨v822, q821, s823⟩, -⟩ := hr824x
      obtain rfl : v813 = .agg (vs .u8 xs).toArray := s814
      obtain rfl : v816 = .agg (vs .u8 zs).toArray := s817
      obtain rfl : v819 = .agg (vs .u8 (le 32 (((nv 256 ys) * (nv 256 zs) + 0) % Lq))).toArray := s820
      obtain rfl : v822 = .bool true := s823
      obtain ⟨HE, HB6, HB16, HB27, HB53, HB94, HB137, HB322, HB356⟩ := hJ809
      have hF804 : Fr 72 a803 [(44, .agg (vs .u8 xs).toArray), (45, .agg (vs .u8 zs).toArray), (46, .agg (vs .u8 (le 32 (((nv 256 ys) * (nv 256 zs) + 0) % Lq))).toArray), (39, .bool true)] := Fr.of hs807 hd808 ⟨q812, q815, q818, q821, trivial⟩
      have hz828 := HE.size
      have hz829 := HB6.lt
      have hz830 := HB16.lt
      have hz831 := HB27.lt
      have hz832 := HB53.lt
      have hz833 := HB94.lt
      have hz834 := HB137.lt
      have hz835 := HB322.lt
      have hz836 := HB356.lt
      refine One.bare hF804 (by kernel_rfl) (s_call (d := 47) (f := 32) (l := [.agg (vs .u8 xs).toArray, .agg (vs .u8 zs).toArray, .agg (vs .u8 (le 32 (((nv 256 ys) * (nv 256 zs) + 0) % Lq))).toArray]) (by kernel_rfl) hF804 cl32 (scal_MulAdd xs (nv 256 xs) zs (nv 256 zs) (le 32 (((nv 256 ys) * (nv 256 zs) + 0) % Lq)) (((nv 256 ys) * (nv 256 zs) + 0) % Lq) _ rfl (by first | rfl | exact le_length _ _ | assumption) hbx rfl (by first | rfl | exact le_length _ _ | assumption) hbz (nvle _) (by first | rfl | exact le_length _ _ | assumption) (by_le _ _)) ?_)
      rintro a837 w825 v826 ⟨rfl, HX827⟩ ha839 hF838
      replace HE := HE.thenN HX827.g
      replace HB6 := HB6.growN HX827.g
      replace HB16 := HB16.growN HX827.g
      replace HB27 := HB27.growN HX827.g
      replace HB53 := HB53.growN HX827.g
      replace HB94 := HB94.growN HX827.g
      replace HB137 := HB137.growN HX827.g
      replace HB322 := HB322.growN HX827.g
      replace HB356 := HB356.growN HX827.g
      rw [ha839]; exact hK806 _ _ rfl HX827.g
    · -- operation 21
      rintro a841 w840 b843 KK849 hs845 hd846 hJ847 hb848 hr859 hK844
      have hr859x : RD SL_ b843 a841 a372 w840 [(43, some 16), (47, some 20), (39, some 12)] := hr859 _ (by kernel_rfl)
      obtain ⟨⟨v851, q850, s852⟩, ⟨v854, q853, s855⟩, ⟨v857, q856, s858⟩, -⟩ := hr859x
      obtain rfl : v851 = .agg (vs .u8 (le 32 (((((nv 256 xs) * 1 + (nv 256 ys)) % Lq) * (nv 256 zs) + 0) % Lq))).toArray := s852
      obtain rfl : v854 = .agg (vs .u8 (le 32 (((nv 256 xs) * (nv 256 zs) + (((nv 256 ys) * (nv 256 zs) + 0) % Lq)) % Lq))).toArray := s855
      obtain rfl : v857 = .bool true := s858
      obtain ⟨HE, HB6, HB16, HB27, HB53, HB94, HB137, HB322, HB356⟩ := hJ847
      have hF842 : Fr 72 a841 [(43, .agg (vs .u8 (le 32 (((((nv 256 xs) * 1 + (nv 256 ys)) % Lq) * (nv 256 zs) + 0) % Lq))).toArray), (47, .agg (vs .u8 (le 32 (((nv 256 xs) * (nv 256 zs) + (((nv 256 ys) * (nv 256 zs) + 0) % Lq)) % Lq))).toArray), (39, .bool true)] := Fr.of hs845 hd846 ⟨q850, q853, q856, trivial⟩
      refine One.bare hF842 (by kernel_rfl) (s_arrEq hT (d := 48) (m := 32) (e := true) (k := .u8) (xs := (le 32 (((((nv 256 xs) * 1 + (nv 256 ys)) % Lq) * (nv 256 zs) + 0) % Lq))) (ys := (le 32 (((nv 256 xs) * (nv 256 zs) + (((nv 256 ys) * (nv 256 zs) + 0) % Lq)) % Lq))) (b := (decide ((le 32 (((((nv 256 xs) * 1 + (nv 256 ys)) % Lq) * (nv 256 zs) + 0) % Lq)) = (le 32 (((nv 256 xs) * (nv 256 zs) + (((nv 256 ys) * (nv 256 zs) + 0) % Lq)) % Lq))))) (by kernel_rfl) (by intro t h; cases h; kernel_rfl) hF842 (by first | rfl | assumption | exact le_length _ _ | (rw [clampL_length]; assumption) | (rw [clampL_length, clampL_length]; assumption) | decide) (by first | rfl | assumption | exact le_length _ _ | (rw [clampL_length]; assumption) | (rw [clampL_length, clampL_length]; assumption) | decide) rfl ?_)
      rintro a860 ha862 hF861
      rw [ha862]; exact hK844 _ _ (congrArg Value.bool ((decide_eq_true (le_congr (ma3 _ _ _ _))) : ((decide ((le 32 (((((nv 256 xs) * 1 + (nv 256 ys)) % Lq) * (nv 256 zs) + 0) % Lq)) = (le 32 (((nv 256 xs) * (nv 256 zs) + (((nv 256 ys) * (nv 256 zs) + 0) % Lq)) % Lq))))) = true)) (grown_refl _ _)
    · -- operation 22
      rintro a864 w863 b866 KK872 hs868 hd869 hJ870 hb871 hr879 hK867
      have hr879x : RD SL_ b866 a864 a372 w863 [(39, some 12), (48, some 21)] := hr879 _ (by kernel_rfl)
      obtain ⟨⟨v874, q873, s875⟩, ⟨v877, q876, s878⟩, -⟩ := hr879x
      obtain rfl : v874 = .bool true := s875
      obtain rfl : v877 = .bool true := s878
      obtain ⟨HE, HB6, HB16, HB27, HB53, HB94, HB137, HB322, HB356⟩ := hJ870
      have hF865 : Fr 72 a864 [(39, .bool true), (48, .bool true)] := Fr.of hs868 hd869 ⟨q873, q876, trivial⟩
      refine s_pure hT (d := 49) (v := .bool true) (cs := []) (by kernel_rfl) (by kernel_rfl) trivial hF865 ?_
      rintro a2 ha2 hF2; rw [ha2]; exact hK867 _ _ rfl (grown_refl _ _)
    · -- operation 23
      rintro a881 w880 b883 KK889 hs885 hd886 hJ887 hb888 hr893 hK884
      have hr893x : RD SL_ b883 a881 a372 w880 [(49, some 22)] := hr893 _ (by kernel_rfl)
      obtain ⟨⟨v891, q890, s892⟩, -⟩ := hr893x
      obtain rfl : v891 = .bool true := s892
      obtain ⟨HE, HB6, HB16, HB27, HB53, HB94, HB137, HB322, HB356⟩ := hJ887
      have hF882 : Fr 72 a881 [(49, .bool true)] := Fr.of hs885 hd886 ⟨q890, trivial⟩
      refine s_pure hT (d := 50) (v := .bool true) (cs := []) (by kernel_rfl) (by kernel_rfl) trivial hF882 ?_
      rintro a2 ha2 hF2; rw [ha2]; exact hK884 _ _ rfl (grown_refl _ _)
    · -- operation 24
      rintro a895 w894 b897 KK903 hs899 hd900 hJ901 hb902 hr908 hK898
      have hr908x : RD SL_ b897 a895 a372 w894 [(11, none), (50, some 23)] := hr908 _ (by kernel_rfl)
      obtain ⟨q904, ⟨v906, q905, s907⟩, -⟩ := hr908x
      obtain rfl : v906 = .bool true := s907
      obtain ⟨HE, HB6, HB16, HB27, HB53, HB94, HB137, HB322, HB356⟩ := hJ901
      have hF896 : Fr 72 a895 [(11, .pointer (some ⟨b353, 0, none⟩)), (50, .bool true)] := Fr.of hs899 hd900 ⟨(Fr.init hF375 q904 (by kernel_rfl)), q905, trivial⟩
      refine One.bare hF896 (by kernel_rfl) (s_loadA hT (d := 51) (b := b353) (off := 0) (sz := 32) (l := vs .u8 (clampL xs)) (by kernel_rfl) hF896 HB356.cells (by (first | (simp only [vs_length, vi_length]; omega) | (simp only [vs_length, le_length]; done) | (simp only [vs_length, le_length]; first | rfl | assumption | (symm; assumption) | omega | (simp; done)) | (simp only [vs_length, clampL_length, le_length]; first | done | assumption | exact hxl | rfl) | rfl | (simp; omega) | omega)) ?_)
      rintro a909 ha911 hF910
      rw [ha911]; exact hK898 _ _ rfl (grown_refl _ _)
    · -- operation 25
      rintro a913 w912 b915 KK921 hs917 hd918 hJ919 hb920 hr928 hK916
      have hr928x : RD SL_ b915 a913 a372 w912 [(51, some 24), (50, some 23)] := hr928 _ (by kernel_rfl)
      obtain ⟨⟨v923, q922, s924⟩, ⟨v926, q925, s927⟩, -⟩ := hr928x
      obtain rfl : v923 = .agg (vs .u8 (clampL xs)).toArray := s924
      obtain rfl : v926 = .bool true := s927
      obtain ⟨HE, HB6, HB16, HB27, HB53, HB94, HB137, HB322, HB356⟩ := hJ919
      have hF914 : Fr 72 a913 [(51, .agg (vs .u8 (clampL xs)).toArray), (50, .bool true)] := Fr.of hs917 hd918 ⟨q922, q925, trivial⟩
      have hz932 := HE.size
      have hz933 := HB6.lt
      have hz934 := HB16.lt
      have hz935 := HB27.lt
      have hz936 := HB53.lt
      have hz937 := HB94.lt
      have hz938 := HB137.lt
      have hz939 := HB322.lt
      have hz940 := HB356.lt
      refine One.bare hF914 (by kernel_rfl) (s_call (d := 52) (f := 34) (l := [.agg (vs .u8 (clampL xs)).toArray]) (by kernel_rfl) hF914 cl34 (scal_Clamp (clampL xs) _ ((clampL_length xs).trans hxl) (by_clampL hbx)) ?_)
      rintro a941 w929 v930 ⟨rfl, HX931⟩ ha943 hF942
      replace HE := HE.thenN HX931.g
      replace HB6 := HB6.growN HX931.g
      replace HB16 := HB16.growN HX931.g
      replace HB27 := HB27.growN HX931.g
      replace HB53 := HB53.growN HX931.g
      replace HB94 := HB94.growN HX931.g
      replace HB137 := HB137.growN HX931.g
      replace HB322 := HB322.growN HX931.g
      replace HB356 := HB356.growN HX931.g
      rw [ha943]; exact hK916 _ _ rfl HX931.g
    · -- operation 26
      rintro a945 w944 b947 KK953 hs949 hd950 hJ951 hb952 hr958 hK948
      have hr958x : RD SL_ b947 a945 a372 w944 [(11, none), (50, some 23)] := hr958 _ (by kernel_rfl)
      obtain ⟨q954, ⟨v956, q955, s957⟩, -⟩ := hr958x
      obtain rfl : v956 = .bool true := s957
      obtain ⟨HE, HB6, HB16, HB27, HB53, HB94, HB137, HB322, HB356⟩ := hJ951
      have hF946 : Fr 72 a945 [(11, .pointer (some ⟨b353, 0, none⟩)), (50, .bool true)] := Fr.of hs949 hd950 ⟨(Fr.init hF375 q954 (by kernel_rfl)), q955, trivial⟩
      refine One.bare hF946 (by kernel_rfl) (s_loadA hT (d := 53) (b := b353) (off := 0) (sz := 32) (l := vs .u8 (clampL xs)) (by kernel_rfl) hF946 HB356.cells (by (first | (simp only [vs_length, vi_length]; omega) | (simp only [vs_length, le_length]; done) | (simp only [vs_length, le_length]; first | rfl | assumption | (symm; assumption) | omega | (simp; done)) | (simp only [vs_length, clampL_length, le_length]; first | done | assumption | exact hxl | rfl) | rfl | (simp; omega) | omega)) ?_)
      rintro a959 ha961 hF960
      rw [ha961]; exact hK948 _ _ rfl (grown_refl _ _)
    · -- operation 27
      rintro a963 w962 b965 KK971 hs967 hd968 hJ969 hb970 hr981 hK966
      have hr981x : RD SL_ b965 a963 a372 w962 [(52, some 25), (53, some 26), (50, some 23)] := hr981 _ (by kernel_rfl)
      obtain ⟨⟨v973, q972, s974⟩, ⟨v976, q975, s977⟩, ⟨v979, q978, s980⟩, -⟩ := hr981x
      obtain rfl : v973 = .agg (vs .u8 (clampL (clampL xs))).toArray := s974
      obtain rfl : v976 = .agg (vs .u8 (clampL xs)).toArray := s977
      obtain rfl : v979 = .bool true := s980
      obtain ⟨HE, HB6, HB16, HB27, HB53, HB94, HB137, HB322, HB356⟩ := hJ969
      have hF964 : Fr 72 a963 [(52, .agg (vs .u8 (clampL (clampL xs))).toArray), (53, .agg (vs .u8 (clampL xs)).toArray), (50, .bool true)] := Fr.of hs967 hd968 ⟨q972, q975, q978, trivial⟩
      refine One.bare hF964 (by kernel_rfl) (s_arrEq hT (d := 54) (m := 32) (e := true) (k := .u8) (xs := (clampL (clampL xs))) (ys := (clampL xs)) (b := (decide ((clampL (clampL xs)) = (clampL xs)))) (by kernel_rfl) (by intro t h; cases h; kernel_rfl) hF964 (by first | rfl | assumption | exact le_length _ _ | (rw [clampL_length]; assumption) | (rw [clampL_length, clampL_length]; assumption) | decide) (by first | rfl | assumption | exact le_length _ _ | (rw [clampL_length]; assumption) | (rw [clampL_length, clampL_length]; assumption) | decide) rfl ?_)
      rintro a982 ha984 hF983
      rw [ha984]; exact hK966 _ _ (congrArg Value.bool ((decide_eq_true (clampL_twice hxl hbx)) : ((decide ((clampL (clampL xs)) = (clampL xs)))) = true)) (grown_refl _ _)
    · -- operation 28
      rintro a986 w985 b988 KK994 hs990 hd991 hJ992 hb993 hr1001 hK989
      have hr1001x : RD SL_ b988 a986 a372 w985 [(50, some 23), (54, some 27)] := hr1001 _ (by kernel_rfl)
      obtain ⟨⟨v996, q995, s997⟩, ⟨v999, q998, s1000⟩, -⟩ := hr1001x
      obtain rfl : v996 = .bool true := s997
      obtain rfl : v999 = .bool true := s1000
      obtain ⟨HE, HB6, HB16, HB27, HB53, HB94, HB137, HB322, HB356⟩ := hJ992
      have hF987 : Fr 72 a986 [(50, .bool true), (54, .bool true)] := Fr.of hs990 hd991 ⟨q995, q998, trivial⟩
      refine s_pure hT (d := 55) (v := .bool true) (cs := []) (by kernel_rfl) (by kernel_rfl) trivial hF987 ?_
      rintro a2 ha2 hF2; rw [ha2]; exact hK989 _ _ rfl (grown_refl _ _)
    · -- operation 29
      rintro a1003 w1002 b1005 KK1011 hs1007 hd1008 hJ1009 hb1010 hr1015 hK1006
      have hr1015x : RD SL_ b1005 a1003 a372 w1002 [(55, some 28)] := hr1015 _ (by kernel_rfl)
      obtain ⟨⟨v1013, q1012, s1014⟩, -⟩ := hr1015x
      obtain rfl : v1013 = .bool true := s1014
      obtain ⟨HE, HB6, HB16, HB27, HB53, HB94, HB137, HB322, HB356⟩ := hJ1009
      have hF1004 : Fr 72 a1003 [(55, .bool true)] := Fr.of hs1007 hd1008 ⟨q1012, trivial⟩
      refine s_pure hT (d := 56) (v := .bool true) (cs := []) (by kernel_rfl) (by kernel_rfl) trivial hF1004 ?_
      rintro a2 ha2 hF2; rw [ha2]; exact hK1006 _ _ rfl (grown_refl _ _)
    · -- operation 30
      rintro a1017 w1016 b1019 KK1025 hs1021 hd1022 hJ1023 hb1024 hr1030 hK1020
      have hr1030x : RD SL_ b1019 a1017 a372 w1016 [(11, none), (56, some 29)] := hr1030 _ (by kernel_rfl)
      obtain ⟨q1026, ⟨v1028, q1027, s1029⟩, -⟩ := hr1030x
      obtain rfl : v1028 = .bool true := s1029
      obtain ⟨HE, HB6, HB16, HB27, HB53, HB94, HB137, HB322, HB356⟩ := hJ1023
      have hF1018 : Fr 72 a1017 [(11, .pointer (some ⟨b353, 0, none⟩)), (56, .bool true)] := Fr.of hs1021 hd1022 ⟨(Fr.init hF375 q1026 (by kernel_rfl)), q1027, trivial⟩
      refine One.bare hF1018 (by kernel_rfl) (s_pure hT (d := 57) (v := .pointer (some ⟨b353, 0, none⟩)) (cs := [0 ≤ (0 : Int), (0 : Int) < 32]) (by kernel_rfl) (by kernel_rfl) (And.intro (by first | omega | (simp only [clampL_length]; omega)) (And.intro (by first | omega | (simp only [clampL_length]; omega)) trivial)) hF1018 ?_)
      rintro a2 ha2 hF2; rw [ha2]; exact hK1020 _ _ rfl (grown_refl _ _)
    · -- operation 31
      rintro a1032 w1031 b1034 KK1040 hs1036 hd1037 hJ1038 hb1039 hr1047 hK1035
      have hr1047x : RD SL_ b1034 a1032 a372 w1031 [(57, some 30), (56, some 29)] := hr1047 _ (by kernel_rfl)
      obtain ⟨⟨v1042, q1041, s1043⟩, ⟨v1045, q1044, s1046⟩, -⟩ := hr1047x
      obtain rfl : v1042 = .pointer (some ⟨b353, 0, none⟩) := s1043
      obtain rfl : v1045 = .bool true := s1046
      obtain ⟨HE, HB6, HB16, HB27, HB53, HB94, HB137, HB322, HB356⟩ := hJ1038
      have hF1033 : Fr 72 a1032 [(57, .pointer (some ⟨b353, 0, none⟩)), (56, .bool true)] := Fr.of hs1036 hd1037 ⟨q1041, q1044, trivial⟩
      refine One.bare hF1033 (by kernel_rfl) (s_load hT (d := 58) (A := ⟨b353, 0, none⟩) (by kernel_rfl) hF1033 (HB356.cells.at (vs_get .u8 (clampL xs) (i := 0) (by first | omega | (simp only [clampL_length]; omega))) (by first | rfl | omega)) ?_)
      rintro a1048 ha1050 hF1049
      rw [ha1050]; exact hK1035 _ _ rfl (grown_refl _ _)
    · -- operation 32
      rintro a1052 w1051 b1054 KK1060 hs1056 hd1057 hJ1058 hb1059 hr1067 hK1055
      have hr1067x : RD SL_ b1054 a1052 a372 w1051 [(58, some 31), (56, some 29)] := hr1067 _ (by kernel_rfl)
      obtain ⟨⟨v1062, q1061, s1063⟩, ⟨v1065, q1064, s1066⟩, -⟩ := hr1067x
      obtain rfl : v1062 = .int .u8 ((((clampL xs).getD 0 0) : Nat) : Int) := s1063
      obtain rfl : v1065 = .bool true := s1066
      obtain ⟨HE, HB6, HB16, HB27, HB53, HB94, HB137, HB322, HB356⟩ := hJ1058
      have hF1053 : Fr 72 a1052 [(58, .int .u8 ((((clampL xs).getD 0 0) : Nat) : Int)), (56, .bool true)] := Fr.of hs1056 hd1057 ⟨q1061, q1064, trivial⟩
      refine One.bare hF1053 (by kernel_rfl) (s_pure hT (d := 59) (v := .int .u8 (((((clampL xs).getD 0 0) % 8) : Nat) : Int)) (cs := [0 < 8]) (by kernel_rfl) (by kernel_rfl) (And.intro (by first | omega | (simp only [clampL_length]; omega)) trivial) hF1053 ?_)
      rintro a2 ha2 hF2; rw [ha2]; exact hK1055 _ _ rfl (grown_refl _ _)
    · -- operation 33
      rintro a1069 w1068 b1071 KK1077 hs1073 hd1074 hJ1075 hb1076 hr1084 hK1072
      have hr1084x : RD SL_ b1071 a1069 a372 w1068 [(59, some 32), (56, some 29)] := hr1084 _ (by kernel_rfl)
      obtain ⟨⟨v1079, q1078, s1080⟩, ⟨v1082, q1081, s1083⟩, -⟩ := hr1084x
      obtain rfl : v1079 = .int .u8 (((((clampL xs).getD 0 0) % 8) : Nat) : Int) := s1080
      obtain rfl : v1082 = .bool true := s1083
      obtain ⟨HE, HB6, HB16, HB27, HB53, HB94, HB137, HB322, HB356⟩ := hJ1075
      have hF1070 : Fr 72 a1069 [(59, .int .u8 (((((clampL xs).getD 0 0) % 8) : Nat) : Int)), (56, .bool true)] := Fr.of hs1073 hd1074 ⟨q1078, q1081, trivial⟩
      refine One.bare hF1070 (by kernel_rfl) (s_pure hT (d := 60) (v := .bool ((decide ((((((clampL xs).getD 0 0) % 8) : Nat) : Int) = 0)))) (cs := []) (by kernel_rfl) (by kernel_rfl) trivial hF1070 ?_)
      have htr : ((decide ((((((clampL xs).getD 0 0) % 8) : Nat) : Int) = 0))) = true := (decide_eq_true (clampL_8 hxl hbx))
      rintro a2 ha2 hF2; rw [ha2]; exact hK1072 _ _ (congrArg Value.bool htr) (grown_refl _ _)
    · -- operation 34
      rintro a1086 w1085 b1088 KK1094 hs1090 hd1091 hJ1092 hb1093 hr1101 hK1089
      have hr1101x : RD SL_ b1088 a1086 a372 w1085 [(56, some 29), (60, some 33)] := hr1101 _ (by kernel_rfl)
      obtain ⟨⟨v1096, q1095, s1097⟩, ⟨v1099, q1098, s1100⟩, -⟩ := hr1101x
      obtain rfl : v1096 = .bool true := s1097
      obtain rfl : v1099 = .bool true := s1100
      obtain ⟨HE, HB6, HB16, HB27, HB53, HB94, HB137, HB322, HB356⟩ := hJ1092
      have hF1087 : Fr 72 a1086 [(56, .bool true), (60, .bool true)] := Fr.of hs1090 hd1091 ⟨q1095, q1098, trivial⟩
      refine s_pure hT (d := 61) (v := .bool true) (cs := []) (by kernel_rfl) (by kernel_rfl) trivial hF1087 ?_
      rintro a2 ha2 hF2; rw [ha2]; exact hK1089 _ _ rfl (grown_refl _ _)
    · -- operation 35
      rintro a1103 w1102 b1105 KK1111 hs1107 hd1108 hJ1109 hb1110 hr1115 hK1106
      have hr1115x : RD SL_ b1105 a1103 a372 w1102 [(61, some 34)] := hr1115 _ (by kernel_rfl)
      obtain ⟨⟨v1113, q1112, s1114⟩, -⟩ := hr1115x
      obtain rfl : v1113 = .bool true := s1114
      obtain ⟨HE, HB6, HB16, HB27, HB53, HB94, HB137, HB322, HB356⟩ := hJ1109
      have hF1104 : Fr 72 a1103 [(61, .bool true)] := Fr.of hs1107 hd1108 ⟨q1112, trivial⟩
      refine s_pure hT (d := 62) (v := .bool true) (cs := []) (by kernel_rfl) (by kernel_rfl) trivial hF1104 ?_
      rintro a2 ha2 hF2; rw [ha2]; exact hK1106 _ _ rfl (grown_refl _ _)
    · -- operation 36
      rintro a1117 w1116 b1119 KK1125 hs1121 hd1122 hJ1123 hb1124 hr1130 hK1120
      have hr1130x : RD SL_ b1119 a1117 a372 w1116 [(11, none), (62, some 35)] := hr1130 _ (by kernel_rfl)
      obtain ⟨q1126, ⟨v1128, q1127, s1129⟩, -⟩ := hr1130x
      obtain rfl : v1128 = .bool true := s1129
      obtain ⟨HE, HB6, HB16, HB27, HB53, HB94, HB137, HB322, HB356⟩ := hJ1123
      have hF1118 : Fr 72 a1117 [(11, .pointer (some ⟨b353, 0, none⟩)), (62, .bool true)] := Fr.of hs1121 hd1122 ⟨(Fr.init hF375 q1126 (by kernel_rfl)), q1127, trivial⟩
      refine One.bare hF1118 (by kernel_rfl) (s_pure hT (d := 63) (v := .pointer (some ⟨b353, 31, none⟩)) (cs := [0 ≤ (31 : Int), (31 : Int) < 32]) (by kernel_rfl) (by kernel_rfl) (And.intro (by first | omega | (simp only [clampL_length]; omega)) (And.intro (by first | omega | (simp only [clampL_length]; omega)) trivial)) hF1118 ?_)
      rintro a2 ha2 hF2; rw [ha2]; exact hK1120 _ _ rfl (grown_refl _ _)
    · -- operation 37
      rintro a1132 w1131 b1134 KK1140 hs1136 hd1137 hJ1138 hb1139 hr1147 hK1135
      have hr1147x : RD SL_ b1134 a1132 a372 w1131 [(63, some 36), (62, some 35)] := hr1147 _ (by kernel_rfl)
      obtain ⟨⟨v1142, q1141, s1143⟩, ⟨v1145, q1144, s1146⟩, -⟩ := hr1147x
      obtain rfl : v1142 = .pointer (some ⟨b353, 31, none⟩) := s1143
      obtain rfl : v1145 = .bool true := s1146
      obtain ⟨HE, HB6, HB16, HB27, HB53, HB94, HB137, HB322, HB356⟩ := hJ1138
      have hF1133 : Fr 72 a1132 [(63, .pointer (some ⟨b353, 31, none⟩)), (62, .bool true)] := Fr.of hs1136 hd1137 ⟨q1141, q1144, trivial⟩
      refine One.bare hF1133 (by kernel_rfl) (s_load hT (d := 64) (A := ⟨b353, 31, none⟩) (by kernel_rfl) hF1133 (HB356.cells.at (vs_get .u8 (clampL xs) (i := 31) (by first | omega | (simp only [clampL_length]; omega))) (by first | rfl | omega)) ?_)
      rintro a1148 ha1150 hF1149
      rw [ha1150]; exact hK1135 _ _ rfl (grown_refl _ _)
    · -- operation 38
      rintro a1152 w1151 b1154 KK1160 hs1156 hd1157 hJ1158 hb1159 hr1167 hK1155
      have hr1167x : RD SL_ b1154 a1152 a372 w1151 [(64, some 37), (62, some 35)] := hr1167 _ (by kernel_rfl)
      obtain ⟨⟨v1162, q1161, s1163⟩, ⟨v1165, q1164, s1166⟩, -⟩ := hr1167x
      obtain rfl : v1162 = .int .u8 ((((clampL xs).getD 31 0) : Nat) : Int) := s1163
      obtain rfl : v1165 = .bool true := s1166
      obtain ⟨HE, HB6, HB16, HB27, HB53, HB94, HB137, HB322, HB356⟩ := hJ1158
      have hF1153 : Fr 72 a1152 [(64, .int .u8 ((((clampL xs).getD 31 0) : Nat) : Int)), (62, .bool true)] := Fr.of hs1156 hd1157 ⟨q1161, q1164, trivial⟩
      refine One.bare hF1153 (by kernel_rfl) (s_pure hT (d := 65) (v := .bool ((decide (64 ≤ ((((clampL xs).getD 31 0) : Nat) : Int))))) (cs := []) (by kernel_rfl) (by kernel_rfl) trivial hF1153 ?_)
      have htr : ((decide (64 ≤ ((((clampL xs).getD 31 0) : Nat) : Int)))) = true := (decide_eq_true (clampL_64 hxl))
      rintro a2 ha2 hF2; rw [ha2]; exact hK1155 _ _ (congrArg Value.bool htr) (grown_refl _ _)
    · -- operation 39
      rintro a1169 w1168 b1171 KK1177 hs1173 hd1174 hJ1175 hb1176 hr1184 hK1172
      have hr1184x : RD SL_ b1171 a1169 a372 w1168 [(62, some 35), (65, some 38)] := hr1184 _ (by kernel_rfl)
      obtain ⟨⟨v1179, q1178, s1180⟩, ⟨v1182, q1181, s1183⟩, -⟩ := hr1184x
      obtain rfl : v1179 = .bool true := s1180
      obtain rfl : v1182 = .bool true := s1183
      obtain ⟨HE, HB6, HB16, HB27, HB53, HB94, HB137, HB322, HB356⟩ := hJ1175
      have hF1170 : Fr 72 a1169 [(62, .bool true), (65, .bool true)] := Fr.of hs1173 hd1174 ⟨q1178, q1181, trivial⟩
      refine s_pure hT (d := 66) (v := .bool true) (cs := []) (by kernel_rfl) (by kernel_rfl) trivial hF1170 ?_
      rintro a2 ha2 hF2; rw [ha2]; exact hK1172 _ _ rfl (grown_refl _ _)
    · -- operation 40
      rintro a1186 w1185 b1188 KK1194 hs1190 hd1191 hJ1192 hb1193 hr1198 hK1189
      have hr1198x : RD SL_ b1188 a1186 a372 w1185 [(66, some 39)] := hr1198 _ (by kernel_rfl)
      obtain ⟨⟨v1196, q1195, s1197⟩, -⟩ := hr1198x
      obtain rfl : v1196 = .bool true := s1197
      obtain ⟨HE, HB6, HB16, HB27, HB53, HB94, HB137, HB322, HB356⟩ := hJ1192
      have hF1187 : Fr 72 a1186 [(66, .bool true)] := Fr.of hs1190 hd1191 ⟨q1195, trivial⟩
      refine s_pure hT (d := 67) (v := .bool true) (cs := []) (by kernel_rfl) (by kernel_rfl) trivial hF1187 ?_
      rintro a2 ha2 hF2; rw [ha2]; exact hK1189 _ _ rfl (grown_refl _ _)
    · -- operation 41
      rintro a1200 w1199 b1202 KK1208 hs1204 hd1205 hJ1206 hb1207 hr1213 hK1203
      have hr1213x : RD SL_ b1202 a1200 a372 w1199 [(11, none), (67, some 40)] := hr1213 _ (by kernel_rfl)
      obtain ⟨q1209, ⟨v1211, q1210, s1212⟩, -⟩ := hr1213x
      obtain rfl : v1211 = .bool true := s1212
      obtain ⟨HE, HB6, HB16, HB27, HB53, HB94, HB137, HB322, HB356⟩ := hJ1206
      have hF1201 : Fr 72 a1200 [(11, .pointer (some ⟨b353, 0, none⟩)), (67, .bool true)] := Fr.of hs1204 hd1205 ⟨(Fr.init hF375 q1209 (by kernel_rfl)), q1210, trivial⟩
      refine One.bare hF1201 (by kernel_rfl) (s_pure hT (d := 68) (v := .pointer (some ⟨b353, 31, none⟩)) (cs := [0 ≤ (31 : Int), (31 : Int) < 32]) (by kernel_rfl) (by kernel_rfl) (And.intro (by first | omega | (simp only [clampL_length]; omega)) (And.intro (by first | omega | (simp only [clampL_length]; omega)) trivial)) hF1201 ?_)
      rintro a2 ha2 hF2; rw [ha2]; exact hK1203 _ _ rfl (grown_refl _ _)
    · -- operation 42
      rintro a1215 w1214 b1217 KK1223 hs1219 hd1220 hJ1221 hb1222 hr1230 hK1218
      have hr1230x : RD SL_ b1217 a1215 a372 w1214 [(68, some 41), (67, some 40)] := hr1230 _ (by kernel_rfl)
      obtain ⟨⟨v1225, q1224, s1226⟩, ⟨v1228, q1227, s1229⟩, -⟩ := hr1230x
      obtain rfl : v1225 = .pointer (some ⟨b353, 31, none⟩) := s1226
      obtain rfl : v1228 = .bool true := s1229
      obtain ⟨HE, HB6, HB16, HB27, HB53, HB94, HB137, HB322, HB356⟩ := hJ1221
      have hF1216 : Fr 72 a1215 [(68, .pointer (some ⟨b353, 31, none⟩)), (67, .bool true)] := Fr.of hs1219 hd1220 ⟨q1224, q1227, trivial⟩
      refine One.bare hF1216 (by kernel_rfl) (s_load hT (d := 69) (A := ⟨b353, 31, none⟩) (by kernel_rfl) hF1216 (HB356.cells.at (vs_get .u8 (clampL xs) (i := 31) (by first | omega | (simp only [clampL_length]; omega))) (by first | rfl | omega)) ?_)
      rintro a1231 ha1233 hF1232
      rw [ha1233]; exact hK1218 _ _ rfl (grown_refl _ _)
    · -- operation 43
      rintro a1235 w1234 b1237 KK1243 hs1239 hd1240 hJ1241 hb1242 hr1250 hK1238
      have hr1250x : RD SL_ b1237 a1235 a372 w1234 [(69, some 42), (67, some 40)] := hr1250 _ (by kernel_rfl)
      obtain ⟨⟨v1245, q1244, s1246⟩, ⟨v1248, q1247, s1249⟩, -⟩ := hr1250x
      obtain rfl : v1245 = .int .u8 ((((clampL xs).getD 31 0) : Nat) : Int) := s1246
      obtain rfl : v1248 = .bool true := s1249
      obtain ⟨HE, HB6, HB16, HB27, HB53, HB94, HB137, HB322, HB356⟩ := hJ1241
      have hF1236 : Fr 72 a1235 [(69, .int .u8 ((((clampL xs).getD 31 0) : Nat) : Int)), (67, .bool true)] := Fr.of hs1239 hd1240 ⟨q1244, q1247, trivial⟩
      refine One.bare hF1236 (by kernel_rfl) (s_pure hT (d := 70) (v := .bool ((decide (((((clampL xs).getD 31 0) : Nat) : Int) < 128)))) (cs := []) (by kernel_rfl) (by kernel_rfl) trivial hF1236 ?_)
      have htr : ((decide (((((clampL xs).getD 31 0) : Nat) : Int) < 128))) = true := (decide_eq_true (clampL_128 hxl))
      rintro a2 ha2 hF2; rw [ha2]; exact hK1238 _ _ (congrArg Value.bool htr) (grown_refl _ _)
    · -- operation 44
      rintro a1252 w1251 b1254 KK1260 hs1256 hd1257 hJ1258 hb1259 hr1267 hK1255
      have hr1267x : RD SL_ b1254 a1252 a372 w1251 [(67, some 40), (70, some 43)] := hr1267 _ (by kernel_rfl)
      obtain ⟨⟨v1262, q1261, s1263⟩, ⟨v1265, q1264, s1266⟩, -⟩ := hr1267x
      obtain rfl : v1262 = .bool true := s1263
      obtain rfl : v1265 = .bool true := s1266
      obtain ⟨HE, HB6, HB16, HB27, HB53, HB94, HB137, HB322, HB356⟩ := hJ1258
      have hF1253 : Fr 72 a1252 [(67, .bool true), (70, .bool true)] := Fr.of hs1256 hd1257 ⟨q1261, q1264, trivial⟩
      refine s_pure hT (d := 71) (v := .bool true) (cs := []) (by kernel_rfl) (by kernel_rfl) trivial hF1253 ?_
      rintro a2 ha2 hF2; rw [ha2]; exact hK1255 _ _ rfl (grown_refl _ _)
    · -- operation 45
      rintro a1269 w1268 b1271 KK1277 hs1273 hd1274 hJ1275 hb1276 hr1281 hK1272
      have hr1281x : RD SL_ b1271 a1269 a372 w1268 [(71, some 44)] := hr1281 _ (by kernel_rfl)
      obtain ⟨⟨v1279, q1278, s1280⟩, -⟩ := hr1281x
      obtain rfl : v1279 = .bool true := s1280
      obtain ⟨HE, HB6, HB16, HB27, HB53, HB94, HB137, HB322, HB356⟩ := hJ1275
      have hF1270 : Fr 72 a1269 [(71, .bool true)] := Fr.of hs1273 hd1274 ⟨q1278, trivial⟩
      refine s_pure hT (d := 6) (v := .bool true) (cs := []) (by kernel_rfl) (by kernel_rfl) trivial hF1270 ?_
      rintro a2 ha2 hF2; rw [ha2]; exact hK1272 _ _ rfl (grown_refl _ _)
    · -- behind the region
      rintro a1283 w1284 hs1285 hd1286 ⟨⟨v1288, q1289, s1290⟩, q1291, q1292, q1293, q1294, q1295, q1296, q1297, q1298, q1299, q1300, q1301, -⟩ ⟨HE, HB6, HB16, HB27, HB53, HB94, HB137, HB322, HB356⟩
      obtain rfl : v1288 = .bool true := s1290
      have hF1302 : Fr 72 a1283 [(6, .bool true), (11, .pointer (some ⟨b353, 0, none⟩)), (10, .pointer (some ⟨b318, 0, none⟩)), (9, .pointer (some ⟨b134, 0, none⟩)), (8, .pointer (some ⟨b91, 0, none⟩)), (7, .pointer (some ⟨b50, 0, none⟩)), (5, .pointer (some ⟨b24, 0, none⟩)), (4, .pointer (some ⟨b13, 0, none⟩)), (3, .pointer (some ⟨b3, 0, none⟩)), (0, .agg (vs .u8 xs).toArray), (1, .agg (vs .u8 ys).toArray), (2, .agg (vs .u8 zs).toArray)] := Fr.of hs1285 hd1286 ⟨q1289, (Fr.init hF375 q1291 (by kernel_rfl)), (Fr.init hF375 q1292 (by kernel_rfl)), (Fr.init hF375 q1293 (by kernel_rfl)), (Fr.init hF375 q1294 (by kernel_rfl)), (Fr.init hF375 q1295 (by kernel_rfl)), (Fr.init hF375 q1296 (by kernel_rfl)), (Fr.init hF375 q1297 (by kernel_rfl)), (Fr.init hF375 q1298 (by kernel_rfl)), (Fr.init hF375 q1299 (by kernel_rfl)), (Fr.init hF375 q1300 (by kernel_rfl)), (Fr.init hF375 q1301 (by kernel_rfl)), trivial⟩
      clear hF375 hs1285 hd1286 q1289 q1291 q1292 q1293 q1294 q1295 q1296 q1297 q1298 q1299 q1300 q1301
      refine hK377 _ _ ?_
      refine wp_ret ?_
      refine ret1 hF1302 rfl (v := .bool true) (by kernel_rfl) ?_
      exact ⟨rfl, HE⟩

end Go.Proofs.Ytdabkjflpbbpeaa
