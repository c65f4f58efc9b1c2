/- Walks of functions of the program: lemmas. -/
import Derived.Test.YtdabkjflpbbpeaaWo
set_option maxRecDepth 100000
set_option linter.unusedVariables false
set_option linter.unusedSimpArgs false
namespace Go.Proofs.Ytdabkjflpbbpeaa
open Go.Proofs Go.RowKit

set_option maxHeartbeats 4000000 in
theorem law18_reckons (Ab : Option Addr) (cb : Nat) (bs : List Nat) (xs : List Nat) (ys : List Nat) (zs : List Nat) (w : World) (hRb : Rd w Ab (vs .u8 bs)) (hbb : By bs) (hmb : bs.length ≤ 9223372036854775807) (hxl : xs.length = 32) (hbx : By xs) (hyl : ys.length = 32) (hby : By ys) (hz : zs.length = 32) (hbz : By zs) :
    Calls Try.prog 9 [.slice Ab bs.length cb, .agg (vs .u8 xs).toArray, .agg (vs .u8 ys).toArray, .agg (vs .u8 zs).toArray].toArray w (Ret fun v w' => v = .bool true ∧ Ex w w') := by
  refine enter Try.func9 rfl (n := 68) Try.ntmps9 (by simp) ?_
  intro a hF
  have HE : Ex w w := Ex.refl w
  refine wp_seq_k (fun K1 hK2 => ?_)
  refine wp_region_lit ?_
  have hz9 := HE.size
  refine wl (s_alloc hT (d := 5) (T := 32) (l := vs .u8 xs) (by kernel_rfl) hF ?_)
  rintro a10 w4 b3 h7 h8 HB6 g5 ha12 hF11; clear ha12 hF a
  replace HE := HE.thenN g5
  have hz19 := HE.size
  have hz20 := HB6.lt
  refine wl (s_alloc hT (d := 6) (T := 32) (l := vs .u8 ys) (by kernel_rfl) hF11 ?_)
  rintro a21 w14 b13 h17 h18 HB16 g15 ha23 hF22; clear ha23 hF11 a10
  replace HE := HE.thenN g15
  replace HB6 := HB6.growN g15
  have hz30 := HE.size
  have hz31 := HB6.lt
  have hz32 := HB16.lt
  refine wl (s_alloc hT (d := 7) (T := 32) (l := vs .u8 zs) (by kernel_rfl) hF22 ?_)
  rintro a33 w25 b24 h28 h29 HB27 g26 ha35 hF34; clear ha35 hF22 a21
  replace HE := HE.thenN g26
  replace HB6 := HB6.growN g26
  replace HB16 := HB16.growN g26
  refine pures_end hT 1 _ hF34 (F' := [(8, .bool false), (7, .pointer (some ⟨b24, 0, none⟩)), (6, .pointer (some ⟨b13, 0, none⟩)), (5, .pointer (some ⟨b3, 0, none⟩)), (0, .slice Ab bs.length cb), (1, .agg (vs .u8 xs).toArray), (2, .agg (vs .u8 ys).toArray), (3, .agg (vs .u8 zs).toArray)]) (cs := []) (by kernel_rfl) rfl trivial ?_
  intro a36 hF37; clear hF34 a33
  refine hK2 _ _ ?_
  refine wp_seq_k (fun K38 hK39 => ?_)
  refine wp_seq_k (fun K40 hK41 => ?_)
  refine wp_region_lit ?_
  refine pures_end hT 3 _ hF37 (F' := [(14, .bool ((decide (100 < ((bs.length : Nat) : Int))))), (13, .int .i64 ((bs.length : Nat) : Int)), (12, .slice Ab bs.length cb), (8, .bool false), (7, .pointer (some ⟨b24, 0, none⟩)), (6, .pointer (some ⟨b13, 0, none⟩)), (5, .pointer (some ⟨b3, 0, none⟩)), (0, .slice Ab bs.length cb), (1, .agg (vs .u8 xs).toArray), (2, .agg (vs .u8 ys).toArray), (3, .agg (vs .u8 zs).toArray)]) (cs := []) (by kernel_rfl) rfl trivial ?_
  intro a42 hF43; clear hF37 a36
  have hF44 := hF43.pick [14, 8, 7, 6, 5, 0, 1, 2, 3] (G := [(14, .bool ((decide (100 < ((bs.length : Nat) : Int))))), (8, .bool false), (7, .pointer (some ⟨b24, 0, none⟩)), (6, .pointer (some ⟨b13, 0, none⟩)), (5, .pointer (some ⟨b3, 0, none⟩)), (0, .slice Ab bs.length cb), (1, .agg (vs .u8 xs).toArray), (2, .agg (vs .u8 ys).toArray), (3, .agg (vs .u8 zs).toArray)]) (by kernel_rfl); clear hF43
  refine hK41 _ _ ?_
  refine condK hF44 (p := 100 < ((bs.length : Nat) : Int)) (by kernel_rfl) (fun h45 => ?_) (fun h45 => ?_)
  · -- h45
    refine wp_seq_k (fun K46 hK47 => ?_)
    refine wp_region_lit ?_
    refine pures_end hT 1 _ hF44 (F' := [(8, .bool true), (14, .bool ((decide (100 < ((bs.length : Nat) : Int))))), (8, .bool false), (7, .pointer (some ⟨b24, 0, none⟩)), (6, .pointer (some ⟨b13, 0, none⟩)), (5, .pointer (some ⟨b3, 0, none⟩)), (0, .slice Ab bs.length cb), (1, .agg (vs .u8 xs).toArray), (2, .agg (vs .u8 ys).toArray), (3, .agg (vs .u8 zs).toArray)]) (cs := []) (by kernel_rfl) rfl trivial ?_
    intro a48 hF49; clear hF44 a42
    have hF50 := hF49.pick [8, 14, 7, 6, 5, 0, 1, 2, 3] (G := [(8, .bool true), (14, .bool ((decide (100 < ((bs.length : Nat) : Int))))), (7, .pointer (some ⟨b24, 0, none⟩)), (6, .pointer (some ⟨b13, 0, none⟩)), (5, .pointer (some ⟨b3, 0, none⟩)), (0, .slice Ab bs.length cb), (1, .agg (vs .u8 xs).toArray), (2, .agg (vs .u8 ys).toArray), (3, .agg (vs .u8 zs).toArray)]) (by kernel_rfl); clear hF49
    refine hK47 _ _ ?_
    refine wp_ret ?_
    refine ret1 hF50 rfl (v := .bool true) (by kernel_rfl) ?_
    exact ⟨rfl, HE⟩
  · -- h45
    refine wp_skip ?_
    refine hK39 _ _ ?_
    refine wp_seq_k (fun K51 hK52 => ?_)
    have hlb : bs.length ≤ 100 := by omega
    refine wp_region_lit ?_
    have hz59 := HE.size
    have hz60 := HB6.lt
    have hz61 := HB16.lt
    have hz62 := HB27.lt
    refine wl (s_lit hT (d := 15) (T := 5) (l := vs .u8 []) (by kernel_rfl) hF44 ?_)
    rintro a63 w54 b53 h57 h58 HB56 g55 ha65 hF64; clear ha65 hF44 a42
    replace HE := HE.thenN g55
    replace HB6 := HB6.growN g55
    replace HB16 := HB16.growN g55
    replace HB27 := HB27.growN g55
    refine pures hT 1 _ hF64 (F' := [(16, .slice Ab bs.length cb), (15, .slice (some ⟨b53, 0, none⟩) 0 0), (14, .bool ((decide (100 < ((bs.length : Nat) : Int))))), (8, .bool false), (7, .pointer (some ⟨b24, 0, none⟩)), (6, .pointer (some ⟨b13, 0, none⟩)), (5, .pointer (some ⟨b3, 0, none⟩)), (0, .slice Ab bs.length cb), (1, .agg (vs .u8 xs).toArray), (2, .agg (vs .u8 ys).toArray), (3, .agg (vs .u8 zs).toArray)]) (cs := []) (by kernel_rfl) trivial ?_
    intro a66 hF67; clear hF64 a63
    have hz68 := HE.size
    have hz69 := HB6.lt
    have hz70 := HB16.lt
    have hz71 := HB27.lt
    have hz72 := HB56.lt
    refine wl (s_app hT (d := 17) (T := 5) (i := tr5) (B := w.heap.size) (m := 0) (c := 0) (m2 := bs.length) (c2 := cb) (by kernel_rfl) hF67 rfl (by decide) (HB56.own (B := w.heap.size) (by first | omega | (simp only [clampL_length]; omega)) (by simp [maxLen])) (hRb.ex HE) (by show _ = bs.length * 1; simp) vs_one (by show (0 + bs.length) * 1 ≤ 140737488355328; omega) (by decide) (by have := HE.size; omega) ?_)
    rintro a79 w73 A76 c77 HO75 g74 hat78 ha81 hF80; clear ha81 hF67 a66
    rw [Nat.zero_add] at hF80 HO75
    simp only [vs, List.map_nil, List.nil_append] at HO75; try change Own _ _ _ _ _ _ _ (vs _ _) at HO75
    replace g74 : World.grownBy w54 w73 (some b53) := g74
    replace HE := HE.thenS g74 (by first | omega | (simp only [clampL_length]; omega))
    replace HB6 := HB6.growS g74 (by first | omega | (simp only [clampL_length]; omega))
    replace HB16 := HB16.growS g74 (by first | omega | (simp only [clampL_length]; omega))
    replace HB27 := HB27.growS g74 (by first | omega | (simp only [clampL_length]; omega))
    refine pures_end hT 1 _ hF80 (F' := [(9, .slice A76 bs.length c77), (17, .slice A76 bs.length c77), (16, .slice Ab bs.length cb), (15, .slice (some ⟨b53, 0, none⟩) 0 0), (14, .bool ((decide (100 < ((bs.length : Nat) : Int))))), (8, .bool false), (7, .pointer (some ⟨b24, 0, none⟩)), (6, .pointer (some ⟨b13, 0, none⟩)), (5, .pointer (some ⟨b3, 0, none⟩)), (0, .slice Ab bs.length cb), (1, .agg (vs .u8 xs).toArray), (2, .agg (vs .u8 ys).toArray), (3, .agg (vs .u8 zs).toArray)]) (cs := []) (by kernel_rfl) rfl trivial ?_
    intro a82 hF83; clear hF80 a79
    have hF84 := hF83.pick [9, 14, 8, 7, 6, 5, 0, 1, 2, 3] (G := [(9, .slice A76 bs.length c77), (14, .bool ((decide (100 < ((bs.length : Nat) : Int))))), (8, .bool false), (7, .pointer (some ⟨b24, 0, none⟩)), (6, .pointer (some ⟨b13, 0, none⟩)), (5, .pointer (some ⟨b3, 0, none⟩)), (0, .slice Ab bs.length cb), (1, .agg (vs .u8 xs).toArray), (2, .agg (vs .u8 ys).toArray), (3, .agg (vs .u8 zs).toArray)]) (by kernel_rfl); clear hF83
    refine hK52 _ _ ?_
    refine wp_seq_k (fun K85 hK86 => ?_)
    refine wp_region_lit ?_
    have hz90 := HE.size
    have hz91 := HB6.lt
    have hz92 := HB16.lt
    have hz93 := HB27.lt
    have hz94 := HO75.base
    refine wl (s_call (d := 18) (f := 26) (l := []) (by kernel_rfl) hF84 cl26 (scal_Order _) ?_)
    rintro a95 w87 v88 ⟨rfl, HX89⟩ ha97 hF96; clear ha97 hF84 a82
    replace HE := HE.thenN HX89.g
    replace HB6 := HB6.growN HX89.g
    replace HB16 := HB16.growN HX89.g
    replace HB27 := HB27.growN HX89.g
    replace HO75 := HO75.growN HX89.g
    have hz104 := HE.size
    have hz105 := HB6.lt
    have hz106 := HB16.lt
    have hz107 := HB27.lt
    have hz108 := HO75.base
    refine wl (s_alloc hT (d := 10) (T := 32) (l := vs .u8 [0, 0, 0, 0, 0, 0, 0, 0, 0, 0, 0, 0, 0, 0, 0, 0, 0, 0, 0, 0, 0, 0, 0, 0, 0, 0, 0, 0, 0, 0, 0, 0]) (by kernel_rfl) hF96 ?_)
    rintro a109 w99 b98 h102 h103 HB101 g100 ha111 hF110; clear ha111 hF96 a95
    replace HE := HE.thenN g100
    replace HB6 := HB6.growN g100
    replace HB16 := HB16.growN g100
    replace HB27 := HB27.growN g100
    replace HO75 := HO75.growN g100
    refine wl (s_storeV hT (b := b98) (l2 := vs .u8 oL) (sz := 32) (by kernel_rfl) hF110 HB101 (by first | rfl | (simp only [vs_length, vi_length]; first | assumption | omega) | (simp only [vs_length, le_length]; done) | (simp only [vs_length, le_length]; first | rfl | assumption | (symm; assumption) | omega | (simp; done)) | (simp only [vs_length, clampL_length, le_length]; first | done | assumption | exact hxl | rfl) | rfl | (simp; done)) (by first | rfl | (simp only [vs_length, vi_length]; first | assumption | omega) | (simp only [vs_length, le_length]; done) | (simp only [vs_length, le_length]; first | rfl | assumption | (symm; assumption) | omega | (simp; done)) | (simp only [vs_length, clampL_length, le_length]; first | done | assumption | exact hxl | rfl) | rfl | (simp; done) | (simp only [vs_length, vi_length]; simp; omega)) (by exact vs_one) ?_)
    rintro a114 w112 ha116 hF115 HB101x g113; clear ha116 hF110 a109; replace HB101 := HB101x
    replace HE := HE.thenS g113 (by first | omega | (simp only [clampL_length]; omega))
    replace HB6 := HB6.growS g113 (by first | omega | (simp only [clampL_length]; omega))
    replace HB16 := HB16.growS g113 (by first | omega | (simp only [clampL_length]; omega))
    replace HB27 := HB27.growS g113 (by first | omega | (simp only [clampL_length]; omega))
    replace HO75 := HO75.grow g113 (own_blk hz108 (by omega))
    refine wpList_nil ?_
    have hF117 := hF115.pick [10, 9, 14, 8, 7, 6, 5, 0, 1, 2, 3] (G := [(10, .pointer (some ⟨b98, 0, none⟩)), (9, .slice A76 bs.length c77), (14, .bool ((decide (100 < ((bs.length : Nat) : Int))))), (8, .bool false), (7, .pointer (some ⟨b24, 0, none⟩)), (6, .pointer (some ⟨b13, 0, none⟩)), (5, .pointer (some ⟨b3, 0, none⟩)), (0, .slice Ab bs.length cb), (1, .agg (vs .u8 xs).toArray), (2, .agg (vs .u8 ys).toArray), (3, .agg (vs .u8 zs).toArray)]) (by kernel_rfl); clear hF115
    refine hK86 _ _ ?_
    refine wp_seq_k (fun K118 hK119 => ?_)
    refine wp_region_lit ?_
    refine pures hT 1 _ hF117 (F' := [(19, .slice A76 bs.length c77), (10, .pointer (some ⟨b98, 0, none⟩)), (9, .slice A76 bs.length c77), (14, .bool ((decide (100 < ((bs.length : Nat) : Int))))), (8, .bool false), (7, .pointer (some ⟨b24, 0, none⟩)), (6, .pointer (some ⟨b13, 0, none⟩)), (5, .pointer (some ⟨b3, 0, none⟩)), (0, .slice Ab bs.length cb), (1, .agg (vs .u8 xs).toArray), (2, .agg (vs .u8 ys).toArray), (3, .agg (vs .u8 zs).toArray)]) (cs := []) (by kernel_rfl) trivial ?_
    intro a120 hF121; clear hF117 a114
    have hz125 := HE.size
    have hz126 := HB6.lt
    have hz127 := HB16.lt
    have hz128 := HB27.lt
    have hz129 := HO75.base
    have hz130 := HB101.lt
    refine wl (s_call (d := 20) (f := 27) (l := [.slice A76 bs.length c77]) (by kernel_rfl) hF121 cl27 (scal_Reduce A76 bs.length c77 bs (nv 256 bs) _ rfl (by first | rfl | omega | exact le_length _ _ | assumption) HO75.rd hbb (Nat.le_trans hlb (by decide))) ?_)
    rintro a131 w122 v123 ⟨rfl, HX124⟩ ha133 hF132; clear ha133 hF121 a120
    replace HE := HE.thenN HX124.g
    replace HB6 := HB6.growN HX124.g
    replace HB16 := HB16.growN HX124.g
    replace HB27 := HB27.growN HX124.g
    replace HO75 := HO75.growN HX124.g
    replace HB101 := HB101.growN HX124.g
    have hz140 := HE.size
    have hz141 := HB6.lt
    have hz142 := HB16.lt
    have hz143 := HB27.lt
    have hz144 := HO75.base
    have hz145 := HB101.lt
    refine wl (s_alloc hT (d := 11) (T := 32) (l := vs .u8 [0, 0, 0, 0, 0, 0, 0, 0, 0, 0, 0, 0, 0, 0, 0, 0, 0, 0, 0, 0, 0, 0, 0, 0, 0, 0, 0, 0, 0, 0, 0, 0]) (by kernel_rfl) hF132 ?_)
    rintro a146 w135 b134 h138 h139 HB137 g136 ha148 hF147; clear ha148 hF132 a131
    replace HE := HE.thenN g136
    replace HB6 := HB6.growN g136
    replace HB16 := HB16.growN g136
    replace HB27 := HB27.growN g136
    replace HO75 := HO75.growN g136
    replace HB101 := HB101.growN g136
    refine wl (s_storeV hT (b := b134) (l2 := vs .u8 (le 32 ((nv 256 bs) % Lq))) (sz := 32) (by kernel_rfl) hF147 HB137 (by first | rfl | (simp only [vs_length, vi_length]; first | assumption | omega) | (simp only [vs_length, le_length]; done) | (simp only [vs_length, le_length]; first | rfl | assumption | (symm; assumption) | omega | (simp; done)) | (simp only [vs_length, clampL_length, le_length]; first | done | assumption | exact hxl | rfl) | rfl | (simp; done)) (by first | rfl | (simp only [vs_length, vi_length]; first | assumption | omega) | (simp only [vs_length, le_length]; done) | (simp only [vs_length, le_length]; first | rfl | assumption | (symm; assumption) | omega | (simp; done)) | (simp only [vs_length, clampL_length, le_length]; first | done | assumption | exact hxl | rfl) | rfl | (simp; done) | (simp only [vs_length, vi_length]; simp; omega)) (by exact vs_one) ?_)
    rintro a151 w149 ha153 hF152 HB137x g150; clear ha153 hF147 a146; replace HB137 := HB137x
    replace HE := HE.thenS g150 (by first | omega | (simp only [clampL_length]; omega))
    replace HB6 := HB6.growS g150 (by first | omega | (simp only [clampL_length]; omega))
    replace HB16 := HB16.growS g150 (by first | omega | (simp only [clampL_length]; omega))
    replace HB27 := HB27.growS g150 (by first | omega | (simp only [clampL_length]; omega))
    replace HO75 := HO75.grow g150 (own_blk hz144 (by omega))
    replace HB101 := HB101.growS g150 (by first | omega | (simp only [clampL_length]; omega))
    refine wpList_nil ?_
    have hF154 := hF152.pick [11, 10, 9, 14, 8, 7, 6, 5, 0, 1, 2, 3] (G := [(11, .pointer (some ⟨b134, 0, none⟩)), (10, .pointer (some ⟨b98, 0, none⟩)), (9, .slice A76 bs.length c77), (14, .bool ((decide (100 < ((bs.length : Nat) : Int))))), (8, .bool false), (7, .pointer (some ⟨b24, 0, none⟩)), (6, .pointer (some ⟨b13, 0, none⟩)), (5, .pointer (some ⟨b3, 0, none⟩)), (0, .slice Ab bs.length cb), (1, .agg (vs .u8 xs).toArray), (2, .agg (vs .u8 ys).toArray), (3, .agg (vs .u8 zs).toArray)]) (by kernel_rfl); clear hF152
    refine hK119 _ _ ?_
    refine wp_seq_k (fun K155 hK156 => ?_)
    have HE157 : Ex w149 w149 := Ex.refl _
    have HR158 := HO75.rd
    have HR158b := HO75.base
    clear HO75
    let SL_ : List SP := [SP.val (.bool true), SP.val (.bool true), SP.val (.slice A76 bs.length c77), SP.val (.string (str bs)), SP.val (.slice Ab bs.length cb), SP.val (.string (str bs)), SP.val (.bool true), SP.val (.bool true), SP.val (.bool true), SP.val (.slice (some ⟨b98, 0, none⟩) 32 32), SP.mk' (fun _ v W => ∃ A c, v = .slice A ((dig 256 Lq).length) c ∧ Rd W A (vs .u8 (dig 256 Lq))) (fun _ v w w' h g => by obtain ⟨A, c, e, h⟩ := h; exact ⟨A, c, e, h.grow g (by simp)⟩), SP.val (.int .i64 (cmpI Lq Lq)), SP.val (.bool true), SP.val (.bool true), SP.val (.bool true), SP.val (.agg (vs .u8 xs).toArray), SP.val (.bool ((decide ((nv 256 xs) < Lq)))), SP.val (.slice (some ⟨b3, 0, none⟩) 32 32), SP.mk' (fun _ v W => ∃ A c, v = .slice A ((dig 256 Lq).length) c ∧ Rd W A (vs .u8 (dig 256 Lq))) (fun _ v w w' h g => by obtain ⟨A, c, e, h⟩ := h; exact ⟨A, c, e, h.grow g (by simp)⟩), SP.val (.int .i64 (cmpI (nv 256 xs) Lq)), SP.val (.bool ((decide ((cmpI (nv 256 xs) Lq) < 0)))), SP.val (.bool true), SP.val (.bool true), SP.val (.bool true), SP.val (.agg (vs .u8 (le 32 ((nv 256 bs) % Lq))).toArray), SP.val (.slice Ab bs.length cb), SP.val (.agg (vs .u8 (le 32 ((nv 256 bs) % Lq))).toArray), SP.val (.bool true), SP.val (.bool true), SP.val (.bool true), SP.val (.agg (vs .u8 xs).toArray), SP.val (.agg (vs .u8 ys).toArray), SP.val (.agg (vs .u8 zs).toArray), SP.val (.agg (vs .u8 (le 32 (((nv 256 xs) * (nv 256 ys) + (nv 256 zs)) % Lq))).toArray), SP.val (.agg (vs .u8 xs).toArray), SP.val (.agg (vs .u8 ys).toArray), SP.val (.agg (vs .u8 zs).toArray), SP.val (.agg (vs .u8 (le 32 (((nv 256 xs) * (nv 256 ys) + (nv 256 zs)) % Lq))).toArray), SP.val (.bool true), SP.val (.bool true), SP.val (.bool true), SP.val (.agg (vs .u8 xs).toArray), SP.val (.agg (vs .u8 (clampL xs)).toArray), SP.val (.agg (vs .u8 xs).toArray), SP.val (.agg (vs .u8 (clampL xs)).toArray), SP.val (.bool true), SP.val (.bool true), SP.val (.bool true)]
    refine region_rel (SL := SL_) (J := (fun (b : Bool) (W : World) => (Ex w W) ∧ (Blk W b3 32 (vs .u8 xs)) ∧ (Blk W b13 32 (vs .u8 ys)) ∧ (Blk W b24 32 (vs .u8 zs)) ∧ (Blk W b98 32 (vs .u8 oL)) ∧ (Blk W b134 32 (vs .u8 (le 32 ((nv 256 bs) % Lq)))) ∧ (Ex w149 W))) (m := 48) wide (by kernel_rfl) (by kernel_rfl) hF154 rfl ?_ ⟨HE, HB6, HB16, HB27, HB101, HB137, HE157⟩ ⟨?_, ?_, ?_, ?_, ?_, ?_, ?_, ?_, ?_, ?_, ?_, ?_, ?_, ?_, ?_, ?_, ?_, ?_, ?_, ?_, ?_, ?_, ?_, ?_, ?_, ?_, ?_, ?_, ?_, ?_, ?_, ?_, ?_, ?_, ?_, ?_, ?_, ?_, ?_, ?_, ?_, ?_, ?_, ?_, ?_, ?_, ?_, ?_, trivial⟩ [(8, some 47), (11, none), (10, none), (9, none), (14, none), (7, none), (6, none), (5, none), (0, none), (1, none), (2, none), (3, none)] (by kernel_rfl) ?_
    · intro b W W' hj g; cases b <;> exact ⟨hj.1.thenN g, hj.2.1.growN g, hj.2.2.1.growN g, hj.2.2.2.1.growN g, hj.2.2.2.2.1.growN g, hj.2.2.2.2.2.1.growN g, hj.2.2.2.2.2.2.thenN g⟩
    · -- operation 0
      rintro a160 w159 b162 KK168 hs164 hd165 hJ166 hb167 hr169 hK163
      have hr169x : RD SL_ b162 a160 a151 w159 [] := hr169 _ (by kernel_rfl)
      obtain ⟨HE, HB6, HB16, HB27, HB101, HB137, HE157⟩ := hJ166
      have hF161 : Fr 68 a160 [] := Fr.of hs164 hd165 trivial
      have hz173 := HE.size
      have hz174 := HB6.lt
      have hz175 := HB16.lt
      have hz176 := HB27.lt
      have hz177 := HB101.lt
      have hz178 := HB137.lt
      have hz179 := HE157.size
      refine s_call (d := 21) (f := 28) (l := []) (by kernel_rfl) hF161 cl28 (law18_awake _) ?_
      rintro a180 w170 v171 ⟨rfl, HX172⟩ ha182 hF181
      replace HE := HE.thenN HX172.g
      replace HB6 := HB6.growN HX172.g
      replace HB16 := HB16.growN HX172.g
      replace HB27 := HB27.growN HX172.g
      replace HB101 := HB101.growN HX172.g
      replace HB137 := HB137.growN HX172.g
      replace HE157 := HE157.thenN HX172.g
      rw [ha182]; exact hK163 _ _ rfl HX172.g
    · -- operation 1
      rintro a184 w183 b186 KK192 hs188 hd189 hJ190 hb191 hr196 hK187
      have hr196x : RD SL_ b186 a184 a151 w183 [(21, some 0)] := hr196 _ (by kernel_rfl)
      obtain ⟨⟨v194, q193, s195⟩, -⟩ := hr196x
      obtain rfl : v194 = .bool true := s195
      obtain ⟨HE, HB6, HB16, HB27, HB101, HB137, HE157⟩ := hJ190
      have hF185 : Fr 68 a184 [(21, .bool true)] := Fr.of hs188 hd189 ⟨q193, trivial⟩
      refine s_pure hT (d := 22) (v := .bool true) (cs := []) (by kernel_rfl) (by kernel_rfl) trivial hF185 ?_
      rintro a2 ha2 hF2; rw [ha2]; exact hK187 _ _ rfl (grown_refl _ _)
    · -- operation 2
      rintro a198 w197 b200 KK206 hs202 hd203 hJ204 hb205 hr211 hK201
      have hr211x : RD SL_ b200 a198 a151 w197 [(9, none), (22, some 1)] := hr211 _ (by kernel_rfl)
      obtain ⟨q207, ⟨v209, q208, s210⟩, -⟩ := hr211x
      obtain rfl : v209 = .bool true := s210
      obtain ⟨HE, HB6, HB16, HB27, HB101, HB137, HE157⟩ := hJ204
      have hF199 : Fr 68 a198 [(9, .slice A76 bs.length c77), (22, .bool true)] := Fr.of hs202 hd203 ⟨(Fr.init hF154 q207 (by kernel_rfl)), q208, trivial⟩
      refine One.bare hF199 (by kernel_rfl) (s_pure hT (d := 23) (v := .slice A76 bs.length c77) (cs := []) (by kernel_rfl) (by kernel_rfl) trivial hF199 ?_)
      rintro a2 ha2 hF2; rw [ha2]; exact hK201 _ _ rfl (grown_refl _ _)
    · -- operation 3
      rintro a213 w212 b215 KK221 hs217 hd218 hJ219 hb220 hr228 hK216
      have hr228x : RD SL_ b215 a213 a151 w212 [(23, some 2), (22, some 1)] := hr228 _ (by kernel_rfl)
      obtain ⟨⟨v223, q222, s224⟩, ⟨v226, q225, s227⟩, -⟩ := hr228x
      obtain rfl : v223 = .slice A76 bs.length c77 := s224
      obtain rfl : v226 = .bool true := s227
      obtain ⟨HE, HB6, HB16, HB27, HB101, HB137, HE157⟩ := hJ219
      have hF214 : Fr 68 a213 [(23, .slice A76 bs.length c77), (22, .bool true)] := Fr.of hs217 hd218 ⟨q222, q225, trivial⟩
      refine One.bare hF214 (by kernel_rfl) (s_str hT (d := 24) (A := A76) (m := bs.length) (xs := bs) (by kernel_rfl) hF214 (HR158.ex HE157) (by (first | (simp only [vs_length, vi_length]; omega) | (simp only [vs_length, le_length]; done) | (simp only [vs_length, le_length]; first | rfl | assumption | (symm; assumption) | omega | (simp; done)) | (simp only [vs_length, clampL_length, le_length]; first | done | assumption | exact hxl | rfl) | rfl | (simp; omega) | omega)) ?_)
      rintro a229 ha231 hF230
      rw [ha231]; exact hK216 _ _ rfl (grown_refl _ _)
    · -- operation 4
      rintro a233 w232 b235 KK241 hs237 hd238 hJ239 hb240 hr246 hK236
      have hr246x : RD SL_ b235 a233 a151 w232 [(0, none), (22, some 1)] := hr246 _ (by kernel_rfl)
      obtain ⟨q242, ⟨v244, q243, s245⟩, -⟩ := hr246x
      obtain rfl : v244 = .bool true := s245
      obtain ⟨HE, HB6, HB16, HB27, HB101, HB137, HE157⟩ := hJ239
      have hF234 : Fr 68 a233 [(0, .slice Ab bs.length cb), (22, .bool true)] := Fr.of hs237 hd238 ⟨(Fr.init hF154 q242 (by kernel_rfl)), q243, trivial⟩
      refine One.bare hF234 (by kernel_rfl) (s_pure hT (d := 25) (v := .slice Ab bs.length cb) (cs := []) (by kernel_rfl) (by kernel_rfl) trivial hF234 ?_)
      rintro a2 ha2 hF2; rw [ha2]; exact hK236 _ _ rfl (grown_refl _ _)
    · -- operation 5
      rintro a248 w247 b250 KK256 hs252 hd253 hJ254 hb255 hr263 hK251
      have hr263x : RD SL_ b250 a248 a151 w247 [(25, some 4), (22, some 1)] := hr263 _ (by kernel_rfl)
      obtain ⟨⟨v258, q257, s259⟩, ⟨v261, q260, s262⟩, -⟩ := hr263x
      obtain rfl : v258 = .slice Ab bs.length cb := s259
      obtain rfl : v261 = .bool true := s262
      obtain ⟨HE, HB6, HB16, HB27, HB101, HB137, HE157⟩ := hJ254
      have hF249 : Fr 68 a248 [(25, .slice Ab bs.length cb), (22, .bool true)] := Fr.of hs252 hd253 ⟨q257, q260, trivial⟩
      refine One.bare hF249 (by kernel_rfl) (s_str hT (d := 26) (A := Ab) (m := bs.length) (xs := bs) (by kernel_rfl) hF249 (hRb.ex HE) (by (first | (simp only [vs_length, vi_length]; omega) | (simp only [vs_length, le_length]; done) | (simp only [vs_length, le_length]; first | rfl | assumption | (symm; assumption) | omega | (simp; done)) | (simp only [vs_length, clampL_length, le_length]; first | done | assumption | exact hxl | rfl) | rfl | (simp; omega) | omega)) ?_)
      rintro a264 ha266 hF265
      rw [ha266]; exact hK251 _ _ rfl (grown_refl _ _)
    · -- operation 6
      rintro a268 w267 b270 KK276 hs272 hd273 hJ274 hb275 hr286 hK271
      have hr286x : RD SL_ b270 a268 a151 w267 [(24, some 3), (26, some 5), (22, some 1)] := hr286 _ (by kernel_rfl)
      obtain ⟨⟨v278, q277, s279⟩, ⟨v281, q280, s282⟩, ⟨v284, q283, s285⟩, -⟩ := hr286x
      obtain rfl : v278 = .string (str bs) := s279
      obtain rfl : v281 = .string (str bs) := s282
      obtain rfl : v284 = .bool true := s285
      obtain ⟨HE, HB6, HB16, HB27, HB101, HB137, HE157⟩ := hJ274
      have hF269 : Fr 68 a268 [(24, .string (str bs)), (26, .string (str bs)), (22, .bool true)] := Fr.of hs272 hd273 ⟨q277, q280, q283, trivial⟩
      refine One.bare hF269 (by kernel_rfl) (s_pure hT (d := 27) (v := .bool ((ByteArray.toList (str bs) == ByteArray.toList (str bs)))) (cs := []) (by kernel_rfl) (by kernel_rfl) trivial hF269 ?_)
      have htr : ((ByteArray.toList (str bs) == ByteArray.toList (str bs))) = true := (str_eqT rfl)
      rintro a2 ha2 hF2; rw [ha2]; exact hK271 _ _ (congrArg Value.bool htr) (grown_refl _ _)
    · -- operation 7
      rintro a288 w287 b290 KK296 hs292 hd293 hJ294 hb295 hr303 hK291
      have hr303x : RD SL_ b290 a288 a151 w287 [(22, some 1), (27, some 6)] := hr303 _ (by kernel_rfl)
      obtain ⟨⟨v298, q297, s299⟩, ⟨v301, q300, s302⟩, -⟩ := hr303x
      obtain rfl : v298 = .bool true := s299
      obtain rfl : v301 = .bool true := s302
      obtain ⟨HE, HB6, HB16, HB27, HB101, HB137, HE157⟩ := hJ294
      have hF289 : Fr 68 a288 [(22, .bool true), (27, .bool true)] := Fr.of hs292 hd293 ⟨q297, q300, trivial⟩
      refine s_pure hT (d := 28) (v := .bool true) (cs := []) (by kernel_rfl) (by kernel_rfl) trivial hF289 ?_
      rintro a2 ha2 hF2; rw [ha2]; exact hK291 _ _ rfl (grown_refl _ _)
    · -- operation 8
      rintro a305 w304 b307 KK313 hs309 hd310 hJ311 hb312 hr317 hK308
      have hr317x : RD SL_ b307 a305 a151 w304 [(28, some 7)] := hr317 _ (by kernel_rfl)
      obtain ⟨⟨v315, q314, s316⟩, -⟩ := hr317x
      obtain rfl : v315 = .bool true := s316
      obtain ⟨HE, HB6, HB16, HB27, HB101, HB137, HE157⟩ := hJ311
      have hF306 : Fr 68 a305 [(28, .bool true)] := Fr.of hs309 hd310 ⟨q314, trivial⟩
      refine s_pure hT (d := 29) (v := .bool true) (cs := []) (by kernel_rfl) (by kernel_rfl) trivial hF306 ?_
      rintro a2 ha2 hF2; rw [ha2]; exact hK308 _ _ rfl (grown_refl _ _)
    · -- operation 9
      rintro a319 w318 b321 KK327 hs323 hd324 hJ325 hb326 hr332 hK322
      have hr332x : RD SL_ b321 a319 a151 w318 [(10, none), (29, some 8)] := hr332 _ (by kernel_rfl)
      obtain ⟨q328, ⟨v330, q329, s331⟩, -⟩ := hr332x
      obtain rfl : v330 = .bool true := s331
      obtain ⟨HE, HB6, HB16, HB27, HB101, HB137, HE157⟩ := hJ325
      have hF320 : Fr 68 a319 [(10, .pointer (some ⟨b98, 0, none⟩)), (29, .bool true)] := Fr.of hs323 hd324 ⟨(Fr.init hF154 q328 (by kernel_rfl)), q329, trivial⟩
      refine One.bare hF320 (by kernel_rfl) (s_sliceA hT (d := 30) (b := b98) (off := 0) (m := 32) (sz := 1) (lo := 0) (hi := 32) (by kernel_rfl) hF320 (by omega) (by omega) (by omega) ?_)
      rintro a333 ha335 hF334
      replace hF334 : Fr 68 a333 [(30, .slice (some ⟨b98, 0, none⟩) 32 32), (10, .pointer (some ⟨b98, 0, none⟩)), (29, .bool true)] := hF334
      rw [ha335]; exact hK322 _ _ rfl (grown_refl _ _)
    · -- operation 10
      rintro a337 w336 b339 KK345 hs341 hd342 hJ343 hb344 hr349 hK340
      have hr349x : RD SL_ b339 a337 a151 w336 [(29, some 8)] := hr349 _ (by kernel_rfl)
      obtain ⟨⟨v347, q346, s348⟩, -⟩ := hr349x
      obtain rfl : v347 = .bool true := s348
      obtain ⟨HE, HB6, HB16, HB27, HB101, HB137, HE157⟩ := hJ343
      have hF338 : Fr 68 a337 [(29, .bool true)] := Fr.of hs341 hd342 ⟨q346, trivial⟩
      have hz356 := HE.size
      have hz357 := HB6.lt
      have hz358 := HB16.lt
      have hz359 := HB27.lt
      have hz360 := HB101.lt
      have hz361 := HB137.lt
      have hz362 := HE157.size
      refine One.bare hF338 (by kernel_rfl) (s_call (d := 31) (f := 29) (l := []) (by kernel_rfl) hF338 cl29 (ref18_Order _) ?_)
      rintro a363 w353 v354 ⟨A350, c351, rfl, HX355, HO352⟩ ha365 hF364
      replace HE := HE.thenN HX355.g
      replace HB6 := HB6.growN HX355.g
      replace HB16 := HB16.growN HX355.g
      replace HB27 := HB27.growN HX355.g
      replace HB101 := HB101.growN HX355.g
      replace HB137 := HB137.growN HX355.g
      replace HE157 := HE157.thenN HX355.g
      have hcp366 := HO352.cap
      rw [ha365]; exact hK340 _ _ ⟨_, _, rfl, HO352.rd⟩ HX355.g
    · -- operation 11
      rintro a368 w367 b370 KK376 hs372 hd373 hJ374 hb375 hr390 hK371
      have hr390x : RD SL_ b370 a368 a151 w367 [(30, some 9), (31, some 10), (29, some 8)] := hr390 _ (by kernel_rfl)
      obtain ⟨⟨v378, q377, s379⟩, ⟨v381, q380, s382⟩, ⟨v388, q387, s389⟩, -⟩ := hr390x
      obtain rfl : v378 = .slice (some ⟨b98, 0, none⟩) 32 32 := s379
      obtain ⟨A383, c384, rfl, HR385⟩ := s382
      obtain rfl : v388 = .bool true := s389
      obtain ⟨HE, HB6, HB16, HB27, HB101, HB137, HE157⟩ := hJ374
      have hF369 : Fr 68 a368 [(30, .slice (some ⟨b98, 0, none⟩) 32 32), (31, .slice A383 ((dig 256 Lq).length) c384), (29, .bool true)] := Fr.of hs372 hd373 ⟨q377, q380, q387, trivial⟩
      have hz394 := HE.size
      have hz395 := HB6.lt
      have hz396 := HB16.lt
      have hz397 := HB27.lt
      have hz398 := HB101.lt
      have hz399 := HB137.lt
      have hz400 := HE157.size
      refine One.bare hF369 (by kernel_rfl) (s_call (d := 32) (f := 20) (l := [.slice (some ⟨b98, 0, none⟩) 32 32, .slice A383 ((dig 256 Lq).length) c384]) (by kernel_rfl) hF369 cl20 (ref15_Cmp (some ⟨b98, 0, none⟩) 32 32 oL Lq A383 ((dig 256 Lq).length) c384 (dig 256 Lq) Lq _ oL_nv (nvd _) (by first | omega | assumption | (simp; done) | (simp; omega) | exact le_length _ _ | decide) (by first | omega | assumption | (simp; done) | (simp; omega) | exact le_length _ _ | decide) HB101.rd HR385 (by first | assumption | exact by_dig _ | exact by_one (Nat.mod_lt _ (by decide)) | exact oL_by | exact by_le _ _ | omega | (simp; done) | decide) (by first | assumption | exact by_dig _ | exact by_one (Nat.mod_lt _ (by decide)) | exact oL_by | exact by_le _ _ | omega | (simp; done) | decide) (by first | omega | assumption | (simp; done) | (simp; omega) | exact le_length _ _ | decide) (by first | omega | assumption | (simp; done) | (simp; omega) | exact le_length _ _ | decide) ) ?_)
      rintro a401 w391 v392 ⟨rfl, HX393⟩ ha403 hF402
      replace HE := HE.thenN HX393.g
      replace HB6 := HB6.growN HX393.g
      replace HB16 := HB16.growN HX393.g
      replace HB27 := HB27.growN HX393.g
      replace HB101 := HB101.growN HX393.g
      replace HB137 := HB137.growN HX393.g
      replace HE157 := HE157.thenN HX393.g
      replace HR385 := HR385.grow HX393.g (by simp)
      rw [ha403]; exact hK371 _ _ rfl HX393.g
    · -- operation 12
      rintro a405 w404 b407 KK413 hs409 hd410 hJ411 hb412 hr420 hK408
      have hr420x : RD SL_ b407 a405 a151 w404 [(32, some 11), (29, some 8)] := hr420 _ (by kernel_rfl)
      obtain ⟨⟨v415, q414, s416⟩, ⟨v418, q417, s419⟩, -⟩ := hr420x
      obtain rfl : v415 = .int .i64 (cmpI Lq Lq) := s416
      obtain rfl : v418 = .bool true := s419
      obtain ⟨HE, HB6, HB16, HB27, HB101, HB137, HE157⟩ := hJ411
      have hF406 : Fr 68 a405 [(32, .int .i64 (cmpI Lq Lq)), (29, .bool true)] := Fr.of hs409 hd410 ⟨q414, q417, trivial⟩
      refine One.bare hF406 (by kernel_rfl) (s_pure hT (d := 33) (v := .bool ((decide ((cmpI Lq Lq) = 0)))) (cs := []) (by kernel_rfl) (by kernel_rfl) trivial hF406 ?_)
      have htr : ((decide ((cmpI Lq Lq) = 0))) = true := (decide_eq_true (cmpI_eq0.2 rfl))
      rintro a2 ha2 hF2; rw [ha2]; exact hK408 _ _ (congrArg Value.bool htr) (grown_refl _ _)
    · -- operation 13
      rintro a422 w421 b424 KK430 hs426 hd427 hJ428 hb429 hr437 hK425
      have hr437x : RD SL_ b424 a422 a151 w421 [(29, some 8), (33, some 12)] := hr437 _ (by kernel_rfl)
      obtain ⟨⟨v432, q431, s433⟩, ⟨v435, q434, s436⟩, -⟩ := hr437x
      obtain rfl : v432 = .bool true := s433
      obtain rfl : v435 = .bool true := s436
      obtain ⟨HE, HB6, HB16, HB27, HB101, HB137, HE157⟩ := hJ428
      have hF423 : Fr 68 a422 [(29, .bool true), (33, .bool true)] := Fr.of hs426 hd427 ⟨q431, q434, trivial⟩
      refine s_pure hT (d := 34) (v := .bool true) (cs := []) (by kernel_rfl) (by kernel_rfl) trivial hF423 ?_
      rintro a2 ha2 hF2; rw [ha2]; exact hK425 _ _ rfl (grown_refl _ _)
    · -- operation 14
      rintro a439 w438 b441 KK447 hs443 hd444 hJ445 hb446 hr451 hK442
      have hr451x : RD SL_ b441 a439 a151 w438 [(34, some 13)] := hr451 _ (by kernel_rfl)
      obtain ⟨⟨v449, q448, s450⟩, -⟩ := hr451x
      obtain rfl : v449 = .bool true := s450
      obtain ⟨HE, HB6, HB16, HB27, HB101, HB137, HE157⟩ := hJ445
      have hF440 : Fr 68 a439 [(34, .bool true)] := Fr.of hs443 hd444 ⟨q448, trivial⟩
      refine s_pure hT (d := 35) (v := .bool true) (cs := []) (by kernel_rfl) (by kernel_rfl) trivial hF440 ?_
      rintro a2 ha2 hF2; rw [ha2]; exact hK442 _ _ rfl (grown_refl _ _)
    · -- operation 15
      rintro a453 w452 b455 KK461 hs457 hd458 hJ459 hb460 hr466 hK456
      have hr466x : RD SL_ b455 a453 a151 w452 [(5, none), (35, some 14)] := hr466 _ (by kernel_rfl)
      obtain ⟨q462, ⟨v464, q463, s465⟩, -⟩ := hr466x
      obtain rfl : v464 = .bool true := s465
      obtain ⟨HE, HB6, HB16, HB27, HB101, HB137, HE157⟩ := hJ459
      have hF454 : Fr 68 a453 [(5, .pointer (some ⟨b3, 0, none⟩)), (35, .bool true)] := Fr.of hs457 hd458 ⟨(Fr.init hF154 q462 (by kernel_rfl)), q463, trivial⟩
      refine One.bare hF454 (by kernel_rfl) (s_loadA hT (d := 36) (b := b3) (off := 0) (sz := 32) (l := vs .u8 xs) (by kernel_rfl) hF454 HB6.cells (by (first | (simp only [vs_length, vi_length]; omega) | (simp only [vs_length, le_length]; done) | (simp only [vs_length, le_length]; first | rfl | assumption | (symm; assumption) | omega | (simp; done)) | (simp only [vs_length, clampL_length, le_length]; first | done | assumption | exact hxl | rfl) | rfl | (simp; omega) | omega)) ?_)
      rintro a467 ha469 hF468
      rw [ha469]; exact hK456 _ _ rfl (grown_refl _ _)
    · -- operation 16
      rintro a471 w470 b473 KK479 hs475 hd476 hJ477 hb478 hr486 hK474
      have hr486x : RD SL_ b473 a471 a151 w470 [(36, some 15), (35, some 14)] := hr486 _ (by kernel_rfl)
      obtain ⟨⟨v481, q480, s482⟩, ⟨v484, q483, s485⟩, -⟩ := hr486x
      obtain rfl : v481 = .agg (vs .u8 xs).toArray := s482
      obtain rfl : v484 = .bool true := s485
      obtain ⟨HE, HB6, HB16, HB27, HB101, HB137, HE157⟩ := hJ477
      have hF472 : Fr 68 a471 [(36, .agg (vs .u8 xs).toArray), (35, .bool true)] := Fr.of hs475 hd476 ⟨q480, q483, trivial⟩
      have hz490 := HE.size
      have hz491 := HB6.lt
      have hz492 := HB16.lt
      have hz493 := HB27.lt
      have hz494 := HB101.lt
      have hz495 := HB137.lt
      have hz496 := HE157.size
      refine One.bare hF472 (by kernel_rfl) (s_call (d := 37) (f := 30) (l := [.agg (vs .u8 xs).toArray]) (by kernel_rfl) hF472 cl30 (scal_Is xs (nv 256 xs) _ rfl (by first | rfl | exact le_length _ _ | assumption) hbx) ?_)
      rintro a497 w487 v488 ⟨rfl, HX489⟩ ha499 hF498
      replace HE := HE.thenN HX489.g
      replace HB6 := HB6.growN HX489.g
      replace HB16 := HB16.growN HX489.g
      replace HB27 := HB27.growN HX489.g
      replace HB101 := HB101.growN HX489.g
      replace HB137 := HB137.growN HX489.g
      replace HE157 := HE157.thenN HX489.g
      rw [ha499]; exact hK474 _ _ rfl HX489.g
    · -- operation 17
      rintro a501 w500 b503 KK509 hs505 hd506 hJ507 hb508 hr514 hK504
      have hr514x : RD SL_ b503 a501 a151 w500 [(5, none), (35, some 14)] := hr514 _ (by kernel_rfl)
      obtain ⟨q510, ⟨v512, q511, s513⟩, -⟩ := hr514x
      obtain rfl : v512 = .bool true := s513
      obtain ⟨HE, HB6, HB16, HB27, HB101, HB137, HE157⟩ := hJ507
      have hF502 : Fr 68 a501 [(5, .pointer (some ⟨b3, 0, none⟩)), (35, .bool true)] := Fr.of hs505 hd506 ⟨(Fr.init hF154 q510 (by kernel_rfl)), q511, trivial⟩
      refine One.bare hF502 (by kernel_rfl) (s_sliceA hT (d := 38) (b := b3) (off := 0) (m := 32) (sz := 1) (lo := 0) (hi := 32) (by kernel_rfl) hF502 (by omega) (by omega) (by omega) ?_)
      rintro a515 ha517 hF516
      replace hF516 : Fr 68 a515 [(38, .slice (some ⟨b3, 0, none⟩) 32 32), (5, .pointer (some ⟨b3, 0, none⟩)), (35, .bool true)] := hF516
      rw [ha517]; exact hK504 _ _ rfl (grown_refl _ _)
    · -- operation 18
      rintro a519 w518 b521 KK527 hs523 hd524 hJ525 hb526 hr531 hK522
      have hr531x : RD SL_ b521 a519 a151 w518 [(35, some 14)] := hr531 _ (by kernel_rfl)
      obtain ⟨⟨v529, q528, s530⟩, -⟩ := hr531x
      obtain rfl : v529 = .bool true := s530
      obtain ⟨HE, HB6, HB16, HB27, HB101, HB137, HE157⟩ := hJ525
      have hF520 : Fr 68 a519 [(35, .bool true)] := Fr.of hs523 hd524 ⟨q528, trivial⟩
      have hz538 := HE.size
      have hz539 := HB6.lt
      have hz540 := HB16.lt
      have hz541 := HB27.lt
      have hz542 := HB101.lt
      have hz543 := HB137.lt
      have hz544 := HE157.size
      refine One.bare hF520 (by kernel_rfl) (s_call (d := 39) (f := 29) (l := []) (by kernel_rfl) hF520 cl29 (ref18_Order _) ?_)
      rintro a545 w535 v536 ⟨A532, c533, rfl, HX537, HO534⟩ ha547 hF546
      replace HE := HE.thenN HX537.g
      replace HB6 := HB6.growN HX537.g
      replace HB16 := HB16.growN HX537.g
      replace HB27 := HB27.growN HX537.g
      replace HB101 := HB101.growN HX537.g
      replace HB137 := HB137.growN HX537.g
      replace HE157 := HE157.thenN HX537.g
      have hcp548 := HO534.cap
      rw [ha547]; exact hK522 _ _ ⟨_, _, rfl, HO534.rd⟩ HX537.g
    · -- operation 19
      rintro a550 w549 b552 KK558 hs554 hd555 hJ556 hb557 hr572 hK553
      have hr572x : RD SL_ b552 a550 a151 w549 [(38, some 17), (39, some 18), (35, some 14)] := hr572 _ (by kernel_rfl)
      obtain ⟨⟨v560, q559, s561⟩, ⟨v563, q562, s564⟩, ⟨v570, q569, s571⟩, -⟩ := hr572x
      obtain rfl : v560 = .slice (some ⟨b3, 0, none⟩) 32 32 := s561
      obtain ⟨A565, c566, rfl, HR567⟩ := s564
      obtain rfl : v570 = .bool true := s571
      obtain ⟨HE, HB6, HB16, HB27, HB101, HB137, HE157⟩ := hJ556
      have hF551 : Fr 68 a550 [(38, .slice (some ⟨b3, 0, none⟩) 32 32), (39, .slice A565 ((dig 256 Lq).length) c566), (35, .bool true)] := Fr.of hs554 hd555 ⟨q559, q562, q569, trivial⟩
      have hz576 := HE.size
      have hz577 := HB6.lt
      have hz578 := HB16.lt
      have hz579 := HB27.lt
      have hz580 := HB101.lt
      have hz581 := HB137.lt
      have hz582 := HE157.size
      refine One.bare hF551 (by kernel_rfl) (s_call (d := 40) (f := 20) (l := [.slice (some ⟨b3, 0, none⟩) 32 32, .slice A565 ((dig 256 Lq).length) c566]) (by kernel_rfl) hF551 cl20 (ref15_Cmp (some ⟨b3, 0, none⟩) 32 32 xs (nv 256 xs) A565 ((dig 256 Lq).length) c566 (dig 256 Lq) Lq _ rfl (nvd _) (by first | omega | assumption | (simp; done) | (simp; omega) | exact le_length _ _ | decide) (by first | omega | assumption | (simp; done) | (simp; omega) | exact le_length _ _ | decide) HB6.rd HR567 (by first | assumption | exact by_dig _ | exact by_one (Nat.mod_lt _ (by decide)) | exact oL_by | exact by_le _ _ | omega | (simp; done) | decide) (by first | assumption | exact by_dig _ | exact by_one (Nat.mod_lt _ (by decide)) | exact oL_by | exact by_le _ _ | omega | (simp; done) | decide) (by first | omega | assumption | (simp; done) | (simp; omega) | exact le_length _ _ | decide) (by first | omega | assumption | (simp; done) | (simp; omega) | exact le_length _ _ | decide) ) ?_)
      rintro a583 w573 v574 ⟨rfl, HX575⟩ ha585 hF584
      replace HE := HE.thenN HX575.g
      replace HB6 := HB6.growN HX575.g
      replace HB16 := HB16.growN HX575.g
      replace HB27 := HB27.growN HX575.g
      replace HB101 := HB101.growN HX575.g
      replace HB137 := HB137.growN HX575.g
      replace HE157 := HE157.thenN HX575.g
      replace HR567 := HR567.grow HX575.g (by simp)
      rw [ha585]; exact hK553 _ _ rfl HX575.g
    · -- operation 20
      rintro a587 w586 b589 KK595 hs591 hd592 hJ593 hb594 hr602 hK590
      have hr602x : RD SL_ b589 a587 a151 w586 [(40, some 19), (35, some 14)] := hr602 _ (by kernel_rfl)
      obtain ⟨⟨v597, q596, s598⟩, ⟨v600, q599, s601⟩, -⟩ := hr602x
      obtain rfl : v597 = .int .i64 (cmpI (nv 256 xs) Lq) := s598
      obtain rfl : v600 = .bool true := s601
      obtain ⟨HE, HB6, HB16, HB27, HB101, HB137, HE157⟩ := hJ593
      have hF588 : Fr 68 a587 [(40, .int .i64 (cmpI (nv 256 xs) Lq)), (35, .bool true)] := Fr.of hs591 hd592 ⟨q596, q599, trivial⟩
      refine One.bare hF588 (by kernel_rfl) (s_pure hT (d := 41) (v := .bool ((decide ((cmpI (nv 256 xs) Lq) < 0)))) (cs := []) (by kernel_rfl) (by kernel_rfl) trivial hF588 ?_)
      rintro a2 ha2 hF2; rw [ha2]; exact hK590 _ _ rfl (grown_refl _ _)
    · -- operation 21
      rintro a604 w603 b606 KK612 hs608 hd609 hJ610 hb611 hr622 hK607
      have hr622x : RD SL_ b606 a604 a151 w603 [(37, some 16), (41, some 20), (35, some 14)] := hr622 _ (by kernel_rfl)
      obtain ⟨⟨v614, q613, s615⟩, ⟨v617, q616, s618⟩, ⟨v620, q619, s621⟩, -⟩ := hr622x
      obtain rfl : v614 = .bool ((decide ((nv 256 xs) < Lq))) := s615
      obtain rfl : v617 = .bool ((decide ((cmpI (nv 256 xs) Lq) < 0))) := s618
      obtain rfl : v620 = .bool true := s621
      obtain ⟨HE, HB6, HB16, HB27, HB101, HB137, HE157⟩ := hJ610
      have hF605 : Fr 68 a604 [(37, .bool ((decide ((nv 256 xs) < Lq)))), (41, .bool ((decide ((cmpI (nv 256 xs) Lq) < 0)))), (35, .bool true)] := Fr.of hs608 hd609 ⟨q613, q616, q619, trivial⟩
      refine One.bare hF605 (by kernel_rfl) (s_beq hT (d := 42) (b := ((decide ((nv 256 xs) < Lq)) == (decide ((cmpI (nv 256 xs) Lq) < 0)))) (by kernel_rfl) hF605 ?_)
      rintro a623 ha625 hF624
      rw [ha625]; exact hK607 _ _ (congrArg Value.bool ((beq_dec cmpI_lt0.symm) : (((decide ((nv 256 xs) < Lq)) == (decide ((cmpI (nv 256 xs) Lq) < 0)))) = true)) (grown_refl _ _)
    · -- operation 22
      rintro a627 w626 b629 KK635 hs631 hd632 hJ633 hb634 hr642 hK630
      have hr642x : RD SL_ b629 a627 a151 w626 [(35, some 14), (42, some 21)] := hr642 _ (by kernel_rfl)
      obtain ⟨⟨v637, q636, s638⟩, ⟨v640, q639, s641⟩, -⟩ := hr642x
      obtain rfl : v637 = .bool true := s638
      obtain rfl : v640 = .bool true := s641
      obtain ⟨HE, HB6, HB16, HB27, HB101, HB137, HE157⟩ := hJ633
      have hF628 : Fr 68 a627 [(35, .bool true), (42, .bool true)] := Fr.of hs631 hd632 ⟨q636, q639, trivial⟩
      refine s_pure hT (d := 43) (v := .bool true) (cs := []) (by kernel_rfl) (by kernel_rfl) trivial hF628 ?_
      rintro a2 ha2 hF2; rw [ha2]; exact hK630 _ _ rfl (grown_refl _ _)
    · -- operation 23
      rintro a644 w643 b646 KK652 hs648 hd649 hJ650 hb651 hr656 hK647
      have hr656x : RD SL_ b646 a644 a151 w643 [(43, some 22)] := hr656 _ (by kernel_rfl)
      obtain ⟨⟨v654, q653, s655⟩, -⟩ := hr656x
      obtain rfl : v654 = .bool true := s655
      obtain ⟨HE, HB6, HB16, HB27, HB101, HB137, HE157⟩ := hJ650
      have hF645 : Fr 68 a644 [(43, .bool true)] := Fr.of hs648 hd649 ⟨q653, trivial⟩
      refine s_pure hT (d := 44) (v := .bool true) (cs := []) (by kernel_rfl) (by kernel_rfl) trivial hF645 ?_
      rintro a2 ha2 hF2; rw [ha2]; exact hK647 _ _ rfl (grown_refl _ _)
    · -- operation 24
      rintro a658 w657 b660 KK666 hs662 hd663 hJ664 hb665 hr671 hK661
      have hr671x : RD SL_ b660 a658 a151 w657 [(11, none), (44, some 23)] := hr671 _ (by kernel_rfl)
      obtain ⟨q667, ⟨v669, q668, s670⟩, -⟩ := hr671x
      obtain rfl : v669 = .bool true := s670
      obtain ⟨HE, HB6, HB16, HB27, HB101, HB137, HE157⟩ := hJ664
      have hF659 : Fr 68 a658 [(11, .pointer (some ⟨b134, 0, none⟩)), (44, .bool true)] := Fr.of hs662 hd663 ⟨(Fr.init hF154 q667 (by kernel_rfl)), q668, trivial⟩
      refine One.bare hF659 (by kernel_rfl) (s_loadA hT (d := 45) (b := b134) (off := 0) (sz := 32) (l := vs .u8 (le 32 ((nv 256 bs) % Lq))) (by kernel_rfl) hF659 HB137.cells (by (first | (simp only [vs_length, vi_length]; omega) | (simp only [vs_length, le_length]; done) | (simp only [vs_length, le_length]; first | rfl | assumption | (symm; assumption) | omega | (simp; done)) | (simp only [vs_length, clampL_length, le_length]; first | done | assumption | exact hxl | rfl) | rfl | (simp; omega) | omega)) ?_)
      rintro a672 ha674 hF673
      rw [ha674]; exact hK661 _ _ rfl (grown_refl _ _)
    · -- operation 25
      rintro a676 w675 b678 KK684 hs680 hd681 hJ682 hb683 hr689 hK679
      have hr689x : RD SL_ b678 a676 a151 w675 [(0, none), (44, some 23)] := hr689 _ (by kernel_rfl)
      obtain ⟨q685, ⟨v687, q686, s688⟩, -⟩ := hr689x
      obtain rfl : v687 = .bool true := s688
      obtain ⟨HE, HB6, HB16, HB27, HB101, HB137, HE157⟩ := hJ682
      have hF677 : Fr 68 a676 [(0, .slice Ab bs.length cb), (44, .bool true)] := Fr.of hs680 hd681 ⟨(Fr.init hF154 q685 (by kernel_rfl)), q686, trivial⟩
      refine One.bare hF677 (by kernel_rfl) (s_pure hT (d := 46) (v := .slice Ab bs.length cb) (cs := []) (by kernel_rfl) (by kernel_rfl) trivial hF677 ?_)
      rintro a2 ha2 hF2; rw [ha2]; exact hK679 _ _ rfl (grown_refl _ _)
    · -- operation 26
      rintro a691 w690 b693 KK699 hs695 hd696 hJ697 hb698 hr706 hK694
      have hr706x : RD SL_ b693 a691 a151 w690 [(46, some 25), (44, some 23)] := hr706 _ (by kernel_rfl)
      obtain ⟨⟨v701, q700, s702⟩, ⟨v704, q703, s705⟩, -⟩ := hr706x
      obtain rfl : v701 = .slice Ab bs.length cb := s702
      obtain rfl : v704 = .bool true := s705
      obtain ⟨HE, HB6, HB16, HB27, HB101, HB137, HE157⟩ := hJ697
      have hF692 : Fr 68 a691 [(46, .slice Ab bs.length cb), (44, .bool true)] := Fr.of hs695 hd696 ⟨q700, q703, trivial⟩
      have hz710 := HE.size
      have hz711 := HB6.lt
      have hz712 := HB16.lt
      have hz713 := HB27.lt
      have hz714 := HB101.lt
      have hz715 := HB137.lt
      have hz716 := HE157.size
      refine One.bare hF692 (by kernel_rfl) (s_call (d := 47) (f := 31) (l := [.slice Ab bs.length cb]) (by kernel_rfl) hF692 cl31 (ref18_Reduce Ab bs.length cb bs (nv 256 bs) _ rfl (by first | rfl | omega | exact le_length _ _ | assumption) (hRb.ex HE) hbb (Nat.le_trans hlb (by decide))) ?_)
      rintro a717 w707 v708 ⟨rfl, HX709⟩ ha719 hF718
      replace HE := HE.thenN HX709.g
      replace HB6 := HB6.growN HX709.g
      replace HB16 := HB16.growN HX709.g
      replace HB27 := HB27.growN HX709.g
      replace HB101 := HB101.growN HX709.g
      replace HB137 := HB137.growN HX709.g
      replace HE157 := HE157.thenN HX709.g
      rw [ha719]; exact hK694 _ _ rfl HX709.g
    · -- operation 27
      rintro a721 w720 b723 KK729 hs725 hd726 hJ727 hb728 hr739 hK724
      have hr739x : RD SL_ b723 a721 a151 w720 [(45, some 24), (47, some 26), (44, some 23)] := hr739 _ (by kernel_rfl)
      obtain ⟨⟨v731, q730, s732⟩, ⟨v734, q733, s735⟩, ⟨v737, q736, s738⟩, -⟩ := hr739x
      obtain rfl : v731 = .agg (vs .u8 (le 32 ((nv 256 bs) % Lq))).toArray := s732
      obtain rfl : v734 = .agg (vs .u8 (le 32 ((nv 256 bs) % Lq))).toArray := s735
      obtain rfl : v737 = .bool true := s738
      obtain ⟨HE, HB6, HB16, HB27, HB101, HB137, HE157⟩ := hJ727
      have hF722 : Fr 68 a721 [(45, .agg (vs .u8 (le 32 ((nv 256 bs) % Lq))).toArray), (47, .agg (vs .u8 (le 32 ((nv 256 bs) % Lq))).toArray), (44, .bool true)] := Fr.of hs725 hd726 ⟨q730, q733, q736, trivial⟩
      refine One.bare hF722 (by kernel_rfl) (s_arrEq hT (d := 48) (m := 32) (e := true) (k := .u8) (xs := (le 32 ((nv 256 bs) % Lq))) (ys := (le 32 ((nv 256 bs) % Lq))) (b := (decide ((le 32 ((nv 256 bs) % Lq)) = (le 32 ((nv 256 bs) % Lq))))) (by kernel_rfl) (by intro t h; cases h; kernel_rfl) hF722 (by first | rfl | assumption | exact le_length _ _ | (rw [clampL_length]; assumption) | (rw [clampL_length, clampL_length]; assumption) | decide) (by first | rfl | assumption | exact le_length _ _ | (rw [clampL_length]; assumption) | (rw [clampL_length, clampL_length]; assumption) | decide) rfl ?_)
      rintro a740 ha742 hF741
      rw [ha742]; exact hK724 _ _ (congrArg Value.bool ((decide_eq_true rfl) : ((decide ((le 32 ((nv 256 bs) % Lq)) = (le 32 ((nv 256 bs) % Lq))))) = true)) (grown_refl _ _)
    · -- operation 28
      rintro a744 w743 b746 KK752 hs748 hd749 hJ750 hb751 hr759 hK747
      have hr759x : RD SL_ b746 a744 a151 w743 [(44, some 23), (48, some 27)] := hr759 _ (by kernel_rfl)
      obtain ⟨⟨v754, q753, s755⟩, ⟨v757, q756, s758⟩, -⟩ := hr759x
      obtain rfl : v754 = .bool true := s755
      obtain rfl : v757 = .bool true := s758
      obtain ⟨HE, HB6, HB16, HB27, HB101, HB137, HE157⟩ := hJ750
      have hF745 : Fr 68 a744 [(44, .bool true), (48, .bool true)] := Fr.of hs748 hd749 ⟨q753, q756, trivial⟩
      refine s_pure hT (d := 49) (v := .bool true) (cs := []) (by kernel_rfl) (by kernel_rfl) trivial hF745 ?_
      rintro a2 ha2 hF2; rw [ha2]; exact hK747 _ _ rfl (grown_refl _ _)
    · -- operation 29
      rintro a761 w760 b763 KK769 hs765 hd766 hJ767 hb768 hr773 hK764
      have hr773x : RD SL_ b763 a761 a151 w760 [(49, some 28)] := hr773 _ (by kernel_rfl)
      obtain ⟨⟨v771, q770, s772⟩, -⟩ := hr773x
      obtain rfl : v771 = .bool true := s772
      obtain ⟨HE, HB6, HB16, HB27, HB101, HB137, HE157⟩ := hJ767
      have hF762 : Fr 68 a761 [(49, .bool true)] := Fr.of hs765 hd766 ⟨q770, trivial⟩
      refine s_pure hT (d := 50) (v := .bool true) (cs := []) (by kernel_rfl) (by kernel_rfl) trivial hF762 ?_
      rintro a2 ha2 hF2; rw [ha2]; exact hK764 _ _ rfl (grown_refl _ _)
    · -- operation 30
      rintro a775 w774 b777 KK783 hs779 hd780 hJ781 hb782 hr788 hK778
      have hr788x : RD SL_ b777 a775 a151 w774 [(5, none), (50, some 29)] := hr788 _ (by kernel_rfl)
      obtain ⟨q784, ⟨v786, q785, s787⟩, -⟩ := hr788x
      obtain rfl : v786 = .bool true := s787
      obtain ⟨HE, HB6, HB16, HB27, HB101, HB137, HE157⟩ := hJ781
      have hF776 : Fr 68 a775 [(5, .pointer (some ⟨b3, 0, none⟩)), (50, .bool true)] := Fr.of hs779 hd780 ⟨(Fr.init hF154 q784 (by kernel_rfl)), q785, trivial⟩
      refine One.bare hF776 (by kernel_rfl) (s_loadA hT (d := 51) (b := b3) (off := 0) (sz := 32) (l := vs .u8 xs) (by kernel_rfl) hF776 HB6.cells (by (first | (simp only [vs_length, vi_length]; omega) | (simp only [vs_length, le_length]; done) | (simp only [vs_length, le_length]; first | rfl | assumption | (symm; assumption) | omega | (simp; done)) | (simp only [vs_length, clampL_length, le_length]; first | done | assumption | exact hxl | rfl) | rfl | (simp; omega) | omega)) ?_)
      rintro a789 ha791 hF790
      rw [ha791]; exact hK778 _ _ rfl (grown_refl _ _)
    · -- operation 31
      rintro a793 w792 b795 KK801 hs797 hd798 hJ799 hb800 hr806 hK796
      have hr806x : RD SL_ b795 a793 a151 w792 [(6, none), (50, some 29)] := hr806 _ (by kernel_rfl)
      obtain ⟨q802, ⟨v804, q803, s805⟩, -⟩ := hr806x
      obtain rfl : v804 = .bool true := s805
      obtain ⟨HE, HB6, HB16, HB27, HB101, HB137, HE157⟩ := hJ799
      have hF794 : Fr 68 a793 [(6, .pointer (some ⟨b13, 0, none⟩)), (50, .bool true)] := Fr.of hs797 hd798 ⟨(Fr.init hF154 q802 (by kernel_rfl)), q803, trivial⟩
      refine One.bare hF794 (by kernel_rfl) (s_loadA hT (d := 52) (b := b13) (off := 0) (sz := 32) (l := vs .u8 ys) (by kernel_rfl) hF794 HB16.cells (by (first | (simp only [vs_length, vi_length]; omega) | (simp only [vs_length, le_length]; done) | (simp only [vs_length, le_length]; first | rfl | assumption | (symm; assumption) | omega | (simp; done)) | (simp only [vs_length, clampL_length, le_length]; first | done | assumption | exact hxl | rfl) | rfl | (simp; omega) | omega)) ?_)
      rintro a807 ha809 hF808
      rw [ha809]; exact hK796 _ _ rfl (grown_refl _ _)
    · -- operation 32
      rintro a811 w810 b813 KK819 hs815 hd816 hJ817 hb818 hr824 hK814
      have hr824x : RD SL_ b813 a811 a151 w810 [(7, none), (50, some 29)] := hr824 _ (by kernel_rfl)
      obtain ⟨q820, ⟨v822, q821, s823⟩, -⟩ := hr824x
      obtain rfl : v822 = .bool true := s823
      obtain ⟨HE, HB6, HB16, HB27, HB101, HB137, HE157⟩ := hJ817
      have hF812 : Fr 68 a811 [(7, .pointer (some ⟨b24, 0, none⟩)), (50, .bool true)] := Fr.of hs815 hd816 ⟨(Fr.init hF154 q820 (by kernel_rfl)), q821, trivial⟩
      refine One.bare hF812 (by kernel_rfl) (s_loadA hT (d := 53) (b := b24) (off := 0) (sz := 32) (l := vs .u8 zs) (by kernel_rfl) hF812 HB27.cells (by (first | (simp only [vs_length, vi_length]; omega) | (simp only [vs_length, le_length]; done) | (simp only [vs_length, le_length]; first | rfl | assumption | (symm; assumption) | omega | (simp; done)) | (simp only [vs_length, clampL_length, le_length]; first | done | assumption | exact hxl | rfl) | rfl | (simp; omega) | omega)) ?_)
      rintro a825 ha827 hF826
      rw [ha827]; exact hK814 _ _ rfl (grown_refl _ _)
    · -- operation 33
      rintro a829 w828 b831 KK837 hs833 hd834 hJ835 hb836 hr850 hK832
      have hr850x : RD SL_ b831 a829 a151 w828 [(51, some 30), (52, some 31), (53, some 32), (50, some 29)] := hr850 _ (by kernel_rfl)
      obtain ⟨⟨v839, q838, s840⟩, ⟨v842, q841, s843⟩, ⟨v845, q844, s846⟩, ⟨v848, q847, s849⟩, -⟩ := hr850x
      obtain rfl : v839 = .agg (vs .u8 xs).toArray := s840
      obtain rfl : v842 = .agg (vs .u8 ys).toArray := s843
      obtain rfl : v845 = .agg (vs .u8 zs).toArray := s846
      obtain rfl : v848 = .bool true := s849
      obtain ⟨HE, HB6, HB16, HB27, HB101, HB137, HE157⟩ := hJ835
      have hF830 : Fr 68 a829 [(51, .agg (vs .u8 xs).toArray), (52, .agg (vs .u8 ys).toArray), (53, .agg (vs .u8 zs).toArray), (50, .bool true)] := Fr.of hs833 hd834 ⟨q838, q841, q844, q847, trivial⟩
      have hz854 := HE.size
      have hz855 := HB6.lt
      have hz856 := HB16.lt
      have hz857 := HB27.lt
      have hz858 := HB101.lt
      have hz859 := HB137.lt
      have hz860 := HE157.size
      refine One.bare hF830 (by kernel_rfl) (s_call (d := 54) (f := 32) (l := [.agg (vs .u8 xs).toArray, .agg (vs .u8 ys).toArray, .agg (vs .u8 zs).toArray]) (by kernel_rfl) hF830 cl32 (scal_MulAdd xs (nv 256 xs) ys (nv 256 ys) zs (nv 256 zs) _ rfl (by first | rfl | exact le_length _ _ | assumption) hbx rfl (by first | rfl | exact le_length _ _ | assumption) hby rfl (by first | rfl | exact le_length _ _ | assumption) hbz) ?_)
      rintro a861 w851 v852 ⟨rfl, HX853⟩ ha863 hF862
      replace HE := HE.thenN HX853.g
      replace HB6 := HB6.growN HX853.g
      replace HB16 := HB16.growN HX853.g
      replace HB27 := HB27.growN HX853.g
      replace HB101 := HB101.growN HX853.g
      replace HB137 := HB137.growN HX853.g
      replace HE157 := HE157.thenN HX853.g
      rw [ha863]; exact hK832 _ _ rfl HX853.g
    · -- operation 34
      rintro a865 w864 b867 KK873 hs869 hd870 hJ871 hb872 hr878 hK868
      have hr878x : RD SL_ b867 a865 a151 w864 [(5, none), (50, some 29)] := hr878 _ (by kernel_rfl)
      obtain ⟨q874, ⟨v876, q875, s877⟩, -⟩ := hr878x
      obtain rfl : v876 = .bool true := s877
      obtain ⟨HE, HB6, HB16, HB27, HB101, HB137, HE157⟩ := hJ871
      have hF866 : Fr 68 a865 [(5, .pointer (some ⟨b3, 0, none⟩)), (50, .bool true)] := Fr.of hs869 hd870 ⟨(Fr.init hF154 q874 (by kernel_rfl)), q875, trivial⟩
      refine One.bare hF866 (by kernel_rfl) (s_loadA hT (d := 55) (b := b3) (off := 0) (sz := 32) (l := vs .u8 xs) (by kernel_rfl) hF866 HB6.cells (by (first | (simp only [vs_length, vi_length]; omega) | (simp only [vs_length, le_length]; done) | (simp only [vs_length, le_length]; first | rfl | assumption | (symm; assumption) | omega | (simp; done)) | (simp only [vs_length, clampL_length, le_length]; first | done | assumption | exact hxl | rfl) | rfl | (simp; omega) | omega)) ?_)
      rintro a879 ha881 hF880
      rw [ha881]; exact hK868 _ _ rfl (grown_refl _ _)
    · -- operation 35
      rintro a883 w882 b885 KK891 hs887 hd888 hJ889 hb890 hr896 hK886
      have hr896x : RD SL_ b885 a883 a151 w882 [(6, none), (50, some 29)] := hr896 _ (by kernel_rfl)
      obtain ⟨q892, ⟨v894, q893, s895⟩, -⟩ := hr896x
      obtain rfl : v894 = .bool true := s895
      obtain ⟨HE, HB6, HB16, HB27, HB101, HB137, HE157⟩ := hJ889
      have hF884 : Fr 68 a883 [(6, .pointer (some ⟨b13, 0, none⟩)), (50, .bool true)] := Fr.of hs887 hd888 ⟨(Fr.init hF154 q892 (by kernel_rfl)), q893, trivial⟩
      refine One.bare hF884 (by kernel_rfl) (s_loadA hT (d := 56) (b := b13) (off := 0) (sz := 32) (l := vs .u8 ys) (by kernel_rfl) hF884 HB16.cells (by (first | (simp only [vs_length, vi_length]; omega) | (simp only [vs_length, le_length]; done) | (simp only [vs_length, le_length]; first | rfl | assumption | (symm; assumption) | omega | (simp; done)) | (simp only [vs_length, clampL_length, le_length]; first | done | assumption | exact hxl | rfl) | rfl | (simp; omega) | omega)) ?_)
      rintro a897 ha899 hF898
      rw [ha899]; exact hK886 _ _ rfl (grown_refl _ _)
    · -- operation 36
      rintro a901 w900 b903 KK909 hs905 hd906 hJ907 hb908 hr914 hK904
      have hr914x : RD SL_ b903 a901 a151 w900 [(7, none), (50, some 29)] := hr914 _ (by kernel_rfl)
      obtain ⟨q910, ⟨v912, q911, s913⟩, -⟩ := hr914x
      obtain rfl : v912 = .bool true := s913
      obtain ⟨HE, HB6, HB16, HB27, HB101, HB137, HE157⟩ := hJ907
      have hF902 : Fr 68 a901 [(7, .pointer (some ⟨b24, 0, none⟩)), (50, .bool true)] := Fr.of hs905 hd906 ⟨(Fr.init hF154 q910 (by kernel_rfl)), q911, trivial⟩
      refine One.bare hF902 (by kernel_rfl) (s_loadA hT (d := 57) (b := b24) (off := 0) (sz := 32) (l := vs .u8 zs) (by kernel_rfl) hF902 HB27.cells (by (first | (simp only [vs_length, vi_length]; omega) | (simp only [vs_length, le_length]; done) | (simp only [vs_length, le_length]; first | rfl | assumption | (symm; assumption) | omega | (simp; done)) | (simp only [vs_length, clampL_length, le_length]; first | done | assumption | exact hxl | rfl) | rfl | (simp; omega) | omega)) ?_)
      rintro a915 ha917 hF916
      rw [ha917]; exact hK904 _ _ rfl (grown_refl _ _)
    · -- operation 37
      rintro a919 w918 b921 KK927 hs923 hd924 hJ925 hb926 hr940 hK922
      have hr940x : RD SL_ b921 a919 a151 w918 [(55, some 34), (56, some 35), (57, some 36), (50, some 29)] := hr940 _ (by kernel_rfl)
      obtain ⟨⟨v929, q928, s930⟩, ⟨v932, q931, s933⟩, ⟨v935, q934, s936⟩, ⟨v938, q937, s939⟩, -⟩ := hr940x
      obtain rfl : v929 = .agg (vs .u8 xs).toArray := s930
      obtain rfl : v932 = .agg (vs .u8 ys).toArray := s933
      obtain rfl : v935 = .agg (vs .u8 zs).toArray := s936
      obtain rfl : v938 = .bool true := s939
      obtain ⟨HE, HB6, HB16, HB27, HB101, HB137, HE157⟩ := hJ925
      have hF920 : Fr 68 a919 [(55, .agg (vs .u8 xs).toArray), (56, .agg (vs .u8 ys).toArray), (57, .agg (vs .u8 zs).toArray), (50, .bool true)] := Fr.of hs923 hd924 ⟨q928, q931, q934, q937, trivial⟩
      have hz944 := HE.size
      have hz945 := HB6.lt
      have hz946 := HB16.lt
      have hz947 := HB27.lt
      have hz948 := HB101.lt
      have hz949 := HB137.lt
      have hz950 := HE157.size
      refine One.bare hF920 (by kernel_rfl) (s_call (d := 58) (f := 33) (l := [.agg (vs .u8 xs).toArray, .agg (vs .u8 ys).toArray, .agg (vs .u8 zs).toArray]) (by kernel_rfl) hF920 cl33 (ref18_MulAdd xs (nv 256 xs) ys (nv 256 ys) zs (nv 256 zs) _ rfl (by first | rfl | exact le_length _ _ | assumption) hbx rfl (by first | rfl | exact le_length _ _ | assumption) hby rfl (by first | rfl | exact le_length _ _ | assumption) hbz) ?_)
      rintro a951 w941 v942 ⟨rfl, HX943⟩ ha953 hF952
      replace HE := HE.thenN HX943.g
      replace HB6 := HB6.growN HX943.g
      replace HB16 := HB16.growN HX943.g
      replace HB27 := HB27.growN HX943.g
      replace HB101 := HB101.growN HX943.g
      replace HB137 := HB137.growN HX943.g
      replace HE157 := HE157.thenN HX943.g
      rw [ha953]; exact hK922 _ _ rfl HX943.g
    · -- operation 38
      rintro a955 w954 b957 KK963 hs959 hd960 hJ961 hb962 hr973 hK958
      have hr973x : RD SL_ b957 a955 a151 w954 [(54, some 33), (58, some 37), (50, some 29)] := hr973 _ (by kernel_rfl)
      obtain ⟨⟨v965, q964, s966⟩, ⟨v968, q967, s969⟩, ⟨v971, q970, s972⟩, -⟩ := hr973x
      obtain rfl : v965 = .agg (vs .u8 (le 32 (((nv 256 xs) * (nv 256 ys) + (nv 256 zs)) % Lq))).toArray := s966
      obtain rfl : v968 = .agg (vs .u8 (le 32 (((nv 256 xs) * (nv 256 ys) + (nv 256 zs)) % Lq))).toArray := s969
      obtain rfl : v971 = .bool true := s972
      obtain ⟨HE, HB6, HB16, HB27, HB101, HB137, HE157⟩ := hJ961
      have hF956 : Fr 68 a955 [(54, .agg (vs .u8 (le 32 (((nv 256 xs) * (nv 256 ys) + (nv 256 zs)) % Lq))).toArray), (58, .agg (vs .u8 (le 32 (((nv 256 xs) * (nv 256 ys) + (nv 256 zs)) % Lq))).toArray), (50, .bool true)] := Fr.of hs959 hd960 ⟨q964, q967, q970, trivial⟩
      refine One.bare hF956 (by kernel_rfl) (s_arrEq hT (d := 59) (m := 32) (e := true) (k := .u8) (xs := (le 32 (((nv 256 xs) * (nv 256 ys) + (nv 256 zs)) % Lq))) (ys := (le 32 (((nv 256 xs) * (nv 256 ys) + (nv 256 zs)) % Lq))) (b := (decide ((le 32 (((nv 256 xs) * (nv 256 ys) + (nv 256 zs)) % Lq)) = (le 32 (((nv 256 xs) * (nv 256 ys) + (nv 256 zs)) % Lq))))) (by kernel_rfl) (by intro t h; cases h; kernel_rfl) hF956 (by first | rfl | assumption | exact le_length _ _ | (rw [clampL_length]; assumption) | (rw [clampL_length, clampL_length]; assumption) | decide) (by first | rfl | assumption | exact le_length _ _ | (rw [clampL_length]; assumption) | (rw [clampL_length, clampL_length]; assumption) | decide) rfl ?_)
      rintro a974 ha976 hF975
      rw [ha976]; exact hK958 _ _ (congrArg Value.bool ((decide_eq_true rfl) : ((decide ((le 32 (((nv 256 xs) * (nv 256 ys) + (nv 256 zs)) % Lq)) = (le 32 (((nv 256 xs) * (nv 256 ys) + (nv 256 zs)) % Lq))))) = true)) (grown_refl _ _)
    · -- operation 39
      rintro a978 w977 b980 KK986 hs982 hd983 hJ984 hb985 hr993 hK981
      have hr993x : RD SL_ b980 a978 a151 w977 [(50, some 29), (59, some 38)] := hr993 _ (by kernel_rfl)
      obtain ⟨⟨v988, q987, s989⟩, ⟨v991, q990, s992⟩, -⟩ := hr993x
      obtain rfl : v988 = .bool true := s989
      obtain rfl : v991 = .bool true := s992
      obtain ⟨HE, HB6, HB16, HB27, HB101, HB137, HE157⟩ := hJ984
      have hF979 : Fr 68 a978 [(50, .bool true), (59, .bool true)] := Fr.of hs982 hd983 ⟨q987, q990, trivial⟩
      refine s_pure hT (d := 60) (v := .bool true) (cs := []) (by kernel_rfl) (by kernel_rfl) trivial hF979 ?_
      rintro a2 ha2 hF2; rw [ha2]; exact hK981 _ _ rfl (grown_refl _ _)
    · -- operation 40
      rintro a995 w994 b997 KK1003 hs999 hd1000 hJ1001 hb1002 hr1007 hK998
      have hr1007x : RD SL_ b997 a995 a151 w994 [(60, some 39)] := hr1007 _ (by kernel_rfl)
      obtain ⟨⟨v1005, q1004, s1006⟩, -⟩ := hr1007x
      obtain rfl : v1005 = .bool true := s1006
      obtain ⟨HE, HB6, HB16, HB27, HB101, HB137, HE157⟩ := hJ1001
      have hF996 : Fr 68 a995 [(60, .bool true)] := Fr.of hs999 hd1000 ⟨q1004, trivial⟩
      refine s_pure hT (d := 61) (v := .bool true) (cs := []) (by kernel_rfl) (by kernel_rfl) trivial hF996 ?_
      rintro a2 ha2 hF2; rw [ha2]; exact hK998 _ _ rfl (grown_refl _ _)
    · -- operation 41
      rintro a1009 w1008 b1011 KK1017 hs1013 hd1014 hJ1015 hb1016 hr1022 hK1012
      have hr1022x : RD SL_ b1011 a1009 a151 w1008 [(5, none), (61, some 40)] := hr1022 _ (by kernel_rfl)
      obtain ⟨q1018, ⟨v1020, q1019, s1021⟩, -⟩ := hr1022x
      obtain rfl : v1020 = .bool true := s1021
      obtain ⟨HE, HB6, HB16, HB27, HB101, HB137, HE157⟩ := hJ1015
      have hF1010 : Fr 68 a1009 [(5, .pointer (some ⟨b3, 0, none⟩)), (61, .bool true)] := Fr.of hs1013 hd1014 ⟨(Fr.init hF154 q1018 (by kernel_rfl)), q1019, trivial⟩
      refine One.bare hF1010 (by kernel_rfl) (s_loadA hT (d := 62) (b := b3) (off := 0) (sz := 32) (l := vs .u8 xs) (by kernel_rfl) hF1010 HB6.cells (by (first | (simp only [vs_length, vi_length]; omega) | (simp only [vs_length, le_length]; done) | (simp only [vs_length, le_length]; first | rfl | assumption | (symm; assumption) | omega | (simp; done)) | (simp only [vs_length, clampL_length, le_length]; first | done | assumption | exact hxl | rfl) | rfl | (simp; omega) | omega)) ?_)
      rintro a1023 ha1025 hF1024
      rw [ha1025]; exact hK1012 _ _ rfl (grown_refl _ _)
    · -- operation 42
      rintro a1027 w1026 b1029 KK1035 hs1031 hd1032 hJ1033 hb1034 hr1042 hK1030
      have hr1042x : RD SL_ b1029 a1027 a151 w1026 [(62, some 41), (61, some 40)] := hr1042 _ (by kernel_rfl)
      obtain ⟨⟨v1037, q1036, s1038⟩, ⟨v1040, q1039, s1041⟩, -⟩ := hr1042x
      obtain rfl : v1037 = .agg (vs .u8 xs).toArray := s1038
      obtain rfl : v1040 = .bool true := s1041
      obtain ⟨HE, HB6, HB16, HB27, HB101, HB137, HE157⟩ := hJ1033
      have hF1028 : Fr 68 a1027 [(62, .agg (vs .u8 xs).toArray), (61, .bool true)] := Fr.of hs1031 hd1032 ⟨q1036, q1039, trivial⟩
      have hz1046 := HE.size
      have hz1047 := HB6.lt
      have hz1048 := HB16.lt
      have hz1049 := HB27.lt
      have hz1050 := HB101.lt
      have hz1051 := HB137.lt
      have hz1052 := HE157.size
      refine One.bare hF1028 (by kernel_rfl) (s_call (d := 63) (f := 34) (l := [.agg (vs .u8 xs).toArray]) (by kernel_rfl) hF1028 cl34 (scal_Clamp xs _ (by first | rfl | exact le_length _ _ | assumption) hbx) ?_)
      rintro a1053 w1043 v1044 ⟨rfl, HX1045⟩ ha1055 hF1054
      replace HE := HE.thenN HX1045.g
      replace HB6 := HB6.growN HX1045.g
      replace HB16 := HB16.growN HX1045.g
      replace HB27 := HB27.growN HX1045.g
      replace HB101 := HB101.growN HX1045.g
      replace HB137 := HB137.growN HX1045.g
      replace HE157 := HE157.thenN HX1045.g
      rw [ha1055]; exact hK1030 _ _ rfl HX1045.g
    · -- operation 43
      rintro a1057 w1056 b1059 KK1065 hs1061 hd1062 hJ1063 hb1064 hr1070 hK1060
      have hr1070x : RD SL_ b1059 a1057 a151 w1056 [(5, none), (61, some 40)] := hr1070 _ (by kernel_rfl)
      obtain ⟨q1066, ⟨v1068, q1067, s1069⟩, -⟩ := hr1070x
      obtain rfl : v1068 = .bool true := s1069
      obtain ⟨HE, HB6, HB16, HB27, HB101, HB137, HE157⟩ := hJ1063
      have hF1058 : Fr 68 a1057 [(5, .pointer (some ⟨b3, 0, none⟩)), (61, .bool true)] := Fr.of hs1061 hd1062 ⟨(Fr.init hF154 q1066 (by kernel_rfl)), q1067, trivial⟩
      refine One.bare hF1058 (by kernel_rfl) (s_loadA hT (d := 64) (b := b3) (off := 0) (sz := 32) (l := vs .u8 xs) (by kernel_rfl) hF1058 HB6.cells (by (first | (simp only [vs_length, vi_length]; omega) | (simp only [vs_length, le_length]; done) | (simp only [vs_length, le_length]; first | rfl | assumption | (symm; assumption) | omega | (simp; done)) | (simp only [vs_length, clampL_length, le_length]; first | done | assumption | exact hxl | rfl) | rfl | (simp; omega) | omega)) ?_)
      rintro a1071 ha1073 hF1072
      rw [ha1073]; exact hK1060 _ _ rfl (grown_refl _ _)
    · -- operation 44
      rintro a1075 w1074 b1077 KK1083 hs1079 hd1080 hJ1081 hb1082 hr1090 hK1078
      have hr1090x : RD SL_ b1077 a1075 a151 w1074 [(64, some 43), (61, some 40)] := hr1090 _ (by kernel_rfl)
      obtain ⟨⟨v1085, q1084, s1086⟩, ⟨v1088, q1087, s1089⟩, -⟩ := hr1090x
      obtain rfl : v1085 = .agg (vs .u8 xs).toArray := s1086
      obtain rfl : v1088 = .bool true := s1089
      obtain ⟨HE, HB6, HB16, HB27, HB101, HB137, HE157⟩ := hJ1081
      have hF1076 : Fr 68 a1075 [(64, .agg (vs .u8 xs).toArray), (61, .bool true)] := Fr.of hs1079 hd1080 ⟨q1084, q1087, trivial⟩
      have hz1094 := HE.size
      have hz1095 := HB6.lt
      have hz1096 := HB16.lt
      have hz1097 := HB27.lt
      have hz1098 := HB101.lt
      have hz1099 := HB137.lt
      have hz1100 := HE157.size
      refine One.bare hF1076 (by kernel_rfl) (s_call (d := 65) (f := 35) (l := [.agg (vs .u8 xs).toArray]) (by kernel_rfl) hF1076 cl35 (ref18_Clamp xs _ (by first | rfl | exact le_length _ _ | assumption) hbx) ?_)
      rintro a1101 w1091 v1092 ⟨rfl, HX1093⟩ ha1103 hF1102
      replace HE := HE.thenN HX1093.g
      replace HB6 := HB6.growN HX1093.g
      replace HB16 := HB16.growN HX1093.g
      replace HB27 := HB27.growN HX1093.g
      replace HB101 := HB101.growN HX1093.g
      replace HB137 := HB137.growN HX1093.g
      replace HE157 := HE157.thenN HX1093.g
      rw [ha1103]; exact hK1078 _ _ rfl HX1093.g
    · -- operation 45
      rintro a1105 w1104 b1107 KK1113 hs1109 hd1110 hJ1111 hb1112 hr1123 hK1108
      have hr1123x : RD SL_ b1107 a1105 a151 w1104 [(63, some 42), (65, some 44), (61, some 40)] := hr1123 _ (by kernel_rfl)
      obtain ⟨⟨v1115, q1114, s1116⟩, ⟨v1118, q1117, s1119⟩, ⟨v1121, q1120, s1122⟩, -⟩ := hr1123x
      obtain rfl : v1115 = .agg (vs .u8 (clampL xs)).toArray := s1116
      obtain rfl : v1118 = .agg (vs .u8 (clampL xs)).toArray := s1119
      obtain rfl : v1121 = .bool true := s1122
      obtain ⟨HE, HB6, HB16, HB27, HB101, HB137, HE157⟩ := hJ1111
      have hF1106 : Fr 68 a1105 [(63, .agg (vs .u8 (clampL xs)).toArray), (65, .agg (vs .u8 (clampL xs)).toArray), (61, .bool true)] := Fr.of hs1109 hd1110 ⟨q1114, q1117, q1120, trivial⟩
      refine One.bare hF1106 (by kernel_rfl) (s_arrEq hT (d := 66) (m := 32) (e := true) (k := .u8) (xs := (clampL xs)) (ys := (clampL xs)) (b := (decide ((clampL xs) = (clampL xs)))) (by kernel_rfl) (by intro t h; cases h; kernel_rfl) hF1106 (by first | rfl | assumption | exact le_length _ _ | (rw [clampL_length]; assumption) | (rw [clampL_length, clampL_length]; assumption) | decide) (by first | rfl | assumption | exact le_length _ _ | (rw [clampL_length]; assumption) | (rw [clampL_length, clampL_length]; assumption) | decide) rfl ?_)
      rintro a1124 ha1126 hF1125
      rw [ha1126]; exact hK1108 _ _ (congrArg Value.bool ((decide_eq_true rfl) : ((decide ((clampL xs) = (clampL xs)))) = true)) (grown_refl _ _)
    · -- operation 46
      rintro a1128 w1127 b1130 KK1136 hs1132 hd1133 hJ1134 hb1135 hr1143 hK1131
      have hr1143x : RD SL_ b1130 a1128 a151 w1127 [(61, some 40), (66, some 45)] := hr1143 _ (by kernel_rfl)
      obtain ⟨⟨v1138, q1137, s1139⟩, ⟨v1141, q1140, s1142⟩, -⟩ := hr1143x
      obtain rfl : v1138 = .bool true := s1139
      obtain rfl : v1141 = .bool true := s1142
      obtain ⟨HE, HB6, HB16, HB27, HB101, HB137, HE157⟩ := hJ1134
      have hF1129 : Fr 68 a1128 [(61, .bool true), (66, .bool true)] := Fr.of hs1132 hd1133 ⟨q1137, q1140, trivial⟩
      refine s_pure hT (d := 67) (v := .bool true) (cs := []) (by kernel_rfl) (by kernel_rfl) trivial hF1129 ?_
      rintro a2 ha2 hF2; rw [ha2]; exact hK1131 _ _ rfl (grown_refl _ _)
    · -- operation 47
      rintro a1145 w1144 b1147 KK1153 hs1149 hd1150 hJ1151 hb1152 hr1157 hK1148
      have hr1157x : RD SL_ b1147 a1145 a151 w1144 [(67, some 46)] := hr1157 _ (by kernel_rfl)
      obtain ⟨⟨v1155, q1154, s1156⟩, -⟩ := hr1157x
      obtain rfl : v1155 = .bool true := s1156
      obtain ⟨HE, HB6, HB16, HB27, HB101, HB137, HE157⟩ := hJ1151
      have hF1146 : Fr 68 a1145 [(67, .bool true)] := Fr.of hs1149 hd1150 ⟨q1154, trivial⟩
      refine s_pure hT (d := 8) (v := .bool true) (cs := []) (by kernel_rfl) (by kernel_rfl) trivial hF1146 ?_
      rintro a2 ha2 hF2; rw [ha2]; exact hK1148 _ _ rfl (grown_refl _ _)
    · -- behind the region
      rintro a1159 w1160 hs1161 hd1162 ⟨⟨v1164, q1165, s1166⟩, q1167, q1168, q1169, q1170, q1171, q1172, q1173, q1174, q1175, q1176, q1177, -⟩ ⟨HE, HB6, HB16, HB27, HB101, HB137, HE157⟩
      obtain rfl : v1164 = .bool true := s1166
      have hF1178 : Fr 68 a1159 [(8, .bool true), (11, .pointer (some ⟨b134, 0, none⟩)), (10, .pointer (some ⟨b98, 0, none⟩)), (9, .slice A76 bs.length c77), (14, .bool ((decide (100 < ((bs.length : Nat) : Int))))), (7, .pointer (some ⟨b24, 0, none⟩)), (6, .pointer (some ⟨b13, 0, none⟩)), (5, .pointer (some ⟨b3, 0, none⟩)), (0, .slice Ab bs.length cb), (1, .agg (vs .u8 xs).toArray), (2, .agg (vs .u8 ys).toArray), (3, .agg (vs .u8 zs).toArray)] := Fr.of hs1161 hd1162 ⟨q1165, (Fr.init hF154 q1167 (by kernel_rfl)), (Fr.init hF154 q1168 (by kernel_rfl)), (Fr.init hF154 q1169 (by kernel_rfl)), (Fr.init hF154 q1170 (by kernel_rfl)), (Fr.init hF154 q1171 (by kernel_rfl)), (Fr.init hF154 q1172 (by kernel_rfl)), (Fr.init hF154 q1173 (by kernel_rfl)), (Fr.init hF154 q1174 (by kernel_rfl)), (Fr.init hF154 q1175 (by kernel_rfl)), (Fr.init hF154 q1176 (by kernel_rfl)), (Fr.init hF154 q1177 (by kernel_rfl)), trivial⟩
      clear hF154 hs1161 hd1162 q1165 q1167 q1168 q1169 q1170 q1171 q1172 q1173 q1174 q1175 q1176 q1177
      refine hK156 _ _ ?_
      refine wp_ret ?_
      refine ret1 hF1178 rfl (v := .bool true) (by kernel_rfl) ?_
      exact ⟨rfl, HE⟩

end Go.Proofs.Ytdabkjflpbbpeaa
