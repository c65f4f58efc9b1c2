/- Walks of functions of the program: lemmas. -/
import Derived.Test.YtdabkjflpbbpeaaWl
set_option maxRecDepth 100000
set_option linter.unusedVariables false
set_option linter.unusedSimpArgs false
namespace Go.Proofs.Ytdabkjflpbbpeaa
open Go.Proofs Go.RowKit

theorem scal_Is (xs : List Nat) (x : Nat) (w : World) (hx : nv 256 xs = x) (hl : xs.length = 32) (hbx : By xs) :
    Calls Try.prog 30 [.agg (vs .u8 xs).toArray].toArray w (Ret fun v w' => v = .bool (decide (x < Lq)) ∧ Ex w w') := by
  subst hx
  refine enter Try.func30 rfl (n := 9) Try.ntmps30 (by simp) ?_
  intro a hF
  have HE : Ex w w := Ex.refl w
  refine wp_seq_k (fun K1 hK2 => ?_)
  refine wp_region_lit ?_
  have hz9 := HE.size
  refine wl (s_alloc hT (d := 1) (T := 32) (l := vs .u8 xs) (by kernel_rfl) hF ?_)
  rintro a10 w4 b3 h7 h8 HB6 g5 ha12 hF11; clear ha12 hF a
  replace HE := HE.thenN g5
  refine pures_end hT 1 _ hF11 (F' := [(2, .bool false), (1, .pointer (some ⟨b3, 0, none⟩)), (0, .agg (vs .u8 xs).toArray)]) (cs := []) (by kernel_rfl) rfl trivial ?_
  intro a13 hF14; clear hF11 a10
  refine hK2 _ _ ?_
  refine wp_seq_k (fun K15 hK16 => ?_)
  refine wp_region_lit ?_
  have hz20 := HE.size
  have hz21 := HB6.lt
  refine wl (s_call (d := 4) (f := 26) (l := []) (by kernel_rfl) hF14 cl26 (scal_Order _) ?_)
  rintro a22 w17 v18 ⟨rfl, HX19⟩ ha24 hF23; clear ha24 hF14 a13
  replace HE := HE.thenN HX19.g
  replace HB6 := HB6.growN HX19.g
  have hz31 := HE.size
  have hz32 := HB6.lt
  refine wl (s_alloc hT (d := 3) (T := 32) (l := vs .u8 [0, 0, 0, 0, 0, 0, 0, 0, 0, 0, 0, 0, 0, 0, 0, 0, 0, 0, 0, 0, 0, 0, 0, 0, 0, 0, 0, 0, 0, 0, 0, 0]) (by kernel_rfl) hF23 ?_)
  rintro a33 w26 b25 h29 h30 HB28 g27 ha35 hF34; clear ha35 hF23 a22
  replace HE := HE.thenN g27
  replace HB6 := HB6.growN g27
  refine wl (s_storeV hT (b := b25) (l2 := vs .u8 oL) (sz := 32) (by kernel_rfl) hF34 HB28 (by first | rfl | (simp only [vs_length, vi_length]; first | assumption | omega) | (simp; done)) (by first | rfl | (simp only [vs_length, vi_length]; first | assumption | omega) | (simp; done) | (simp only [vs_length, vi_length]; simp; omega)) (by exact vs_one) ?_)
  rintro a38 w36 ha40 hF39 HB28x g37; clear ha40 hF34 a33; replace HB28 := HB28x
  replace HE := HE.thenS g37 (by omega)
  replace HB6 := HB6.growS g37 (by omega)
  refine wpList_nil ?_
  have hF41 := hF39.pick [3, 2, 1, 0] (G := [(3, .pointer (some ⟨b25, 0, none⟩)), (2, .bool false), (1, .pointer (some ⟨b3, 0, none⟩)), (0, .agg (vs .u8 xs).toArray)]) (by kernel_rfl); clear hF39
  refine hK16 _ _ ?_
  refine wp_seq_k (fun K42 hK43 => ?_)
  let SL_ : List SP := [SP.val (.slice (some ⟨b3, 0, none⟩) 32 32), SP.val (.slice (some ⟨b25, 0, none⟩) 32 32), SP.val (.int .i64 (cmpI (nv 256 xs) Lq)), SP.val (.bool ((decide ((cmpI (nv 256 xs) Lq) < 0)))), SP.val (.bool ((decide ((cmpI (nv 256 xs) Lq) < 0))))]
  refine region_rel (SL := SL_) (J := (fun (b : Bool) (W : World) => (Ex w W) ∧ (Blk W b3 32 (vs .u8 xs)) ∧ (Blk W b25 32 (vs .u8 oL)))) (m := 5) wide (by kernel_rfl) (by kernel_rfl) hF41 rfl ?_ ⟨HE, HB6, HB28⟩ ⟨?_, ?_, ?_, ?_, ?_, trivial⟩ [(2, some 4), (3, none), (1, none), (0, none)] (by kernel_rfl) ?_
  · intro b W W' hj g; cases b <;> exact ⟨hj.1.thenN g, hj.2.1.growN g, hj.2.2.growN g⟩
  · -- operation 0
    rintro a45 w44 b47 KK53 hs49 hd50 hJ51 hb52 hr55 hK48
    have hr55x : RD SL_ b47 a45 a38 w44 [(1, none)] := hr55 _ (by kernel_rfl)
    obtain ⟨q54, -⟩ := hr55x
    obtain ⟨HE, HB6, HB28⟩ := hJ51
    have hF46 : Fr 9 a45 [(1, .pointer (some ⟨b3, 0, none⟩))] := Fr.of hs49 hd50 ⟨(Fr.init hF41 q54 (by kernel_rfl)), trivial⟩
    refine s_sliceA hT (d := 5) (b := b3) (off := 0) (m := 32) (sz := 1) (lo := 0) (hi := 32) (by kernel_rfl) hF46 (by omega) (by omega) (by omega) ?_
    rintro a56 ha58 hF57
    replace hF57 : Fr 9 a56 [(5, .slice (some ⟨b3, 0, none⟩) 32 32), (1, .pointer (some ⟨b3, 0, none⟩))] := hF57
    rw [ha58]; exact hK48 _ _ rfl (grown_refl _ _)
  · -- operation 1
    rintro a60 w59 b62 KK68 hs64 hd65 hJ66 hb67 hr70 hK63
    have hr70x : RD SL_ b62 a60 a38 w59 [(3, none)] := hr70 _ (by kernel_rfl)
    obtain ⟨q69, -⟩ := hr70x
    obtain ⟨HE, HB6, HB28⟩ := hJ66
    have hF61 : Fr 9 a60 [(3, .pointer (some ⟨b25, 0, none⟩))] := Fr.of hs64 hd65 ⟨(Fr.init hF41 q69 (by kernel_rfl)), trivial⟩
    refine s_sliceA hT (d := 6) (b := b25) (off := 0) (m := 32) (sz := 1) (lo := 0) (hi := 32) (by kernel_rfl) hF61 (by omega) (by omega) (by omega) ?_
    rintro a71 ha73 hF72
    replace hF72 : Fr 9 a71 [(6, .slice (some ⟨b25, 0, none⟩) 32 32), (3, .pointer (some ⟨b25, 0, none⟩))] := hF72
    rw [ha73]; exact hK63 _ _ rfl (grown_refl _ _)
  · -- operation 2
    rintro a75 w74 b77 KK83 hs79 hd80 hJ81 hb82 hr90 hK78
    have hr90x : RD SL_ b77 a75 a38 w74 [(5, some 0), (6, some 1)] := hr90 _ (by kernel_rfl)
    obtain ⟨⟨v85, q84, s86⟩, ⟨v88, q87, s89⟩, -⟩ := hr90x
    obtain rfl : v85 = .slice (some ⟨b3, 0, none⟩) 32 32 := s86
    obtain rfl : v88 = .slice (some ⟨b25, 0, none⟩) 32 32 := s89
    obtain ⟨HE, HB6, HB28⟩ := hJ81
    have hF76 : Fr 9 a75 [(5, .slice (some ⟨b3, 0, none⟩) 32 32), (6, .slice (some ⟨b25, 0, none⟩) 32 32)] := Fr.of hs79 hd80 ⟨q84, q87, trivial⟩
    have hz94 := HE.size
    have hz95 := HB6.lt
    have hz96 := HB28.lt
    refine s_call (d := 7) (f := 16) (l := [.slice (some ⟨b3, 0, none⟩) 32 32, .slice (some ⟨b25, 0, none⟩) 32 32]) (by kernel_rfl) hF76 cl16 (Cmp' (A := (some ⟨b3, 0, none⟩)) (n := 32) (c := 32) (x := (nv 256 xs)) (xs := xs) (A2 := (some ⟨b25, 0, none⟩)) (n2 := 32) (c2 := 32) (y := Lq) (ys := oL) (w := _) rfl oL_nv  (by first | rfl | exact le_length _ _ | assumption) (by first | rfl | exact le_length _ _ | assumption) HB6.rd HB28.rd hbx oL_by (by decide) (by decide)) ?_
    rintro a97 w91 v92 ⟨rfl, HX93⟩ ha99 hF98
    replace HE := HE.thenN HX93.g
    replace HB6 := HB6.growN HX93.g
    replace HB28 := HB28.growN HX93.g
    rw [ha99]; exact hK78 _ _ rfl HX93.g
  · -- operation 3
    rintro a101 w100 b103 KK109 hs105 hd106 hJ107 hb108 hr113 hK104
    have hr113x : RD SL_ b103 a101 a38 w100 [(7, some 2)] := hr113 _ (by kernel_rfl)
    obtain ⟨⟨v111, q110, s112⟩, -⟩ := hr113x
    obtain rfl : v111 = .int .i64 (cmpI (nv 256 xs) Lq) := s112
    obtain ⟨HE, HB6, HB28⟩ := hJ107
    have hF102 : Fr 9 a101 [(7, .int .i64 (cmpI (nv 256 xs) Lq))] := Fr.of hs105 hd106 ⟨q110, trivial⟩
    refine s_pure hT (d := 8) (v := .bool ((decide ((cmpI (nv 256 xs) Lq) < 0)))) (cs := []) (by kernel_rfl) (by kernel_rfl) trivial hF102 ?_
    rintro a2 ha2 hF2; rw [ha2]; exact hK104 _ _ rfl (grown_refl _ _)
  · -- operation 4
    rintro a115 w114 b117 KK123 hs119 hd120 hJ121 hb122 hr127 hK118
    have hr127x : RD SL_ b117 a115 a38 w114 [(8, some 3)] := hr127 _ (by kernel_rfl)
    obtain ⟨⟨v125, q124, s126⟩, -⟩ := hr127x
    obtain rfl : v125 = .bool ((decide ((cmpI (nv 256 xs) Lq) < 0))) := s126
    obtain ⟨HE, HB6, HB28⟩ := hJ121
    have hF116 : Fr 9 a115 [(8, .bool ((decide ((cmpI (nv 256 xs) Lq) < 0))))] := Fr.of hs119 hd120 ⟨q124, trivial⟩
    refine s_pure hT (d := 2) (v := .bool ((decide ((cmpI (nv 256 xs) Lq) < 0)))) (cs := []) (by kernel_rfl) (by kernel_rfl) trivial hF116 ?_
    rintro a2 ha2 hF2; rw [ha2]; exact hK118 _ _ rfl (grown_refl _ _)
  · -- behind the region
    rintro a129 w130 hs131 hd132 ⟨⟨v134, q135, s136⟩, q137, q138, q139, -⟩ ⟨HE, HB6, HB28⟩
    obtain rfl : v134 = .bool ((decide ((cmpI (nv 256 xs) Lq) < 0))) := s136
    have hF140 : Fr 9 a129 [(2, .bool ((decide ((cmpI (nv 256 xs) Lq) < 0)))), (3, .pointer (some ⟨b25, 0, none⟩)), (1, .pointer (some ⟨b3, 0, none⟩)), (0, .agg (vs .u8 xs).toArray)] := Fr.of hs131 hd132 ⟨q135, (Fr.init hF41 q137 (by kernel_rfl)), (Fr.init hF41 q138 (by kernel_rfl)), (Fr.init hF41 q139 (by kernel_rfl)), trivial⟩
    clear hF41 hs131 hd132 q135 q137 q138 q139
    refine hK43 _ _ ?_
    refine wp_ret ?_
    refine ret1 hF140 rfl (v := .bool ((decide ((cmpI (nv 256 xs) Lq) < 0)))) (by kernel_rfl) ?_
    exact ⟨congrArg Value.bool (decide_eq_decide.2 cmpI_lt0), HE⟩

theorem scal_Reduce (A : Option Addr) (n c : Nat) (xs : List Nat) (x : Nat) (w : World) (hx : nv 256 xs = x) (hn : xs.length = n) (hR : Rd w A (vs .u8 xs)) (hbx : By xs) (hl : n ≤ 1048576) :
    Calls Try.prog 27 [.slice A n c].toArray w (Ret fun v w' => v = .agg (vs .u8 (le 32 (x % Lq))).toArray ∧ Ex w w') := by
  subst hx
  subst hn
  refine enter Try.func27 rfl (n := 18) Try.ntmps27 (by simp) ?_
  intro a hF
  have HE : Ex w w := Ex.refl w
  refine wp_seq_k (fun K1 hK2 => ?_)
  refine wp_region_lit ?_
  have hz9 := HE.size
  refine wl (s_alloc hT (d := 2) (T := 32) (l := vs .u8 [0, 0, 0, 0, 0, 0, 0, 0, 0, 0, 0, 0, 0, 0, 0, 0, 0, 0, 0, 0, 0, 0, 0, 0, 0, 0, 0, 0, 0, 0, 0, 0]) (by kernel_rfl) hF ?_)
  rintro a10 w4 b3 h7 h8 HB6 g5 ha12 hF11; clear ha12 hF a
  replace HE := HE.thenN g5
  refine wpList_nil ?_
  refine hK2 _ _ ?_
  refine wp_seq_k (fun K13 hK14 => ?_)
  refine wp_region_lit ?_
  have hz18 := HE.size
  have hz19 := HB6.lt
  refine wl (s_call (d := 7) (f := 26) (l := []) (by kernel_rfl) hF11 cl26 (scal_Order _) ?_)
  rintro a20 w15 v16 ⟨rfl, HX17⟩ ha22 hF21; clear ha22 hF11 a10
  replace HE := HE.thenN HX17.g
  replace HB6 := HB6.growN HX17.g
  have hz29 := HE.size
  have hz30 := HB6.lt
  refine wl (s_alloc hT (d := 3) (T := 32) (l := vs .u8 [0, 0, 0, 0, 0, 0, 0, 0, 0, 0, 0, 0, 0, 0, 0, 0, 0, 0, 0, 0, 0, 0, 0, 0, 0, 0, 0, 0, 0, 0, 0, 0]) (by kernel_rfl) hF21 ?_)
  rintro a31 w24 b23 h27 h28 HB26 g25 ha33 hF32; clear ha33 hF21 a20
  replace HE := HE.thenN g25
  replace HB6 := HB6.growN g25
  refine wl (s_storeV hT (b := b23) (l2 := vs .u8 oL) (sz := 32) (by kernel_rfl) hF32 HB26 (by first | rfl | (simp only [vs_length, vi_length]; first | assumption | omega) | (simp only [vs_length, le_length]; done) | (simp only [vs_length, le_length]; first | rfl | assumption | (symm; assumption) | omega | simp) | (simp; done)) (by first | rfl | (simp only [vs_length, vi_length]; first | assumption | omega) | (simp only [vs_length, le_length]; done) | (simp only [vs_length, le_length]; first | rfl | assumption | (symm; assumption) | omega | simp) | (simp; done) | (simp only [vs_length, vi_length]; simp; omega)) (by exact vs_one) ?_)
  rintro a36 w34 ha38 hF37 HB26x g35; clear ha38 hF32 a31; replace HB26 := HB26x
  replace HE := HE.thenS g35 (by omega)
  replace HB6 := HB6.growS g35 (by omega)
  refine wpList_nil ?_
  have hF39 := hF37.pick [3, 2, 0] (G := [(3, .pointer (some ⟨b23, 0, none⟩)), (2, .pointer (some ⟨b3, 0, none⟩)), (0, .slice A xs.length c)]) (by kernel_rfl); clear hF37
  refine hK14 _ _ ?_
  refine wp_seq_k (fun K40 hK41 => ?_)
  refine wp_region_lit ?_
  have hz48 := HE.size
  have hz49 := HB6.lt
  have hz50 := HB26.lt
  refine wl (s_alloc hT (d := 4) (T := 32) (l := vs .u8 [0, 0, 0, 0, 0, 0, 0, 0, 0, 0, 0, 0, 0, 0, 0, 0, 0, 0, 0, 0, 0, 0, 0, 0, 0, 0, 0, 0, 0, 0, 0, 0]) (by kernel_rfl) hF39 ?_)
  rintro a51 w43 b42 h46 h47 HB45 g44 ha53 hF52; clear ha53 hF39 a36
  replace HE := HE.thenN g44
  replace HB6 := HB6.growN g44
  replace HB26 := HB26.growN g44
  refine wpList_nil ?_
  refine hK41 _ _ ?_
  refine wp_seq_k (fun K54 hK55 => ?_)
  refine wp_region_lit ?_
  refine pures hT 1 _ hF52 (F' := [(9, .slice A xs.length c), (4, .pointer (some ⟨b42, 0, none⟩)), (3, .pointer (some ⟨b23, 0, none⟩)), (2, .pointer (some ⟨b3, 0, none⟩)), (0, .slice A xs.length c)]) (cs := []) (by kernel_rfl) trivial ?_
  intro a56 hF57; clear hF52 a51
  refine wl (s_sliceA hT (d := 10) (b := b23) (off := 0) (m := 32) (sz := 1) (lo := 0) (hi := 32) (by kernel_rfl) hF57 (by omega) (by omega) (by omega) ?_)
  rintro a58 ha60 hF59; clear ha60 hF57 a56
  replace hF59 : Fr 18 a58 [(10, .slice (some ⟨b23, 0, none⟩) 32 32), (9, .slice A xs.length c), (4, .pointer (some ⟨b42, 0, none⟩)), (3, .pointer (some ⟨b23, 0, none⟩)), (2, .pointer (some ⟨b3, 0, none⟩)), (0, .slice A xs.length c)] := hF59
  have hz67 := HE.size
  have hz68 := HB6.lt
  have hz69 := HB26.lt
  have hz70 := HB45.lt
  refine wl (s_call (d := 11) (f := 13) (l := [.slice A xs.length c, .slice (some ⟨b23, 0, none⟩) 32 32]) (by kernel_rfl) hF59 cl13 (Mod1' (A := A) (n := xs.length) (c := c) (x := (nv 256 xs)) (xs := xs) (A2 := (some ⟨b23, 0, none⟩)) (n2 := 32) (c2 := 32) (y := Lq) (ys := oL) (w := _) rfl oL_nv Lq_pos rfl (by first | rfl | exact le_length _ _ | assumption) (hR.ex HE) HB26.rd hbx oL_by hl (by decide)) ?_)
  rintro a71 w64 v65 ⟨A61, c62, rfl, HX66, HO63⟩ ha73 hF72; clear ha73 hF59 a58
  replace HE := HE.thenN HX66.g
  replace HB6 := HB6.growN HX66.g
  replace HB26 := HB26.growN HX66.g
  replace HB45 := HB45.growN HX66.g
  have hcp74 := HO63.cap
  refine pures_end hT 5 _ hF72 (F' := [(6, .int .i64 0), (5, .slice A61 ((dig 256 ((nv 256 xs) % Lq)).length) c62), (13, .int .i64 0), (12, .slice A61 ((dig 256 ((nv 256 xs) % Lq)).length) c62), (8, .tuple #[.slice A61 ((dig 256 ((nv 256 xs) % Lq)).length) c62, .int .i64 0]), (11, .tuple #[.slice A61 ((dig 256 ((nv 256 xs) % Lq)).length) c62, .int .i64 0]), (10, .slice (some ⟨b23, 0, none⟩) 32 32), (9, .slice A xs.length c), (4, .pointer (some ⟨b42, 0, none⟩)), (3, .pointer (some ⟨b23, 0, none⟩)), (2, .pointer (some ⟨b3, 0, none⟩)), (0, .slice A xs.length c)]) (cs := []) (by kernel_rfl) rfl trivial ?_
  intro a75 hF76; clear hF72 a71
  have hF77 := hF76.pick [5, 4, 3, 2, 0] (G := [(5, .slice A61 ((dig 256 ((nv 256 xs) % Lq)).length) c62), (4, .pointer (some ⟨b42, 0, none⟩)), (3, .pointer (some ⟨b23, 0, none⟩)), (2, .pointer (some ⟨b3, 0, none⟩)), (0, .slice A xs.length c)]) (by kernel_rfl); clear hF76
  refine hK55 _ _ ?_
  refine wp_seq_k (fun K78 hK79 => ?_)
  have hrl := nvdig_mod (nv 256 xs)
  refine wp_region_lit ?_
  refine wl (s_sliceA hT (d := 14) (b := b42) (off := 0) (m := 32) (sz := 1) (lo := 0) (hi := 32) (by kernel_rfl) hF77 (by omega) (by omega) (by omega) ?_)
  rintro a80 ha82 hF81; clear ha82 hF77 a75
  replace hF81 : Fr 18 a80 [(14, .slice (some ⟨b42, 0, none⟩) 32 32), (5, .slice A61 ((dig 256 ((nv 256 xs) % Lq)).length) c62), (4, .pointer (some ⟨b42, 0, none⟩)), (3, .pointer (some ⟨b23, 0, none⟩)), (2, .pointer (some ⟨b3, 0, none⟩)), (0, .slice A xs.length c)] := hF81
  refine pures hT 1 _ hF81 (F' := [(15, .slice A61 ((dig 256 ((nv 256 xs) % Lq)).length) c62), (14, .slice (some ⟨b42, 0, none⟩) 32 32), (5, .slice A61 ((dig 256 ((nv 256 xs) % Lq)).length) c62), (4, .pointer (some ⟨b42, 0, none⟩)), (3, .pointer (some ⟨b23, 0, none⟩)), (2, .pointer (some ⟨b3, 0, none⟩)), (0, .slice A xs.length c)]) (cs := []) (by kernel_rfl) trivial ?_
  intro a83 hF84; clear hF81 a80
  refine wl (s_copy hT (d := 16) (b := b42) (off := 0) (m := 32) (A2 := A61) (m2 := (dig 256 ((nv 256 xs) % Lq)).length) (cs := vs .u8 (dig 256 ((nv 256 xs) % Lq))) (by kernel_rfl) hF84 HB45 HO63.rd (by rw [vs_length]; exact copy_n (by omega) (by omega)) (by simp only [vs_length]; simp; omega) vs_one ?_)
  rintro a88 w85 HB45x g86 ha90 hF89; clear ha90 hF84 a83
  replace HB45 : Blk w85 b42 32 (vs .u8 ([0, 0, 0, 0, 0, 0, 0, 0, 0, 0, 0, 0, 0, 0, 0, 0, 0, 0, 0, 0, 0, 0, 0, 0, 0, 0, 0, 0, 0, 0, 0, 0].take 0 ++ (dig 256 ((nv 256 xs) % Lq)) ++ [0, 0, 0, 0, 0, 0, 0, 0, 0, 0, 0, 0, 0, 0, 0, 0, 0, 0, 0, 0, 0, 0, 0, 0, 0, 0, 0, 0, 0, 0, 0, 0].drop (0 + (dig 256 ((nv 256 xs) % Lq)).length))) := by have h := HB45x; rw [vs_take, ← vs_append, vs_length, vs_drop, ← vs_append] at h; exact h
  clear HB45x
  replace HE := HE.thenS g86 (by omega)
  replace HB6 := HB6.growS g86 (by omega)
  replace HB26 := HB26.growS g86 (by omega)
  replace HO63 := HO63.grow g86 (by first | exact own_blk2 HO63.base (by omega) | (simp; omega))
  refine wpList_nil ?_
  have hF91 := hF89.pick [5, 4, 3, 2, 0] (G := [(5, .slice A61 ((dig 256 ((nv 256 xs) % Lq)).length) c62), (4, .pointer (some ⟨b42, 0, none⟩)), (3, .pointer (some ⟨b23, 0, none⟩)), (2, .pointer (some ⟨b3, 0, none⟩)), (0, .slice A xs.length c)]) (by kernel_rfl); clear hF89
  refine hK79 _ _ ?_
  refine wp_seq_k (fun K92 hK93 => ?_)
  rw [copy_le hrl rfl] at HB45
  refine wp_region_lit ?_
  refine wl (s_loadA hT (d := 17) (b := b42) (off := 0) (sz := 32) (l := vs .u8 (le 32 (nv 256 xs % Lq))) (by kernel_rfl) hF91 HB45.cells (by (first | (simp only [vs_length, vi_length]; omega) | (simp only [vs_length, le_length]; done) | (simp only [vs_length, le_length]; first | rfl | assumption | (symm; assumption) | omega | simp) | (simp; omega) | omega)) ?_)
  rintro a94 ha96 hF95; clear ha96 hF91 a88
  refine wl (s_storeV hT (b := b3) (l2 := vs .u8 (le 32 (nv 256 xs % Lq))) (sz := 32) (by kernel_rfl) hF95 HB6 (by first | rfl | (simp only [vs_length, vi_length]; first | assumption | omega) | (simp only [vs_length, le_length]; done) | (simp only [vs_length, le_length]; first | rfl | assumption | (symm; assumption) | omega | simp) | (simp; done)) (by first | rfl | (simp only [vs_length, vi_length]; first | assumption | omega) | (simp only [vs_length, le_length]; done) | (simp only [vs_length, le_length]; first | rfl | assumption | (symm; assumption) | omega | simp) | (simp; done) | (simp only [vs_length, vi_length]; simp; omega)) (by exact vs_one) ?_)
  rintro a99 w97 ha101 hF100 HB6x g98; clear ha101 hF95 a94; replace HB6 := HB6x
  replace HE := HE.thenS g98 (by omega)
  replace HB26 := HB26.growS g98 (by omega)
  replace HB45 := HB45.growS g98 (by omega)
  replace HO63 := HO63.grow g98 (by first | exact own_blk2 HO63.base (by omega) | (simp; omega))
  refine wpList_nil ?_
  have hF102 := hF100.pick [5, 4, 3, 2, 0] (G := [(5, .slice A61 ((dig 256 ((nv 256 xs) % Lq)).length) c62), (4, .pointer (some ⟨b42, 0, none⟩)), (3, .pointer (some ⟨b23, 0, none⟩)), (2, .pointer (some ⟨b3, 0, none⟩)), (0, .slice A xs.length c)]) (by kernel_rfl); clear hF100
  refine hK93 _ _ ?_
  refine wp_ret ?_
  refine retR1 (by first | exact .inl rfl | exact .inr rfl) hF102 rfl (resC hT (t := 2) (ty := 32) (b := b3) (by kernel_rfl) (i := tr32) (by kernel_rfl) rfl HB6 (by show _ = 32; first | rfl | (simp only [vs_length, vi_length]; first | assumption | omega) | (simp only [vs_length, le_length]; done) | (simp only [vs_length, le_length]; first | rfl | assumption | (symm; assumption) | omega | simp) | (simp; done))) ?_
  exact ⟨rfl, HE⟩

theorem ref18_Reduce (A : Option Addr) (n c : Nat) (xs : List Nat) (x : Nat) (w : World) (hx : nv 256 xs = x) (hn : xs.length = n) (hR : Rd w A (vs .u8 xs)) (hbx : By xs) (hl : n ≤ 1048576) :
    Calls Try.prog 31 [.slice A n c].toArray w (Ret fun v w' => v = .agg (vs .u8 (le 32 (x % Lq))).toArray ∧ Ex w w') := by
  subst hx
  subst hn
  refine enter Try.func31 rfl (n := 7) Try.ntmps31 (by simp) ?_
  intro a hF
  have HE : Ex w w := Ex.refl w
  refine wp_seq_k (fun K1 hK2 => ?_)
  refine wp_region_lit ?_
  have hz9 := HE.size
  refine wl (s_alloc hT (d := 2) (T := 32) (l := vs .u8 [0, 0, 0, 0, 0, 0, 0, 0, 0, 0, 0, 0, 0, 0, 0, 0, 0, 0, 0, 0, 0, 0, 0, 0, 0, 0, 0, 0, 0, 0, 0, 0]) (by kernel_rfl) hF ?_)
  rintro a10 w4 b3 h7 h8 HB6 g5 ha12 hF11; clear ha12 hF a
  replace HE := HE.thenN g5
  refine wpList_nil ?_
  refine hK2 _ _ ?_
  refine wp_seq_k (fun K13 hK14 => ?_)
  refine wp_region_lit ?_
  refine pures hT 1 _ hF11 (F' := [(3, .slice A xs.length c), (2, .pointer (some ⟨b3, 0, none⟩)), (0, .slice A xs.length c)]) (cs := []) (by kernel_rfl) trivial ?_
  intro a15 hF16; clear hF11 a10
  have hz23 := HE.size
  have hz24 := HB6.lt
  refine wl (s_call (d := 4) (f := 29) (l := []) (by kernel_rfl) hF16 cl29 (ref18_Order _) ?_)
  rintro a25 w20 v21 ⟨A17, c18, rfl, HX22, HO19⟩ ha27 hF26; clear ha27 hF16 a15
  replace HE := HE.thenN HX22.g
  replace HB6 := HB6.growN HX22.g
  have hcp28 := HO19.cap
  have hz35 := HE.size
  have hz36 := HB6.lt
  have hz37 := HO19.base
  refine wl (s_call (d := 5) (f := 25) (l := [.slice A xs.length c, .slice A17 ((dig 256 Lq).length) c18]) (by kernel_rfl) hF26 cl25 (ref15_Mod A xs.length c xs (nv 256 xs) A17 ((dig 256 Lq).length) c18 (dig 256 Lq) Lq _ rfl (nvd _) (by first | omega | assumption | (simp; done) | (simp; omega) | decide) (by first | omega | assumption | (simp; done) | (simp; omega) | decide) (hR.ex HE) HO19.rd (by first | assumption | exact by_dig _ | exact by_one (Nat.mod_lt _ (by decide)) | omega | (simp; done) | decide) (by first | assumption | exact by_dig _ | exact by_one (Nat.mod_lt _ (by decide)) | omega | (simp; done) | decide) (by first | omega | assumption | (simp; done) | (simp; omega) | decide) (Nat.le_trans (dlen Lq_lt) (by decide)) Lq_pos) ?_)
  rintro a38 w32 v33 ⟨A29, c30, rfl, HX34, HO31⟩ ha40 hF39; clear ha40 hF26 a25
  replace HE := HE.thenN HX34.g
  replace HB6 := HB6.growN HX34.g
  replace HO19 := HO19.growN HX34.g
  have hcp41 := HO31.cap
  have hz45 := HE.size
  have hz46 := HB6.lt
  have hz47 := HO19.base
  have hz48 := HO31.base
  refine wl (s_call (d := 6) (f := 46) (l := [.slice A29 ((dig 256 ((nv 256 xs) % Lq)).length) c30]) (by kernel_rfl) hF39 cl46 (ref16_Full A29 ((dig 256 ((nv 256 xs) % Lq)).length) c30 (dig 256 ((nv 256 xs) % Lq)) ((nv 256 xs) % Lq) _ (nvd _) (by first | rfl | omega | assumption) HO31.rd (by_dig _) (Nat.le_trans (nvdig_mod _) (by decide))) ?_)
  rintro a49 w42 v43 ⟨rfl, HX44⟩ ha51 hF50; clear ha51 hF39 a38
  replace HE := HE.thenN HX44.g
  replace HB6 := HB6.growN HX44.g
  replace HO19 := HO19.growN HX44.g
  replace HO31 := HO31.growN HX44.g
  refine wl (s_storeV hT (b := b3) (l2 := vs .u8 (le 32 ((nv 256 xs) % Lq))) (sz := 32) (by kernel_rfl) hF50 HB6 (by first | rfl | (simp only [vs_length, vi_length]; first | assumption | omega) | (simp only [vs_length, le_length]; done) | (simp only [vs_length, le_length]; first | rfl | assumption | (symm; assumption) | omega | simp) | (simp; done)) (by first | rfl | (simp only [vs_length, vi_length]; first | assumption | omega) | (simp only [vs_length, le_length]; done) | (simp only [vs_length, le_length]; first | rfl | assumption | (symm; assumption) | omega | simp) | (simp; done) | (simp only [vs_length, vi_length]; simp; omega)) (by exact vs_one) ?_)
  rintro a54 w52 ha56 hF55 HB6x g53; clear ha56 hF50 a49; replace HB6 := HB6x
  replace HE := HE.thenS g53 (by omega)
  replace HO19 := HO19.grow g53 (by first | exact own_blk2 HO19.base (by omega) | (simp; omega))
  replace HO31 := HO31.grow g53 (by first | exact own_blk2 HO31.base (by omega) | (simp; omega))
  refine wpList_nil ?_
  have hF57 := hF55.pick [2, 0] (G := [(2, .pointer (some ⟨b3, 0, none⟩)), (0, .slice A xs.length c)]) (by kernel_rfl); clear hF55
  refine hK14 _ _ ?_
  refine wp_ret ?_
  refine retR1 (by first | exact .inl rfl | exact .inr rfl) hF57 rfl (resC hT (t := 2) (ty := 32) (b := b3) (by kernel_rfl) (i := tr32) (by kernel_rfl) rfl HB6 (by show _ = 32; first | rfl | (simp only [vs_length, vi_length]; first | assumption | omega) | (simp only [vs_length, le_length]; done) | (simp only [vs_length, le_length]; first | rfl | assumption | (symm; assumption) | omega | simp) | (simp; done))) ?_
  exact ⟨rfl, HE⟩

end Go.Proofs.Ytdabkjflpbbpeaa
