/- Walks of functions of the program: lemmas. -/
import Derived.Test.YtdabkjflpbbpeaaLa
set_option maxRecDepth 100000
set_option linter.unusedVariables false
set_option linter.unusedSimpArgs false
namespace Go.Proofs.Ytdabkjflpbbpeaa
open Go.Proofs Go.RowKit

theorem law15_small (A : Option Addr) (n c : Nat) (A2 : Option Addr) (n2 c2 : Nat) (w : World) (hn : n ≤ 9223372036854775807) (hn2 : n2 ≤ 9223372036854775807) :
    Calls Try.prog 12 [.slice A n c, .slice A2 n2 c2].toArray w (Ret fun v w' => v = .bool (decide (n ≤ 120 ∧ n2 ≤ 120)) ∧ Ex w w') := by
  refine enter Try.func12 rfl (n := 13) Try.ntmps12 (by simp) ?_
  intro a hF
  have HE : Ex w w := Ex.refl w
  refine wp_seq_k (fun K1 hK2 => ?_)
  refine wp_region_lit ?_
  refine pures_end hT 1 _ hF (F' := [(4, .bool false), (0, .slice A n c), (1, .slice A2 n2 c2)]) (cs := []) (by kernel_rfl) rfl trivial ?_
  intro a3 hF4; clear hF a
  refine hK2 _ _ ?_
  refine wp_seq_k (fun K5 hK6 => ?_)
  refine wp_region_lit ?_
  refine pures hT 4 _ hF4 (F' := [(8, .bool ((decide (((n : Nat) : Int) ≤ 120)))), (7, .bool ((decide (((n : Nat) : Int) ≤ 120)))), (6, .int .i64 ((n : Nat) : Int)), (5, .slice A n c), (4, .bool false), (0, .slice A n c), (1, .slice A2 n2 c2)]) (cs := []) (by kernel_rfl) trivial ?_
  intro a7 hF8; clear hF4 a3
  rcases dec_cases (((n : Nat) : Int) ≤ 120) with ⟨h9, e10⟩ | ⟨h9, e10⟩
  · rw [e10] at hF8; clear e10
    refine pures_end hT 5 _ hF8 (F' := [(4, .bool ((decide (((n2 : Nat) : Int) ≤ 120)))), (12, .bool ((decide (((n2 : Nat) : Int) ≤ 120)))), (11, .bool ((decide (((n2 : Nat) : Int) ≤ 120)))), (10, .int .i64 ((n2 : Nat) : Int)), (9, .slice A2 n2 c2), (8, .bool true), (7, .bool true), (6, .int .i64 ((n : Nat) : Int)), (5, .slice A n c), (4, .bool false), (0, .slice A n c), (1, .slice A2 n2 c2)]) (cs := []) (by kernel_rfl) rfl trivial ?_
    intro a11 hF12; clear hF8 a7
    have hF13 := hF12.pick [4, 0, 1] (G := [(4, .bool ((decide (((n2 : Nat) : Int) ≤ 120)))), (0, .slice A n c), (1, .slice A2 n2 c2)]) (by kernel_rfl); clear hF12
    refine hK6 _ _ ?_
    refine wp_ret ?_
    refine ret1 hF13 rfl (v := .bool ((decide (((n2 : Nat) : Int) ≤ 120)))) (by kernel_rfl) ?_
    exact ⟨congrArg Value.bool (decide_eq_decide.2 (by omega)), HE⟩
  · rw [e10] at hF8; clear e10
    refine pures_end hT 5 _ hF8 (F' := [(4, .bool false), (12, .bool false), (11, undef), (10, undef), (9, undef), (8, .bool false), (7, .bool false), (6, .int .i64 ((n : Nat) : Int)), (5, .slice A n c), (4, .bool false), (0, .slice A n c), (1, .slice A2 n2 c2)]) (cs := []) (by kernel_rfl) rfl trivial ?_
    intro a14 hF15; clear hF8 a7
    have hF16 := hF15.pick [4, 0, 1] (G := [(4, .bool false), (0, .slice A n c), (1, .slice A2 n2 c2)]) (by kernel_rfl); clear hF15
    refine hK6 _ _ ?_
    refine wp_ret ?_
    refine ret1 hF16 rfl (v := .bool false) (by kernel_rfl) ?_
    exact ⟨congrArg Value.bool (decide_eq_false (by omega)).symm, HE⟩

theorem law15_awake  (w : World)  :
    Calls Try.prog 14 [].toArray w (Ret fun v w' => v = .bool true ∧ Ex w w') := by
  refine enter Try.func14 rfl (n := 48) Try.ntmps14 (by simp) ?_
  intro a hF
  have HE : Ex w w := Ex.refl w
  refine wp_seq_k (fun K1 hK2 => ?_)
  refine wp_region_lit ?_
  refine pures_end hT 1 _ hF (F' := [(0, .bool false)]) (cs := []) (by kernel_rfl) rfl trivial ?_
  intro a3 hF4; clear hF a
  refine hK2 _ _ ?_
  refine wp_seq_k (fun K5 hK6 => ?_)
  refine wp_region_lit ?_
  have hz13 := HE.size
  refine wl (s_lit hT (d := 6) (T := 5) (l := vs .u8 [10]) (by kernel_rfl) hF4 ?_)
  rintro a14 w8 b7 h11 h12 HB10 g9 ha16 hF15; clear ha16 hF4 a3
  replace HE := HE.thenN g9
  have hz23 := HE.size
  have hz24 := HB10.lt
  refine wl (s_lit hT (d := 7) (T := 5) (l := vs .u8 [3]) (by kernel_rfl) hF15 ?_)
  rintro a25 w18 b17 h21 h22 HB20 g19 ha27 hF26; clear ha27 hF15 a14
  replace HE := HE.thenN g19
  replace HB10 := HB10.growN g19
  have hz34 := HE.size
  have hz35 := HB10.lt
  have hz36 := HB20.lt
  refine wl (s_call (d := 8) (f := 13) (l := [.slice (some ⟨b7, 0, none⟩) 1 1, .slice (some ⟨b17, 0, none⟩) 1 1]) (by kernel_rfl) hF26 cl13 (Mod1' (A := (some ⟨b7, 0, none⟩)) (n := 1) (c := 1) (x := 10) (xs := [10]) (A2 := (some ⟨b17, 0, none⟩)) (n2 := 1) (c2 := 1) (y := 3) (ys := [3]) (w := _) (show nv 256 [10] = 10 from rfl) (show nv 256 [3] = 3 from rfl) (by decide) rfl rfl HB10.rd HB20.rd (byL rfl) (byL rfl) (by decide) (by decide)) ?_)
  rintro a37 w31 v32 ⟨A28, c29, rfl, HX33, HO30⟩ ha39 hF38; clear ha39 hF26 a25
  replace HE := HE.thenN HX33.g
  replace HB10 := HB10.growN HX33.g
  replace HB20 := HB20.growN HX33.g
  have hcp40 := HO30.cap
  refine pures_end hT 5 _ hF38 (F' := [(2, .int .i64 0), (1, .slice A28 ((dig 256 (10 % 3)).length) c29), (10, .int .i64 0), (9, .slice A28 ((dig 256 (10 % 3)).length) c29), (5, .tuple #[.slice A28 ((dig 256 (10 % 3)).length) c29, .int .i64 0]), (8, .tuple #[.slice A28 ((dig 256 (10 % 3)).length) c29, .int .i64 0]), (7, .slice (some ⟨b17, 0, none⟩) 1 1), (6, .slice (some ⟨b7, 0, none⟩) 1 1), (0, .bool false)]) (cs := []) (by kernel_rfl) rfl trivial ?_
  intro a41 hF42; clear hF38 a37
  have hF43 := hF42.pick [2, 1, 0] (G := [(2, .int .i64 0), (1, .slice A28 ((dig 256 (10 % 3)).length) c29), (0, .bool false)]) (by kernel_rfl); clear hF42
  refine hK6 _ _ ?_
  refine wp_seq_k (fun K44 hK45 => ?_)
  refine wp_region_lit ?_
  have hz52 := HE.size
  have hz53 := HB10.lt
  have hz54 := HB20.lt
  have hz55 := HO30.base
  refine wl (s_lit hT (d := 12) (T := 5) (l := vs .u8 [1]) (by kernel_rfl) hF43 ?_)
  rintro a56 w47 b46 h50 h51 HB49 g48 ha58 hF57; clear ha58 hF43 a41
  replace HE := HE.thenN g48
  replace HB10 := HB10.growN g48
  replace HB20 := HB20.growN g48
  replace HO30 := HO30.growN g48
  have hz65 := HE.size
  have hz66 := HB10.lt
  have hz67 := HB20.lt
  have hz68 := HO30.base
  have hz69 := HB49.lt
  refine wl (s_lit hT (d := 13) (T := 5) (l := vs .u8 [0]) (by kernel_rfl) hF57 ?_)
  rintro a70 w60 b59 h63 h64 HB62 g61 ha72 hF71; clear ha72 hF57 a56
  replace HE := HE.thenN g61
  replace HB10 := HB10.growN g61
  replace HB20 := HB20.growN g61
  replace HO30 := HO30.growN g61
  replace HB49 := HB49.growN g61
  have hz79 := HE.size
  have hz80 := HB10.lt
  have hz81 := HB20.lt
  have hz82 := HO30.base
  have hz83 := HB49.lt
  have hz84 := HB62.lt
  refine wl (s_call (d := 14) (f := 13) (l := [.slice (some ⟨b46, 0, none⟩) 1 1, .slice (some ⟨b59, 0, none⟩) 1 1]) (by kernel_rfl) hF71 cl13 (Mod0' (A := (some ⟨b46, 0, none⟩)) (n := 1) (c := 1) (x := 1) (xs := [1]) (A2 := (some ⟨b59, 0, none⟩)) (n2 := 1) (c2 := 1) (y := 0) (ys := [0]) (w := _) (show nv 256 [1] = 1 from rfl) (show nv 256 [0] = 0 from rfl) (by decide) rfl rfl HB49.rd HB62.rd (byL rfl) (byL rfl) (by decide) (by decide)) ?_)
  rintro a85 w76 v77 ⟨A73, c74, rfl, HX78, HO75⟩ ha87 hF86; clear ha87 hF71 a70
  replace HE := HE.thenN HX78.g
  replace HB10 := HB10.growN HX78.g
  replace HB20 := HB20.growN HX78.g
  replace HO30 := HO30.growN HX78.g
  replace HB49 := HB49.growN HX78.g
  replace HB62 := HB62.growN HX78.g
  have hcp88 := HO75.cap
  refine pures_end hT 5 _ hF86 (F' := [(4, .int .i64 20), (3, .slice A73 0 c74), (16, .int .i64 20), (15, .slice A73 0 c74), (11, .tuple #[.slice A73 0 c74, .int .i64 20]), (14, .tuple #[.slice A73 0 c74, .int .i64 20]), (13, .slice (some ⟨b59, 0, none⟩) 1 1), (12, .slice (some ⟨b46, 0, none⟩) 1 1), (2, .int .i64 0), (1, .slice A28 ((dig 256 (10 % 3)).length) c29), (0, .bool false)]) (cs := []) (by kernel_rfl) rfl trivial ?_
  intro a89 hF90; clear hF86 a85
  have hF91 := hF90.pick [4, 2, 1, 0] (G := [(4, .int .i64 20), (2, .int .i64 0), (1, .slice A28 ((dig 256 (10 % 3)).length) c29), (0, .bool false)]) (by kernel_rfl); clear hF90
  refine hK45 _ _ ?_
  refine wp_seq_k (fun K92 hK93 => ?_)
  refine wp_region_lit ?_
  have hz100 := HE.size
  have hz101 := HB10.lt
  have hz102 := HB20.lt
  have hz103 := HO30.base
  have hz104 := HB49.lt
  have hz105 := HB62.lt
  have hz106 := HO75.base
  refine wl (s_lit hT (d := 17) (T := 5) (l := vs .u8 [255]) (by kernel_rfl) hF91 ?_)
  rintro a107 w95 b94 h98 h99 HB97 g96 ha109 hF108; clear ha109 hF91 a89
  replace HE := HE.thenN g96
  replace HB10 := HB10.growN g96
  replace HB20 := HB20.growN g96
  replace HO30 := HO30.growN g96
  replace HB49 := HB49.growN g96
  replace HB62 := HB62.growN g96
  replace HO75 := HO75.growN g96
  have hz116 := HE.size
  have hz117 := HB10.lt
  have hz118 := HB20.lt
  have hz119 := HO30.base
  have hz120 := HB49.lt
  have hz121 := HB62.lt
  have hz122 := HO75.base
  have hz123 := HB97.lt
  refine wl (s_lit hT (d := 18) (T := 5) (l := vs .u8 [1]) (by kernel_rfl) hF108 ?_)
  rintro a124 w111 b110 h114 h115 HB113 g112 ha126 hF125; clear ha126 hF108 a107
  replace HE := HE.thenN g112
  replace HB10 := HB10.growN g112
  replace HB20 := HB20.growN g112
  replace HO30 := HO30.growN g112
  replace HB49 := HB49.growN g112
  replace HB62 := HB62.growN g112
  replace HO75 := HO75.growN g112
  replace HB97 := HB97.growN g112
  have hz133 := HE.size
  have hz134 := HB10.lt
  have hz135 := HB20.lt
  have hz136 := HO30.base
  have hz137 := HB49.lt
  have hz138 := HB62.lt
  have hz139 := HO75.base
  have hz140 := HB97.lt
  have hz141 := HB113.lt
  refine wl (s_call (d := 19) (f := 17) (l := [.slice (some ⟨b94, 0, none⟩) 1 1, .slice (some ⟨b110, 0, none⟩) 1 1]) (by kernel_rfl) hF125 cl17 (Add' (A := (some ⟨b94, 0, none⟩)) (n := 1) (c := 1) (x := 255) (xs := [255]) (A2 := (some ⟨b110, 0, none⟩)) (n2 := 1) (c2 := 1) (y := 1) (ys := [1]) (w := _) (show nv 256 [255] = 255 from rfl) (show nv 256 [1] = 1 from rfl)  rfl rfl HB97.rd HB113.rd (byL rfl) (byL rfl) (by decide) (by decide)) ?_)
  rintro a142 w130 v131 ⟨A127, c128, rfl, HX132, HO129⟩ ha144 hF143; clear ha144 hF125 a124
  replace HE := HE.thenN HX132.g
  replace HB10 := HB10.growN HX132.g
  replace HB20 := HB20.growN HX132.g
  replace HO30 := HO30.growN HX132.g
  replace HB49 := HB49.growN HX132.g
  replace HB62 := HB62.growN HX132.g
  replace HO75 := HO75.growN HX132.g
  replace HB97 := HB97.growN HX132.g
  replace HB113 := HB113.growN HX132.g
  have hcp145 := HO129.cap
  refine wl (s_str hT (d := 20) (A := A127) (m := (dig 256 (255 + 1)).length) (xs := (dig 256 (255 + 1))) (by kernel_rfl) hF143 HO129.rd (by (first | (simp only [vs_length, vi_length]; omega) | (simp; omega) | omega)) ?_)
  rintro a146 ha148 hF147; clear ha148 hF143 a142
  refine pures hT 1 _ hF147 (F' := [(21, .bool ((ByteArray.toList (str (dig 256 (255 + 1))) == ByteArray.toList (str [0, 1])))), (20, .string (str (dig 256 (255 + 1)))), (19, .slice A127 ((dig 256 (255 + 1)).length) c128), (18, .slice (some ⟨b110, 0, none⟩) 1 1), (17, .slice (some ⟨b94, 0, none⟩) 1 1), (4, .int .i64 20), (2, .int .i64 0), (1, .slice A28 ((dig 256 (10 % 3)).length) c29), (0, .bool false)]) (cs := []) (by kernel_rfl) trivial ?_
  intro a149 hF150; clear hF147 a146
  have hF151 : Fr 48 a149 [(21, .bool true), (20, .string (str (dig 256 (255 + 1)))), (19, .slice A127 ((dig 256 (255 + 1)).length) c128), (18, .slice (some ⟨b110, 0, none⟩) 1 1), (17, .slice (some ⟨b94, 0, none⟩) 1 1), (4, .int .i64 20), (2, .int .i64 0), (1, .slice A28 ((dig 256 (10 % 3)).length) c29), (0, .bool false)] := by rw [show ((ByteArray.toList (str (dig 256 (255 + 1))) == ByteArray.toList (str [0, 1]))) = true from (str_eqT (by decide +kernel))] at hF150; exact hF150
  clear hF150
  refine pures hT 1 _ hF151 (F' := [(22, .bool true), (21, .bool true), (20, .string (str (dig 256 (255 + 1)))), (19, .slice A127 ((dig 256 (255 + 1)).length) c128), (18, .slice (some ⟨b110, 0, none⟩) 1 1), (17, .slice (some ⟨b94, 0, none⟩) 1 1), (4, .int .i64 20), (2, .int .i64 0), (1, .slice A28 ((dig 256 (10 % 3)).length) c29), (0, .bool false)]) (cs := []) (by kernel_rfl) trivial ?_
  intro a152 hF153; clear hF151 a149
  have hz160 := HE.size
  have hz161 := HB10.lt
  have hz162 := HB20.lt
  have hz163 := HO30.base
  have hz164 := HB49.lt
  have hz165 := HB62.lt
  have hz166 := HO75.base
  have hz167 := HB97.lt
  have hz168 := HB113.lt
  have hz169 := HO129.base
  refine wl (One.bare hF153 (by kernel_rfl) (s_lit hT (d := 23) (T := 5) (l := vs .u8 [0, 1]) (by kernel_rfl) hF153 ?_))
  rintro a170 w155 b154 h158 h159 HB157 g156 ha172 hF171; clear ha172 hF153 a152
  replace HE := HE.thenN g156
  replace HB10 := HB10.growN g156
  replace HB20 := HB20.growN g156
  replace HO30 := HO30.growN g156
  replace HB49 := HB49.growN g156
  replace HB62 := HB62.growN g156
  replace HO75 := HO75.growN g156
  replace HB97 := HB97.growN g156
  replace HB113 := HB113.growN g156
  replace HO129 := HO129.growN g156
  have hz179 := HE.size
  have hz180 := HB10.lt
  have hz181 := HB20.lt
  have hz182 := HO30.base
  have hz183 := HB49.lt
  have hz184 := HB62.lt
  have hz185 := HO75.base
  have hz186 := HB97.lt
  have hz187 := HB113.lt
  have hz188 := HO129.base
  have hz189 := HB157.lt
  refine wl (One.bare hF171 (by kernel_rfl) (s_lit hT (d := 24) (T := 5) (l := vs .u8 [1]) (by kernel_rfl) hF171 ?_))
  rintro a190 w174 b173 h177 h178 HB176 g175 ha192 hF191; clear ha192 hF171 a170
  replace HE := HE.thenN g175
  replace HB10 := HB10.growN g175
  replace HB20 := HB20.growN g175
  replace HO30 := HO30.growN g175
  replace HB49 := HB49.growN g175
  replace HB62 := HB62.growN g175
  replace HO75 := HO75.growN g175
  replace HB97 := HB97.growN g175
  replace HB113 := HB113.growN g175
  replace HO129 := HO129.growN g175
  replace HB157 := HB157.growN g175
  have hz199 := HE.size
  have hz200 := HB10.lt
  have hz201 := HB20.lt
  have hz202 := HO30.base
  have hz203 := HB49.lt
  have hz204 := HB62.lt
  have hz205 := HO75.base
  have hz206 := HB97.lt
  have hz207 := HB113.lt
  have hz208 := HO129.base
  have hz209 := HB157.lt
  have hz210 := HB176.lt
  refine wl (One.bare hF191 (by kernel_rfl) (s_call (d := 25) (f := 15) (l := [.slice (some ⟨b154, 0, none⟩) 2 2, .slice (some ⟨b173, 0, none⟩) 1 1]) (by kernel_rfl) hF191 cl15 (Sub' (A := (some ⟨b154, 0, none⟩)) (n := 2) (c := 2) (x := 256) (xs := [0, 1]) (A2 := (some ⟨b173, 0, none⟩)) (n2 := 1) (c2 := 1) (y := 1) (ys := [1]) (w := _) (show nv 256 [0, 1] = 256 from rfl) (show nv 256 [1] = 1 from rfl)  rfl rfl HB157.rd HB176.rd (byL rfl) (byL rfl) (by decide) (by decide)) ?_))
  rintro a211 w196 v197 ⟨A193, c194, rfl, HX198, HO195⟩ ha213 hF212; clear ha213 hF191 a190
  replace HE := HE.thenN HX198.g
  replace HB10 := HB10.growN HX198.g
  replace HB20 := HB20.growN HX198.g
  replace HO30 := HO30.growN HX198.g
  replace HB49 := HB49.growN HX198.g
  replace HB62 := HB62.growN HX198.g
  replace HO75 := HO75.growN HX198.g
  replace HB97 := HB97.growN HX198.g
  replace HB113 := HB113.growN HX198.g
  replace HO129 := HO129.growN HX198.g
  replace HB157 := HB157.growN HX198.g
  replace HB176 := HB176.growN HX198.g
  have hcp214 := HO195.cap
  refine wl (One.bare hF212 (by kernel_rfl) (s_str hT (d := 26) (A := A193) (m := (dig 256 (256 - 1)).length) (xs := (dig 256 (256 - 1))) (by kernel_rfl) hF212 HO195.rd (by (first | (simp only [vs_length, vi_length]; omega) | (simp; omega) | omega)) ?_))
  rintro a215 ha217 hF216; clear ha217 hF212 a211
  refine pures hT 1 _ hF216 (F' := [(27, .bool ((ByteArray.toList (str (dig 256 (256 - 1))) == ByteArray.toList (str [255])))), (26, .string (str (dig 256 (256 - 1)))), (25, .slice A193 ((dig 256 (256 - 1)).length) c194), (24, .slice (some ⟨b173, 0, none⟩) 1 1), (23, .slice (some ⟨b154, 0, none⟩) 2 2), (22, .bool true), (21, .bool true), (20, .string (str (dig 256 (255 + 1)))), (19, .slice A127 ((dig 256 (255 + 1)).length) c128), (18, .slice (some ⟨b110, 0, none⟩) 1 1), (17, .slice (some ⟨b94, 0, none⟩) 1 1), (4, .int .i64 20), (2, .int .i64 0), (1, .slice A28 ((dig 256 (10 % 3)).length) c29), (0, .bool false)]) (cs := []) (by kernel_rfl) trivial ?_
  intro a218 hF219; clear hF216 a215
  have hF220 : Fr 48 a218 [(27, .bool true), (26, .string (str (dig 256 (256 - 1)))), (25, .slice A193 ((dig 256 (256 - 1)).length) c194), (24, .slice (some ⟨b173, 0, none⟩) 1 1), (23, .slice (some ⟨b154, 0, none⟩) 2 2), (22, .bool true), (21, .bool true), (20, .string (str (dig 256 (255 + 1)))), (19, .slice A127 ((dig 256 (255 + 1)).length) c128), (18, .slice (some ⟨b110, 0, none⟩) 1 1), (17, .slice (some ⟨b94, 0, none⟩) 1 1), (4, .int .i64 20), (2, .int .i64 0), (1, .slice A28 ((dig 256 (10 % 3)).length) c29), (0, .bool false)] := by rw [show ((ByteArray.toList (str (dig 256 (256 - 1))) == ByteArray.toList (str [255]))) = true from (str_eqT (by decide +kernel))] at hF219; exact hF219
  clear hF219
  refine pures hT 2 _ hF220 (F' := [(29, .bool true), (28, .bool true), (27, .bool true), (26, .string (str (dig 256 (256 - 1)))), (25, .slice A193 ((dig 256 (256 - 1)).length) c194), (24, .slice (some ⟨b173, 0, none⟩) 1 1), (23, .slice (some ⟨b154, 0, none⟩) 2 2), (22, .bool true), (21, .bool true), (20, .string (str (dig 256 (255 + 1)))), (19, .slice A127 ((dig 256 (255 + 1)).length) c128), (18, .slice (some ⟨b110, 0, none⟩) 1 1), (17, .slice (some ⟨b94, 0, none⟩) 1 1), (4, .int .i64 20), (2, .int .i64 0), (1, .slice A28 ((dig 256 (10 % 3)).length) c29), (0, .bool false)]) (cs := []) (by kernel_rfl) trivial ?_
  intro a221 hF222; clear hF220 a218
  have hz229 := HE.size
  have hz230 := HB10.lt
  have hz231 := HB20.lt
  have hz232 := HO30.base
  have hz233 := HB49.lt
  have hz234 := HB62.lt
  have hz235 := HO75.base
  have hz236 := HB97.lt
  have hz237 := HB113.lt
  have hz238 := HO129.base
  have hz239 := HB157.lt
  have hz240 := HB176.lt
  have hz241 := HO195.base
  refine wl (One.bare hF222 (by kernel_rfl) (s_lit hT (d := 30) (T := 5) (l := vs .u8 [1, 0]) (by kernel_rfl) hF222 ?_))
  rintro a242 w224 b223 h227 h228 HB226 g225 ha244 hF243; clear ha244 hF222 a221
  replace HE := HE.thenN g225
  replace HB10 := HB10.growN g225
  replace HB20 := HB20.growN g225
  replace HO30 := HO30.growN g225
  replace HB49 := HB49.growN g225
  replace HB62 := HB62.growN g225
  replace HO75 := HO75.growN g225
  replace HB97 := HB97.growN g225
  replace HB113 := HB113.growN g225
  replace HO129 := HO129.growN g225
  replace HB157 := HB157.growN g225
  replace HB176 := HB176.growN g225
  replace HO195 := HO195.growN g225
  have hz251 := HE.size
  have hz252 := HB10.lt
  have hz253 := HB20.lt
  have hz254 := HO30.base
  have hz255 := HB49.lt
  have hz256 := HB62.lt
  have hz257 := HO75.base
  have hz258 := HB97.lt
  have hz259 := HB113.lt
  have hz260 := HO129.base
  have hz261 := HB157.lt
  have hz262 := HB176.lt
  have hz263 := HO195.base
  have hz264 := HB226.lt
  refine wl (One.bare hF243 (by kernel_rfl) (s_lit hT (d := 31) (T := 5) (l := vs .u8 [1]) (by kernel_rfl) hF243 ?_))
  rintro a265 w246 b245 h249 h250 HB248 g247 ha267 hF266; clear ha267 hF243 a242
  replace HE := HE.thenN g247
  replace HB10 := HB10.growN g247
  replace HB20 := HB20.growN g247
  replace HO30 := HO30.growN g247
  replace HB49 := HB49.growN g247
  replace HB62 := HB62.growN g247
  replace HO75 := HO75.growN g247
  replace HB97 := HB97.growN g247
  replace HB113 := HB113.growN g247
  replace HO129 := HO129.growN g247
  replace HB157 := HB157.growN g247
  replace HB176 := HB176.growN g247
  replace HO195 := HO195.growN g247
  replace HB226 := HB226.growN g247
  have hz271 := HE.size
  have hz272 := HB10.lt
  have hz273 := HB20.lt
  have hz274 := HO30.base
  have hz275 := HB49.lt
  have hz276 := HB62.lt
  have hz277 := HO75.base
  have hz278 := HB97.lt
  have hz279 := HB113.lt
  have hz280 := HO129.base
  have hz281 := HB157.lt
  have hz282 := HB176.lt
  have hz283 := HO195.base
  have hz284 := HB226.lt
  have hz285 := HB248.lt
  refine wl (One.bare hF266 (by kernel_rfl) (s_call (d := 32) (f := 16) (l := [.slice (some ⟨b223, 0, none⟩) 2 2, .slice (some ⟨b245, 0, none⟩) 1 1]) (by kernel_rfl) hF266 cl16 (Cmp' (A := (some ⟨b223, 0, none⟩)) (n := 2) (c := 2) (x := 1) (xs := [1, 0]) (A2 := (some ⟨b245, 0, none⟩)) (n2 := 1) (c2 := 1) (y := 1) (ys := [1]) (w := _) (show nv 256 [1, 0] = 1 from rfl) (show nv 256 [1] = 1 from rfl)  rfl rfl HB226.rd HB248.rd (byL rfl) (byL rfl) (by decide) (by decide)) ?_))
  rintro a286 w268 v269 ⟨rfl, HX270⟩ ha288 hF287; clear ha288 hF266 a265
  replace HE := HE.thenN HX270.g
  replace HB10 := HB10.growN HX270.g
  replace HB20 := HB20.growN HX270.g
  replace HO30 := HO30.growN HX270.g
  replace HB49 := HB49.growN HX270.g
  replace HB62 := HB62.growN HX270.g
  replace HO75 := HO75.growN HX270.g
  replace HB97 := HB97.growN HX270.g
  replace HB113 := HB113.growN HX270.g
  replace HO129 := HO129.growN HX270.g
  replace HB157 := HB157.growN HX270.g
  replace HB176 := HB176.growN HX270.g
  replace HO195 := HO195.growN HX270.g
  replace HB226 := HB226.growN HX270.g
  replace HB248 := HB248.growN HX270.g
  refine pures hT 1 _ hF287 (F' := [(33, .bool ((decide ((cmpI 1 1) = 0)))), (32, .int .i64 (cmpI 1 1)), (31, .slice (some ⟨b245, 0, none⟩) 1 1), (30, .slice (some ⟨b223, 0, none⟩) 2 2), (29, .bool true), (28, .bool true), (27, .bool true), (26, .string (str (dig 256 (256 - 1)))), (25, .slice A193 ((dig 256 (256 - 1)).length) c194), (24, .slice (some ⟨b173, 0, none⟩) 1 1), (23, .slice (some ⟨b154, 0, none⟩) 2 2), (22, .bool true), (21, .bool true), (20, .string (str (dig 256 (255 + 1)))), (19, .slice A127 ((dig 256 (255 + 1)).length) c128), (18, .slice (some ⟨b110, 0, none⟩) 1 1), (17, .slice (some ⟨b94, 0, none⟩) 1 1), (4, .int .i64 20), (2, .int .i64 0), (1, .slice A28 ((dig 256 (10 % 3)).length) c29), (0, .bool false)]) (cs := []) (by kernel_rfl) trivial ?_
  intro a289 hF290; clear hF287 a286
  have hF291 : Fr 48 a289 [(33, .bool true), (32, .int .i64 (cmpI 1 1)), (31, .slice (some ⟨b245, 0, none⟩) 1 1), (30, .slice (some ⟨b223, 0, none⟩) 2 2), (29, .bool true), (28, .bool true), (27, .bool true), (26, .string (str (dig 256 (256 - 1)))), (25, .slice A193 ((dig 256 (256 - 1)).length) c194), (24, .slice (some ⟨b173, 0, none⟩) 1 1), (23, .slice (some ⟨b154, 0, none⟩) 2 2), (22, .bool true), (21, .bool true), (20, .string (str (dig 256 (255 + 1)))), (19, .slice A127 ((dig 256 (255 + 1)).length) c128), (18, .slice (some ⟨b110, 0, none⟩) 1 1), (17, .slice (some ⟨b94, 0, none⟩) 1 1), (4, .int .i64 20), (2, .int .i64 0), (1, .slice A28 ((dig 256 (10 % 3)).length) c29), (0, .bool false)] := by rw [show ((decide ((cmpI 1 1) = 0))) = true from (by decide +kernel)] at hF290; exact hF290
  clear hF290
  refine pures hT 3 _ hF291 (F' := [(36, .slice A28 ((dig 256 (10 % 3)).length) c29), (35, .bool true), (34, .bool true), (33, .bool true), (32, .int .i64 (cmpI 1 1)), (31, .slice (some ⟨b245, 0, none⟩) 1 1), (30, .slice (some ⟨b223, 0, none⟩) 2 2), (29, .bool true), (28, .bool true), (27, .bool true), (26, .string (str (dig 256 (256 - 1)))), (25, .slice A193 ((dig 256 (256 - 1)).length) c194), (24, .slice (some ⟨b173, 0, none⟩) 1 1), (23, .slice (some ⟨b154, 0, none⟩) 2 2), (22, .bool true), (21, .bool true), (20, .string (str (dig 256 (255 + 1)))), (19, .slice A127 ((dig 256 (255 + 1)).length) c128), (18, .slice (some ⟨b110, 0, none⟩) 1 1), (17, .slice (some ⟨b94, 0, none⟩) 1 1), (4, .int .i64 20), (2, .int .i64 0), (1, .slice A28 ((dig 256 (10 % 3)).length) c29), (0, .bool false)]) (cs := []) (by kernel_rfl) trivial ?_
  intro a292 hF293; clear hF291 a289
  refine wl (One.bare hF293 (by kernel_rfl) (s_str hT (d := 37) (A := A28) (m := (dig 256 (10 % 3)).length) (xs := (dig 256 (10 % 3))) (by kernel_rfl) hF293 HO30.rd (by (first | (simp only [vs_length, vi_length]; omega) | (simp; omega) | omega)) ?_))
  rintro a294 ha296 hF295; clear ha296 hF293 a292
  refine pures hT 1 _ hF295 (F' := [(38, .bool ((ByteArray.toList (str (dig 256 (10 % 3))) == ByteArray.toList (str [1])))), (37, .string (str (dig 256 (10 % 3)))), (36, .slice A28 ((dig 256 (10 % 3)).length) c29), (35, .bool true), (34, .bool true), (33, .bool true), (32, .int .i64 (cmpI 1 1)), (31, .slice (some ⟨b245, 0, none⟩) 1 1), (30, .slice (some ⟨b223, 0, none⟩) 2 2), (29, .bool true), (28, .bool true), (27, .bool true), (26, .string (str (dig 256 (256 - 1)))), (25, .slice A193 ((dig 256 (256 - 1)).length) c194), (24, .slice (some ⟨b173, 0, none⟩) 1 1), (23, .slice (some ⟨b154, 0, none⟩) 2 2), (22, .bool true), (21, .bool true), (20, .string (str (dig 256 (255 + 1)))), (19, .slice A127 ((dig 256 (255 + 1)).length) c128), (18, .slice (some ⟨b110, 0, none⟩) 1 1), (17, .slice (some ⟨b94, 0, none⟩) 1 1), (4, .int .i64 20), (2, .int .i64 0), (1, .slice A28 ((dig 256 (10 % 3)).length) c29), (0, .bool false)]) (cs := []) (by kernel_rfl) trivial ?_
  intro a297 hF298; clear hF295 a294
  have hF299 : Fr 48 a297 [(38, .bool true), (37, .string (str (dig 256 (10 % 3)))), (36, .slice A28 ((dig 256 (10 % 3)).length) c29), (35, .bool true), (34, .bool true), (33, .bool true), (32, .int .i64 (cmpI 1 1)), (31, .slice (some ⟨b245, 0, none⟩) 1 1), (30, .slice (some ⟨b223, 0, none⟩) 2 2), (29, .bool true), (28, .bool true), (27, .bool true), (26, .string (str (dig 256 (256 - 1)))), (25, .slice A193 ((dig 256 (256 - 1)).length) c194), (24, .slice (some ⟨b173, 0, none⟩) 1 1), (23, .slice (some ⟨b154, 0, none⟩) 2 2), (22, .bool true), (21, .bool true), (20, .string (str (dig 256 (255 + 1)))), (19, .slice A127 ((dig 256 (255 + 1)).length) c128), (18, .slice (some ⟨b110, 0, none⟩) 1 1), (17, .slice (some ⟨b94, 0, none⟩) 1 1), (4, .int .i64 20), (2, .int .i64 0), (1, .slice A28 ((dig 256 (10 % 3)).length) c29), (0, .bool false)] := by rw [show ((ByteArray.toList (str (dig 256 (10 % 3))) == ByteArray.toList (str [1]))) = true from (str_eqT (by decide +kernel))] at hF298; exact hF298
  clear hF298
  refine pures_end hT 10 _ hF299 (F' := [(0, .bool true), (47, .bool true), (46, .bool true), (45, .int .i64 20), (44, .bool true), (43, .bool true), (42, .bool true), (41, .int .i64 0), (40, .bool true), (39, .bool true), (38, .bool true), (37, .string (str (dig 256 (10 % 3)))), (36, .slice A28 ((dig 256 (10 % 3)).length) c29), (35, .bool true), (34, .bool true), (33, .bool true), (32, .int .i64 (cmpI 1 1)), (31, .slice (some ⟨b245, 0, none⟩) 1 1), (30, .slice (some ⟨b223, 0, none⟩) 2 2), (29, .bool true), (28, .bool true), (27, .bool true), (26, .string (str (dig 256 (256 - 1)))), (25, .slice A193 ((dig 256 (256 - 1)).length) c194), (24, .slice (some ⟨b173, 0, none⟩) 1 1), (23, .slice (some ⟨b154, 0, none⟩) 2 2), (22, .bool true), (21, .bool true), (20, .string (str (dig 256 (255 + 1)))), (19, .slice A127 ((dig 256 (255 + 1)).length) c128), (18, .slice (some ⟨b110, 0, none⟩) 1 1), (17, .slice (some ⟨b94, 0, none⟩) 1 1), (4, .int .i64 20), (2, .int .i64 0), (1, .slice A28 ((dig 256 (10 % 3)).length) c29), (0, .bool false)]) (cs := []) (by kernel_rfl) rfl trivial ?_
  intro a300 hF301; clear hF299 a297
  have hF302 := hF301.pick [0, 4, 2, 1] (G := [(0, .bool true), (4, .int .i64 20), (2, .int .i64 0), (1, .slice A28 ((dig 256 (10 % 3)).length) c29)]) (by kernel_rfl); clear hF301
  refine hK93 _ _ ?_
  refine wp_ret ?_
  refine ret1 hF302 rfl (v := .bool true) (by kernel_rfl) ?_
  exact ⟨rfl, HE⟩

end Go.Proofs.Ytdabkjflpbbpeaa
