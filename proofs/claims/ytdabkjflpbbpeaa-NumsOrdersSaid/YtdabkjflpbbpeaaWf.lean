/- Walks of functions of the program: lemmas. -/
import Derived.Test.YtdabkjflpbbpeaaLb
import Derived.Test.YtdabkjflpbbpeaaWd
set_option maxRecDepth 100000
set_option linter.unusedVariables false
set_option linter.unusedSimpArgs false
namespace Go.Proofs.Ytdabkjflpbbpeaa
open Go.Proofs Go.RowKit

set_option maxHeartbeats 4000000 in
theorem law15_orders (Ax : Option Addr) (cx : Nat) (xs : List Nat) (Ay : Option Addr) (cy : Nat) (ys : List Nat) (Az : Option Addr) (cz : Nat) (zs : List Nat) (w : World) (hxs : Rd w Ax (vs .u8 xs)) (hbxs : By xs) (hmxs : xs.length ≤ 9223372036854775807) (hys : Rd w Ay (vs .u8 ys)) (hbys : By ys) (hmys : ys.length ≤ 9223372036854775807) (hzs : Rd w Az (vs .u8 zs)) (hbzs : By zs) (hmzs : zs.length ≤ 9223372036854775807) :
    Calls Try.prog 8 [.slice Ax xs.length cx, .slice Ay ys.length cy, .slice Az zs.length cz].toArray w (Ret fun v w' => v = .bool true ∧ Ex w w') := by
  refine enter Try.func8 rfl (n := 104) Try.ntmps8 (by simp) ?_
  intro a hF
  have HE : Ex w w := Ex.refl w
  refine wp_seq_k (fun K1 hK2 => ?_)
  refine wp_region_lit ?_
  refine pures_end hT 1 _ hF (F' := [(6, .bool false), (0, .slice Ax xs.length cx), (1, .slice Ay ys.length cy), (2, .slice Az zs.length cz)]) (cs := []) (by kernel_rfl) rfl trivial ?_
  intro a3 hF4; clear hF a
  refine hK2 _ _ ?_
  refine wp_seq_k (fun K5 hK6 => ?_)
  refine wp_seq_k (fun K7 hK8 => ?_)
  refine wp_region_lit ?_
  refine pures hT 2 _ hF4 (F' := [(13, .slice Ay ys.length cy), (12, .slice Ax xs.length cx), (6, .bool false), (0, .slice Ax xs.length cx), (1, .slice Ay ys.length cy), (2, .slice Az zs.length cz)]) (cs := []) (by kernel_rfl) trivial ?_
  intro a9 hF10; clear hF4 a3
  have hz14 := HE.size
  refine wl (s_call (d := 14) (f := 12) (l := [.slice Ax xs.length cx, .slice Ay ys.length cy]) (by kernel_rfl) hF10 cl12 (law15_small Ax xs.length cx Ay ys.length cy _ (by omega) (by omega)) ?_)
  rintro a15 w11 v12 ⟨rfl, HX13⟩ ha17 hF16; clear ha17 hF10 a9
  replace HE := HE.thenN HX13.g
  refine pures hT 2 _ hF16 (F' := [(16, .bool (!(decide ((xs.length ≤ 120 ∧ ys.length ≤ 120))))), (15, .bool (!(decide ((xs.length ≤ 120 ∧ ys.length ≤ 120))))), (14, .bool ((decide ((xs.length ≤ 120 ∧ ys.length ≤ 120))))), (13, .slice Ay ys.length cy), (12, .slice Ax xs.length cx), (6, .bool false), (0, .slice Ax xs.length cx), (1, .slice Ay ys.length cy), (2, .slice Az zs.length cz)]) (cs := []) (by kernel_rfl) trivial ?_
  intro a18 hF19; clear hF16 a15
  rcases dec_cases ((xs.length ≤ 120 ∧ ys.length ≤ 120)) with ⟨h20, e21⟩ | ⟨h20, e21⟩
  · rw [e21] at hF19; clear e21; simp only [Bool.not_true, Bool.not_false] at hF19
    refine pures_end hT 4 _ hF19 (F' := [(20, .bool ((decide (120 < ((zs.length : Nat) : Int))))), (19, .bool ((decide (120 < ((zs.length : Nat) : Int))))), (18, .int .i64 ((zs.length : Nat) : Int)), (17, .slice Az zs.length cz), (16, .bool false), (15, .bool false), (14, .bool true), (13, .slice Ay ys.length cy), (12, .slice Ax xs.length cx), (6, .bool false), (0, .slice Ax xs.length cx), (1, .slice Ay ys.length cy), (2, .slice Az zs.length cz)]) (cs := []) (by kernel_rfl) rfl trivial ?_
    intro a22 hF23; clear hF19 a18
    have hF24 := hF23.pick [20, 6, 0, 1, 2] (G := [(20, .bool ((decide (120 < ((zs.length : Nat) : Int))))), (6, .bool false), (0, .slice Ax xs.length cx), (1, .slice Ay ys.length cy), (2, .slice Az zs.length cz)]) (by kernel_rfl); clear hF23
    refine hK8 _ _ ?_
    refine condK hF24 (p := 120 < ((zs.length : Nat) : Int)) (by kernel_rfl) (fun h25 => ?_) (fun h25 => ?_)
    · -- h25
      refine wp_seq_k (fun K26 hK27 => ?_)
      refine wp_region_lit ?_
      refine pures_end hT 1 _ hF24 (F' := [(6, .bool true), (20, .bool ((decide (120 < ((zs.length : Nat) : Int))))), (6, .bool false), (0, .slice Ax xs.length cx), (1, .slice Ay ys.length cy), (2, .slice Az zs.length cz)]) (cs := []) (by kernel_rfl) rfl trivial ?_
      intro a28 hF29; clear hF24 a22
      have hF30 := hF29.pick [6, 20, 0, 1, 2] (G := [(6, .bool true), (20, .bool ((decide (120 < ((zs.length : Nat) : Int))))), (0, .slice Ax xs.length cx), (1, .slice Ay ys.length cy), (2, .slice Az zs.length cz)]) (by kernel_rfl); clear hF29
      refine hK27 _ _ ?_
      refine wp_ret ?_
      refine ret1 hF30 rfl (v := .bool true) (by kernel_rfl) ?_
      exact ⟨rfl, HE⟩
    · -- h25
      refine wp_skip ?_
      refine hK6 _ _ ?_
      refine wp_seq_k (fun K31 hK32 => ?_)
      have hlxs : xs.length ≤ 120 := by omega
      have hlys : ys.length ≤ 120 := by omega
      have hlzs : zs.length ≤ 120 := by omega
      refine wp_region_lit ?_
      refine pures hT 2 _ hF24 (F' := [(22, .slice Ay ys.length cy), (21, .slice Ax xs.length cx), (20, .bool ((decide (120 < ((zs.length : Nat) : Int))))), (6, .bool false), (0, .slice Ax xs.length cx), (1, .slice Ay ys.length cy), (2, .slice Az zs.length cz)]) (cs := []) (by kernel_rfl) trivial ?_
      intro a33 hF34; clear hF24 a22
      have hz38 := HE.size
      refine wl (s_call (d := 23) (f := 16) (l := [.slice Ax xs.length cx, .slice Ay ys.length cy]) (by kernel_rfl) hF34 cl16 (Cmp' (A := Ax) (n := xs.length) (c := cx) (x := (nv 256 xs)) (xs := xs) (A2 := Ay) (n2 := ys.length) (c2 := cy) (y := (nv 256 ys)) (ys := ys) (w := _) rfl rfl  rfl rfl (hxs.ex HE) (hys.ex HE) hbxs hbys (Nat.le_trans hlxs (by decide)) (Nat.le_trans hlys (by decide))) ?_)
      rintro a39 w35 v36 ⟨rfl, HX37⟩ ha41 hF40; clear ha41 hF34 a33
      replace HE := HE.thenN HX37.g
      refine pures_end hT 1 _ hF40 (F' := [(7, .int .i64 (cmpI (nv 256 xs) (nv 256 ys))), (23, .int .i64 (cmpI (nv 256 xs) (nv 256 ys))), (22, .slice Ay ys.length cy), (21, .slice Ax xs.length cx), (20, .bool ((decide (120 < ((zs.length : Nat) : Int))))), (6, .bool false), (0, .slice Ax xs.length cx), (1, .slice Ay ys.length cy), (2, .slice Az zs.length cz)]) (cs := []) (by kernel_rfl) rfl trivial ?_
      intro a42 hF43; clear hF40 a39
      have hF44 := hF43.pick [7, 20, 6, 0, 1, 2] (G := [(7, .int .i64 (cmpI (nv 256 xs) (nv 256 ys))), (20, .bool ((decide (120 < ((zs.length : Nat) : Int))))), (6, .bool false), (0, .slice Ax xs.length cx), (1, .slice Ay ys.length cy), (2, .slice Az zs.length cz)]) (by kernel_rfl); clear hF43
      refine hK32 _ _ ?_
      refine wp_seq_k (fun K45 hK46 => ?_)
      refine wp_region_lit ?_
      refine pures hT 2 _ hF44 (F' := [(25, .slice Az zs.length cz), (24, .slice Ay ys.length cy), (7, .int .i64 (cmpI (nv 256 xs) (nv 256 ys))), (20, .bool ((decide (120 < ((zs.length : Nat) : Int))))), (6, .bool false), (0, .slice Ax xs.length cx), (1, .slice Ay ys.length cy), (2, .slice Az zs.length cz)]) (cs := []) (by kernel_rfl) trivial ?_
      intro a47 hF48; clear hF44 a42
      have hz52 := HE.size
      refine wl (s_call (d := 26) (f := 16) (l := [.slice Ay ys.length cy, .slice Az zs.length cz]) (by kernel_rfl) hF48 cl16 (Cmp' (A := Ay) (n := ys.length) (c := cy) (x := (nv 256 ys)) (xs := ys) (A2 := Az) (n2 := zs.length) (c2 := cz) (y := (nv 256 zs)) (ys := zs) (w := _) rfl rfl  rfl rfl (hys.ex HE) (hzs.ex HE) hbys hbzs (Nat.le_trans hlys (by decide)) (Nat.le_trans hlzs (by decide))) ?_)
      rintro a53 w49 v50 ⟨rfl, HX51⟩ ha55 hF54; clear ha55 hF48 a47
      replace HE := HE.thenN HX51.g
      refine pures_end hT 1 _ hF54 (F' := [(8, .int .i64 (cmpI (nv 256 ys) (nv 256 zs))), (26, .int .i64 (cmpI (nv 256 ys) (nv 256 zs))), (25, .slice Az zs.length cz), (24, .slice Ay ys.length cy), (7, .int .i64 (cmpI (nv 256 xs) (nv 256 ys))), (20, .bool ((decide (120 < ((zs.length : Nat) : Int))))), (6, .bool false), (0, .slice Ax xs.length cx), (1, .slice Ay ys.length cy), (2, .slice Az zs.length cz)]) (cs := []) (by kernel_rfl) rfl trivial ?_
      intro a56 hF57; clear hF54 a53
      have hF58 := hF57.pick [8, 7, 20, 6, 0, 1, 2] (G := [(8, .int .i64 (cmpI (nv 256 ys) (nv 256 zs))), (7, .int .i64 (cmpI (nv 256 xs) (nv 256 ys))), (20, .bool ((decide (120 < ((zs.length : Nat) : Int))))), (6, .bool false), (0, .slice Ax xs.length cx), (1, .slice Ay ys.length cy), (2, .slice Az zs.length cz)]) (by kernel_rfl); clear hF57
      refine hK46 _ _ ?_
      refine wp_seq_k (fun K59 hK60 => ?_)
      refine wp_region_lit ?_
      refine pures hT 2 _ hF58 (F' := [(28, .slice Az zs.length cz), (27, .slice Ax xs.length cx), (8, .int .i64 (cmpI (nv 256 ys) (nv 256 zs))), (7, .int .i64 (cmpI (nv 256 xs) (nv 256 ys))), (20, .bool ((decide (120 < ((zs.length : Nat) : Int))))), (6, .bool false), (0, .slice Ax xs.length cx), (1, .slice Ay ys.length cy), (2, .slice Az zs.length cz)]) (cs := []) (by kernel_rfl) trivial ?_
      intro a61 hF62; clear hF58 a56
      have hz66 := HE.size
      refine wl (s_call (d := 29) (f := 16) (l := [.slice Ax xs.length cx, .slice Az zs.length cz]) (by kernel_rfl) hF62 cl16 (Cmp' (A := Ax) (n := xs.length) (c := cx) (x := (nv 256 xs)) (xs := xs) (A2 := Az) (n2 := zs.length) (c2 := cz) (y := (nv 256 zs)) (ys := zs) (w := _) rfl rfl  rfl rfl (hxs.ex HE) (hzs.ex HE) hbxs hbzs (Nat.le_trans hlxs (by decide)) (Nat.le_trans hlzs (by decide))) ?_)
      rintro a67 w63 v64 ⟨rfl, HX65⟩ ha69 hF68; clear ha69 hF62 a61
      replace HE := HE.thenN HX65.g
      refine pures_end hT 1 _ hF68 (F' := [(9, .int .i64 (cmpI (nv 256 xs) (nv 256 zs))), (29, .int .i64 (cmpI (nv 256 xs) (nv 256 zs))), (28, .slice Az zs.length cz), (27, .slice Ax xs.length cx), (8, .int .i64 (cmpI (nv 256 ys) (nv 256 zs))), (7, .int .i64 (cmpI (nv 256 xs) (nv 256 ys))), (20, .bool ((decide (120 < ((zs.length : Nat) : Int))))), (6, .bool false), (0, .slice Ax xs.length cx), (1, .slice Ay ys.length cy), (2, .slice Az zs.length cz)]) (cs := []) (by kernel_rfl) rfl trivial ?_
      intro a70 hF71; clear hF68 a67
      have hF72 := hF71.pick [9, 8, 7, 20, 6, 0, 1, 2] (G := [(9, .int .i64 (cmpI (nv 256 xs) (nv 256 zs))), (8, .int .i64 (cmpI (nv 256 ys) (nv 256 zs))), (7, .int .i64 (cmpI (nv 256 xs) (nv 256 ys))), (20, .bool ((decide (120 < ((zs.length : Nat) : Int))))), (6, .bool false), (0, .slice Ax xs.length cx), (1, .slice Ay ys.length cy), (2, .slice Az zs.length cz)]) (by kernel_rfl); clear hF71
      refine hK60 _ _ ?_
      refine wp_seq_k (fun K73 hK74 => ?_)
      have hK75 : ∀ (a : Act) (W : World), ((Fr 104 a [(0, .slice Ax xs.length cx), (1, .slice Ay ys.length cy), (2, .slice Az zs.length cz), (7, .int .i64 (cmpI (nv 256 xs) (nv 256 ys)))]) ∧ (Ex w W)) → K73 a W := by
        clear hF72 HE
        rintro a76 w77 ⟨hF78, HE⟩
        refine hK74 _ _ ?_
        refine wp_seq_k (fun K79 hK80 => ?_)
        refine wp_region_lit ?_
        refine pures hT 1 _ hF78 (F' := [(69, .slice Ax xs.length cx), (0, .slice Ax xs.length cx), (1, .slice Ay ys.length cy), (2, .slice Az zs.length cz), (7, .int .i64 (cmpI (nv 256 xs) (nv 256 ys)))]) (cs := []) (by kernel_rfl) trivial ?_
        intro a81 hF82; clear hF78 a76
        have hz89 := HE.size
        refine wl (s_call (d := 70) (f := 19) (l := [.slice Ax xs.length cx]) (by kernel_rfl) hF82 cl19 (Norm' (A := Ax) (n := xs.length) (c := cx) (x := (nv 256 xs)) (xs := xs) (w := _) rfl rfl (hxs.ex HE) hbxs (Nat.le_trans hlxs (by decide))) ?_)
        rintro a90 w86 v87 ⟨A83, c84, rfl, HX88, HO85⟩ ha92 hF91; clear ha92 hF82 a81
        replace HE := HE.thenN HX88.g
        have hcp93 := HO85.cap
        refine pures_end hT 1 _ hF91 (F' := [(10, .slice A83 ((dig 256 (nv 256 xs)).length) c84), (70, .slice A83 ((dig 256 (nv 256 xs)).length) c84), (69, .slice Ax xs.length cx), (0, .slice Ax xs.length cx), (1, .slice Ay ys.length cy), (2, .slice Az zs.length cz), (7, .int .i64 (cmpI (nv 256 xs) (nv 256 ys)))]) (cs := []) (by kernel_rfl) rfl trivial ?_
        intro a94 hF95; clear hF91 a90
        have hF96 := hF95.pick [10, 0, 1, 2, 7] (G := [(10, .slice A83 ((dig 256 (nv 256 xs)).length) c84), (0, .slice Ax xs.length cx), (1, .slice Ay ys.length cy), (2, .slice Az zs.length cz), (7, .int .i64 (cmpI (nv 256 xs) (nv 256 ys)))]) (by kernel_rfl); clear hF95
        refine hK80 _ _ ?_
        refine wp_seq_k (fun K97 hK98 => ?_)
        refine wp_region_lit ?_
        refine pures hT 1 _ hF96 (F' := [(71, .slice Ax xs.length cx), (10, .slice A83 ((dig 256 (nv 256 xs)).length) c84), (0, .slice Ax xs.length cx), (1, .slice Ay ys.length cy), (2, .slice Az zs.length cz), (7, .int .i64 (cmpI (nv 256 xs) (nv 256 ys)))]) (cs := []) (by kernel_rfl) trivial ?_
        intro a99 hF100; clear hF96 a94
        have hz107 := HE.size
        have hz108 := HO85.base
        refine wl (s_lit hT (d := 72) (T := 5) (l := vs .u8 [0, 1]) (by kernel_rfl) hF100 ?_)
        rintro a109 w102 b101 h105 h106 HB104 g103 ha111 hF110; clear ha111 hF100 a99
        replace HE := HE.thenN g103
        replace HO85 := HO85.growN g103
        have hz118 := HE.size
        have hz119 := HO85.base
        have hz120 := HB104.lt
        refine wl (s_call (d := 73) (f := 18) (l := [.slice Ax xs.length cx, .slice (some ⟨b101, 0, none⟩) 2 2]) (by kernel_rfl) hF110 cl18 (Mul' (A := Ax) (n := xs.length) (c := cx) (x := (nv 256 xs)) (xs := xs) (A2 := (some ⟨b101, 0, none⟩)) (n2 := 2) (c2 := 2) (y := 256) (ys := [0, 1]) (w := _) rfl (show nv 256 [0, 1] = 256 from rfl)  rfl rfl (hxs.ex HE) HB104.rd hbxs (byL rfl) (Nat.le_trans hlxs (by decide)) (by decide)) ?_)
        rintro a121 w115 v116 ⟨A112, c113, rfl, HX117, HO114⟩ ha123 hF122; clear ha123 hF110 a109
        replace HE := HE.thenN HX117.g
        replace HO85 := HO85.growN HX117.g
        replace HB104 := HB104.growN HX117.g
        have hcp124 := HO114.cap
        refine pures_end hT 1 _ hF122 (F' := [(11, .slice A112 ((dig 256 ((nv 256 xs) * 256)).length) c113), (73, .slice A112 ((dig 256 ((nv 256 xs) * 256)).length) c113), (72, .slice (some ⟨b101, 0, none⟩) 2 2), (71, .slice Ax xs.length cx), (10, .slice A83 ((dig 256 (nv 256 xs)).length) c84), (0, .slice Ax xs.length cx), (1, .slice Ay ys.length cy), (2, .slice Az zs.length cz), (7, .int .i64 (cmpI (nv 256 xs) (nv 256 ys)))]) (cs := []) (by kernel_rfl) rfl trivial ?_
        intro a125 hF126; clear hF122 a121
        have hF127 := hF126.pick [11, 10, 0, 1, 2, 7] (G := [(11, .slice A112 ((dig 256 ((nv 256 xs) * 256)).length) c113), (10, .slice A83 ((dig 256 (nv 256 xs)).length) c84), (0, .slice Ax xs.length cx), (1, .slice Ay ys.length cy), (2, .slice Az zs.length cz), (7, .int .i64 (cmpI (nv 256 xs) (nv 256 ys)))]) (by kernel_rfl); clear hF126
        refine hK98 _ _ ?_
        refine wp_seq_k (fun K128 hK129 => ?_)
        rcases Decidable.em (nv 256 xs = nv 256 ys) with heq | heq
        · -- side 0
          rcases Decidable.em (nv 256 xs = 0) with hnul | hnul
          · -- side 0
            have HE130 : Ex w115 w115 := Ex.refl _
            have HR131 := HO85.rd
            have HR131b := HO85.base
            clear HO85
            have HR132 := HO114.rd
            have HR132b := HO114.base
            clear HO114
            let SL_ : List SP := [SP.val (.bool true), SP.val (.bool true), SP.val (.int .i64 (cmpI (nv 256 xs) (nv 256 ys))), SP.val (.bool true), SP.val (.slice A83 ((dig 256 (nv 256 xs)).length) c84), SP.val (.string (str (dig 256 (nv 256 xs)))), SP.val (.slice Ay ys.length cy), SP.mk' (fun v W => ∃ A c, v = .slice A ((dig 256 (nv 256 ys)).length) c ∧ Rd W A (vs .u8 (dig 256 (nv 256 ys)))) (fun v w w' h g => by obtain ⟨A, c, e, h⟩ := h; exact ⟨A, c, e, h.grow g (by simp)⟩), SP.val (.string (str (dig 256 (nv 256 ys)))), SP.val (.bool true), SP.val (.bool true), SP.val (.bool true), SP.val (.bool true), SP.val (.slice A83 ((dig 256 (nv 256 xs)).length) c84), SP.val (.int .i64 (((dig 256 (nv 256 xs)).length : Nat) : Int)), SP.val (.bool true), SP.val (.bool true), SP.val (.slice A112 ((dig 256 ((nv 256 xs) * 256)).length) c113), SP.val (.int .i64 (((dig 256 ((nv 256 xs) * 256)).length : Nat) : Int)), SP.val (.bool true), SP.val (.bool true), SP.val (.bool true), SP.val (undef), SP.val (undef), SP.val (undef), SP.val (undef), SP.val (undef), SP.val (undef), SP.val (.bool true), SP.val (.bool true), SP.val (.bool true)]
            refine region_rel (SL := SL_) (J := (fun (b : Bool) (W : World) => (Ex w W) ∧ (Blk W b101 5 (vs .u8 [0, 1])) ∧ (Ex w115 W))) (m := 31) (bm := none) wide (by kernel_rfl) (by kernel_rfl) hF127 rfl ?_ ?_ ⟨HE, HB104, HE130⟩ ⟨?_, ?_, ?_, ?_, ?_, ?_, ?_, ?_, ?_, ?_, ?_, ?_, ?_, ?_, ?_, ?_, ?_, ?_, ?_, ?_, ?_, ?_, ?_, ?_, ?_, ?_, ?_, ?_, ?_, ?_, ?_, trivial⟩ [(6, some 30), (11, none), (10, none), (0, none), (1, none), (2, none), (7, none)] (by kernel_rfl) ?_
            · exact fun h => absurd h (by decide)
            · intro b W W' hj g; cases b <;> exact ⟨hj.1.thenN g, hj.2.1.growN g, hj.2.2.thenN g⟩
            · -- operation 0
              rintro a134 w133 b136 KK142 hs138 hd139 hJ140 hb141 hr143 hK137
              have hr143x : RD SL_ a134 a125 w133 [] := hr143 _ (by kernel_rfl)
              obtain ⟨HE, HB104, HE130⟩ := hJ140
              have hF135 : Fr 104 a134 [] := Fr.of hs138 hd139 trivial
              have hz147 := HE.size
              have hz148 := HB104.lt
              have hz149 := HE130.size
              refine s_call (d := 74) (f := 14) (l := []) (by kernel_rfl) hF135 cl14 (law15_awake _) ?_
              rintro a150 w144 v145 ⟨rfl, HX146⟩ ha152 hF151
              replace HE := HE.thenN HX146.g
              replace HB104 := HB104.growN HX146.g
              replace HE130 := HE130.thenN HX146.g
              rw [ha152]; exact hK137 _ _ rfl HX146.g
            · -- operation 1
              rintro a154 w153 b156 KK162 hs158 hd159 hJ160 hb161 hr166 hK157
              have hr166x : RD SL_ a154 a125 w153 [(74, some 0)] := hr166 _ (by kernel_rfl)
              obtain ⟨⟨v164, q163, s165⟩, -⟩ := hr166x
              obtain rfl : v164 = .bool true := s165
              obtain ⟨HE, HB104, HE130⟩ := hJ160
              have hF155 : Fr 104 a154 [(74, .bool true)] := Fr.of hs158 hd159 ⟨q163, trivial⟩
              refine s_pure hT (d := 75) (v := .bool true) (cs := []) (by kernel_rfl) (by kernel_rfl) trivial hF155 ?_
              rintro a2 ha2 hF2; rw [ha2]; exact hK157 _ _ rfl (grown_refl _ _)
            · -- operation 2
              rintro a168 w167 b170 KK176 hs172 hd173 hJ174 hb175 hr181 hK171
              have hr181x : RD SL_ a168 a125 w167 [(7, none), (75, some 1)] := hr181 _ (by kernel_rfl)
              obtain ⟨q177, ⟨v179, q178, s180⟩, -⟩ := hr181x
              obtain rfl : v179 = .bool true := s180
              obtain ⟨HE, HB104, HE130⟩ := hJ174
              have hF169 : Fr 104 a168 [(7, .int .i64 (cmpI (nv 256 xs) (nv 256 ys))), (75, .bool true)] := Fr.of hs172 hd173 ⟨(Fr.init hF127 q177 (by kernel_rfl)), q178, trivial⟩
              refine One.bare hF169 (by kernel_rfl) (s_pure hT (d := 76) (v := .int .i64 (cmpI (nv 256 xs) (nv 256 ys))) (cs := []) (by kernel_rfl) (by kernel_rfl) trivial hF169 ?_)
              rintro a2 ha2 hF2; rw [ha2]; exact hK171 _ _ rfl (grown_refl _ _)
            · -- operation 3
              rintro a183 w182 b185 KK191 hs187 hd188 hJ189 hb190 hr198 hK186
              have hr198x : RD SL_ a183 a125 w182 [(76, some 2), (75, some 1)] := hr198 _ (by kernel_rfl)
              obtain ⟨⟨v193, q192, s194⟩, ⟨v196, q195, s197⟩, -⟩ := hr198x
              obtain rfl : v193 = .int .i64 (cmpI (nv 256 xs) (nv 256 ys)) := s194
              obtain rfl : v196 = .bool true := s197
              obtain ⟨HE, HB104, HE130⟩ := hJ189
              have hF184 : Fr 104 a183 [(76, .int .i64 (cmpI (nv 256 xs) (nv 256 ys))), (75, .bool true)] := Fr.of hs187 hd188 ⟨q192, q195, trivial⟩
              refine One.bare hF184 (by kernel_rfl) (s_pure hT (d := 77) (v := .bool ((decide ((cmpI (nv 256 xs) (nv 256 ys)) = 0)))) (cs := []) (by kernel_rfl) (by kernel_rfl) trivial hF184 ?_)
              have htr : ((decide ((cmpI (nv 256 xs) (nv 256 ys)) = 0))) = true := (decide_eq_true (cmpI_eq0.2 heq))
              rintro a2 ha2 hF2; rw [ha2]; exact hK186 _ _ (congrArg Value.bool htr) (grown_refl _ _)
            · -- operation 4
              rintro a200 w199 b202 KK208 hs204 hd205 hJ206 hb207 hr213 hK203
              have hr213x : RD SL_ a200 a125 w199 [(10, none), (75, some 1)] := hr213 _ (by kernel_rfl)
              obtain ⟨q209, ⟨v211, q210, s212⟩, -⟩ := hr213x
              obtain rfl : v211 = .bool true := s212
              obtain ⟨HE, HB104, HE130⟩ := hJ206
              have hF201 : Fr 104 a200 [(10, .slice A83 ((dig 256 (nv 256 xs)).length) c84), (75, .bool true)] := Fr.of hs204 hd205 ⟨(Fr.init hF127 q209 (by kernel_rfl)), q210, trivial⟩
              refine One.bare hF201 (by kernel_rfl) (s_pure hT (d := 78) (v := .slice A83 ((dig 256 (nv 256 xs)).length) c84) (cs := []) (by kernel_rfl) (by kernel_rfl) trivial hF201 ?_)
              rintro a2 ha2 hF2; rw [ha2]; exact hK203 _ _ rfl (grown_refl _ _)
            · -- operation 5
              rintro a215 w214 b217 KK223 hs219 hd220 hJ221 hb222 hr230 hK218
              have hr230x : RD SL_ a215 a125 w214 [(78, some 4), (75, some 1)] := hr230 _ (by kernel_rfl)
              obtain ⟨⟨v225, q224, s226⟩, ⟨v228, q227, s229⟩, -⟩ := hr230x
              obtain rfl : v225 = .slice A83 ((dig 256 (nv 256 xs)).length) c84 := s226
              obtain rfl : v228 = .bool true := s229
              obtain ⟨HE, HB104, HE130⟩ := hJ221
              have hF216 : Fr 104 a215 [(78, .slice A83 ((dig 256 (nv 256 xs)).length) c84), (75, .bool true)] := Fr.of hs219 hd220 ⟨q224, q227, trivial⟩
              refine One.bare hF216 (by kernel_rfl) (s_str hT (d := 79) (A := A83) (m := (dig 256 (nv 256 xs)).length) (xs := (dig 256 (nv 256 xs))) (by kernel_rfl) hF216 (HR131.ex HE130) (by (first | (simp only [vs_length, vi_length]; omega) | (simp; omega) | omega)) ?_)
              rintro a231 ha233 hF232
              rw [ha233]; exact hK218 _ _ rfl (grown_refl _ _)
            · -- operation 6
              rintro a235 w234 b237 KK243 hs239 hd240 hJ241 hb242 hr248 hK238
              have hr248x : RD SL_ a235 a125 w234 [(1, none), (75, some 1)] := hr248 _ (by kernel_rfl)
              obtain ⟨q244, ⟨v246, q245, s247⟩, -⟩ := hr248x
              obtain rfl : v246 = .bool true := s247
              obtain ⟨HE, HB104, HE130⟩ := hJ241
              have hF236 : Fr 104 a235 [(1, .slice Ay ys.length cy), (75, .bool true)] := Fr.of hs239 hd240 ⟨(Fr.init hF127 q244 (by kernel_rfl)), q245, trivial⟩
              refine One.bare hF236 (by kernel_rfl) (s_pure hT (d := 80) (v := .slice Ay ys.length cy) (cs := []) (by kernel_rfl) (by kernel_rfl) trivial hF236 ?_)
              rintro a2 ha2 hF2; rw [ha2]; exact hK238 _ _ rfl (grown_refl _ _)
            · -- operation 7
              rintro a250 w249 b252 KK258 hs254 hd255 hJ256 hb257 hr265 hK253
              have hr265x : RD SL_ a250 a125 w249 [(80, some 6), (75, some 1)] := hr265 _ (by kernel_rfl)
              obtain ⟨⟨v260, q259, s261⟩, ⟨v263, q262, s264⟩, -⟩ := hr265x
              obtain rfl : v260 = .slice Ay ys.length cy := s261
              obtain rfl : v263 = .bool true := s264
              obtain ⟨HE, HB104, HE130⟩ := hJ256
              have hF251 : Fr 104 a250 [(80, .slice Ay ys.length cy), (75, .bool true)] := Fr.of hs254 hd255 ⟨q259, q262, trivial⟩
              have hz272 := HE.size
              have hz273 := HB104.lt
              have hz274 := HE130.size
              refine One.bare hF251 (by kernel_rfl) (s_call (d := 81) (f := 19) (l := [.slice Ay ys.length cy]) (by kernel_rfl) hF251 cl19 (Norm' (A := Ay) (n := ys.length) (c := cy) (x := (nv 256 ys)) (xs := ys) (w := _) rfl rfl (hys.ex HE) hbys (Nat.le_trans hlys (by decide))) ?_)
              rintro a275 w269 v270 ⟨A266, c267, rfl, HX271, HO268⟩ ha277 hF276
              replace HE := HE.thenN HX271.g
              replace HB104 := HB104.growN HX271.g
              replace HE130 := HE130.thenN HX271.g
              have hcp278 := HO268.cap
              rw [ha277]; exact hK253 _ _ ⟨_, _, rfl, HO268.rd⟩ HX271.g
            · -- operation 8
              rintro a280 w279 b282 KK288 hs284 hd285 hJ286 hb287 hr298 hK283
              have hr298x : RD SL_ a280 a125 w279 [(81, some 7), (75, some 1)] := hr298 _ (by kernel_rfl)
              obtain ⟨⟨v290, q289, s291⟩, ⟨v296, q295, s297⟩, -⟩ := hr298x
              obtain ⟨A292, c293, rfl, HR294⟩ := s291
              obtain rfl : v296 = .bool true := s297
              obtain ⟨HE, HB104, HE130⟩ := hJ286
              have hF281 : Fr 104 a280 [(81, .slice A292 ((dig 256 (nv 256 ys)).length) c293), (75, .bool true)] := Fr.of hs284 hd285 ⟨q289, q295, trivial⟩
              refine One.bare hF281 (by kernel_rfl) (s_str hT (d := 82) (A := A292) (m := (dig 256 (nv 256 ys)).length) (xs := (dig 256 (nv 256 ys))) (by kernel_rfl) hF281 HR294 (by (first | (simp only [vs_length, vi_length]; omega) | (simp; omega) | omega)) ?_)
              rintro a299 ha301 hF300
              rw [ha301]; exact hK283 _ _ rfl (grown_refl _ _)
            · -- operation 9
              rintro a303 w302 b305 KK311 hs307 hd308 hJ309 hb310 hr321 hK306
              have hr321x : RD SL_ a303 a125 w302 [(79, some 5), (82, some 8), (75, some 1)] := hr321 _ (by kernel_rfl)
              obtain ⟨⟨v313, q312, s314⟩, ⟨v316, q315, s317⟩, ⟨v319, q318, s320⟩, -⟩ := hr321x
              obtain rfl : v313 = .string (str (dig 256 (nv 256 xs))) := s314
              obtain rfl : v316 = .string (str (dig 256 (nv 256 ys))) := s317
              obtain rfl : v319 = .bool true := s320
              obtain ⟨HE, HB104, HE130⟩ := hJ309
              have hF304 : Fr 104 a303 [(79, .string (str (dig 256 (nv 256 xs)))), (82, .string (str (dig 256 (nv 256 ys)))), (75, .bool true)] := Fr.of hs307 hd308 ⟨q312, q315, q318, trivial⟩
              refine One.bare hF304 (by kernel_rfl) (s_pure hT (d := 83) (v := .bool ((ByteArray.toList (str (dig 256 (nv 256 xs))) == ByteArray.toList (str (dig 256 (nv 256 ys)))))) (cs := []) (by kernel_rfl) (by kernel_rfl) trivial hF304 ?_)
              have htr : ((ByteArray.toList (str (dig 256 (nv 256 xs))) == ByteArray.toList (str (dig 256 (nv 256 ys))))) = true := (str_eqT (dig_congr heq))
              rintro a2 ha2 hF2; rw [ha2]; exact hK306 _ _ (congrArg Value.bool htr) (grown_refl _ _)
            · -- operation 10
              rintro a323 w322 b325 KK331 hs327 hd328 hJ329 hb330 hr341 hK326
              have hr341x : RD SL_ a323 a125 w322 [(77, some 3), (83, some 9), (75, some 1)] := hr341 _ (by kernel_rfl)
              obtain ⟨⟨v333, q332, s334⟩, ⟨v336, q335, s337⟩, ⟨v339, q338, s340⟩, -⟩ := hr341x
              obtain rfl : v333 = .bool true := s334
              obtain rfl : v336 = .bool true := s337
              obtain rfl : v339 = .bool true := s340
              obtain ⟨HE, HB104, HE130⟩ := hJ329
              have hF324 : Fr 104 a323 [(77, .bool true), (83, .bool true), (75, .bool true)] := Fr.of hs327 hd328 ⟨q332, q335, q338, trivial⟩
              refine One.bare hF324 (by kernel_rfl) (s_beq hT (d := 84) (b := true) (by kernel_rfl) hF324 ?_)
              rintro a342 ha344 hF343
              rw [ha344]; exact hK326 _ _ rfl (grown_refl _ _)
            · -- operation 11
              rintro a346 w345 b348 KK354 hs350 hd351 hJ352 hb353 hr361 hK349
              have hr361x : RD SL_ a346 a125 w345 [(75, some 1), (84, some 10)] := hr361 _ (by kernel_rfl)
              obtain ⟨⟨v356, q355, s357⟩, ⟨v359, q358, s360⟩, -⟩ := hr361x
              obtain rfl : v356 = .bool true := s357
              obtain rfl : v359 = .bool true := s360
              obtain ⟨HE, HB104, HE130⟩ := hJ352
              have hF347 : Fr 104 a346 [(75, .bool true), (84, .bool true)] := Fr.of hs350 hd351 ⟨q355, q358, trivial⟩
              refine s_pure hT (d := 85) (v := .bool true) (cs := []) (by kernel_rfl) (by kernel_rfl) trivial hF347 ?_
              rintro a2 ha2 hF2; rw [ha2]; exact hK349 _ _ rfl (grown_refl _ _)
            · -- operation 12
              rintro a363 w362 b365 KK371 hs367 hd368 hJ369 hb370 hr375 hK366
              have hr375x : RD SL_ a363 a125 w362 [(85, some 11)] := hr375 _ (by kernel_rfl)
              obtain ⟨⟨v373, q372, s374⟩, -⟩ := hr375x
              obtain rfl : v373 = .bool true := s374
              obtain ⟨HE, HB104, HE130⟩ := hJ369
              have hF364 : Fr 104 a363 [(85, .bool true)] := Fr.of hs367 hd368 ⟨q372, trivial⟩
              refine s_pure hT (d := 86) (v := .bool true) (cs := []) (by kernel_rfl) (by kernel_rfl) trivial hF364 ?_
              rintro a2 ha2 hF2; rw [ha2]; exact hK366 _ _ rfl (grown_refl _ _)
            · -- operation 13
              rintro a377 w376 b379 KK385 hs381 hd382 hJ383 hb384 hr390 hK380
              have hr390x : RD SL_ a377 a125 w376 [(10, none), (86, some 12)] := hr390 _ (by kernel_rfl)
              obtain ⟨q386, ⟨v388, q387, s389⟩, -⟩ := hr390x
              obtain rfl : v388 = .bool true := s389
              obtain ⟨HE, HB104, HE130⟩ := hJ383
              have hF378 : Fr 104 a377 [(10, .slice A83 ((dig 256 (nv 256 xs)).length) c84), (86, .bool true)] := Fr.of hs381 hd382 ⟨(Fr.init hF127 q386 (by kernel_rfl)), q387, trivial⟩
              refine One.bare hF378 (by kernel_rfl) (s_pure hT (d := 87) (v := .slice A83 ((dig 256 (nv 256 xs)).length) c84) (cs := []) (by kernel_rfl) (by kernel_rfl) trivial hF378 ?_)
              rintro a2 ha2 hF2; rw [ha2]; exact hK380 _ _ rfl (grown_refl _ _)
            · -- operation 14
              rintro a392 w391 b394 KK400 hs396 hd397 hJ398 hb399 hr407 hK395
              have hr407x : RD SL_ a392 a125 w391 [(87, some 13), (86, some 12)] := hr407 _ (by kernel_rfl)
              obtain ⟨⟨v402, q401, s403⟩, ⟨v405, q404, s406⟩, -⟩ := hr407x
              obtain rfl : v402 = .slice A83 ((dig 256 (nv 256 xs)).length) c84 := s403
              obtain rfl : v405 = .bool true := s406
              obtain ⟨HE, HB104, HE130⟩ := hJ398
              have hF393 : Fr 104 a392 [(87, .slice A83 ((dig 256 (nv 256 xs)).length) c84), (86, .bool true)] := Fr.of hs396 hd397 ⟨q401, q404, trivial⟩
              refine One.bare hF393 (by kernel_rfl) (s_pure hT (d := 88) (v := .int .i64 (((dig 256 (nv 256 xs)).length : Nat) : Int)) (cs := []) (by kernel_rfl) (by kernel_rfl) trivial hF393 ?_)
              rintro a2 ha2 hF2; rw [ha2]; exact hK395 _ _ rfl (grown_refl _ _)
            · -- operation 15
              rintro a409 w408 b411 KK417 hs413 hd414 hJ415 hb416 hr424 hK412
              have hr424x : RD SL_ a409 a125 w408 [(88, some 14), (86, some 12)] := hr424 _ (by kernel_rfl)
              obtain ⟨⟨v419, q418, s420⟩, ⟨v422, q421, s423⟩, -⟩ := hr424x
              obtain rfl : v419 = .int .i64 (((dig 256 (nv 256 xs)).length : Nat) : Int) := s420
              obtain rfl : v422 = .bool true := s423
              obtain ⟨HE, HB104, HE130⟩ := hJ415
              have hF410 : Fr 104 a409 [(88, .int .i64 (((dig 256 (nv 256 xs)).length : Nat) : Int)), (86, .bool true)] := Fr.of hs413 hd414 ⟨q418, q421, trivial⟩
              refine One.bare hF410 (by kernel_rfl) (s_pure hT (d := 89) (v := .bool ((decide ((((dig 256 (nv 256 xs)).length : Nat) : Int) = 0)))) (cs := []) (by kernel_rfl) (by kernel_rfl) trivial hF410 ?_)
              have htr : ((decide ((((dig 256 (nv 256 xs)).length : Nat) : Int) = 0))) = true := (decide_eq_true (by have := len0 _ hnul; omega))
              rintro a2 ha2 hF2; rw [ha2]; exact hK412 _ _ (congrArg Value.bool htr) (grown_refl _ _)
            · -- operation 16
              rintro a426 w425 b428 KK434 hs430 hd431 hJ432 hb433 hr441 hK429
              have hr441x : RD SL_ a426 a125 w425 [(89, some 15), (86, some 12)] := hr441 _ (by kernel_rfl)
              obtain ⟨⟨v436, q435, s437⟩, ⟨v439, q438, s440⟩, -⟩ := hr441x
              obtain rfl : v436 = .bool true := s437
              obtain rfl : v439 = .bool true := s440
              obtain ⟨HE, HB104, HE130⟩ := hJ432
              have hF427 : Fr 104 a426 [(89, .bool true), (86, .bool true)] := Fr.of hs430 hd431 ⟨q435, q438, trivial⟩
              refine One.bare hF427 (by kernel_rfl) (s_pure hT (d := 90) (v := .bool true) (cs := []) (by kernel_rfl) (by kernel_rfl) trivial hF427 ?_)
              rintro a2 ha2 hF2; rw [ha2]; exact hK429 _ _ rfl (grown_refl _ _)
            · -- operation 17
              rintro a443 w442 b445 KK451 hs447 hd448 hJ449 hb450 hr456 hK446
              have hr456x : RD SL_ a443 a125 w442 [(11, none), (90, some 16)] := hr456 _ (by kernel_rfl)
              obtain ⟨q452, ⟨v454, q453, s455⟩, -⟩ := hr456x
              obtain rfl : v454 = .bool true := s455
              obtain ⟨HE, HB104, HE130⟩ := hJ449
              have hF444 : Fr 104 a443 [(11, .slice A112 ((dig 256 ((nv 256 xs) * 256)).length) c113), (90, .bool true)] := Fr.of hs447 hd448 ⟨(Fr.init hF127 q452 (by kernel_rfl)), q453, trivial⟩
              refine One.bare hF444 (by kernel_rfl) (s_pure hT (d := 91) (v := .slice A112 ((dig 256 ((nv 256 xs) * 256)).length) c113) (cs := []) (by kernel_rfl) (by kernel_rfl) trivial hF444 ?_)
              rintro a2 ha2 hF2; rw [ha2]; exact hK446 _ _ rfl (grown_refl _ _)
            · -- operation 18
              rintro a458 w457 b460 KK466 hs462 hd463 hJ464 hb465 hr473 hK461
              have hr473x : RD SL_ a458 a125 w457 [(91, some 17), (90, some 16)] := hr473 _ (by kernel_rfl)
              obtain ⟨⟨v468, q467, s469⟩, ⟨v471, q470, s472⟩, -⟩ := hr473x
              obtain rfl : v468 = .slice A112 ((dig 256 ((nv 256 xs) * 256)).length) c113 := s469
              obtain rfl : v471 = .bool true := s472
              obtain ⟨HE, HB104, HE130⟩ := hJ464
              have hF459 : Fr 104 a458 [(91, .slice A112 ((dig 256 ((nv 256 xs) * 256)).length) c113), (90, .bool true)] := Fr.of hs462 hd463 ⟨q467, q470, trivial⟩
              refine One.bare hF459 (by kernel_rfl) (s_pure hT (d := 92) (v := .int .i64 (((dig 256 ((nv 256 xs) * 256)).length : Nat) : Int)) (cs := []) (by kernel_rfl) (by kernel_rfl) trivial hF459 ?_)
              rintro a2 ha2 hF2; rw [ha2]; exact hK461 _ _ rfl (grown_refl _ _)
            · -- operation 19
              rintro a475 w474 b477 KK483 hs479 hd480 hJ481 hb482 hr490 hK478
              have hr490x : RD SL_ a475 a125 w474 [(92, some 18), (90, some 16)] := hr490 _ (by kernel_rfl)
              obtain ⟨⟨v485, q484, s486⟩, ⟨v488, q487, s489⟩, -⟩ := hr490x
              obtain rfl : v485 = .int .i64 (((dig 256 ((nv 256 xs) * 256)).length : Nat) : Int) := s486
              obtain rfl : v488 = .bool true := s489
              obtain ⟨HE, HB104, HE130⟩ := hJ481
              have hF476 : Fr 104 a475 [(92, .int .i64 (((dig 256 ((nv 256 xs) * 256)).length : Nat) : Int)), (90, .bool true)] := Fr.of hs479 hd480 ⟨q484, q487, trivial⟩
              refine One.bare hF476 (by kernel_rfl) (s_pure hT (d := 93) (v := .bool ((decide ((((dig 256 ((nv 256 xs) * 256)).length : Nat) : Int) = 0)))) (cs := []) (by kernel_rfl) (by kernel_rfl) trivial hF476 ?_)
              have htr : ((decide ((((dig 256 ((nv 256 xs) * 256)).length : Nat) : Int) = 0))) = true := (decide_eq_true (by have := len0 (nv 256 xs * 256) (by omega); omega))
              rintro a2 ha2 hF2; rw [ha2]; exact hK478 _ _ (congrArg Value.bool htr) (grown_refl _ _)
            · -- operation 20
              rintro a492 w491 b494 KK500 hs496 hd497 hJ498 hb499 hr510 hK495
              have hr510x : RD SL_ a492 a125 w491 [(90, some 16), (93, some 19), (86, some 12)] := hr510 _ (by kernel_rfl)
              obtain ⟨⟨v502, q501, s503⟩, ⟨v505, q504, s506⟩, ⟨v508, q507, s509⟩, -⟩ := hr510x
              obtain rfl : v502 = .bool true := s503
              obtain rfl : v505 = .bool true := s506
              obtain rfl : v508 = .bool true := s509
              obtain ⟨HE, HB104, HE130⟩ := hJ498
              have hF493 : Fr 104 a492 [(90, .bool true), (93, .bool true), (86, .bool true)] := Fr.of hs496 hd497 ⟨q501, q504, q507, trivial⟩
              refine One.bare hF493 (by kernel_rfl) (s_pure hT (d := 94) (v := .bool true) (cs := []) (by kernel_rfl) (by kernel_rfl) trivial hF493 ?_)
              rintro a2 ha2 hF2; rw [ha2]; exact hK495 _ _ rfl (grown_refl _ _)
            · -- operation 21
              rintro a512 w511 b514 KK520 hs516 hd517 hJ518 hb519 hr527 hK515
              have hr527x : RD SL_ a512 a125 w511 [(94, some 20), (86, some 12)] := hr527 _ (by kernel_rfl)
              obtain ⟨⟨v522, q521, s523⟩, ⟨v525, q524, s526⟩, -⟩ := hr527x
              obtain rfl : v522 = .bool true := s523
              obtain rfl : v525 = .bool true := s526
              obtain ⟨HE, HB104, HE130⟩ := hJ518
              have hF513 : Fr 104 a512 [(94, .bool true), (86, .bool true)] := Fr.of hs516 hd517 ⟨q521, q524, trivial⟩
              refine One.bare hF513 (by kernel_rfl) (s_pure hT (d := 95) (v := .bool true) (cs := []) (by kernel_rfl) (by kernel_rfl) trivial hF513 ?_)
              rintro a2 ha2 hF2; rw [ha2]; exact hK515 _ _ rfl (grown_refl _ _)
            · -- operation 22
              rintro a529 w528 b531 KK537 hs533 hd534 hJ535 hb536 hr542 hK532
              have hr542x : RD SL_ a529 a125 w528 [(11, none), (95, some 21)] := hr542 _ (by kernel_rfl)
              obtain ⟨q538, ⟨v540, q539, s541⟩, -⟩ := hr542x
              obtain rfl : v540 = .bool true := s541
              obtain ⟨HE, HB104, HE130⟩ := hJ535
              have hF530 : Fr 104 a529 [(11, .slice A112 ((dig 256 ((nv 256 xs) * 256)).length) c113), (95, .bool true)] := Fr.of hs533 hd534 ⟨(Fr.init hF127 q538 (by kernel_rfl)), q539, trivial⟩
              refine One.off (gok_spec hF530 (b := false) (by kernel_rfl)) ?_
              exact hK532 _ _ rfl (grown_refl _ _)
            · -- operation 23
              rintro a544 w543 b546 KK552 hs548 hd549 hJ550 hb551 hr559 hK547
              have hr559x : RD SL_ a544 a125 w543 [(96, some 22), (95, some 21)] := hr559 _ (by kernel_rfl)
              obtain ⟨⟨v554, q553, s555⟩, ⟨v557, q556, s558⟩, -⟩ := hr559x
              obtain rfl : v554 = undef := s555
              obtain rfl : v557 = .bool true := s558
              obtain ⟨HE, HB104, HE130⟩ := hJ550
              have hF545 : Fr 104 a544 [(96, undef), (95, .bool true)] := Fr.of hs548 hd549 ⟨q553, q556, trivial⟩
              refine One.off (gok_spec hF545 (b := false) (by kernel_rfl)) ?_
              exact hK547 _ _ rfl (grown_refl _ _)
            · -- operation 24
              rintro a561 w560 b563 KK569 hs565 hd566 hJ567 hb568 hr574 hK564
              have hr574x : RD SL_ a561 a125 w560 [(10, none), (95, some 21)] := hr574 _ (by kernel_rfl)
              obtain ⟨q570, ⟨v572, q571, s573⟩, -⟩ := hr574x
              obtain rfl : v572 = .bool true := s573
              obtain ⟨HE, HB104, HE130⟩ := hJ567
              have hF562 : Fr 104 a561 [(10, .slice A83 ((dig 256 (nv 256 xs)).length) c84), (95, .bool true)] := Fr.of hs565 hd566 ⟨(Fr.init hF127 q570 (by kernel_rfl)), q571, trivial⟩
              refine One.off (gok_spec hF562 (b := false) (by kernel_rfl)) ?_
              exact hK564 _ _ rfl (grown_refl _ _)
            · -- operation 25
              rintro a576 w575 b578 KK584 hs580 hd581 hJ582 hb583 hr591 hK579
              have hr591x : RD SL_ a576 a125 w575 [(98, some 24), (95, some 21)] := hr591 _ (by kernel_rfl)
              obtain ⟨⟨v586, q585, s587⟩, ⟨v589, q588, s590⟩, -⟩ := hr591x
              obtain rfl : v586 = undef := s587
              obtain rfl : v589 = .bool true := s590
              obtain ⟨HE, HB104, HE130⟩ := hJ582
              have hF577 : Fr 104 a576 [(98, undef), (95, .bool true)] := Fr.of hs580 hd581 ⟨q585, q588, trivial⟩
              refine One.off (gok_spec hF577 (b := false) (by kernel_rfl)) ?_
              exact hK579 _ _ rfl (grown_refl _ _)
            · -- operation 26
              rintro a593 w592 b595 KK601 hs597 hd598 hJ599 hb600 hr608 hK596
              have hr608x : RD SL_ a593 a125 w592 [(99, some 25), (95, some 21)] := hr608 _ (by kernel_rfl)
              obtain ⟨⟨v603, q602, s604⟩, ⟨v606, q605, s607⟩, -⟩ := hr608x
              obtain rfl : v603 = undef := s604
              obtain rfl : v606 = .bool true := s607
              obtain ⟨HE, HB104, HE130⟩ := hJ599
              have hF594 : Fr 104 a593 [(99, undef), (95, .bool true)] := Fr.of hs597 hd598 ⟨q602, q605, trivial⟩
              refine One.off (gok_spec hF594 (b := false) (by kernel_rfl)) ?_
              exact hK596 _ _ rfl (grown_refl _ _)
            · -- operation 27
              rintro a610 w609 b612 KK618 hs614 hd615 hJ616 hb617 hr628 hK613
              have hr628x : RD SL_ a610 a125 w609 [(97, some 23), (100, some 26), (95, some 21)] := hr628 _ (by kernel_rfl)
              obtain ⟨⟨v620, q619, s621⟩, ⟨v623, q622, s624⟩, ⟨v626, q625, s627⟩, -⟩ := hr628x
              obtain rfl : v620 = undef := s621
              obtain rfl : v623 = undef := s624
              obtain rfl : v626 = .bool true := s627
              obtain ⟨HE, HB104, HE130⟩ := hJ616
              have hF611 : Fr 104 a610 [(97, undef), (100, undef), (95, .bool true)] := Fr.of hs614 hd615 ⟨q619, q622, q625, trivial⟩
              refine One.off (gok_spec hF611 (b := false) (by kernel_rfl)) ?_
              exact hK613 _ _ rfl (grown_refl _ _)
            · -- operation 28
              rintro a630 w629 b632 KK638 hs634 hd635 hJ636 hb637 hr648 hK633
              have hr648x : RD SL_ a630 a125 w629 [(95, some 21), (101, some 27), (86, some 12)] := hr648 _ (by kernel_rfl)
              obtain ⟨⟨v640, q639, s641⟩, ⟨v643, q642, s644⟩, ⟨v646, q645, s647⟩, -⟩ := hr648x
              obtain rfl : v640 = .bool true := s641
              obtain rfl : v643 = undef := s644
              obtain rfl : v646 = .bool true := s647
              obtain ⟨HE, HB104, HE130⟩ := hJ636
              have hF631 : Fr 104 a630 [(95, .bool true), (101, undef), (86, .bool true)] := Fr.of hs634 hd635 ⟨q639, q642, q645, trivial⟩
              refine One.bare hF631 (by kernel_rfl) (s_pure hT (d := 102) (v := .bool true) (cs := []) (by kernel_rfl) (by kernel_rfl) trivial hF631 ?_)
              rintro a2 ha2 hF2; rw [ha2]; exact hK633 _ _ rfl (grown_refl _ _)
            · -- operation 29
              rintro a650 w649 b652 KK658 hs654 hd655 hJ656 hb657 hr665 hK653
              have hr665x : RD SL_ a650 a125 w649 [(86, some 12), (102, some 28)] := hr665 _ (by kernel_rfl)
              obtain ⟨⟨v660, q659, s661⟩, ⟨v663, q662, s664⟩, -⟩ := hr665x
              obtain rfl : v660 = .bool true := s661
              obtain rfl : v663 = .bool true := s664
              obtain ⟨HE, HB104, HE130⟩ := hJ656
              have hF651 : Fr 104 a650 [(86, .bool true), (102, .bool true)] := Fr.of hs654 hd655 ⟨q659, q662, trivial⟩
              refine s_pure hT (d := 103) (v := .bool true) (cs := []) (by kernel_rfl) (by kernel_rfl) trivial hF651 ?_
              rintro a2 ha2 hF2; rw [ha2]; exact hK653 _ _ rfl (grown_refl _ _)
            · -- operation 30
              rintro a667 w666 b669 KK675 hs671 hd672 hJ673 hb674 hr679 hK670
              have hr679x : RD SL_ a667 a125 w666 [(103, some 29)] := hr679 _ (by kernel_rfl)
              obtain ⟨⟨v677, q676, s678⟩, -⟩ := hr679x
              obtain rfl : v677 = .bool true := s678
              obtain ⟨HE, HB104, HE130⟩ := hJ673
              have hF668 : Fr 104 a667 [(103, .bool true)] := Fr.of hs671 hd672 ⟨q676, trivial⟩
              refine s_pure hT (d := 6) (v := .bool true) (cs := []) (by kernel_rfl) (by kernel_rfl) trivial hF668 ?_
              rintro a2 ha2 hF2; rw [ha2]; exact hK670 _ _ rfl (grown_refl _ _)
            · -- behind the region
              rintro a681 w682 hs683 hd684 ⟨⟨v686, q687, s688⟩, q689, q690, q691, q692, q693, q694, -⟩ ⟨HE, HB104, HE130⟩
              obtain rfl : v686 = .bool true := s688
              have hF695 : Fr 104 a681 [(6, .bool true), (11, .slice A112 ((dig 256 ((nv 256 xs) * 256)).length) c113), (10, .slice A83 ((dig 256 (nv 256 xs)).length) c84), (0, .slice Ax xs.length cx), (1, .slice Ay ys.length cy), (2, .slice Az zs.length cz), (7, .int .i64 (cmpI (nv 256 xs) (nv 256 ys)))] := Fr.of hs683 hd684 ⟨q687, (Fr.init hF127 q689 (by kernel_rfl)), (Fr.init hF127 q690 (by kernel_rfl)), (Fr.init hF127 q691 (by kernel_rfl)), (Fr.init hF127 q692 (by kernel_rfl)), (Fr.init hF127 q693 (by kernel_rfl)), (Fr.init hF127 q694 (by kernel_rfl)), trivial⟩
              clear hF127 hs683 hd684 q687 q689 q690 q691 q692 q693 q694
              refine hK129 _ _ ?_
              refine wp_ret ?_
              refine ret1 hF695 rfl (v := .bool true) (by kernel_rfl) ?_
              exact ⟨rfl, HE⟩
          · -- side 1
            have HE696 : Ex w115 w115 := Ex.refl _
            have HR697 := HO85.rd
            have HR697b := HO85.base
            clear HO85
            have HR698 := HO114.rd
            have HR698b := HO114.base
            clear HO114
            let SL_ : List SP := [SP.val (.bool true), SP.val (.bool true), SP.val (.int .i64 (cmpI (nv 256 xs) (nv 256 ys))), SP.val (.bool true), SP.val (.slice A83 ((dig 256 (nv 256 xs)).length) c84), SP.val (.string (str (dig 256 (nv 256 xs)))), SP.val (.slice Ay ys.length cy), SP.mk' (fun v W => ∃ A c, v = .slice A ((dig 256 (nv 256 ys)).length) c ∧ Rd W A (vs .u8 (dig 256 (nv 256 ys)))) (fun v w w' h g => by obtain ⟨A, c, e, h⟩ := h; exact ⟨A, c, e, h.grow g (by simp)⟩), SP.val (.string (str (dig 256 (nv 256 ys)))), SP.val (.bool true), SP.val (.bool true), SP.val (.bool true), SP.val (.bool true), SP.val (.slice A83 ((dig 256 (nv 256 xs)).length) c84), SP.val (.int .i64 (((dig 256 (nv 256 xs)).length : Nat) : Int)), SP.val (.bool false), SP.val (.bool false), SP.val (undef), SP.val (undef), SP.val (undef), SP.val (.bool false), SP.val (.bool false), SP.val (.slice A112 ((dig 256 ((nv 256 xs) * 256)).length) c113), SP.val (.string (str (dig 256 ((nv 256 xs) * 256)))), SP.val (.slice A83 ((dig 256 (nv 256 xs)).length) c84), SP.val (.string (str (dig 256 (nv 256 xs)))), SP.val (.string (str ([0] ++ (dig 256 (nv 256 xs))))), SP.val (.bool true), SP.val (.bool true), SP.val (.bool true), SP.val (.bool true)]
            refine region_rel (SL := SL_) (J := (fun (b : Bool) (W : World) => (Ex w W) ∧ (Blk W b101 5 (vs .u8 [0, 1])) ∧ (Ex w115 W))) (m := 31) (bm := none) wide (by kernel_rfl) (by kernel_rfl) hF127 rfl ?_ ?_ ⟨HE, HB104, HE696⟩ ⟨?_, ?_, ?_, ?_, ?_, ?_, ?_, ?_, ?_, ?_, ?_, ?_, ?_, ?_, ?_, ?_, ?_, ?_, ?_, ?_, ?_, ?_, ?_, ?_, ?_, ?_, ?_, ?_, ?_, ?_, ?_, trivial⟩ [(6, some 30), (11, none), (10, none), (0, none), (1, none), (2, none), (7, none)] (by kernel_rfl) ?_
            · exact fun h => absurd h (by decide)
            · intro b W W' hj g; cases b <;> exact ⟨hj.1.thenN g, hj.2.1.growN g, hj.2.2.thenN g⟩
            · -- operation 0
              rintro a700 w699 b702 KK708 hs704 hd705 hJ706 hb707 hr709 hK703
              have hr709x : RD SL_ a700 a125 w699 [] := hr709 _ (by kernel_rfl)
              obtain ⟨HE, HB104, HE696⟩ := hJ706
              have hF701 : Fr 104 a700 [] := Fr.of hs704 hd705 trivial
              have hz713 := HE.size
              have hz714 := HB104.lt
              have hz715 := HE696.size
              refine s_call (d := 74) (f := 14) (l := []) (by kernel_rfl) hF701 cl14 (law15_awake _) ?_
              rintro a716 w710 v711 ⟨rfl, HX712⟩ ha718 hF717
              replace HE := HE.thenN HX712.g
              replace HB104 := HB104.growN HX712.g
              replace HE696 := HE696.thenN HX712.g
              rw [ha718]; exact hK703 _ _ rfl HX712.g
            · -- operation 1
              rintro a720 w719 b722 KK728 hs724 hd725 hJ726 hb727 hr732 hK723
              have hr732x : RD SL_ a720 a125 w719 [(74, some 0)] := hr732 _ (by kernel_rfl)
              obtain ⟨⟨v730, q729, s731⟩, -⟩ := hr732x
              obtain rfl : v730 = .bool true := s731
              obtain ⟨HE, HB104, HE696⟩ := hJ726
              have hF721 : Fr 104 a720 [(74, .bool true)] := Fr.of hs724 hd725 ⟨q729, trivial⟩
              refine s_pure hT (d := 75) (v := .bool true) (cs := []) (by kernel_rfl) (by kernel_rfl) trivial hF721 ?_
              rintro a2 ha2 hF2; rw [ha2]; exact hK723 _ _ rfl (grown_refl _ _)
            · -- operation 2
              rintro a734 w733 b736 KK742 hs738 hd739 hJ740 hb741 hr747 hK737
              have hr747x : RD SL_ a734 a125 w733 [(7, none), (75, some 1)] := hr747 _ (by kernel_rfl)
              obtain ⟨q743, ⟨v745, q744, s746⟩, -⟩ := hr747x
              obtain rfl : v745 = .bool true := s746
              obtain ⟨HE, HB104, HE696⟩ := hJ740
              have hF735 : Fr 104 a734 [(7, .int .i64 (cmpI (nv 256 xs) (nv 256 ys))), (75, .bool true)] := Fr.of hs738 hd739 ⟨(Fr.init hF127 q743 (by kernel_rfl)), q744, trivial⟩
              refine One.bare hF735 (by kernel_rfl) (s_pure hT (d := 76) (v := .int .i64 (cmpI (nv 256 xs) (nv 256 ys))) (cs := []) (by kernel_rfl) (by kernel_rfl) trivial hF735 ?_)
              rintro a2 ha2 hF2; rw [ha2]; exact hK737 _ _ rfl (grown_refl _ _)
            · -- operation 3
              rintro a749 w748 b751 KK757 hs753 hd754 hJ755 hb756 hr764 hK752
              have hr764x : RD SL_ a749 a125 w748 [(76, some 2), (75, some 1)] := hr764 _ (by kernel_rfl)
              obtain ⟨⟨v759, q758, s760⟩, ⟨v762, q761, s763⟩, -⟩ := hr764x
              obtain rfl : v759 = .int .i64 (cmpI (nv 256 xs) (nv 256 ys)) := s760
              obtain rfl : v762 = .bool true := s763
              obtain ⟨HE, HB104, HE696⟩ := hJ755
              have hF750 : Fr 104 a749 [(76, .int .i64 (cmpI (nv 256 xs) (nv 256 ys))), (75, .bool true)] := Fr.of hs753 hd754 ⟨q758, q761, trivial⟩
              refine One.bare hF750 (by kernel_rfl) (s_pure hT (d := 77) (v := .bool ((decide ((cmpI (nv 256 xs) (nv 256 ys)) = 0)))) (cs := []) (by kernel_rfl) (by kernel_rfl) trivial hF750 ?_)
              have htr : ((decide ((cmpI (nv 256 xs) (nv 256 ys)) = 0))) = true := (decide_eq_true (cmpI_eq0.2 heq))
              rintro a2 ha2 hF2; rw [ha2]; exact hK752 _ _ (congrArg Value.bool htr) (grown_refl _ _)
            · -- operation 4
              rintro a766 w765 b768 KK774 hs770 hd771 hJ772 hb773 hr779 hK769
              have hr779x : RD SL_ a766 a125 w765 [(10, none), (75, some 1)] := hr779 _ (by kernel_rfl)
              obtain ⟨q775, ⟨v777, q776, s778⟩, -⟩ := hr779x
              obtain rfl : v777 = .bool true := s778
              obtain ⟨HE, HB104, HE696⟩ := hJ772
              have hF767 : Fr 104 a766 [(10, .slice A83 ((dig 256 (nv 256 xs)).length) c84), (75, .bool true)] := Fr.of hs770 hd771 ⟨(Fr.init hF127 q775 (by kernel_rfl)), q776, trivial⟩
              refine One.bare hF767 (by kernel_rfl) (s_pure hT (d := 78) (v := .slice A83 ((dig 256 (nv 256 xs)).length) c84) (cs := []) (by kernel_rfl) (by kernel_rfl) trivial hF767 ?_)
              rintro a2 ha2 hF2; rw [ha2]; exact hK769 _ _ rfl (grown_refl _ _)
            · -- operation 5
              rintro a781 w780 b783 KK789 hs785 hd786 hJ787 hb788 hr796 hK784
              have hr796x : RD SL_ a781 a125 w780 [(78, some 4), (75, some 1)] := hr796 _ (by kernel_rfl)
              obtain ⟨⟨v791, q790, s792⟩, ⟨v794, q793, s795⟩, -⟩ := hr796x
              obtain rfl : v791 = .slice A83 ((dig 256 (nv 256 xs)).length) c84 := s792
              obtain rfl : v794 = .bool true := s795
              obtain ⟨HE, HB104, HE696⟩ := hJ787
              have hF782 : Fr 104 a781 [(78, .slice A83 ((dig 256 (nv 256 xs)).length) c84), (75, .bool true)] := Fr.of hs785 hd786 ⟨q790, q793, trivial⟩
              refine One.bare hF782 (by kernel_rfl) (s_str hT (d := 79) (A := A83) (m := (dig 256 (nv 256 xs)).length) (xs := (dig 256 (nv 256 xs))) (by kernel_rfl) hF782 (HR697.ex HE696) (by (first | (simp only [vs_length, vi_length]; omega) | (simp; omega) | omega)) ?_)
              rintro a797 ha799 hF798
              rw [ha799]; exact hK784 _ _ rfl (grown_refl _ _)
            · -- operation 6
              rintro a801 w800 b803 KK809 hs805 hd806 hJ807 hb808 hr814 hK804
              have hr814x : RD SL_ a801 a125 w800 [(1, none), (75, some 1)] := hr814 _ (by kernel_rfl)
              obtain ⟨q810, ⟨v812, q811, s813⟩, -⟩ := hr814x
              obtain rfl : v812 = .bool true := s813
              obtain ⟨HE, HB104, HE696⟩ := hJ807
              have hF802 : Fr 104 a801 [(1, .slice Ay ys.length cy), (75, .bool true)] := Fr.of hs805 hd806 ⟨(Fr.init hF127 q810 (by kernel_rfl)), q811, trivial⟩
              refine One.bare hF802 (by kernel_rfl) (s_pure hT (d := 80) (v := .slice Ay ys.length cy) (cs := []) (by kernel_rfl) (by kernel_rfl) trivial hF802 ?_)
              rintro a2 ha2 hF2; rw [ha2]; exact hK804 _ _ rfl (grown_refl _ _)
            · -- operation 7
              rintro a816 w815 b818 KK824 hs820 hd821 hJ822 hb823 hr831 hK819
              have hr831x : RD SL_ a816 a125 w815 [(80, some 6), (75, some 1)] := hr831 _ (by kernel_rfl)
              obtain ⟨⟨v826, q825, s827⟩, ⟨v829, q828, s830⟩, -⟩ := hr831x
              obtain rfl : v826 = .slice Ay ys.length cy := s827
              obtain rfl : v829 = .bool true := s830
              obtain ⟨HE, HB104, HE696⟩ := hJ822
              have hF817 : Fr 104 a816 [(80, .slice Ay ys.length cy), (75, .bool true)] := Fr.of hs820 hd821 ⟨q825, q828, trivial⟩
              have hz838 := HE.size
              have hz839 := HB104.lt
              have hz840 := HE696.size
              refine One.bare hF817 (by kernel_rfl) (s_call (d := 81) (f := 19) (l := [.slice Ay ys.length cy]) (by kernel_rfl) hF817 cl19 (Norm' (A := Ay) (n := ys.length) (c := cy) (x := (nv 256 ys)) (xs := ys) (w := _) rfl rfl (hys.ex HE) hbys (Nat.le_trans hlys (by decide))) ?_)
              rintro a841 w835 v836 ⟨A832, c833, rfl, HX837, HO834⟩ ha843 hF842
              replace HE := HE.thenN HX837.g
              replace HB104 := HB104.growN HX837.g
              replace HE696 := HE696.thenN HX837.g
              have hcp844 := HO834.cap
              rw [ha843]; exact hK819 _ _ ⟨_, _, rfl, HO834.rd⟩ HX837.g
            · -- operation 8
              rintro a846 w845 b848 KK854 hs850 hd851 hJ852 hb853 hr864 hK849
              have hr864x : RD SL_ a846 a125 w845 [(81, some 7), (75, some 1)] := hr864 _ (by kernel_rfl)
              obtain ⟨⟨v856, q855, s857⟩, ⟨v862, q861, s863⟩, -⟩ := hr864x
              obtain ⟨A858, c859, rfl, HR860⟩ := s857
              obtain rfl : v862 = .bool true := s863
              obtain ⟨HE, HB104, HE696⟩ := hJ852
              have hF847 : Fr 104 a846 [(81, .slice A858 ((dig 256 (nv 256 ys)).length) c859), (75, .bool true)] := Fr.of hs850 hd851 ⟨q855, q861, trivial⟩
              refine One.bare hF847 (by kernel_rfl) (s_str hT (d := 82) (A := A858) (m := (dig 256 (nv 256 ys)).length) (xs := (dig 256 (nv 256 ys))) (by kernel_rfl) hF847 HR860 (by (first | (simp only [vs_length, vi_length]; omega) | (simp; omega) | omega)) ?_)
              rintro a865 ha867 hF866
              rw [ha867]; exact hK849 _ _ rfl (grown_refl _ _)
            · -- operation 9
              rintro a869 w868 b871 KK877 hs873 hd874 hJ875 hb876 hr887 hK872
              have hr887x : RD SL_ a869 a125 w868 [(79, some 5), (82, some 8), (75, some 1)] := hr887 _ (by kernel_rfl)
              obtain ⟨⟨v879, q878, s880⟩, ⟨v882, q881, s883⟩, ⟨v885, q884, s886⟩, -⟩ := hr887x
              obtain rfl : v879 = .string (str (dig 256 (nv 256 xs))) := s880
              obtain rfl : v882 = .string (str (dig 256 (nv 256 ys))) := s883
              obtain rfl : v885 = .bool true := s886
              obtain ⟨HE, HB104, HE696⟩ := hJ875
              have hF870 : Fr 104 a869 [(79, .string (str (dig 256 (nv 256 xs)))), (82, .string (str (dig 256 (nv 256 ys)))), (75, .bool true)] := Fr.of hs873 hd874 ⟨q878, q881, q884, trivial⟩
              refine One.bare hF870 (by kernel_rfl) (s_pure hT (d := 83) (v := .bool ((ByteArray.toList (str (dig 256 (nv 256 xs))) == ByteArray.toList (str (dig 256 (nv 256 ys)))))) (cs := []) (by kernel_rfl) (by kernel_rfl) trivial hF870 ?_)
              have htr : ((ByteArray.toList (str (dig 256 (nv 256 xs))) == ByteArray.toList (str (dig 256 (nv 256 ys))))) = true := (str_eqT (dig_congr heq))
              rintro a2 ha2 hF2; rw [ha2]; exact hK872 _ _ (congrArg Value.bool htr) (grown_refl _ _)
            · -- operation 10
              rintro a889 w888 b891 KK897 hs893 hd894 hJ895 hb896 hr907 hK892
              have hr907x : RD SL_ a889 a125 w888 [(77, some 3), (83, some 9), (75, some 1)] := hr907 _ (by kernel_rfl)
              obtain ⟨⟨v899, q898, s900⟩, ⟨v902, q901, s903⟩, ⟨v905, q904, s906⟩, -⟩ := hr907x
              obtain rfl : v899 = .bool true := s900
              obtain rfl : v902 = .bool true := s903
              obtain rfl : v905 = .bool true := s906
              obtain ⟨HE, HB104, HE696⟩ := hJ895
              have hF890 : Fr 104 a889 [(77, .bool true), (83, .bool true), (75, .bool true)] := Fr.of hs893 hd894 ⟨q898, q901, q904, trivial⟩
              refine One.bare hF890 (by kernel_rfl) (s_beq hT (d := 84) (b := true) (by kernel_rfl) hF890 ?_)
              rintro a908 ha910 hF909
              rw [ha910]; exact hK892 _ _ rfl (grown_refl _ _)
            · -- operation 11
              rintro a912 w911 b914 KK920 hs916 hd917 hJ918 hb919 hr927 hK915
              have hr927x : RD SL_ a912 a125 w911 [(75, some 1), (84, some 10)] := hr927 _ (by kernel_rfl)
              obtain ⟨⟨v922, q921, s923⟩, ⟨v925, q924, s926⟩, -⟩ := hr927x
              obtain rfl : v922 = .bool true := s923
              obtain rfl : v925 = .bool true := s926
              obtain ⟨HE, HB104, HE696⟩ := hJ918
              have hF913 : Fr 104 a912 [(75, .bool true), (84, .bool true)] := Fr.of hs916 hd917 ⟨q921, q924, trivial⟩
              refine s_pure hT (d := 85) (v := .bool true) (cs := []) (by kernel_rfl) (by kernel_rfl) trivial hF913 ?_
              rintro a2 ha2 hF2; rw [ha2]; exact hK915 _ _ rfl (grown_refl _ _)
            · -- operation 12
              rintro a929 w928 b931 KK937 hs933 hd934 hJ935 hb936 hr941 hK932
              have hr941x : RD SL_ a929 a125 w928 [(85, some 11)] := hr941 _ (by kernel_rfl)
              obtain ⟨⟨v939, q938, s940⟩, -⟩ := hr941x
              obtain rfl : v939 = .bool true := s940
              obtain ⟨HE, HB104, HE696⟩ := hJ935
              have hF930 : Fr 104 a929 [(85, .bool true)] := Fr.of hs933 hd934 ⟨q938, trivial⟩
              refine s_pure hT (d := 86) (v := .bool true) (cs := []) (by kernel_rfl) (by kernel_rfl) trivial hF930 ?_
              rintro a2 ha2 hF2; rw [ha2]; exact hK932 _ _ rfl (grown_refl _ _)
            · -- operation 13
              rintro a943 w942 b945 KK951 hs947 hd948 hJ949 hb950 hr956 hK946
              have hr956x : RD SL_ a943 a125 w942 [(10, none), (86, some 12)] := hr956 _ (by kernel_rfl)
              obtain ⟨q952, ⟨v954, q953, s955⟩, -⟩ := hr956x
              obtain rfl : v954 = .bool true := s955
              obtain ⟨HE, HB104, HE696⟩ := hJ949
              have hF944 : Fr 104 a943 [(10, .slice A83 ((dig 256 (nv 256 xs)).length) c84), (86, .bool true)] := Fr.of hs947 hd948 ⟨(Fr.init hF127 q952 (by kernel_rfl)), q953, trivial⟩
              refine One.bare hF944 (by kernel_rfl) (s_pure hT (d := 87) (v := .slice A83 ((dig 256 (nv 256 xs)).length) c84) (cs := []) (by kernel_rfl) (by kernel_rfl) trivial hF944 ?_)
              rintro a2 ha2 hF2; rw [ha2]; exact hK946 _ _ rfl (grown_refl _ _)
            · -- operation 14
              rintro a958 w957 b960 KK966 hs962 hd963 hJ964 hb965 hr973 hK961
              have hr973x : RD SL_ a958 a125 w957 [(87, some 13), (86, some 12)] := hr973 _ (by kernel_rfl)
              obtain ⟨⟨v968, q967, s969⟩, ⟨v971, q970, s972⟩, -⟩ := hr973x
              obtain rfl : v968 = .slice A83 ((dig 256 (nv 256 xs)).length) c84 := s969
              obtain rfl : v971 = .bool true := s972
              obtain ⟨HE, HB104, HE696⟩ := hJ964
              have hF959 : Fr 104 a958 [(87, .slice A83 ((dig 256 (nv 256 xs)).length) c84), (86, .bool true)] := Fr.of hs962 hd963 ⟨q967, q970, trivial⟩
              refine One.bare hF959 (by kernel_rfl) (s_pure hT (d := 88) (v := .int .i64 (((dig 256 (nv 256 xs)).length : Nat) : Int)) (cs := []) (by kernel_rfl) (by kernel_rfl) trivial hF959 ?_)
              rintro a2 ha2 hF2; rw [ha2]; exact hK961 _ _ rfl (grown_refl _ _)
            · -- operation 15
              rintro a975 w974 b977 KK983 hs979 hd980 hJ981 hb982 hr990 hK978
              have hr990x : RD SL_ a975 a125 w974 [(88, some 14), (86, some 12)] := hr990 _ (by kernel_rfl)
              obtain ⟨⟨v985, q984, s986⟩, ⟨v988, q987, s989⟩, -⟩ := hr990x
              obtain rfl : v985 = .int .i64 (((dig 256 (nv 256 xs)).length : Nat) : Int) := s986
              obtain rfl : v988 = .bool true := s989
              obtain ⟨HE, HB104, HE696⟩ := hJ981
              have hF976 : Fr 104 a975 [(88, .int .i64 (((dig 256 (nv 256 xs)).length : Nat) : Int)), (86, .bool true)] := Fr.of hs979 hd980 ⟨q984, q987, trivial⟩
              refine One.bare hF976 (by kernel_rfl) (s_pure hT (d := 89) (v := .bool ((decide ((((dig 256 (nv 256 xs)).length : Nat) : Int) = 0)))) (cs := []) (by kernel_rfl) (by kernel_rfl) trivial hF976 ?_)
              have htr : ((decide ((((dig 256 (nv 256 xs)).length : Nat) : Int) = 0))) = false := (decide_eq_false (fun q => hnul (len0' _ (by omega))))
              rintro a2 ha2 hF2; rw [ha2]; exact hK978 _ _ (congrArg Value.bool htr) (grown_refl _ _)
            · -- operation 16
              rintro a992 w991 b994 KK1000 hs996 hd997 hJ998 hb999 hr1007 hK995
              have hr1007x : RD SL_ a992 a125 w991 [(89, some 15), (86, some 12)] := hr1007 _ (by kernel_rfl)
              obtain ⟨⟨v1002, q1001, s1003⟩, ⟨v1005, q1004, s1006⟩, -⟩ := hr1007x
              obtain rfl : v1002 = .bool false := s1003
              obtain rfl : v1005 = .bool true := s1006
              obtain ⟨HE, HB104, HE696⟩ := hJ998
              have hF993 : Fr 104 a992 [(89, .bool false), (86, .bool true)] := Fr.of hs996 hd997 ⟨q1001, q1004, trivial⟩
              refine One.bare hF993 (by kernel_rfl) (s_pure hT (d := 90) (v := .bool false) (cs := []) (by kernel_rfl) (by kernel_rfl) trivial hF993 ?_)
              rintro a2 ha2 hF2; rw [ha2]; exact hK995 _ _ rfl (grown_refl _ _)
            · -- operation 17
              rintro a1009 w1008 b1011 KK1017 hs1013 hd1014 hJ1015 hb1016 hr1022 hK1012
              have hr1022x : RD SL_ a1009 a125 w1008 [(11, none), (90, some 16)] := hr1022 _ (by kernel_rfl)
              obtain ⟨q1018, ⟨v1020, q1019, s1021⟩, -⟩ := hr1022x
              obtain rfl : v1020 = .bool false := s1021
              obtain ⟨HE, HB104, HE696⟩ := hJ1015
              have hF1010 : Fr 104 a1009 [(11, .slice A112 ((dig 256 ((nv 256 xs) * 256)).length) c113), (90, .bool false)] := Fr.of hs1013 hd1014 ⟨(Fr.init hF127 q1018 (by kernel_rfl)), q1019, trivial⟩
              refine One.off (gok_spec hF1010 (b := false) (by kernel_rfl)) ?_
              exact hK1012 _ _ rfl (grown_refl _ _)
            · -- operation 18
              rintro a1024 w1023 b1026 KK1032 hs1028 hd1029 hJ1030 hb1031 hr1039 hK1027
              have hr1039x : RD SL_ a1024 a125 w1023 [(91, some 17), (90, some 16)] := hr1039 _ (by kernel_rfl)
              obtain ⟨⟨v1034, q1033, s1035⟩, ⟨v1037, q1036, s1038⟩, -⟩ := hr1039x
              obtain rfl : v1034 = undef := s1035
              obtain rfl : v1037 = .bool false := s1038
              obtain ⟨HE, HB104, HE696⟩ := hJ1030
              have hF1025 : Fr 104 a1024 [(91, undef), (90, .bool false)] := Fr.of hs1028 hd1029 ⟨q1033, q1036, trivial⟩
              refine One.off (gok_spec hF1025 (b := false) (by kernel_rfl)) ?_
              exact hK1027 _ _ rfl (grown_refl _ _)
            · -- operation 19
              rintro a1041 w1040 b1043 KK1049 hs1045 hd1046 hJ1047 hb1048 hr1056 hK1044
              have hr1056x : RD SL_ a1041 a125 w1040 [(92, some 18), (90, some 16)] := hr1056 _ (by kernel_rfl)
              obtain ⟨⟨v1051, q1050, s1052⟩, ⟨v1054, q1053, s1055⟩, -⟩ := hr1056x
              obtain rfl : v1051 = undef := s1052
              obtain rfl : v1054 = .bool false := s1055
              obtain ⟨HE, HB104, HE696⟩ := hJ1047
              have hF1042 : Fr 104 a1041 [(92, undef), (90, .bool false)] := Fr.of hs1045 hd1046 ⟨q1050, q1053, trivial⟩
              refine One.off (gok_spec hF1042 (b := false) (by kernel_rfl)) ?_
              exact hK1044 _ _ rfl (grown_refl _ _)
            · -- operation 20
              rintro a1058 w1057 b1060 KK1066 hs1062 hd1063 hJ1064 hb1065 hr1076 hK1061
              have hr1076x : RD SL_ a1058 a125 w1057 [(90, some 16), (93, some 19), (86, some 12)] := hr1076 _ (by kernel_rfl)
              obtain ⟨⟨v1068, q1067, s1069⟩, ⟨v1071, q1070, s1072⟩, ⟨v1074, q1073, s1075⟩, -⟩ := hr1076x
              obtain rfl : v1068 = .bool false := s1069
              obtain rfl : v1071 = undef := s1072
              obtain rfl : v1074 = .bool true := s1075
              obtain ⟨HE, HB104, HE696⟩ := hJ1064
              have hF1059 : Fr 104 a1058 [(90, .bool false), (93, undef), (86, .bool true)] := Fr.of hs1062 hd1063 ⟨q1067, q1070, q1073, trivial⟩
              refine One.bare hF1059 (by kernel_rfl) (s_pure hT (d := 94) (v := .bool false) (cs := []) (by kernel_rfl) (by kernel_rfl) trivial hF1059 ?_)
              rintro a2 ha2 hF2; rw [ha2]; exact hK1061 _ _ rfl (grown_refl _ _)
            · -- operation 21
              rintro a1078 w1077 b1080 KK1086 hs1082 hd1083 hJ1084 hb1085 hr1093 hK1081
              have hr1093x : RD SL_ a1078 a125 w1077 [(94, some 20), (86, some 12)] := hr1093 _ (by kernel_rfl)
              obtain ⟨⟨v1088, q1087, s1089⟩, ⟨v1091, q1090, s1092⟩, -⟩ := hr1093x
              obtain rfl : v1088 = .bool false := s1089
              obtain rfl : v1091 = .bool true := s1092
              obtain ⟨HE, HB104, HE696⟩ := hJ1084
              have hF1079 : Fr 104 a1078 [(94, .bool false), (86, .bool true)] := Fr.of hs1082 hd1083 ⟨q1087, q1090, trivial⟩
              refine One.bare hF1079 (by kernel_rfl) (s_pure hT (d := 95) (v := .bool false) (cs := []) (by kernel_rfl) (by kernel_rfl) trivial hF1079 ?_)
              rintro a2 ha2 hF2; rw [ha2]; exact hK1081 _ _ rfl (grown_refl _ _)
            · -- operation 22
              rintro a1095 w1094 b1097 KK1103 hs1099 hd1100 hJ1101 hb1102 hr1108 hK1098
              have hr1108x : RD SL_ a1095 a125 w1094 [(11, none), (95, some 21)] := hr1108 _ (by kernel_rfl)
              obtain ⟨q1104, ⟨v1106, q1105, s1107⟩, -⟩ := hr1108x
              obtain rfl : v1106 = .bool false := s1107
              obtain ⟨HE, HB104, HE696⟩ := hJ1101
              have hF1096 : Fr 104 a1095 [(11, .slice A112 ((dig 256 ((nv 256 xs) * 256)).length) c113), (95, .bool false)] := Fr.of hs1099 hd1100 ⟨(Fr.init hF127 q1104 (by kernel_rfl)), q1105, trivial⟩
              refine One.bare hF1096 (by kernel_rfl) (s_pure hT (d := 96) (v := .slice A112 ((dig 256 ((nv 256 xs) * 256)).length) c113) (cs := []) (by kernel_rfl) (by kernel_rfl) trivial hF1096 ?_)
              rintro a2 ha2 hF2; rw [ha2]; exact hK1098 _ _ rfl (grown_refl _ _)
            · -- operation 23
              rintro a1110 w1109 b1112 KK1118 hs1114 hd1115 hJ1116 hb1117 hr1125 hK1113
              have hr1125x : RD SL_ a1110 a125 w1109 [(96, some 22), (95, some 21)] := hr1125 _ (by kernel_rfl)
              obtain ⟨⟨v1120, q1119, s1121⟩, ⟨v1123, q1122, s1124⟩, -⟩ := hr1125x
              obtain rfl : v1120 = .slice A112 ((dig 256 ((nv 256 xs) * 256)).length) c113 := s1121
              obtain rfl : v1123 = .bool false := s1124
              obtain ⟨HE, HB104, HE696⟩ := hJ1116
              have hF1111 : Fr 104 a1110 [(96, .slice A112 ((dig 256 ((nv 256 xs) * 256)).length) c113), (95, .bool false)] := Fr.of hs1114 hd1115 ⟨q1119, q1122, trivial⟩
              refine One.bare hF1111 (by kernel_rfl) (s_str hT (d := 97) (A := A112) (m := (dig 256 ((nv 256 xs) * 256)).length) (xs := (dig 256 ((nv 256 xs) * 256))) (by kernel_rfl) hF1111 (HR698.ex HE696) (by (first | (simp only [vs_length, vi_length]; omega) | (simp; omega) | omega)) ?_)
              rintro a1126 ha1128 hF1127
              rw [ha1128]; exact hK1113 _ _ rfl (grown_refl _ _)
            · -- operation 24
              rintro a1130 w1129 b1132 KK1138 hs1134 hd1135 hJ1136 hb1137 hr1143 hK1133
              have hr1143x : RD SL_ a1130 a125 w1129 [(10, none), (95, some 21)] := hr1143 _ (by kernel_rfl)
              obtain ⟨q1139, ⟨v1141, q1140, s1142⟩, -⟩ := hr1143x
              obtain rfl : v1141 = .bool false := s1142
              obtain ⟨HE, HB104, HE696⟩ := hJ1136
              have hF1131 : Fr 104 a1130 [(10, .slice A83 ((dig 256 (nv 256 xs)).length) c84), (95, .bool false)] := Fr.of hs1134 hd1135 ⟨(Fr.init hF127 q1139 (by kernel_rfl)), q1140, trivial⟩
              refine One.bare hF1131 (by kernel_rfl) (s_pure hT (d := 98) (v := .slice A83 ((dig 256 (nv 256 xs)).length) c84) (cs := []) (by kernel_rfl) (by kernel_rfl) trivial hF1131 ?_)
              rintro a2 ha2 hF2; rw [ha2]; exact hK1133 _ _ rfl (grown_refl _ _)
            · -- operation 25
              rintro a1145 w1144 b1147 KK1153 hs1149 hd1150 hJ1151 hb1152 hr1160 hK1148
              have hr1160x : RD SL_ a1145 a125 w1144 [(98, some 24), (95, some 21)] := hr1160 _ (by kernel_rfl)
              obtain ⟨⟨v1155, q1154, s1156⟩, ⟨v1158, q1157, s1159⟩, -⟩ := hr1160x
              obtain rfl : v1155 = .slice A83 ((dig 256 (nv 256 xs)).length) c84 := s1156
              obtain rfl : v1158 = .bool false := s1159
              obtain ⟨HE, HB104, HE696⟩ := hJ1151
              have hF1146 : Fr 104 a1145 [(98, .slice A83 ((dig 256 (nv 256 xs)).length) c84), (95, .bool false)] := Fr.of hs1149 hd1150 ⟨q1154, q1157, trivial⟩
              refine One.bare hF1146 (by kernel_rfl) (s_str hT (d := 99) (A := A83) (m := (dig 256 (nv 256 xs)).length) (xs := (dig 256 (nv 256 xs))) (by kernel_rfl) hF1146 (HR697.ex HE696) (by (first | (simp only [vs_length, vi_length]; omega) | (simp; omega) | omega)) ?_)
              rintro a1161 ha1163 hF1162
              rw [ha1163]; exact hK1148 _ _ rfl (grown_refl _ _)
            · -- operation 26
              rintro a1165 w1164 b1167 KK1173 hs1169 hd1170 hJ1171 hb1172 hr1180 hK1168
              have hr1180x : RD SL_ a1165 a125 w1164 [(99, some 25), (95, some 21)] := hr1180 _ (by kernel_rfl)
              obtain ⟨⟨v1175, q1174, s1176⟩, ⟨v1178, q1177, s1179⟩, -⟩ := hr1180x
              obtain rfl : v1175 = .string (str (dig 256 (nv 256 xs))) := s1176
              obtain rfl : v1178 = .bool false := s1179
              obtain ⟨HE, HB104, HE696⟩ := hJ1171
              have hF1166 : Fr 104 a1165 [(99, .string (str (dig 256 (nv 256 xs)))), (95, .bool false)] := Fr.of hs1169 hd1170 ⟨q1174, q1177, trivial⟩
              refine One.bare hF1166 (by kernel_rfl) (s_cat (d := 100) (xs := [0]) (ys := (dig 256 (nv 256 xs))) (by kernel_rfl) hF1166 (by have := dlen (nlen hbxs hlxs); simp; omega) ?_)
              rintro a1181 ha1183 hF1182
              rw [ha1183]; exact hK1168 _ _ rfl (grown_refl _ _)
            · -- operation 27
              rintro a1185 w1184 b1187 KK1193 hs1189 hd1190 hJ1191 hb1192 hr1203 hK1188
              have hr1203x : RD SL_ a1185 a125 w1184 [(97, some 23), (100, some 26), (95, some 21)] := hr1203 _ (by kernel_rfl)
              obtain ⟨⟨v1195, q1194, s1196⟩, ⟨v1198, q1197, s1199⟩, ⟨v1201, q1200, s1202⟩, -⟩ := hr1203x
              obtain rfl : v1195 = .string (str (dig 256 ((nv 256 xs) * 256))) := s1196
              obtain rfl : v1198 = .string (str ([0] ++ (dig 256 (nv 256 xs)))) := s1199
              obtain rfl : v1201 = .bool false := s1202
              obtain ⟨HE, HB104, HE696⟩ := hJ1191
              have hF1186 : Fr 104 a1185 [(97, .string (str (dig 256 ((nv 256 xs) * 256)))), (100, .string (str ([0] ++ (dig 256 (nv 256 xs))))), (95, .bool false)] := Fr.of hs1189 hd1190 ⟨q1194, q1197, q1200, trivial⟩
              refine One.bare hF1186 (by kernel_rfl) (s_pure hT (d := 101) (v := .bool ((ByteArray.toList (str (dig 256 ((nv 256 xs) * 256))) == ByteArray.toList (str ([0] ++ (dig 256 (nv 256 xs))))))) (cs := []) (by kernel_rfl) (by kernel_rfl) trivial hF1186 ?_)
              have htr : ((ByteArray.toList (str (dig 256 ((nv 256 xs) * 256))) == ByteArray.toList (str ([0] ++ (dig 256 (nv 256 xs)))))) = true := (str_eqT (dig_shift hnul))
              rintro a2 ha2 hF2; rw [ha2]; exact hK1188 _ _ (congrArg Value.bool htr) (grown_refl _ _)
            · -- operation 28
              rintro a1205 w1204 b1207 KK1213 hs1209 hd1210 hJ1211 hb1212 hr1223 hK1208
              have hr1223x : RD SL_ a1205 a125 w1204 [(95, some 21), (101, some 27), (86, some 12)] := hr1223 _ (by kernel_rfl)
              obtain ⟨⟨v1215, q1214, s1216⟩, ⟨v1218, q1217, s1219⟩, ⟨v1221, q1220, s1222⟩, -⟩ := hr1223x
              obtain rfl : v1215 = .bool false := s1216
              obtain rfl : v1218 = .bool true := s1219
              obtain rfl : v1221 = .bool true := s1222
              obtain ⟨HE, HB104, HE696⟩ := hJ1211
              have hF1206 : Fr 104 a1205 [(95, .bool false), (101, .bool true), (86, .bool true)] := Fr.of hs1209 hd1210 ⟨q1214, q1217, q1220, trivial⟩
              refine One.bare hF1206 (by kernel_rfl) (s_pure hT (d := 102) (v := .bool true) (cs := []) (by kernel_rfl) (by kernel_rfl) trivial hF1206 ?_)
              rintro a2 ha2 hF2; rw [ha2]; exact hK1208 _ _ rfl (grown_refl _ _)
            · -- operation 29
              rintro a1225 w1224 b1227 KK1233 hs1229 hd1230 hJ1231 hb1232 hr1240 hK1228
              have hr1240x : RD SL_ a1225 a125 w1224 [(86, some 12), (102, some 28)] := hr1240 _ (by kernel_rfl)
              obtain ⟨⟨v1235, q1234, s1236⟩, ⟨v1238, q1237, s1239⟩, -⟩ := hr1240x
              obtain rfl : v1235 = .bool true := s1236
              obtain rfl : v1238 = .bool true := s1239
              obtain ⟨HE, HB104, HE696⟩ := hJ1231
              have hF1226 : Fr 104 a1225 [(86, .bool true), (102, .bool true)] := Fr.of hs1229 hd1230 ⟨q1234, q1237, trivial⟩
              refine s_pure hT (d := 103) (v := .bool true) (cs := []) (by kernel_rfl) (by kernel_rfl) trivial hF1226 ?_
              rintro a2 ha2 hF2; rw [ha2]; exact hK1228 _ _ rfl (grown_refl _ _)
            · -- operation 30
              rintro a1242 w1241 b1244 KK1250 hs1246 hd1247 hJ1248 hb1249 hr1254 hK1245
              have hr1254x : RD SL_ a1242 a125 w1241 [(103, some 29)] := hr1254 _ (by kernel_rfl)
              obtain ⟨⟨v1252, q1251, s1253⟩, -⟩ := hr1254x
              obtain rfl : v1252 = .bool true := s1253
              obtain ⟨HE, HB104, HE696⟩ := hJ1248
              have hF1243 : Fr 104 a1242 [(103, .bool true)] := Fr.of hs1246 hd1247 ⟨q1251, trivial⟩
              refine s_pure hT (d := 6) (v := .bool true) (cs := []) (by kernel_rfl) (by kernel_rfl) trivial hF1243 ?_
              rintro a2 ha2 hF2; rw [ha2]; exact hK1245 _ _ rfl (grown_refl _ _)
            · -- behind the region
              rintro a1256 w1257 hs1258 hd1259 ⟨⟨v1261, q1262, s1263⟩, q1264, q1265, q1266, q1267, q1268, q1269, -⟩ ⟨HE, HB104, HE696⟩
              obtain rfl : v1261 = .bool true := s1263
              have hF1270 : Fr 104 a1256 [(6, .bool true), (11, .slice A112 ((dig 256 ((nv 256 xs) * 256)).length) c113), (10, .slice A83 ((dig 256 (nv 256 xs)).length) c84), (0, .slice Ax xs.length cx), (1, .slice Ay ys.length cy), (2, .slice Az zs.length cz), (7, .int .i64 (cmpI (nv 256 xs) (nv 256 ys)))] := Fr.of hs1258 hd1259 ⟨q1262, (Fr.init hF127 q1264 (by kernel_rfl)), (Fr.init hF127 q1265 (by kernel_rfl)), (Fr.init hF127 q1266 (by kernel_rfl)), (Fr.init hF127 q1267 (by kernel_rfl)), (Fr.init hF127 q1268 (by kernel_rfl)), (Fr.init hF127 q1269 (by kernel_rfl)), trivial⟩
              clear hF127 hs1258 hd1259 q1262 q1264 q1265 q1266 q1267 q1268 q1269
              refine hK129 _ _ ?_
              refine wp_ret ?_
              refine ret1 hF1270 rfl (v := .bool true) (by kernel_rfl) ?_
              exact ⟨rfl, HE⟩
        · -- side 1
          rcases Decidable.em (nv 256 xs = 0) with hnul | hnul
          · -- side 0
            have HE1271 : Ex w115 w115 := Ex.refl _
            have HR1272 := HO85.rd
            have HR1272b := HO85.base
            clear HO85
            have HR1273 := HO114.rd
            have HR1273b := HO114.base
            clear HO114
            let SL_ : List SP := [SP.val (.bool true), SP.val (.bool true), SP.val (.int .i64 (cmpI (nv 256 xs) (nv 256 ys))), SP.val (.bool false), SP.val (.slice A83 ((dig 256 (nv 256 xs)).length) c84), SP.val (.string (str (dig 256 (nv 256 xs)))), SP.val (.slice Ay ys.length cy), SP.mk' (fun v W => ∃ A c, v = .slice A ((dig 256 (nv 256 ys)).length) c ∧ Rd W A (vs .u8 (dig 256 (nv 256 ys)))) (fun v w w' h g => by obtain ⟨A, c, e, h⟩ := h; exact ⟨A, c, e, h.grow g (by simp)⟩), SP.val (.string (str (dig 256 (nv 256 ys)))), SP.val (.bool false), SP.val (.bool true), SP.val (.bool true), SP.val (.bool true), SP.val (.slice A83 ((dig 256 (nv 256 xs)).length) c84), SP.val (.int .i64 (((dig 256 (nv 256 xs)).length : Nat) : Int)), SP.val (.bool true), SP.val (.bool true), SP.val (.slice A112 ((dig 256 ((nv 256 xs) * 256)).length) c113), SP.val (.int .i64 (((dig 256 ((nv 256 xs) * 256)).length : Nat) : Int)), SP.val (.bool true), SP.val (.bool true), SP.val (.bool true), SP.val (undef), SP.val (undef), SP.val (undef), SP.val (undef), SP.val (undef), SP.val (undef), SP.val (.bool true), SP.val (.bool true), SP.val (.bool true)]
            refine region_rel (SL := SL_) (J := (fun (b : Bool) (W : World) => (Ex w W) ∧ (Blk W b101 5 (vs .u8 [0, 1])) ∧ (Ex w115 W))) (m := 31) (bm := none) wide (by kernel_rfl) (by kernel_rfl) hF127 rfl ?_ ?_ ⟨HE, HB104, HE1271⟩ ⟨?_, ?_, ?_, ?_, ?_, ?_, ?_, ?_, ?_, ?_, ?_, ?_, ?_, ?_, ?_, ?_, ?_, ?_, ?_, ?_, ?_, ?_, ?_, ?_, ?_, ?_, ?_, ?_, ?_, ?_, ?_, trivial⟩ [(6, some 30), (11, none), (10, none), (0, none), (1, none), (2, none), (7, none)] (by kernel_rfl) ?_
            · exact fun h => absurd h (by decide)
            · intro b W W' hj g; cases b <;> exact ⟨hj.1.thenN g, hj.2.1.growN g, hj.2.2.thenN g⟩
            · -- operation 0
              rintro a1275 w1274 b1277 KK1283 hs1279 hd1280 hJ1281 hb1282 hr1284 hK1278
              have hr1284x : RD SL_ a1275 a125 w1274 [] := hr1284 _ (by kernel_rfl)
              obtain ⟨HE, HB104, HE1271⟩ := hJ1281
              have hF1276 : Fr 104 a1275 [] := Fr.of hs1279 hd1280 trivial
              have hz1288 := HE.size
              have hz1289 := HB104.lt
              have hz1290 := HE1271.size
              refine s_call (d := 74) (f := 14) (l := []) (by kernel_rfl) hF1276 cl14 (law15_awake _) ?_
              rintro a1291 w1285 v1286 ⟨rfl, HX1287⟩ ha1293 hF1292
              replace HE := HE.thenN HX1287.g
              replace HB104 := HB104.growN HX1287.g
              replace HE1271 := HE1271.thenN HX1287.g
              rw [ha1293]; exact hK1278 _ _ rfl HX1287.g
            · -- operation 1
              rintro a1295 w1294 b1297 KK1303 hs1299 hd1300 hJ1301 hb1302 hr1307 hK1298
              have hr1307x : RD SL_ a1295 a125 w1294 [(74, some 0)] := hr1307 _ (by kernel_rfl)
              obtain ⟨⟨v1305, q1304, s1306⟩, -⟩ := hr1307x
              obtain rfl : v1305 = .bool true := s1306
              obtain ⟨HE, HB104, HE1271⟩ := hJ1301
              have hF1296 : Fr 104 a1295 [(74, .bool true)] := Fr.of hs1299 hd1300 ⟨q1304, trivial⟩
              refine s_pure hT (d := 75) (v := .bool true) (cs := []) (by kernel_rfl) (by kernel_rfl) trivial hF1296 ?_
              rintro a2 ha2 hF2; rw [ha2]; exact hK1298 _ _ rfl (grown_refl _ _)
            · -- operation 2
              rintro a1309 w1308 b1311 KK1317 hs1313 hd1314 hJ1315 hb1316 hr1322 hK1312
              have hr1322x : RD SL_ a1309 a125 w1308 [(7, none), (75, some 1)] := hr1322 _ (by kernel_rfl)
              obtain ⟨q1318, ⟨v1320, q1319, s1321⟩, -⟩ := hr1322x
              obtain rfl : v1320 = .bool true := s1321
              obtain ⟨HE, HB104, HE1271⟩ := hJ1315
              have hF1310 : Fr 104 a1309 [(7, .int .i64 (cmpI (nv 256 xs) (nv 256 ys))), (75, .bool true)] := Fr.of hs1313 hd1314 ⟨(Fr.init hF127 q1318 (by kernel_rfl)), q1319, trivial⟩
              refine One.bare hF1310 (by kernel_rfl) (s_pure hT (d := 76) (v := .int .i64 (cmpI (nv 256 xs) (nv 256 ys))) (cs := []) (by kernel_rfl) (by kernel_rfl) trivial hF1310 ?_)
              rintro a2 ha2 hF2; rw [ha2]; exact hK1312 _ _ rfl (grown_refl _ _)
            · -- operation 3
              rintro a1324 w1323 b1326 KK1332 hs1328 hd1329 hJ1330 hb1331 hr1339 hK1327
              have hr1339x : RD SL_ a1324 a125 w1323 [(76, some 2), (75, some 1)] := hr1339 _ (by kernel_rfl)
              obtain ⟨⟨v1334, q1333, s1335⟩, ⟨v1337, q1336, s1338⟩, -⟩ := hr1339x
              obtain rfl : v1334 = .int .i64 (cmpI (nv 256 xs) (nv 256 ys)) := s1335
              obtain rfl : v1337 = .bool true := s1338
              obtain ⟨HE, HB104, HE1271⟩ := hJ1330
              have hF1325 : Fr 104 a1324 [(76, .int .i64 (cmpI (nv 256 xs) (nv 256 ys))), (75, .bool true)] := Fr.of hs1328 hd1329 ⟨q1333, q1336, trivial⟩
              refine One.bare hF1325 (by kernel_rfl) (s_pure hT (d := 77) (v := .bool ((decide ((cmpI (nv 256 xs) (nv 256 ys)) = 0)))) (cs := []) (by kernel_rfl) (by kernel_rfl) trivial hF1325 ?_)
              have htr : ((decide ((cmpI (nv 256 xs) (nv 256 ys)) = 0))) = false := (decide_eq_false (fun q => heq (cmpI_eq0.1 q)))
              rintro a2 ha2 hF2; rw [ha2]; exact hK1327 _ _ (congrArg Value.bool htr) (grown_refl _ _)
            · -- operation 4
              rintro a1341 w1340 b1343 KK1349 hs1345 hd1346 hJ1347 hb1348 hr1354 hK1344
              have hr1354x : RD SL_ a1341 a125 w1340 [(10, none), (75, some 1)] := hr1354 _ (by kernel_rfl)
              obtain ⟨q1350, ⟨v1352, q1351, s1353⟩, -⟩ := hr1354x
              obtain rfl : v1352 = .bool true := s1353
              obtain ⟨HE, HB104, HE1271⟩ := hJ1347
              have hF1342 : Fr 104 a1341 [(10, .slice A83 ((dig 256 (nv 256 xs)).length) c84), (75, .bool true)] := Fr.of hs1345 hd1346 ⟨(Fr.init hF127 q1350 (by kernel_rfl)), q1351, trivial⟩
              refine One.bare hF1342 (by kernel_rfl) (s_pure hT (d := 78) (v := .slice A83 ((dig 256 (nv 256 xs)).length) c84) (cs := []) (by kernel_rfl) (by kernel_rfl) trivial hF1342 ?_)
              rintro a2 ha2 hF2; rw [ha2]; exact hK1344 _ _ rfl (grown_refl _ _)
            · -- operation 5
              rintro a1356 w1355 b1358 KK1364 hs1360 hd1361 hJ1362 hb1363 hr1371 hK1359
              have hr1371x : RD SL_ a1356 a125 w1355 [(78, some 4), (75, some 1)] := hr1371 _ (by kernel_rfl)
              obtain ⟨⟨v1366, q1365, s1367⟩, ⟨v1369, q1368, s1370⟩, -⟩ := hr1371x
              obtain rfl : v1366 = .slice A83 ((dig 256 (nv 256 xs)).length) c84 := s1367
              obtain rfl : v1369 = .bool true := s1370
              obtain ⟨HE, HB104, HE1271⟩ := hJ1362
              have hF1357 : Fr 104 a1356 [(78, .slice A83 ((dig 256 (nv 256 xs)).length) c84), (75, .bool true)] := Fr.of hs1360 hd1361 ⟨q1365, q1368, trivial⟩
              refine One.bare hF1357 (by kernel_rfl) (s_str hT (d := 79) (A := A83) (m := (dig 256 (nv 256 xs)).length) (xs := (dig 256 (nv 256 xs))) (by kernel_rfl) hF1357 (HR1272.ex HE1271) (by (first | (simp only [vs_length, vi_length]; omega) | (simp; omega) | omega)) ?_)
              rintro a1372 ha1374 hF1373
              rw [ha1374]; exact hK1359 _ _ rfl (grown_refl _ _)
            · -- operation 6
              rintro a1376 w1375 b1378 KK1384 hs1380 hd1381 hJ1382 hb1383 hr1389 hK1379
              have hr1389x : RD SL_ a1376 a125 w1375 [(1, none), (75, some 1)] := hr1389 _ (by kernel_rfl)
              obtain ⟨q1385, ⟨v1387, q1386, s1388⟩, -⟩ := hr1389x
              obtain rfl : v1387 = .bool true := s1388
              obtain ⟨HE, HB104, HE1271⟩ := hJ1382
              have hF1377 : Fr 104 a1376 [(1, .slice Ay ys.length cy), (75, .bool true)] := Fr.of hs1380 hd1381 ⟨(Fr.init hF127 q1385 (by kernel_rfl)), q1386, trivial⟩
              refine One.bare hF1377 (by kernel_rfl) (s_pure hT (d := 80) (v := .slice Ay ys.length cy) (cs := []) (by kernel_rfl) (by kernel_rfl) trivial hF1377 ?_)
              rintro a2 ha2 hF2; rw [ha2]; exact hK1379 _ _ rfl (grown_refl _ _)
            · -- operation 7
              rintro a1391 w1390 b1393 KK1399 hs1395 hd1396 hJ1397 hb1398 hr1406 hK1394
              have hr1406x : RD SL_ a1391 a125 w1390 [(80, some 6), (75, some 1)] := hr1406 _ (by kernel_rfl)
              obtain ⟨⟨v1401, q1400, s1402⟩, ⟨v1404, q1403, s1405⟩, -⟩ := hr1406x
              obtain rfl : v1401 = .slice Ay ys.length cy := s1402
              obtain rfl : v1404 = .bool true := s1405
              obtain ⟨HE, HB104, HE1271⟩ := hJ1397
              have hF1392 : Fr 104 a1391 [(80, .slice Ay ys.length cy), (75, .bool true)] := Fr.of hs1395 hd1396 ⟨q1400, q1403, trivial⟩
              have hz1413 := HE.size
              have hz1414 := HB104.lt
              have hz1415 := HE1271.size
              refine One.bare hF1392 (by kernel_rfl) (s_call (d := 81) (f := 19) (l := [.slice Ay ys.length cy]) (by kernel_rfl) hF1392 cl19 (Norm' (A := Ay) (n := ys.length) (c := cy) (x := (nv 256 ys)) (xs := ys) (w := _) rfl rfl (hys.ex HE) hbys (Nat.le_trans hlys (by decide))) ?_)
              rintro a1416 w1410 v1411 ⟨A1407, c1408, rfl, HX1412, HO1409⟩ ha1418 hF1417
              replace HE := HE.thenN HX1412.g
              replace HB104 := HB104.growN HX1412.g
              replace HE1271 := HE1271.thenN HX1412.g
              have hcp1419 := HO1409.cap
              rw [ha1418]; exact hK1394 _ _ ⟨_, _, rfl, HO1409.rd⟩ HX1412.g
            · -- operation 8
              rintro a1421 w1420 b1423 KK1429 hs1425 hd1426 hJ1427 hb1428 hr1439 hK1424
              have hr1439x : RD SL_ a1421 a125 w1420 [(81, some 7), (75, some 1)] := hr1439 _ (by kernel_rfl)
              obtain ⟨⟨v1431, q1430, s1432⟩, ⟨v1437, q1436, s1438⟩, -⟩ := hr1439x
              obtain ⟨A1433, c1434, rfl, HR1435⟩ := s1432
              obtain rfl : v1437 = .bool true := s1438
              obtain ⟨HE, HB104, HE1271⟩ := hJ1427
              have hF1422 : Fr 104 a1421 [(81, .slice A1433 ((dig 256 (nv 256 ys)).length) c1434), (75, .bool true)] := Fr.of hs1425 hd1426 ⟨q1430, q1436, trivial⟩
              refine One.bare hF1422 (by kernel_rfl) (s_str hT (d := 82) (A := A1433) (m := (dig 256 (nv 256 ys)).length) (xs := (dig 256 (nv 256 ys))) (by kernel_rfl) hF1422 HR1435 (by (first | (simp only [vs_length, vi_length]; omega) | (simp; omega) | omega)) ?_)
              rintro a1440 ha1442 hF1441
              rw [ha1442]; exact hK1424 _ _ rfl (grown_refl _ _)
            · -- operation 9
              rintro a1444 w1443 b1446 KK1452 hs1448 hd1449 hJ1450 hb1451 hr1462 hK1447
              have hr1462x : RD SL_ a1444 a125 w1443 [(79, some 5), (82, some 8), (75, some 1)] := hr1462 _ (by kernel_rfl)
              obtain ⟨⟨v1454, q1453, s1455⟩, ⟨v1457, q1456, s1458⟩, ⟨v1460, q1459, s1461⟩, -⟩ := hr1462x
              obtain rfl : v1454 = .string (str (dig 256 (nv 256 xs))) := s1455
              obtain rfl : v1457 = .string (str (dig 256 (nv 256 ys))) := s1458
              obtain rfl : v1460 = .bool true := s1461
              obtain ⟨HE, HB104, HE1271⟩ := hJ1450
              have hF1445 : Fr 104 a1444 [(79, .string (str (dig 256 (nv 256 xs)))), (82, .string (str (dig 256 (nv 256 ys)))), (75, .bool true)] := Fr.of hs1448 hd1449 ⟨q1453, q1456, q1459, trivial⟩
              refine One.bare hF1445 (by kernel_rfl) (s_pure hT (d := 83) (v := .bool ((ByteArray.toList (str (dig 256 (nv 256 xs))) == ByteArray.toList (str (dig 256 (nv 256 ys)))))) (cs := []) (by kernel_rfl) (by kernel_rfl) trivial hF1445 ?_)
              have htr : ((ByteArray.toList (str (dig 256 (nv 256 xs))) == ByteArray.toList (str (dig 256 (nv 256 ys))))) = false := (str_eqF (by_dig _) (by_dig _) (dig_ne heq))
              rintro a2 ha2 hF2; rw [ha2]; exact hK1447 _ _ (congrArg Value.bool htr) (grown_refl _ _)
            · -- operation 10
              rintro a1464 w1463 b1466 KK1472 hs1468 hd1469 hJ1470 hb1471 hr1482 hK1467
              have hr1482x : RD SL_ a1464 a125 w1463 [(77, some 3), (83, some 9), (75, some 1)] := hr1482 _ (by kernel_rfl)
              obtain ⟨⟨v1474, q1473, s1475⟩, ⟨v1477, q1476, s1478⟩, ⟨v1480, q1479, s1481⟩, -⟩ := hr1482x
              obtain rfl : v1474 = .bool false := s1475
              obtain rfl : v1477 = .bool false := s1478
              obtain rfl : v1480 = .bool true := s1481
              obtain ⟨HE, HB104, HE1271⟩ := hJ1470
              have hF1465 : Fr 104 a1464 [(77, .bool false), (83, .bool false), (75, .bool true)] := Fr.of hs1468 hd1469 ⟨q1473, q1476, q1479, trivial⟩
              refine One.bare hF1465 (by kernel_rfl) (s_beq hT (d := 84) (b := true) (by kernel_rfl) hF1465 ?_)
              rintro a1483 ha1485 hF1484
              rw [ha1485]; exact hK1467 _ _ rfl (grown_refl _ _)
            · -- operation 11
              rintro a1487 w1486 b1489 KK1495 hs1491 hd1492 hJ1493 hb1494 hr1502 hK1490
              have hr1502x : RD SL_ a1487 a125 w1486 [(75, some 1), (84, some 10)] := hr1502 _ (by kernel_rfl)
              obtain ⟨⟨v1497, q1496, s1498⟩, ⟨v1500, q1499, s1501⟩, -⟩ := hr1502x
              obtain rfl : v1497 = .bool true := s1498
              obtain rfl : v1500 = .bool true := s1501
              obtain ⟨HE, HB104, HE1271⟩ := hJ1493
              have hF1488 : Fr 104 a1487 [(75, .bool true), (84, .bool true)] := Fr.of hs1491 hd1492 ⟨q1496, q1499, trivial⟩
              refine s_pure hT (d := 85) (v := .bool true) (cs := []) (by kernel_rfl) (by kernel_rfl) trivial hF1488 ?_
              rintro a2 ha2 hF2; rw [ha2]; exact hK1490 _ _ rfl (grown_refl _ _)
            · -- operation 12
              rintro a1504 w1503 b1506 KK1512 hs1508 hd1509 hJ1510 hb1511 hr1516 hK1507
              have hr1516x : RD SL_ a1504 a125 w1503 [(85, some 11)] := hr1516 _ (by kernel_rfl)
              obtain ⟨⟨v1514, q1513, s1515⟩, -⟩ := hr1516x
              obtain rfl : v1514 = .bool true := s1515
              obtain ⟨HE, HB104, HE1271⟩ := hJ1510
              have hF1505 : Fr 104 a1504 [(85, .bool true)] := Fr.of hs1508 hd1509 ⟨q1513, trivial⟩
              refine s_pure hT (d := 86) (v := .bool true) (cs := []) (by kernel_rfl) (by kernel_rfl) trivial hF1505 ?_
              rintro a2 ha2 hF2; rw [ha2]; exact hK1507 _ _ rfl (grown_refl _ _)
            · -- operation 13
              rintro a1518 w1517 b1520 KK1526 hs1522 hd1523 hJ1524 hb1525 hr1531 hK1521
              have hr1531x : RD SL_ a1518 a125 w1517 [(10, none), (86, some 12)] := hr1531 _ (by kernel_rfl)
              obtain ⟨q1527, ⟨v1529, q1528, s1530⟩, -⟩ := hr1531x
              obtain rfl : v1529 = .bool true := s1530
              obtain ⟨HE, HB104, HE1271⟩ := hJ1524
              have hF1519 : Fr 104 a1518 [(10, .slice A83 ((dig 256 (nv 256 xs)).length) c84), (86, .bool true)] := Fr.of hs1522 hd1523 ⟨(Fr.init hF127 q1527 (by kernel_rfl)), q1528, trivial⟩
              refine One.bare hF1519 (by kernel_rfl) (s_pure hT (d := 87) (v := .slice A83 ((dig 256 (nv 256 xs)).length) c84) (cs := []) (by kernel_rfl) (by kernel_rfl) trivial hF1519 ?_)
              rintro a2 ha2 hF2; rw [ha2]; exact hK1521 _ _ rfl (grown_refl _ _)
            · -- operation 14
              rintro a1533 w1532 b1535 KK1541 hs1537 hd1538 hJ1539 hb1540 hr1548 hK1536
              have hr1548x : RD SL_ a1533 a125 w1532 [(87, some 13), (86, some 12)] := hr1548 _ (by kernel_rfl)
              obtain ⟨⟨v1543, q1542, s1544⟩, ⟨v1546, q1545, s1547⟩, -⟩ := hr1548x
              obtain rfl : v1543 = .slice A83 ((dig 256 (nv 256 xs)).length) c84 := s1544
              obtain rfl : v1546 = .bool true := s1547
              obtain ⟨HE, HB104, HE1271⟩ := hJ1539
              have hF1534 : Fr 104 a1533 [(87, .slice A83 ((dig 256 (nv 256 xs)).length) c84), (86, .bool true)] := Fr.of hs1537 hd1538 ⟨q1542, q1545, trivial⟩
              refine One.bare hF1534 (by kernel_rfl) (s_pure hT (d := 88) (v := .int .i64 (((dig 256 (nv 256 xs)).length : Nat) : Int)) (cs := []) (by kernel_rfl) (by kernel_rfl) trivial hF1534 ?_)
              rintro a2 ha2 hF2; rw [ha2]; exact hK1536 _ _ rfl (grown_refl _ _)
            · -- operation 15
              rintro a1550 w1549 b1552 KK1558 hs1554 hd1555 hJ1556 hb1557 hr1565 hK1553
              have hr1565x : RD SL_ a1550 a125 w1549 [(88, some 14), (86, some 12)] := hr1565 _ (by kernel_rfl)
              obtain ⟨⟨v1560, q1559, s1561⟩, ⟨v1563, q1562, s1564⟩, -⟩ := hr1565x
              obtain rfl : v1560 = .int .i64 (((dig 256 (nv 256 xs)).length : Nat) : Int) := s1561
              obtain rfl : v1563 = .bool true := s1564
              obtain ⟨HE, HB104, HE1271⟩ := hJ1556
              have hF1551 : Fr 104 a1550 [(88, .int .i64 (((dig 256 (nv 256 xs)).length : Nat) : Int)), (86, .bool true)] := Fr.of hs1554 hd1555 ⟨q1559, q1562, trivial⟩
              refine One.bare hF1551 (by kernel_rfl) (s_pure hT (d := 89) (v := .bool ((decide ((((dig 256 (nv 256 xs)).length : Nat) : Int) = 0)))) (cs := []) (by kernel_rfl) (by kernel_rfl) trivial hF1551 ?_)
              have htr : ((decide ((((dig 256 (nv 256 xs)).length : Nat) : Int) = 0))) = true := (decide_eq_true (by have := len0 _ hnul; omega))
              rintro a2 ha2 hF2; rw [ha2]; exact hK1553 _ _ (congrArg Value.bool htr) (grown_refl _ _)
            · -- operation 16
              rintro a1567 w1566 b1569 KK1575 hs1571 hd1572 hJ1573 hb1574 hr1582 hK1570
              have hr1582x : RD SL_ a1567 a125 w1566 [(89, some 15), (86, some 12)] := hr1582 _ (by kernel_rfl)
              obtain ⟨⟨v1577, q1576, s1578⟩, ⟨v1580, q1579, s1581⟩, -⟩ := hr1582x
              obtain rfl : v1577 = .bool true := s1578
              obtain rfl : v1580 = .bool true := s1581
              obtain ⟨HE, HB104, HE1271⟩ := hJ1573
              have hF1568 : Fr 104 a1567 [(89, .bool true), (86, .bool true)] := Fr.of hs1571 hd1572 ⟨q1576, q1579, trivial⟩
              refine One.bare hF1568 (by kernel_rfl) (s_pure hT (d := 90) (v := .bool true) (cs := []) (by kernel_rfl) (by kernel_rfl) trivial hF1568 ?_)
              rintro a2 ha2 hF2; rw [ha2]; exact hK1570 _ _ rfl (grown_refl _ _)
            · -- operation 17
              rintro a1584 w1583 b1586 KK1592 hs1588 hd1589 hJ1590 hb1591 hr1597 hK1587
              have hr1597x : RD SL_ a1584 a125 w1583 [(11, none), (90, some 16)] := hr1597 _ (by kernel_rfl)
              obtain ⟨q1593, ⟨v1595, q1594, s1596⟩, -⟩ := hr1597x
              obtain rfl : v1595 = .bool true := s1596
              obtain ⟨HE, HB104, HE1271⟩ := hJ1590
              have hF1585 : Fr 104 a1584 [(11, .slice A112 ((dig 256 ((nv 256 xs) * 256)).length) c113), (90, .bool true)] := Fr.of hs1588 hd1589 ⟨(Fr.init hF127 q1593 (by kernel_rfl)), q1594, trivial⟩
              refine One.bare hF1585 (by kernel_rfl) (s_pure hT (d := 91) (v := .slice A112 ((dig 256 ((nv 256 xs) * 256)).length) c113) (cs := []) (by kernel_rfl) (by kernel_rfl) trivial hF1585 ?_)
              rintro a2 ha2 hF2; rw [ha2]; exact hK1587 _ _ rfl (grown_refl _ _)
            · -- operation 18
              rintro a1599 w1598 b1601 KK1607 hs1603 hd1604 hJ1605 hb1606 hr1614 hK1602
              have hr1614x : RD SL_ a1599 a125 w1598 [(91, some 17), (90, some 16)] := hr1614 _ (by kernel_rfl)
              obtain ⟨⟨v1609, q1608, s1610⟩, ⟨v1612, q1611, s1613⟩, -⟩ := hr1614x
              obtain rfl : v1609 = .slice A112 ((dig 256 ((nv 256 xs) * 256)).length) c113 := s1610
              obtain rfl : v1612 = .bool true := s1613
              obtain ⟨HE, HB104, HE1271⟩ := hJ1605
              have hF1600 : Fr 104 a1599 [(91, .slice A112 ((dig 256 ((nv 256 xs) * 256)).length) c113), (90, .bool true)] := Fr.of hs1603 hd1604 ⟨q1608, q1611, trivial⟩
              refine One.bare hF1600 (by kernel_rfl) (s_pure hT (d := 92) (v := .int .i64 (((dig 256 ((nv 256 xs) * 256)).length : Nat) : Int)) (cs := []) (by kernel_rfl) (by kernel_rfl) trivial hF1600 ?_)
              rintro a2 ha2 hF2; rw [ha2]; exact hK1602 _ _ rfl (grown_refl _ _)
            · -- operation 19
              rintro a1616 w1615 b1618 KK1624 hs1620 hd1621 hJ1622 hb1623 hr1631 hK1619
              have hr1631x : RD SL_ a1616 a125 w1615 [(92, some 18), (90, some 16)] := hr1631 _ (by kernel_rfl)
              obtain ⟨⟨v1626, q1625, s1627⟩, ⟨v1629, q1628, s1630⟩, -⟩ := hr1631x
              obtain rfl : v1626 = .int .i64 (((dig 256 ((nv 256 xs) * 256)).length : Nat) : Int) := s1627
              obtain rfl : v1629 = .bool true := s1630
              obtain ⟨HE, HB104, HE1271⟩ := hJ1622
              have hF1617 : Fr 104 a1616 [(92, .int .i64 (((dig 256 ((nv 256 xs) * 256)).length : Nat) : Int)), (90, .bool true)] := Fr.of hs1620 hd1621 ⟨q1625, q1628, trivial⟩
              refine One.bare hF1617 (by kernel_rfl) (s_pure hT (d := 93) (v := .bool ((decide ((((dig 256 ((nv 256 xs) * 256)).length : Nat) : Int) = 0)))) (cs := []) (by kernel_rfl) (by kernel_rfl) trivial hF1617 ?_)
              have htr : ((decide ((((dig 256 ((nv 256 xs) * 256)).length : Nat) : Int) = 0))) = true := (decide_eq_true (by have := len0 (nv 256 xs * 256) (by omega); omega))
              rintro a2 ha2 hF2; rw [ha2]; exact hK1619 _ _ (congrArg Value.bool htr) (grown_refl _ _)
            · -- operation 20
              rintro a1633 w1632 b1635 KK1641 hs1637 hd1638 hJ1639 hb1640 hr1651 hK1636
              have hr1651x : RD SL_ a1633 a125 w1632 [(90, some 16), (93, some 19), (86, some 12)] := hr1651 _ (by kernel_rfl)
              obtain ⟨⟨v1643, q1642, s1644⟩, ⟨v1646, q1645, s1647⟩, ⟨v1649, q1648, s1650⟩, -⟩ := hr1651x
              obtain rfl : v1643 = .bool true := s1644
              obtain rfl : v1646 = .bool true := s1647
              obtain rfl : v1649 = .bool true := s1650
              obtain ⟨HE, HB104, HE1271⟩ := hJ1639
              have hF1634 : Fr 104 a1633 [(90, .bool true), (93, .bool true), (86, .bool true)] := Fr.of hs1637 hd1638 ⟨q1642, q1645, q1648, trivial⟩
              refine One.bare hF1634 (by kernel_rfl) (s_pure hT (d := 94) (v := .bool true) (cs := []) (by kernel_rfl) (by kernel_rfl) trivial hF1634 ?_)
              rintro a2 ha2 hF2; rw [ha2]; exact hK1636 _ _ rfl (grown_refl _ _)
            · -- operation 21
              rintro a1653 w1652 b1655 KK1661 hs1657 hd1658 hJ1659 hb1660 hr1668 hK1656
              have hr1668x : RD SL_ a1653 a125 w1652 [(94, some 20), (86, some 12)] := hr1668 _ (by kernel_rfl)
              obtain ⟨⟨v1663, q1662, s1664⟩, ⟨v1666, q1665, s1667⟩, -⟩ := hr1668x
              obtain rfl : v1663 = .bool true := s1664
              obtain rfl : v1666 = .bool true := s1667
              obtain ⟨HE, HB104, HE1271⟩ := hJ1659
              have hF1654 : Fr 104 a1653 [(94, .bool true), (86, .bool true)] := Fr.of hs1657 hd1658 ⟨q1662, q1665, trivial⟩
              refine One.bare hF1654 (by kernel_rfl) (s_pure hT (d := 95) (v := .bool true) (cs := []) (by kernel_rfl) (by kernel_rfl) trivial hF1654 ?_)
              rintro a2 ha2 hF2; rw [ha2]; exact hK1656 _ _ rfl (grown_refl _ _)
            · -- operation 22
              rintro a1670 w1669 b1672 KK1678 hs1674 hd1675 hJ1676 hb1677 hr1683 hK1673
              have hr1683x : RD SL_ a1670 a125 w1669 [(11, none), (95, some 21)] := hr1683 _ (by kernel_rfl)
              obtain ⟨q1679, ⟨v1681, q1680, s1682⟩, -⟩ := hr1683x
              obtain rfl : v1681 = .bool true := s1682
              obtain ⟨HE, HB104, HE1271⟩ := hJ1676
              have hF1671 : Fr 104 a1670 [(11, .slice A112 ((dig 256 ((nv 256 xs) * 256)).length) c113), (95, .bool true)] := Fr.of hs1674 hd1675 ⟨(Fr.init hF127 q1679 (by kernel_rfl)), q1680, trivial⟩
              refine One.off (gok_spec hF1671 (b := false) (by kernel_rfl)) ?_
              exact hK1673 _ _ rfl (grown_refl _ _)
            · -- operation 23
              rintro a1685 w1684 b1687 KK1693 hs1689 hd1690 hJ1691 hb1692 hr1700 hK1688
              have hr1700x : RD SL_ a1685 a125 w1684 [(96, some 22), (95, some 21)] := hr1700 _ (by kernel_rfl)
              obtain ⟨⟨v1695, q1694, s1696⟩, ⟨v1698, q1697, s1699⟩, -⟩ := hr1700x
              obtain rfl : v1695 = undef := s1696
              obtain rfl : v1698 = .bool true := s1699
              obtain ⟨HE, HB104, HE1271⟩ := hJ1691
              have hF1686 : Fr 104 a1685 [(96, undef), (95, .bool true)] := Fr.of hs1689 hd1690 ⟨q1694, q1697, trivial⟩
              refine One.off (gok_spec hF1686 (b := false) (by kernel_rfl)) ?_
              exact hK1688 _ _ rfl (grown_refl _ _)
            · -- operation 24
              rintro a1702 w1701 b1704 KK1710 hs1706 hd1707 hJ1708 hb1709 hr1715 hK1705
              have hr1715x : RD SL_ a1702 a125 w1701 [(10, none), (95, some 21)] := hr1715 _ (by kernel_rfl)
              obtain ⟨q1711, ⟨v1713, q1712, s1714⟩, -⟩ := hr1715x
              obtain rfl : v1713 = .bool true := s1714
              obtain ⟨HE, HB104, HE1271⟩ := hJ1708
              have hF1703 : Fr 104 a1702 [(10, .slice A83 ((dig 256 (nv 256 xs)).length) c84), (95, .bool true)] := Fr.of hs1706 hd1707 ⟨(Fr.init hF127 q1711 (by kernel_rfl)), q1712, trivial⟩
              refine One.off (gok_spec hF1703 (b := false) (by kernel_rfl)) ?_
              exact hK1705 _ _ rfl (grown_refl _ _)
            · -- operation 25
              rintro a1717 w1716 b1719 KK1725 hs1721 hd1722 hJ1723 hb1724 hr1732 hK1720
              have hr1732x : RD SL_ a1717 a125 w1716 [(98, some 24), (95, some 21)] := hr1732 _ (by kernel_rfl)
              obtain ⟨⟨v1727, q1726, s1728⟩, ⟨v1730, q1729, s1731⟩, -⟩ := hr1732x
              obtain rfl : v1727 = undef := s1728
              obtain rfl : v1730 = .bool true := s1731
              obtain ⟨HE, HB104, HE1271⟩ := hJ1723
              have hF1718 : Fr 104 a1717 [(98, undef), (95, .bool true)] := Fr.of hs1721 hd1722 ⟨q1726, q1729, trivial⟩
              refine One.off (gok_spec hF1718 (b := false) (by kernel_rfl)) ?_
              exact hK1720 _ _ rfl (grown_refl _ _)
            · -- operation 26
              rintro a1734 w1733 b1736 KK1742 hs1738 hd1739 hJ1740 hb1741 hr1749 hK1737
              have hr1749x : RD SL_ a1734 a125 w1733 [(99, some 25), (95, some 21)] := hr1749 _ (by kernel_rfl)
              obtain ⟨⟨v1744, q1743, s1745⟩, ⟨v1747, q1746, s1748⟩, -⟩ := hr1749x
              obtain rfl : v1744 = undef := s1745
              obtain rfl : v1747 = .bool true := s1748
              obtain ⟨HE, HB104, HE1271⟩ := hJ1740
              have hF1735 : Fr 104 a1734 [(99, undef), (95, .bool true)] := Fr.of hs1738 hd1739 ⟨q1743, q1746, trivial⟩
              refine One.off (gok_spec hF1735 (b := false) (by kernel_rfl)) ?_
              exact hK1737 _ _ rfl (grown_refl _ _)
            · -- operation 27
              rintro a1751 w1750 b1753 KK1759 hs1755 hd1756 hJ1757 hb1758 hr1769 hK1754
              have hr1769x : RD SL_ a1751 a125 w1750 [(97, some 23), (100, some 26), (95, some 21)] := hr1769 _ (by kernel_rfl)
              obtain ⟨⟨v1761, q1760, s1762⟩, ⟨v1764, q1763, s1765⟩, ⟨v1767, q1766, s1768⟩, -⟩ := hr1769x
              obtain rfl : v1761 = undef := s1762
              obtain rfl : v1764 = undef := s1765
              obtain rfl : v1767 = .bool true := s1768
              obtain ⟨HE, HB104, HE1271⟩ := hJ1757
              have hF1752 : Fr 104 a1751 [(97, undef), (100, undef), (95, .bool true)] := Fr.of hs1755 hd1756 ⟨q1760, q1763, q1766, trivial⟩
              refine One.off (gok_spec hF1752 (b := false) (by kernel_rfl)) ?_
              exact hK1754 _ _ rfl (grown_refl _ _)
            · -- operation 28
              rintro a1771 w1770 b1773 KK1779 hs1775 hd1776 hJ1777 hb1778 hr1789 hK1774
              have hr1789x : RD SL_ a1771 a125 w1770 [(95, some 21), (101, some 27), (86, some 12)] := hr1789 _ (by kernel_rfl)
              obtain ⟨⟨v1781, q1780, s1782⟩, ⟨v1784, q1783, s1785⟩, ⟨v1787, q1786, s1788⟩, -⟩ := hr1789x
              obtain rfl : v1781 = .bool true := s1782
              obtain rfl : v1784 = undef := s1785
              obtain rfl : v1787 = .bool true := s1788
              obtain ⟨HE, HB104, HE1271⟩ := hJ1777
              have hF1772 : Fr 104 a1771 [(95, .bool true), (101, undef), (86, .bool true)] := Fr.of hs1775 hd1776 ⟨q1780, q1783, q1786, trivial⟩
              refine One.bare hF1772 (by kernel_rfl) (s_pure hT (d := 102) (v := .bool true) (cs := []) (by kernel_rfl) (by kernel_rfl) trivial hF1772 ?_)
              rintro a2 ha2 hF2; rw [ha2]; exact hK1774 _ _ rfl (grown_refl _ _)
            · -- operation 29
              rintro a1791 w1790 b1793 KK1799 hs1795 hd1796 hJ1797 hb1798 hr1806 hK1794
              have hr1806x : RD SL_ a1791 a125 w1790 [(86, some 12), (102, some 28)] := hr1806 _ (by kernel_rfl)
              obtain ⟨⟨v1801, q1800, s1802⟩, ⟨v1804, q1803, s1805⟩, -⟩ := hr1806x
              obtain rfl : v1801 = .bool true := s1802
              obtain rfl : v1804 = .bool true := s1805
              obtain ⟨HE, HB104, HE1271⟩ := hJ1797
              have hF1792 : Fr 104 a1791 [(86, .bool true), (102, .bool true)] := Fr.of hs1795 hd1796 ⟨q1800, q1803, trivial⟩
              refine s_pure hT (d := 103) (v := .bool true) (cs := []) (by kernel_rfl) (by kernel_rfl) trivial hF1792 ?_
              rintro a2 ha2 hF2; rw [ha2]; exact hK1794 _ _ rfl (grown_refl _ _)
            · -- operation 30
              rintro a1808 w1807 b1810 KK1816 hs1812 hd1813 hJ1814 hb1815 hr1820 hK1811
              have hr1820x : RD SL_ a1808 a125 w1807 [(103, some 29)] := hr1820 _ (by kernel_rfl)
              obtain ⟨⟨v1818, q1817, s1819⟩, -⟩ := hr1820x
              obtain rfl : v1818 = .bool true := s1819
              obtain ⟨HE, HB104, HE1271⟩ := hJ1814
              have hF1809 : Fr 104 a1808 [(103, .bool true)] := Fr.of hs1812 hd1813 ⟨q1817, trivial⟩
              refine s_pure hT (d := 6) (v := .bool true) (cs := []) (by kernel_rfl) (by kernel_rfl) trivial hF1809 ?_
              rintro a2 ha2 hF2; rw [ha2]; exact hK1811 _ _ rfl (grown_refl _ _)
            · -- behind the region
              rintro a1822 w1823 hs1824 hd1825 ⟨⟨v1827, q1828, s1829⟩, q1830, q1831, q1832, q1833, q1834, q1835, -⟩ ⟨HE, HB104, HE1271⟩
              obtain rfl : v1827 = .bool true := s1829
              have hF1836 : Fr 104 a1822 [(6, .bool true), (11, .slice A112 ((dig 256 ((nv 256 xs) * 256)).length) c113), (10, .slice A83 ((dig 256 (nv 256 xs)).length) c84), (0, .slice Ax xs.length cx), (1, .slice Ay ys.length cy), (2, .slice Az zs.length cz), (7, .int .i64 (cmpI (nv 256 xs) (nv 256 ys)))] := Fr.of hs1824 hd1825 ⟨q1828, (Fr.init hF127 q1830 (by kernel_rfl)), (Fr.init hF127 q1831 (by kernel_rfl)), (Fr.init hF127 q1832 (by kernel_rfl)), (Fr.init hF127 q1833 (by kernel_rfl)), (Fr.init hF127 q1834 (by kernel_rfl)), (Fr.init hF127 q1835 (by kernel_rfl)), trivial⟩
              clear hF127 hs1824 hd1825 q1828 q1830 q1831 q1832 q1833 q1834 q1835
              refine hK129 _ _ ?_
              refine wp_ret ?_
              refine ret1 hF1836 rfl (v := .bool true) (by kernel_rfl) ?_
              exact ⟨rfl, HE⟩
          · -- side 1
            have HE1837 : Ex w115 w115 := Ex.refl _
            have HR1838 := HO85.rd
            have HR1838b := HO85.base
            clear HO85
            have HR1839 := HO114.rd
            have HR1839b := HO114.base
            clear HO114
            let SL_ : List SP := [SP.val (.bool true), SP.val (.bool true), SP.val (.int .i64 (cmpI (nv 256 xs) (nv 256 ys))), SP.val (.bool false), SP.val (.slice A83 ((dig 256 (nv 256 xs)).length) c84), SP.val (.string (str (dig 256 (nv 256 xs)))), SP.val (.slice Ay ys.length cy), SP.mk' (fun v W => ∃ A c, v = .slice A ((dig 256 (nv 256 ys)).length) c ∧ Rd W A (vs .u8 (dig 256 (nv 256 ys)))) (fun v w w' h g => by obtain ⟨A, c, e, h⟩ := h; exact ⟨A, c, e, h.grow g (by simp)⟩), SP.val (.string (str (dig 256 (nv 256 ys)))), SP.val (.bool false), SP.val (.bool true), SP.val (.bool true), SP.val (.bool true), SP.val (.slice A83 ((dig 256 (nv 256 xs)).length) c84), SP.val (.int .i64 (((dig 256 (nv 256 xs)).length : Nat) : Int)), SP.val (.bool false), SP.val (.bool false), SP.val (undef), SP.val (undef), SP.val (undef), SP.val (.bool false), SP.val (.bool false), SP.val (.slice A112 ((dig 256 ((nv 256 xs) * 256)).length) c113), SP.val (.string (str (dig 256 ((nv 256 xs) * 256)))), SP.val (.slice A83 ((dig 256 (nv 256 xs)).length) c84), SP.val (.string (str (dig 256 (nv 256 xs)))), SP.val (.string (str ([0] ++ (dig 256 (nv 256 xs))))), SP.val (.bool true), SP.val (.bool true), SP.val (.bool true), SP.val (.bool true)]
            refine region_rel (SL := SL_) (J := (fun (b : Bool) (W : World) => (Ex w W) ∧ (Blk W b101 5 (vs .u8 [0, 1])) ∧ (Ex w115 W))) (m := 31) (bm := none) wide (by kernel_rfl) (by kernel_rfl) hF127 rfl ?_ ?_ ⟨HE, HB104, HE1837⟩ ⟨?_, ?_, ?_, ?_, ?_, ?_, ?_, ?_, ?_, ?_, ?_, ?_, ?_, ?_, ?_, ?_, ?_, ?_, ?_, ?_, ?_, ?_, ?_, ?_, ?_, ?_, ?_, ?_, ?_, ?_, ?_, trivial⟩ [(6, some 30), (11, none), (10, none), (0, none), (1, none), (2, none), (7, none)] (by kernel_rfl) ?_
            · exact fun h => absurd h (by decide)
            · intro b W W' hj g; cases b <;> exact ⟨hj.1.thenN g, hj.2.1.growN g, hj.2.2.thenN g⟩
            · -- operation 0
              rintro a1841 w1840 b1843 KK1849 hs1845 hd1846 hJ1847 hb1848 hr1850 hK1844
              have hr1850x : RD SL_ a1841 a125 w1840 [] := hr1850 _ (by kernel_rfl)
              obtain ⟨HE, HB104, HE1837⟩ := hJ1847
              have hF1842 : Fr 104 a1841 [] := Fr.of hs1845 hd1846 trivial
              have hz1854 := HE.size
              have hz1855 := HB104.lt
              have hz1856 := HE1837.size
              refine s_call (d := 74) (f := 14) (l := []) (by kernel_rfl) hF1842 cl14 (law15_awake _) ?_
              rintro a1857 w1851 v1852 ⟨rfl, HX1853⟩ ha1859 hF1858
              replace HE := HE.thenN HX1853.g
              replace HB104 := HB104.growN HX1853.g
              replace HE1837 := HE1837.thenN HX1853.g
              rw [ha1859]; exact hK1844 _ _ rfl HX1853.g
            · -- operation 1
              rintro a1861 w1860 b1863 KK1869 hs1865 hd1866 hJ1867 hb1868 hr1873 hK1864
              have hr1873x : RD SL_ a1861 a125 w1860 [(74, some 0)] := hr1873 _ (by kernel_rfl)
              obtain ⟨⟨v1871, q1870, s1872⟩, -⟩ := hr1873x
              obtain rfl : v1871 = .bool true := s1872
              obtain ⟨HE, HB104, HE1837⟩ := hJ1867
              have hF1862 : Fr 104 a1861 [(74, .bool true)] := Fr.of hs1865 hd1866 ⟨q1870, trivial⟩
              refine s_pure hT (d := 75) (v := .bool true) (cs := []) (by kernel_rfl) (by kernel_rfl) trivial hF1862 ?_
              rintro a2 ha2 hF2; rw [ha2]; exact hK1864 _ _ rfl (grown_refl _ _)
            · -- operation 2
              rintro a1875 w1874 b1877 KK1883 hs1879 hd1880 hJ1881 hb1882 hr1888 hK1878
              have hr1888x : RD SL_ a1875 a125 w1874 [(7, none), (75, some 1)] := hr1888 _ (by kernel_rfl)
              obtain ⟨q1884, ⟨v1886, q1885, s1887⟩, -⟩ := hr1888x
              obtain rfl : v1886 = .bool true := s1887
              obtain ⟨HE, HB104, HE1837⟩ := hJ1881
              have hF1876 : Fr 104 a1875 [(7, .int .i64 (cmpI (nv 256 xs) (nv 256 ys))), (75, .bool true)] := Fr.of hs1879 hd1880 ⟨(Fr.init hF127 q1884 (by kernel_rfl)), q1885, trivial⟩
              refine One.bare hF1876 (by kernel_rfl) (s_pure hT (d := 76) (v := .int .i64 (cmpI (nv 256 xs) (nv 256 ys))) (cs := []) (by kernel_rfl) (by kernel_rfl) trivial hF1876 ?_)
              rintro a2 ha2 hF2; rw [ha2]; exact hK1878 _ _ rfl (grown_refl _ _)
            · -- operation 3
              rintro a1890 w1889 b1892 KK1898 hs1894 hd1895 hJ1896 hb1897 hr1905 hK1893
              have hr1905x : RD SL_ a1890 a125 w1889 [(76, some 2), (75, some 1)] := hr1905 _ (by kernel_rfl)
              obtain ⟨⟨v1900, q1899, s1901⟩, ⟨v1903, q1902, s1904⟩, -⟩ := hr1905x
              obtain rfl : v1900 = .int .i64 (cmpI (nv 256 xs) (nv 256 ys)) := s1901
              obtain rfl : v1903 = .bool true := s1904
              obtain ⟨HE, HB104, HE1837⟩ := hJ1896
              have hF1891 : Fr 104 a1890 [(76, .int .i64 (cmpI (nv 256 xs) (nv 256 ys))), (75, .bool true)] := Fr.of hs1894 hd1895 ⟨q1899, q1902, trivial⟩
              refine One.bare hF1891 (by kernel_rfl) (s_pure hT (d := 77) (v := .bool ((decide ((cmpI (nv 256 xs) (nv 256 ys)) = 0)))) (cs := []) (by kernel_rfl) (by kernel_rfl) trivial hF1891 ?_)
              have htr : ((decide ((cmpI (nv 256 xs) (nv 256 ys)) = 0))) = false := (decide_eq_false (fun q => heq (cmpI_eq0.1 q)))
              rintro a2 ha2 hF2; rw [ha2]; exact hK1893 _ _ (congrArg Value.bool htr) (grown_refl _ _)
            · -- operation 4
              rintro a1907 w1906 b1909 KK1915 hs1911 hd1912 hJ1913 hb1914 hr1920 hK1910
              have hr1920x : RD SL_ a1907 a125 w1906 [(10, none), (75, some 1)] := hr1920 _ (by kernel_rfl)
              obtain ⟨q1916, ⟨v1918, q1917, s1919⟩, -⟩ := hr1920x
              obtain rfl : v1918 = .bool true := s1919
              obtain ⟨HE, HB104, HE1837⟩ := hJ1913
              have hF1908 : Fr 104 a1907 [(10, .slice A83 ((dig 256 (nv 256 xs)).length) c84), (75, .bool true)] := Fr.of hs1911 hd1912 ⟨(Fr.init hF127 q1916 (by kernel_rfl)), q1917, trivial⟩
              refine One.bare hF1908 (by kernel_rfl) (s_pure hT (d := 78) (v := .slice A83 ((dig 256 (nv 256 xs)).length) c84) (cs := []) (by kernel_rfl) (by kernel_rfl) trivial hF1908 ?_)
              rintro a2 ha2 hF2; rw [ha2]; exact hK1910 _ _ rfl (grown_refl _ _)
            · -- operation 5
              rintro a1922 w1921 b1924 KK1930 hs1926 hd1927 hJ1928 hb1929 hr1937 hK1925
              have hr1937x : RD SL_ a1922 a125 w1921 [(78, some 4), (75, some 1)] := hr1937 _ (by kernel_rfl)
              obtain ⟨⟨v1932, q1931, s1933⟩, ⟨v1935, q1934, s1936⟩, -⟩ := hr1937x
              obtain rfl : v1932 = .slice A83 ((dig 256 (nv 256 xs)).length) c84 := s1933
              obtain rfl : v1935 = .bool true := s1936
              obtain ⟨HE, HB104, HE1837⟩ := hJ1928
              have hF1923 : Fr 104 a1922 [(78, .slice A83 ((dig 256 (nv 256 xs)).length) c84), (75, .bool true)] := Fr.of hs1926 hd1927 ⟨q1931, q1934, trivial⟩
              refine One.bare hF1923 (by kernel_rfl) (s_str hT (d := 79) (A := A83) (m := (dig 256 (nv 256 xs)).length) (xs := (dig 256 (nv 256 xs))) (by kernel_rfl) hF1923 (HR1838.ex HE1837) (by (first | (simp only [vs_length, vi_length]; omega) | (simp; omega) | omega)) ?_)
              rintro a1938 ha1940 hF1939
              rw [ha1940]; exact hK1925 _ _ rfl (grown_refl _ _)
            · -- operation 6
              rintro a1942 w1941 b1944 KK1950 hs1946 hd1947 hJ1948 hb1949 hr1955 hK1945
              have hr1955x : RD SL_ a1942 a125 w1941 [(1, none), (75, some 1)] := hr1955 _ (by kernel_rfl)
              obtain ⟨q1951, ⟨v1953, q1952, s1954⟩, -⟩ := hr1955x
              obtain rfl : v1953 = .bool true := s1954
              obtain ⟨HE, HB104, HE1837⟩ := hJ1948
              have hF1943 : Fr 104 a1942 [(1, .slice Ay ys.length cy), (75, .bool true)] := Fr.of hs1946 hd1947 ⟨(Fr.init hF127 q1951 (by kernel_rfl)), q1952, trivial⟩
              refine One.bare hF1943 (by kernel_rfl) (s_pure hT (d := 80) (v := .slice Ay ys.length cy) (cs := []) (by kernel_rfl) (by kernel_rfl) trivial hF1943 ?_)
              rintro a2 ha2 hF2; rw [ha2]; exact hK1945 _ _ rfl (grown_refl _ _)
            · -- operation 7
              rintro a1957 w1956 b1959 KK1965 hs1961 hd1962 hJ1963 hb1964 hr1972 hK1960
              have hr1972x : RD SL_ a1957 a125 w1956 [(80, some 6), (75, some 1)] := hr1972 _ (by kernel_rfl)
              obtain ⟨⟨v1967, q1966, s1968⟩, ⟨v1970, q1969, s1971⟩, -⟩ := hr1972x
              obtain rfl : v1967 = .slice Ay ys.length cy := s1968
              obtain rfl : v1970 = .bool true := s1971
              obtain ⟨HE, HB104, HE1837⟩ := hJ1963
              have hF1958 : Fr 104 a1957 [(80, .slice Ay ys.length cy), (75, .bool true)] := Fr.of hs1961 hd1962 ⟨q1966, q1969, trivial⟩
              have hz1979 := HE.size
              have hz1980 := HB104.lt
              have hz1981 := HE1837.size
              refine One.bare hF1958 (by kernel_rfl) (s_call (d := 81) (f := 19) (l := [.slice Ay ys.length cy]) (by kernel_rfl) hF1958 cl19 (Norm' (A := Ay) (n := ys.length) (c := cy) (x := (nv 256 ys)) (xs := ys) (w := _) rfl rfl (hys.ex HE) hbys (Nat.le_trans hlys (by decide))) ?_)
              rintro a1982 w1976 v1977 ⟨A1973, c1974, rfl, HX1978, HO1975⟩ ha1984 hF1983
              replace HE := HE.thenN HX1978.g
              replace HB104 := HB104.growN HX1978.g
              replace HE1837 := HE1837.thenN HX1978.g
              have hcp1985 := HO1975.cap
              rw [ha1984]; exact hK1960 _ _ ⟨_, _, rfl, HO1975.rd⟩ HX1978.g
            · -- operation 8
              rintro a1987 w1986 b1989 KK1995 hs1991 hd1992 hJ1993 hb1994 hr2005 hK1990
              have hr2005x : RD SL_ a1987 a125 w1986 [(81, some 7), (75, some 1)] := hr2005 _ (by kernel_rfl)
              obtain ⟨⟨v1997, q1996, s1998⟩, ⟨v2003, q2002, s2004⟩, -⟩ := hr2005x
              obtain ⟨A1999, c2000, rfl, HR2001⟩ := s1998
              obtain rfl : v2003 = .bool true := s2004
              obtain ⟨HE, HB104, HE1837⟩ := hJ1993
              have hF1988 : Fr 104 a1987 [(81, .slice A1999 ((dig 256 (nv 256 ys)).length) c2000), (75, .bool true)] := Fr.of hs1991 hd1992 ⟨q1996, q2002, trivial⟩
              refine One.bare hF1988 (by kernel_rfl) (s_str hT (d := 82) (A := A1999) (m := (dig 256 (nv 256 ys)).length) (xs := (dig 256 (nv 256 ys))) (by kernel_rfl) hF1988 HR2001 (by (first | (simp only [vs_length, vi_length]; omega) | (simp; omega) | omega)) ?_)
              rintro a2006 ha2008 hF2007
              rw [ha2008]; exact hK1990 _ _ rfl (grown_refl _ _)
            · -- operation 9
              rintro a2010 w2009 b2012 KK2018 hs2014 hd2015 hJ2016 hb2017 hr2028 hK2013
              have hr2028x : RD SL_ a2010 a125 w2009 [(79, some 5), (82, some 8), (75, some 1)] := hr2028 _ (by kernel_rfl)
              obtain ⟨⟨v2020, q2019, s2021⟩, ⟨v2023, q2022, s2024⟩, ⟨v2026, q2025, s2027⟩, -⟩ := hr2028x
              obtain rfl : v2020 = .string (str (dig 256 (nv 256 xs))) := s2021
              obtain rfl : v2023 = .string (str (dig 256 (nv 256 ys))) := s2024
              obtain rfl : v2026 = .bool true := s2027
              obtain ⟨HE, HB104, HE1837⟩ := hJ2016
              have hF2011 : Fr 104 a2010 [(79, .string (str (dig 256 (nv 256 xs)))), (82, .string (str (dig 256 (nv 256 ys)))), (75, .bool true)] := Fr.of hs2014 hd2015 ⟨q2019, q2022, q2025, trivial⟩
              refine One.bare hF2011 (by kernel_rfl) (s_pure hT (d := 83) (v := .bool ((ByteArray.toList (str (dig 256 (nv 256 xs))) == ByteArray.toList (str (dig 256 (nv 256 ys)))))) (cs := []) (by kernel_rfl) (by kernel_rfl) trivial hF2011 ?_)
              have htr : ((ByteArray.toList (str (dig 256 (nv 256 xs))) == ByteArray.toList (str (dig 256 (nv 256 ys))))) = false := (str_eqF (by_dig _) (by_dig _) (dig_ne heq))
              rintro a2 ha2 hF2; rw [ha2]; exact hK2013 _ _ (congrArg Value.bool htr) (grown_refl _ _)
            · -- operation 10
              rintro a2030 w2029 b2032 KK2038 hs2034 hd2035 hJ2036 hb2037 hr2048 hK2033
              have hr2048x : RD SL_ a2030 a125 w2029 [(77, some 3), (83, some 9), (75, some 1)] := hr2048 _ (by kernel_rfl)
              obtain ⟨⟨v2040, q2039, s2041⟩, ⟨v2043, q2042, s2044⟩, ⟨v2046, q2045, s2047⟩, -⟩ := hr2048x
              obtain rfl : v2040 = .bool false := s2041
              obtain rfl : v2043 = .bool false := s2044
              obtain rfl : v2046 = .bool true := s2047
              obtain ⟨HE, HB104, HE1837⟩ := hJ2036
              have hF2031 : Fr 104 a2030 [(77, .bool false), (83, .bool false), (75, .bool true)] := Fr.of hs2034 hd2035 ⟨q2039, q2042, q2045, trivial⟩
              refine One.bare hF2031 (by kernel_rfl) (s_beq hT (d := 84) (b := true) (by kernel_rfl) hF2031 ?_)
              rintro a2049 ha2051 hF2050
              rw [ha2051]; exact hK2033 _ _ rfl (grown_refl _ _)
            · -- operation 11
              rintro a2053 w2052 b2055 KK2061 hs2057 hd2058 hJ2059 hb2060 hr2068 hK2056
              have hr2068x : RD SL_ a2053 a125 w2052 [(75, some 1), (84, some 10)] := hr2068 _ (by kernel_rfl)
              obtain ⟨⟨v2063, q2062, s2064⟩, ⟨v2066, q2065, s2067⟩, -⟩ := hr2068x
              obtain rfl : v2063 = .bool true := s2064
              obtain rfl : v2066 = .bool true := s2067
              obtain ⟨HE, HB104, HE1837⟩ := hJ2059
              have hF2054 : Fr 104 a2053 [(75, .bool true), (84, .bool true)] := Fr.of hs2057 hd2058 ⟨q2062, q2065, trivial⟩
              refine s_pure hT (d := 85) (v := .bool true) (cs := []) (by kernel_rfl) (by kernel_rfl) trivial hF2054 ?_
              rintro a2 ha2 hF2; rw [ha2]; exact hK2056 _ _ rfl (grown_refl _ _)
            · -- operation 12
              rintro a2070 w2069 b2072 KK2078 hs2074 hd2075 hJ2076 hb2077 hr2082 hK2073
              have hr2082x : RD SL_ a2070 a125 w2069 [(85, some 11)] := hr2082 _ (by kernel_rfl)
              obtain ⟨⟨v2080, q2079, s2081⟩, -⟩ := hr2082x
              obtain rfl : v2080 = .bool true := s2081
              obtain ⟨HE, HB104, HE1837⟩ := hJ2076
              have hF2071 : Fr 104 a2070 [(85, .bool true)] := Fr.of hs2074 hd2075 ⟨q2079, trivial⟩
              refine s_pure hT (d := 86) (v := .bool true) (cs := []) (by kernel_rfl) (by kernel_rfl) trivial hF2071 ?_
              rintro a2 ha2 hF2; rw [ha2]; exact hK2073 _ _ rfl (grown_refl _ _)
            · -- operation 13
              rintro a2084 w2083 b2086 KK2092 hs2088 hd2089 hJ2090 hb2091 hr2097 hK2087
              have hr2097x : RD SL_ a2084 a125 w2083 [(10, none), (86, some 12)] := hr2097 _ (by kernel_rfl)
              obtain ⟨q2093, ⟨v2095, q2094, s2096⟩, -⟩ := hr2097x
              obtain rfl : v2095 = .bool true := s2096
              obtain ⟨HE, HB104, HE1837⟩ := hJ2090
              have hF2085 : Fr 104 a2084 [(10, .slice A83 ((dig 256 (nv 256 xs)).length) c84), (86, .bool true)] := Fr.of hs2088 hd2089 ⟨(Fr.init hF127 q2093 (by kernel_rfl)), q2094, trivial⟩
              refine One.bare hF2085 (by kernel_rfl) (s_pure hT (d := 87) (v := .slice A83 ((dig 256 (nv 256 xs)).length) c84) (cs := []) (by kernel_rfl) (by kernel_rfl) trivial hF2085 ?_)
              rintro a2 ha2 hF2; rw [ha2]; exact hK2087 _ _ rfl (grown_refl _ _)
            · -- operation 14
              rintro a2099 w2098 b2101 KK2107 hs2103 hd2104 hJ2105 hb2106 hr2114 hK2102
              have hr2114x : RD SL_ a2099 a125 w2098 [(87, some 13), (86, some 12)] := hr2114 _ (by kernel_rfl)
              obtain ⟨⟨v2109, q2108, s2110⟩, ⟨v2112, q2111, s2113⟩, -⟩ := hr2114x
              obtain rfl : v2109 = .slice A83 ((dig 256 (nv 256 xs)).length) c84 := s2110
              obtain rfl : v2112 = .bool true := s2113
              obtain ⟨HE, HB104, HE1837⟩ := hJ2105
              have hF2100 : Fr 104 a2099 [(87, .slice A83 ((dig 256 (nv 256 xs)).length) c84), (86, .bool true)] := Fr.of hs2103 hd2104 ⟨q2108, q2111, trivial⟩
              refine One.bare hF2100 (by kernel_rfl) (s_pure hT (d := 88) (v := .int .i64 (((dig 256 (nv 256 xs)).length : Nat) : Int)) (cs := []) (by kernel_rfl) (by kernel_rfl) trivial hF2100 ?_)
              rintro a2 ha2 hF2; rw [ha2]; exact hK2102 _ _ rfl (grown_refl _ _)
            · -- operation 15
              rintro a2116 w2115 b2118 KK2124 hs2120 hd2121 hJ2122 hb2123 hr2131 hK2119
              have hr2131x : RD SL_ a2116 a125 w2115 [(88, some 14), (86, some 12)] := hr2131 _ (by kernel_rfl)
              obtain ⟨⟨v2126, q2125, s2127⟩, ⟨v2129, q2128, s2130⟩, -⟩ := hr2131x
              obtain rfl : v2126 = .int .i64 (((dig 256 (nv 256 xs)).length : Nat) : Int) := s2127
              obtain rfl : v2129 = .bool true := s2130
              obtain ⟨HE, HB104, HE1837⟩ := hJ2122
              have hF2117 : Fr 104 a2116 [(88, .int .i64 (((dig 256 (nv 256 xs)).length : Nat) : Int)), (86, .bool true)] := Fr.of hs2120 hd2121 ⟨q2125, q2128, trivial⟩
              refine One.bare hF2117 (by kernel_rfl) (s_pure hT (d := 89) (v := .bool ((decide ((((dig 256 (nv 256 xs)).length : Nat) : Int) = 0)))) (cs := []) (by kernel_rfl) (by kernel_rfl) trivial hF2117 ?_)
              have htr : ((decide ((((dig 256 (nv 256 xs)).length : Nat) : Int) = 0))) = false := (decide_eq_false (fun q => hnul (len0' _ (by omega))))
              rintro a2 ha2 hF2; rw [ha2]; exact hK2119 _ _ (congrArg Value.bool htr) (grown_refl _ _)
            · -- operation 16
              rintro a2133 w2132 b2135 KK2141 hs2137 hd2138 hJ2139 hb2140 hr2148 hK2136
              have hr2148x : RD SL_ a2133 a125 w2132 [(89, some 15), (86, some 12)] := hr2148 _ (by kernel_rfl)
              obtain ⟨⟨v2143, q2142, s2144⟩, ⟨v2146, q2145, s2147⟩, -⟩ := hr2148x
              obtain rfl : v2143 = .bool false := s2144
              obtain rfl : v2146 = .bool true := s2147
              obtain ⟨HE, HB104, HE1837⟩ := hJ2139
              have hF2134 : Fr 104 a2133 [(89, .bool false), (86, .bool true)] := Fr.of hs2137 hd2138 ⟨q2142, q2145, trivial⟩
              refine One.bare hF2134 (by kernel_rfl) (s_pure hT (d := 90) (v := .bool false) (cs := []) (by kernel_rfl) (by kernel_rfl) trivial hF2134 ?_)
              rintro a2 ha2 hF2; rw [ha2]; exact hK2136 _ _ rfl (grown_refl _ _)
            · -- operation 17
              rintro a2150 w2149 b2152 KK2158 hs2154 hd2155 hJ2156 hb2157 hr2163 hK2153
              have hr2163x : RD SL_ a2150 a125 w2149 [(11, none), (90, some 16)] := hr2163 _ (by kernel_rfl)
              obtain ⟨q2159, ⟨v2161, q2160, s2162⟩, -⟩ := hr2163x
              obtain rfl : v2161 = .bool false := s2162
              obtain ⟨HE, HB104, HE1837⟩ := hJ2156
              have hF2151 : Fr 104 a2150 [(11, .slice A112 ((dig 256 ((nv 256 xs) * 256)).length) c113), (90, .bool false)] := Fr.of hs2154 hd2155 ⟨(Fr.init hF127 q2159 (by kernel_rfl)), q2160, trivial⟩
              refine One.off (gok_spec hF2151 (b := false) (by kernel_rfl)) ?_
              exact hK2153 _ _ rfl (grown_refl _ _)
            · -- operation 18
              rintro a2165 w2164 b2167 KK2173 hs2169 hd2170 hJ2171 hb2172 hr2180 hK2168
              have hr2180x : RD SL_ a2165 a125 w2164 [(91, some 17), (90, some 16)] := hr2180 _ (by kernel_rfl)
              obtain ⟨⟨v2175, q2174, s2176⟩, ⟨v2178, q2177, s2179⟩, -⟩ := hr2180x
              obtain rfl : v2175 = undef := s2176
              obtain rfl : v2178 = .bool false := s2179
              obtain ⟨HE, HB104, HE1837⟩ := hJ2171
              have hF2166 : Fr 104 a2165 [(91, undef), (90, .bool false)] := Fr.of hs2169 hd2170 ⟨q2174, q2177, trivial⟩
              refine One.off (gok_spec hF2166 (b := false) (by kernel_rfl)) ?_
              exact hK2168 _ _ rfl (grown_refl _ _)
            · -- operation 19
              rintro a2182 w2181 b2184 KK2190 hs2186 hd2187 hJ2188 hb2189 hr2197 hK2185
              have hr2197x : RD SL_ a2182 a125 w2181 [(92, some 18), (90, some 16)] := hr2197 _ (by kernel_rfl)
              obtain ⟨⟨v2192, q2191, s2193⟩, ⟨v2195, q2194, s2196⟩, -⟩ := hr2197x
              obtain rfl : v2192 = undef := s2193
              obtain rfl : v2195 = .bool false := s2196
              obtain ⟨HE, HB104, HE1837⟩ := hJ2188
              have hF2183 : Fr 104 a2182 [(92, undef), (90, .bool false)] := Fr.of hs2186 hd2187 ⟨q2191, q2194, trivial⟩
              refine One.off (gok_spec hF2183 (b := false) (by kernel_rfl)) ?_
              exact hK2185 _ _ rfl (grown_refl _ _)
            · -- operation 20
              rintro a2199 w2198 b2201 KK2207 hs2203 hd2204 hJ2205 hb2206 hr2217 hK2202
              have hr2217x : RD SL_ a2199 a125 w2198 [(90, some 16), (93, some 19), (86, some 12)] := hr2217 _ (by kernel_rfl)
              obtain ⟨⟨v2209, q2208, s2210⟩, ⟨v2212, q2211, s2213⟩, ⟨v2215, q2214, s2216⟩, -⟩ := hr2217x
              obtain rfl : v2209 = .bool false := s2210
              obtain rfl : v2212 = undef := s2213
              obtain rfl : v2215 = .bool true := s2216
              obtain ⟨HE, HB104, HE1837⟩ := hJ2205
              have hF2200 : Fr 104 a2199 [(90, .bool false), (93, undef), (86, .bool true)] := Fr.of hs2203 hd2204 ⟨q2208, q2211, q2214, trivial⟩
              refine One.bare hF2200 (by kernel_rfl) (s_pure hT (d := 94) (v := .bool false) (cs := []) (by kernel_rfl) (by kernel_rfl) trivial hF2200 ?_)
              rintro a2 ha2 hF2; rw [ha2]; exact hK2202 _ _ rfl (grown_refl _ _)
            · -- operation 21
              rintro a2219 w2218 b2221 KK2227 hs2223 hd2224 hJ2225 hb2226 hr2234 hK2222
              have hr2234x : RD SL_ a2219 a125 w2218 [(94, some 20), (86, some 12)] := hr2234 _ (by kernel_rfl)
              obtain ⟨⟨v2229, q2228, s2230⟩, ⟨v2232, q2231, s2233⟩, -⟩ := hr2234x
              obtain rfl : v2229 = .bool false := s2230
              obtain rfl : v2232 = .bool true := s2233
              obtain ⟨HE, HB104, HE1837⟩ := hJ2225
              have hF2220 : Fr 104 a2219 [(94, .bool false), (86, .bool true)] := Fr.of hs2223 hd2224 ⟨q2228, q2231, trivial⟩
              refine One.bare hF2220 (by kernel_rfl) (s_pure hT (d := 95) (v := .bool false) (cs := []) (by kernel_rfl) (by kernel_rfl) trivial hF2220 ?_)
              rintro a2 ha2 hF2; rw [ha2]; exact hK2222 _ _ rfl (grown_refl _ _)
            · -- operation 22
              rintro a2236 w2235 b2238 KK2244 hs2240 hd2241 hJ2242 hb2243 hr2249 hK2239
              have hr2249x : RD SL_ a2236 a125 w2235 [(11, none), (95, some 21)] := hr2249 _ (by kernel_rfl)
              obtain ⟨q2245, ⟨v2247, q2246, s2248⟩, -⟩ := hr2249x
              obtain rfl : v2247 = .bool false := s2248
              obtain ⟨HE, HB104, HE1837⟩ := hJ2242
              have hF2237 : Fr 104 a2236 [(11, .slice A112 ((dig 256 ((nv 256 xs) * 256)).length) c113), (95, .bool false)] := Fr.of hs2240 hd2241 ⟨(Fr.init hF127 q2245 (by kernel_rfl)), q2246, trivial⟩
              refine One.bare hF2237 (by kernel_rfl) (s_pure hT (d := 96) (v := .slice A112 ((dig 256 ((nv 256 xs) * 256)).length) c113) (cs := []) (by kernel_rfl) (by kernel_rfl) trivial hF2237 ?_)
              rintro a2 ha2 hF2; rw [ha2]; exact hK2239 _ _ rfl (grown_refl _ _)
            · -- operation 23
              rintro a2251 w2250 b2253 KK2259 hs2255 hd2256 hJ2257 hb2258 hr2266 hK2254
              have hr2266x : RD SL_ a2251 a125 w2250 [(96, some 22), (95, some 21)] := hr2266 _ (by kernel_rfl)
              obtain ⟨⟨v2261, q2260, s2262⟩, ⟨v2264, q2263, s2265⟩, -⟩ := hr2266x
              obtain rfl : v2261 = .slice A112 ((dig 256 ((nv 256 xs) * 256)).length) c113 := s2262
              obtain rfl : v2264 = .bool false := s2265
              obtain ⟨HE, HB104, HE1837⟩ := hJ2257
              have hF2252 : Fr 104 a2251 [(96, .slice A112 ((dig 256 ((nv 256 xs) * 256)).length) c113), (95, .bool false)] := Fr.of hs2255 hd2256 ⟨q2260, q2263, trivial⟩
              refine One.bare hF2252 (by kernel_rfl) (s_str hT (d := 97) (A := A112) (m := (dig 256 ((nv 256 xs) * 256)).length) (xs := (dig 256 ((nv 256 xs) * 256))) (by kernel_rfl) hF2252 (HR1839.ex HE1837) (by (first | (simp only [vs_length, vi_length]; omega) | (simp; omega) | omega)) ?_)
              rintro a2267 ha2269 hF2268
              rw [ha2269]; exact hK2254 _ _ rfl (grown_refl _ _)
            · -- operation 24
              rintro a2271 w2270 b2273 KK2279 hs2275 hd2276 hJ2277 hb2278 hr2284 hK2274
              have hr2284x : RD SL_ a2271 a125 w2270 [(10, none), (95, some 21)] := hr2284 _ (by kernel_rfl)
              obtain ⟨q2280, ⟨v2282, q2281, s2283⟩, -⟩ := hr2284x
              obtain rfl : v2282 = .bool false := s2283
              obtain ⟨HE, HB104, HE1837⟩ := hJ2277
              have hF2272 : Fr 104 a2271 [(10, .slice A83 ((dig 256 (nv 256 xs)).length) c84), (95, .bool false)] := Fr.of hs2275 hd2276 ⟨(Fr.init hF127 q2280 (by kernel_rfl)), q2281, trivial⟩
              refine One.bare hF2272 (by kernel_rfl) (s_pure hT (d := 98) (v := .slice A83 ((dig 256 (nv 256 xs)).length) c84) (cs := []) (by kernel_rfl) (by kernel_rfl) trivial hF2272 ?_)
              rintro a2 ha2 hF2; rw [ha2]; exact hK2274 _ _ rfl (grown_refl _ _)
            · -- operation 25
              rintro a2286 w2285 b2288 KK2294 hs2290 hd2291 hJ2292 hb2293 hr2301 hK2289
              have hr2301x : RD SL_ a2286 a125 w2285 [(98, some 24), (95, some 21)] := hr2301 _ (by kernel_rfl)
              obtain ⟨⟨v2296, q2295, s2297⟩, ⟨v2299, q2298, s2300⟩, -⟩ := hr2301x
              obtain rfl : v2296 = .slice A83 ((dig 256 (nv 256 xs)).length) c84 := s2297
              obtain rfl : v2299 = .bool false := s2300
              obtain ⟨HE, HB104, HE1837⟩ := hJ2292
              have hF2287 : Fr 104 a2286 [(98, .slice A83 ((dig 256 (nv 256 xs)).length) c84), (95, .bool false)] := Fr.of hs2290 hd2291 ⟨q2295, q2298, trivial⟩
              refine One.bare hF2287 (by kernel_rfl) (s_str hT (d := 99) (A := A83) (m := (dig 256 (nv 256 xs)).length) (xs := (dig 256 (nv 256 xs))) (by kernel_rfl) hF2287 (HR1838.ex HE1837) (by (first | (simp only [vs_length, vi_length]; omega) | (simp; omega) | omega)) ?_)
              rintro a2302 ha2304 hF2303
              rw [ha2304]; exact hK2289 _ _ rfl (grown_refl _ _)
            · -- operation 26
              rintro a2306 w2305 b2308 KK2314 hs2310 hd2311 hJ2312 hb2313 hr2321 hK2309
              have hr2321x : RD SL_ a2306 a125 w2305 [(99, some 25), (95, some 21)] := hr2321 _ (by kernel_rfl)
              obtain ⟨⟨v2316, q2315, s2317⟩, ⟨v2319, q2318, s2320⟩, -⟩ := hr2321x
              obtain rfl : v2316 = .string (str (dig 256 (nv 256 xs))) := s2317
              obtain rfl : v2319 = .bool false := s2320
              obtain ⟨HE, HB104, HE1837⟩ := hJ2312
              have hF2307 : Fr 104 a2306 [(99, .string (str (dig 256 (nv 256 xs)))), (95, .bool false)] := Fr.of hs2310 hd2311 ⟨q2315, q2318, trivial⟩
              refine One.bare hF2307 (by kernel_rfl) (s_cat (d := 100) (xs := [0]) (ys := (dig 256 (nv 256 xs))) (by kernel_rfl) hF2307 (by have := dlen (nlen hbxs hlxs); simp; omega) ?_)
              rintro a2322 ha2324 hF2323
              rw [ha2324]; exact hK2309 _ _ rfl (grown_refl _ _)
            · -- operation 27
              rintro a2326 w2325 b2328 KK2334 hs2330 hd2331 hJ2332 hb2333 hr2344 hK2329
              have hr2344x : RD SL_ a2326 a125 w2325 [(97, some 23), (100, some 26), (95, some 21)] := hr2344 _ (by kernel_rfl)
              obtain ⟨⟨v2336, q2335, s2337⟩, ⟨v2339, q2338, s2340⟩, ⟨v2342, q2341, s2343⟩, -⟩ := hr2344x
              obtain rfl : v2336 = .string (str (dig 256 ((nv 256 xs) * 256))) := s2337
              obtain rfl : v2339 = .string (str ([0] ++ (dig 256 (nv 256 xs)))) := s2340
              obtain rfl : v2342 = .bool false := s2343
              obtain ⟨HE, HB104, HE1837⟩ := hJ2332
              have hF2327 : Fr 104 a2326 [(97, .string (str (dig 256 ((nv 256 xs) * 256)))), (100, .string (str ([0] ++ (dig 256 (nv 256 xs))))), (95, .bool false)] := Fr.of hs2330 hd2331 ⟨q2335, q2338, q2341, trivial⟩
              refine One.bare hF2327 (by kernel_rfl) (s_pure hT (d := 101) (v := .bool ((ByteArray.toList (str (dig 256 ((nv 256 xs) * 256))) == ByteArray.toList (str ([0] ++ (dig 256 (nv 256 xs))))))) (cs := []) (by kernel_rfl) (by kernel_rfl) trivial hF2327 ?_)
              have htr : ((ByteArray.toList (str (dig 256 ((nv 256 xs) * 256))) == ByteArray.toList (str ([0] ++ (dig 256 (nv 256 xs)))))) = true := (str_eqT (dig_shift hnul))
              rintro a2 ha2 hF2; rw [ha2]; exact hK2329 _ _ (congrArg Value.bool htr) (grown_refl _ _)
            · -- operation 28
              rintro a2346 w2345 b2348 KK2354 hs2350 hd2351 hJ2352 hb2353 hr2364 hK2349
              have hr2364x : RD SL_ a2346 a125 w2345 [(95, some 21), (101, some 27), (86, some 12)] := hr2364 _ (by kernel_rfl)
              obtain ⟨⟨v2356, q2355, s2357⟩, ⟨v2359, q2358, s2360⟩, ⟨v2362, q2361, s2363⟩, -⟩ := hr2364x
              obtain rfl : v2356 = .bool false := s2357
              obtain rfl : v2359 = .bool true := s2360
              obtain rfl : v2362 = .bool true := s2363
              obtain ⟨HE, HB104, HE1837⟩ := hJ2352
              have hF2347 : Fr 104 a2346 [(95, .bool false), (101, .bool true), (86, .bool true)] := Fr.of hs2350 hd2351 ⟨q2355, q2358, q2361, trivial⟩
              refine One.bare hF2347 (by kernel_rfl) (s_pure hT (d := 102) (v := .bool true) (cs := []) (by kernel_rfl) (by kernel_rfl) trivial hF2347 ?_)
              rintro a2 ha2 hF2; rw [ha2]; exact hK2349 _ _ rfl (grown_refl _ _)
            · -- operation 29
              rintro a2366 w2365 b2368 KK2374 hs2370 hd2371 hJ2372 hb2373 hr2381 hK2369
              have hr2381x : RD SL_ a2366 a125 w2365 [(86, some 12), (102, some 28)] := hr2381 _ (by kernel_rfl)
              obtain ⟨⟨v2376, q2375, s2377⟩, ⟨v2379, q2378, s2380⟩, -⟩ := hr2381x
              obtain rfl : v2376 = .bool true := s2377
              obtain rfl : v2379 = .bool true := s2380
              obtain ⟨HE, HB104, HE1837⟩ := hJ2372
              have hF2367 : Fr 104 a2366 [(86, .bool true), (102, .bool true)] := Fr.of hs2370 hd2371 ⟨q2375, q2378, trivial⟩
              refine s_pure hT (d := 103) (v := .bool true) (cs := []) (by kernel_rfl) (by kernel_rfl) trivial hF2367 ?_
              rintro a2 ha2 hF2; rw [ha2]; exact hK2369 _ _ rfl (grown_refl _ _)
            · -- operation 30
              rintro a2383 w2382 b2385 KK2391 hs2387 hd2388 hJ2389 hb2390 hr2395 hK2386
              have hr2395x : RD SL_ a2383 a125 w2382 [(103, some 29)] := hr2395 _ (by kernel_rfl)
              obtain ⟨⟨v2393, q2392, s2394⟩, -⟩ := hr2395x
              obtain rfl : v2393 = .bool true := s2394
              obtain ⟨HE, HB104, HE1837⟩ := hJ2389
              have hF2384 : Fr 104 a2383 [(103, .bool true)] := Fr.of hs2387 hd2388 ⟨q2392, trivial⟩
              refine s_pure hT (d := 6) (v := .bool true) (cs := []) (by kernel_rfl) (by kernel_rfl) trivial hF2384 ?_
              rintro a2 ha2 hF2; rw [ha2]; exact hK2386 _ _ rfl (grown_refl _ _)
            · -- behind the region
              rintro a2397 w2398 hs2399 hd2400 ⟨⟨v2402, q2403, s2404⟩, q2405, q2406, q2407, q2408, q2409, q2410, -⟩ ⟨HE, HB104, HE1837⟩
              obtain rfl : v2402 = .bool true := s2404
              have hF2411 : Fr 104 a2397 [(6, .bool true), (11, .slice A112 ((dig 256 ((nv 256 xs) * 256)).length) c113), (10, .slice A83 ((dig 256 (nv 256 xs)).length) c84), (0, .slice Ax xs.length cx), (1, .slice Ay ys.length cy), (2, .slice Az zs.length cz), (7, .int .i64 (cmpI (nv 256 xs) (nv 256 ys)))] := Fr.of hs2399 hd2400 ⟨q2403, (Fr.init hF127 q2405 (by kernel_rfl)), (Fr.init hF127 q2406 (by kernel_rfl)), (Fr.init hF127 q2407 (by kernel_rfl)), (Fr.init hF127 q2408 (by kernel_rfl)), (Fr.init hF127 q2409 (by kernel_rfl)), (Fr.init hF127 q2410 (by kernel_rfl)), trivial⟩
              clear hF127 hs2399 hd2400 q2403 q2405 q2406 q2407 q2408 q2409 q2410
              refine hK129 _ _ ?_
              refine wp_ret ?_
              refine ret1 hF2411 rfl (v := .bool true) (by kernel_rfl) ?_
              exact ⟨rfl, HE⟩
      clear hK74
      refine wp_seq_k (fun K2412 hK2413 => ?_)
      refine wp_region_lit ?_
      refine pures hT 2 _ hF72 (F' := [(31, .slice Ax xs.length cx), (30, .slice Ay ys.length cy), (9, .int .i64 (cmpI (nv 256 xs) (nv 256 zs))), (8, .int .i64 (cmpI (nv 256 ys) (nv 256 zs))), (7, .int .i64 (cmpI (nv 256 xs) (nv 256 ys))), (20, .bool ((decide (120 < ((zs.length : Nat) : Int))))), (6, .bool false), (0, .slice Ax xs.length cx), (1, .slice Ay ys.length cy), (2, .slice Az zs.length cz)]) (cs := []) (by kernel_rfl) trivial ?_
      intro a2414 hF2415; clear hF72 a70
      have hz2419 := HE.size
      refine wl (s_call (d := 32) (f := 16) (l := [.slice Ay ys.length cy, .slice Ax xs.length cx]) (by kernel_rfl) hF2415 cl16 (Cmp' (A := Ay) (n := ys.length) (c := cy) (x := (nv 256 ys)) (xs := ys) (A2 := Ax) (n2 := xs.length) (c2 := cx) (y := (nv 256 xs)) (ys := xs) (w := _) rfl rfl  rfl rfl (hys.ex HE) (hxs.ex HE) hbys hbxs (Nat.le_trans hlys (by decide)) (Nat.le_trans hlxs (by decide))) ?_)
      rintro a2420 w2416 v2417 ⟨rfl, HX2418⟩ ha2422 hF2421; clear ha2422 hF2415 a2414
      replace HE := HE.thenN HX2418.g
      refine pures hT 3 _ hF2421 (F' := [(35, .bool (!(decide ((cmpI (nv 256 ys) (nv 256 xs)) = (-(cmpI (nv 256 xs) (nv 256 ys))))))), (34, .int .i64 (-(cmpI (nv 256 xs) (nv 256 ys)))), (33, .int .i64 (cmpI (nv 256 xs) (nv 256 ys))), (32, .int .i64 (cmpI (nv 256 ys) (nv 256 xs))), (31, .slice Ax xs.length cx), (30, .slice Ay ys.length cy), (9, .int .i64 (cmpI (nv 256 xs) (nv 256 zs))), (8, .int .i64 (cmpI (nv 256 ys) (nv 256 zs))), (7, .int .i64 (cmpI (nv 256 xs) (nv 256 ys))), (20, .bool ((decide (120 < ((zs.length : Nat) : Int))))), (6, .bool false), (0, .slice Ax xs.length cx), (1, .slice Ay ys.length cy), (2, .slice Az zs.length cz)]) (cs := [-9223372036854775807 ≤ (cmpI (nv 256 xs) (nv 256 ys)), (cmpI (nv 256 xs) (nv 256 ys)) ≤ 9223372036854775807]) (by kernel_rfl) (And.intro cmpI_lo (And.intro cmpI_hi trivial)) ?_
      intro a2423 hF2424; clear hF2421 a2420
      have hF2425 : Fr 104 a2423 [(35, .bool false), (34, .int .i64 (-(cmpI (nv 256 xs) (nv 256 ys)))), (33, .int .i64 (cmpI (nv 256 xs) (nv 256 ys))), (32, .int .i64 (cmpI (nv 256 ys) (nv 256 xs))), (31, .slice Ax xs.length cx), (30, .slice Ay ys.length cy), (9, .int .i64 (cmpI (nv 256 xs) (nv 256 zs))), (8, .int .i64 (cmpI (nv 256 ys) (nv 256 zs))), (7, .int .i64 (cmpI (nv 256 xs) (nv 256 ys))), (20, .bool ((decide (120 < ((zs.length : Nat) : Int))))), (6, .bool false), (0, .slice Ax xs.length cx), (1, .slice Ay ys.length cy), (2, .slice Az zs.length cz)] := by rw [show (!(decide ((cmpI (nv 256 ys) (nv 256 xs)) = (-(cmpI (nv 256 xs) (nv 256 ys)))))) = false from (congrArg Bool.not (decide_eq_true cmpI_swap))] at hF2424; exact hF2424
      clear hF2424
      refine pures hT 4 _ hF2425 (F' := [(39, .bool ((decide ((cmpI (nv 256 xs) (nv 256 ys)) ≤ 0)))), (38, .bool ((decide ((cmpI (nv 256 xs) (nv 256 ys)) ≤ 0)))), (37, .int .i64 (cmpI (nv 256 xs) (nv 256 ys))), (36, .bool false), (35, .bool false), (34, .int .i64 (-(cmpI (nv 256 xs) (nv 256 ys)))), (33, .int .i64 (cmpI (nv 256 xs) (nv 256 ys))), (32, .int .i64 (cmpI (nv 256 ys) (nv 256 xs))), (31, .slice Ax xs.length cx), (30, .slice Ay ys.length cy), (9, .int .i64 (cmpI (nv 256 xs) (nv 256 zs))), (8, .int .i64 (cmpI (nv 256 ys) (nv 256 zs))), (7, .int .i64 (cmpI (nv 256 xs) (nv 256 ys))), (20, .bool ((decide (120 < ((zs.length : Nat) : Int))))), (6, .bool false), (0, .slice Ax xs.length cx), (1, .slice Ay ys.length cy), (2, .slice Az zs.length cz)]) (cs := []) (by kernel_rfl) trivial ?_
      intro a2426 hF2427; clear hF2425 a2423
      rcases dec_cases ((cmpI (nv 256 xs) (nv 256 ys)) ≤ 0) with ⟨h2428, e2429⟩ | ⟨h2428, e2429⟩
      · rw [e2429] at hF2427; clear e2429
        refine pures hT 4 _ hF2427 (F' := [(43, .bool ((decide ((cmpI (nv 256 ys) (nv 256 zs)) ≤ 0)))), (42, .bool ((decide ((cmpI (nv 256 ys) (nv 256 zs)) ≤ 0)))), (41, .bool ((decide ((cmpI (nv 256 ys) (nv 256 zs)) ≤ 0)))), (40, .int .i64 (cmpI (nv 256 ys) (nv 256 zs))), (39, .bool true), (38, .bool true), (37, .int .i64 (cmpI (nv 256 xs) (nv 256 ys))), (36, .bool false), (35, .bool false), (34, .int .i64 (-(cmpI (nv 256 xs) (nv 256 ys)))), (33, .int .i64 (cmpI (nv 256 xs) (nv 256 ys))), (32, .int .i64 (cmpI (nv 256 ys) (nv 256 xs))), (31, .slice Ax xs.length cx), (30, .slice Ay ys.length cy), (9, .int .i64 (cmpI (nv 256 xs) (nv 256 zs))), (8, .int .i64 (cmpI (nv 256 ys) (nv 256 zs))), (7, .int .i64 (cmpI (nv 256 xs) (nv 256 ys))), (20, .bool ((decide (120 < ((zs.length : Nat) : Int))))), (6, .bool false), (0, .slice Ax xs.length cx), (1, .slice Ay ys.length cy), (2, .slice Az zs.length cz)]) (cs := []) (by kernel_rfl) trivial ?_
        intro a2430 hF2431; clear hF2427 a2426
        rcases dec_cases ((cmpI (nv 256 ys) (nv 256 zs)) ≤ 0) with ⟨h2432, e2433⟩ | ⟨h2432, e2433⟩
        · rw [e2433] at hF2431; clear e2433
          refine pures hT 2 _ hF2431 (F' := [(45, .bool ((decide (0 < (cmpI (nv 256 xs) (nv 256 zs)))))), (44, .int .i64 (cmpI (nv 256 xs) (nv 256 zs))), (43, .bool true), (42, .bool true), (41, .bool true), (40, .int .i64 (cmpI (nv 256 ys) (nv 256 zs))), (39, .bool true), (38, .bool true), (37, .int .i64 (cmpI (nv 256 xs) (nv 256 ys))), (36, .bool false), (35, .bool false), (34, .int .i64 (-(cmpI (nv 256 xs) (nv 256 ys)))), (33, .int .i64 (cmpI (nv 256 xs) (nv 256 ys))), (32, .int .i64 (cmpI (nv 256 ys) (nv 256 xs))), (31, .slice Ax xs.length cx), (30, .slice Ay ys.length cy), (9, .int .i64 (cmpI (nv 256 xs) (nv 256 zs))), (8, .int .i64 (cmpI (nv 256 ys) (nv 256 zs))), (7, .int .i64 (cmpI (nv 256 xs) (nv 256 ys))), (20, .bool ((decide (120 < ((zs.length : Nat) : Int))))), (6, .bool false), (0, .slice Ax xs.length cx), (1, .slice Ay ys.length cy), (2, .slice Az zs.length cz)]) (cs := []) (by kernel_rfl) trivial ?_
          intro a2434 hF2435; clear hF2431 a2430
          have hF2436 : Fr 104 a2434 [(45, .bool false), (44, .int .i64 (cmpI (nv 256 xs) (nv 256 zs))), (43, .bool true), (42, .bool true), (41, .bool true), (40, .int .i64 (cmpI (nv 256 ys) (nv 256 zs))), (39, .bool true), (38, .bool true), (37, .int .i64 (cmpI (nv 256 xs) (nv 256 ys))), (36, .bool false), (35, .bool false), (34, .int .i64 (-(cmpI (nv 256 xs) (nv 256 ys)))), (33, .int .i64 (cmpI (nv 256 xs) (nv 256 ys))), (32, .int .i64 (cmpI (nv 256 ys) (nv 256 xs))), (31, .slice Ax xs.length cx), (30, .slice Ay ys.length cy), (9, .int .i64 (cmpI (nv 256 xs) (nv 256 zs))), (8, .int .i64 (cmpI (nv 256 ys) (nv 256 zs))), (7, .int .i64 (cmpI (nv 256 xs) (nv 256 ys))), (20, .bool ((decide (120 < ((zs.length : Nat) : Int))))), (6, .bool false), (0, .slice Ax xs.length cx), (1, .slice Ay ys.length cy), (2, .slice Az zs.length cz)] := by rw [show ((decide (0 < (cmpI (nv 256 xs) (nv 256 zs))))) = false from (decide_eq_false (by have h1 := @cmpI_le (nv 256 xs) (nv 256 ys); have h2 := @cmpI_le (nv 256 ys) (nv 256 zs); have h3 := @cmpI_gt0 (nv 256 xs) (nv 256 zs); omega))] at hF2435; exact hF2435
          clear hF2435
          refine pures hT 5 _ hF2436 (F' := [(50, .slice Az zs.length cz), (49, .slice Ax xs.length cx), (48, .bool false), (47, .bool false), (46, .bool false), (45, .bool false), (44, .int .i64 (cmpI (nv 256 xs) (nv 256 zs))), (43, .bool true), (42, .bool true), (41, .bool true), (40, .int .i64 (cmpI (nv 256 ys) (nv 256 zs))), (39, .bool true), (38, .bool true), (37, .int .i64 (cmpI (nv 256 xs) (nv 256 ys))), (36, .bool false), (35, .bool false), (34, .int .i64 (-(cmpI (nv 256 xs) (nv 256 ys)))), (33, .int .i64 (cmpI (nv 256 xs) (nv 256 ys))), (32, .int .i64 (cmpI (nv 256 ys) (nv 256 xs))), (31, .slice Ax xs.length cx), (30, .slice Ay ys.length cy), (9, .int .i64 (cmpI (nv 256 xs) (nv 256 zs))), (8, .int .i64 (cmpI (nv 256 ys) (nv 256 zs))), (7, .int .i64 (cmpI (nv 256 xs) (nv 256 ys))), (20, .bool ((decide (120 < ((zs.length : Nat) : Int))))), (6, .bool false), (0, .slice Ax xs.length cx), (1, .slice Ay ys.length cy), (2, .slice Az zs.length cz)]) (cs := []) (by kernel_rfl) trivial ?_
          intro a2437 hF2438; clear hF2436 a2434
          have hz2445 := HE.size
          refine wl (One.bare hF2438 (by kernel_rfl) (s_call (d := 51) (f := 17) (l := [.slice Ax xs.length cx, .slice Az zs.length cz]) (by kernel_rfl) hF2438 cl17 (Add' (A := Ax) (n := xs.length) (c := cx) (x := (nv 256 xs)) (xs := xs) (A2 := Az) (n2 := zs.length) (c2 := cz) (y := (nv 256 zs)) (ys := zs) (w := _) rfl rfl  rfl rfl (hxs.ex HE) (hzs.ex HE) hbxs hbzs (Nat.le_trans hlxs (by decide)) (Nat.le_trans hlzs (by decide))) ?_))
          rintro a2446 w2442 v2443 ⟨A2439, c2440, rfl, HX2444, HO2441⟩ ha2448 hF2447; clear ha2448 hF2438 a2437
          replace HE := HE.thenN HX2444.g
          have hcp2449 := HO2441.cap
          refine pures hT 2 _ hF2447 (F' := [(53, .slice Az zs.length cz), (52, .slice Ay ys.length cy), (51, .slice A2439 ((dig 256 ((nv 256 xs) + (nv 256 zs))).length) c2440), (50, .slice Az zs.length cz), (49, .slice Ax xs.length cx), (48, .bool false), (47, .bool false), (46, .bool false), (45, .bool false), (44, .int .i64 (cmpI (nv 256 xs) (nv 256 zs))), (43, .bool true), (42, .bool true), (41, .bool true), (40, .int .i64 (cmpI (nv 256 ys) (nv 256 zs))), (39, .bool true), (38, .bool true), (37, .int .i64 (cmpI (nv 256 xs) (nv 256 ys))), (36, .bool false), (35, .bool false), (34, .int .i64 (-(cmpI (nv 256 xs) (nv 256 ys)))), (33, .int .i64 (cmpI (nv 256 xs) (nv 256 ys))), (32, .int .i64 (cmpI (nv 256 ys) (nv 256 xs))), (31, .slice Ax xs.length cx), (30, .slice Ay ys.length cy), (9, .int .i64 (cmpI (nv 256 xs) (nv 256 zs))), (8, .int .i64 (cmpI (nv 256 ys) (nv 256 zs))), (7, .int .i64 (cmpI (nv 256 xs) (nv 256 ys))), (20, .bool ((decide (120 < ((zs.length : Nat) : Int))))), (6, .bool false), (0, .slice Ax xs.length cx), (1, .slice Ay ys.length cy), (2, .slice Az zs.length cz)]) (cs := []) (by kernel_rfl) trivial ?_
          intro a2450 hF2451; clear hF2447 a2446
          have hz2458 := HE.size
          have hz2459 := HO2441.base
          refine wl (One.bare hF2451 (by kernel_rfl) (s_call (d := 54) (f := 17) (l := [.slice Ay ys.length cy, .slice Az zs.length cz]) (by kernel_rfl) hF2451 cl17 (Add' (A := Ay) (n := ys.length) (c := cy) (x := (nv 256 ys)) (xs := ys) (A2 := Az) (n2 := zs.length) (c2 := cz) (y := (nv 256 zs)) (ys := zs) (w := _) rfl rfl  rfl rfl (hys.ex HE) (hzs.ex HE) hbys hbzs (Nat.le_trans hlys (by decide)) (Nat.le_trans hlzs (by decide))) ?_))
          rintro a2460 w2455 v2456 ⟨A2452, c2453, rfl, HX2457, HO2454⟩ ha2462 hF2461; clear ha2462 hF2451 a2450
          replace HE := HE.thenN HX2457.g
          replace HO2441 := HO2441.growN HX2457.g
          have hcp2463 := HO2454.cap
          have hz2467 := HE.size
          have hz2468 := HO2441.base
          have hz2469 := HO2454.base
          refine wl (One.bare hF2461 (by kernel_rfl) (s_call (d := 55) (f := 16) (l := [.slice A2439 ((dig 256 ((nv 256 xs) + (nv 256 zs))).length) c2440, .slice A2452 ((dig 256 ((nv 256 ys) + (nv 256 zs))).length) c2453]) (by kernel_rfl) hF2461 cl16 (Cmp' (A := A2439) (n := ((dig 256 ((nv 256 xs) + (nv 256 zs))).length)) (c := c2440) (x := ((nv 256 xs) + (nv 256 zs))) (xs := (dig 256 ((nv 256 xs) + (nv 256 zs)))) (A2 := A2452) (n2 := ((dig 256 ((nv 256 ys) + (nv 256 zs))).length)) (c2 := c2453) (y := ((nv 256 ys) + (nv 256 zs))) (ys := (dig 256 ((nv 256 ys) + (nv 256 zs)))) (w := _) (nvd _) (nvd _)  rfl rfl HO2441.rd HO2454.rd (by_dig _) (by_dig _) (Nat.le_trans (dlen (add_lt (m := 120) (nlen hbxs hlxs) (nlen hbzs hlzs) (by decide) (by decide))) (by decide)) (Nat.le_trans (dlen (add_lt (m := 120) (nlen hbys hlys) (nlen hbzs hlzs) (by decide) (by decide))) (by decide))) ?_))
          rintro a2470 w2464 v2465 ⟨rfl, HX2466⟩ ha2472 hF2471; clear ha2472 hF2461 a2460
          replace HE := HE.thenN HX2466.g
          replace HO2441 := HO2441.growN HX2466.g
          replace HO2454 := HO2454.growN HX2466.g
          refine pures hT 2 _ hF2471 (F' := [(57, .bool (!(decide ((cmpI ((nv 256 xs) + (nv 256 zs)) ((nv 256 ys) + (nv 256 zs))) = (cmpI (nv 256 xs) (nv 256 ys)))))), (56, .int .i64 (cmpI (nv 256 xs) (nv 256 ys))), (55, .int .i64 (cmpI ((nv 256 xs) + (nv 256 zs)) ((nv 256 ys) + (nv 256 zs)))), (54, .slice A2452 ((dig 256 ((nv 256 ys) + (nv 256 zs))).length) c2453), (53, .slice Az zs.length cz), (52, .slice Ay ys.length cy), (51, .slice A2439 ((dig 256 ((nv 256 xs) + (nv 256 zs))).length) c2440), (50, .slice Az zs.length cz), (49, .slice Ax xs.length cx), (48, .bool false), (47, .bool false), (46, .bool false), (45, .bool false), (44, .int .i64 (cmpI (nv 256 xs) (nv 256 zs))), (43, .bool true), (42, .bool true), (41, .bool true), (40, .int .i64 (cmpI (nv 256 ys) (nv 256 zs))), (39, .bool true), (38, .bool true), (37, .int .i64 (cmpI (nv 256 xs) (nv 256 ys))), (36, .bool false), (35, .bool false), (34, .int .i64 (-(cmpI (nv 256 xs) (nv 256 ys)))), (33, .int .i64 (cmpI (nv 256 xs) (nv 256 ys))), (32, .int .i64 (cmpI (nv 256 ys) (nv 256 xs))), (31, .slice Ax xs.length cx), (30, .slice Ay ys.length cy), (9, .int .i64 (cmpI (nv 256 xs) (nv 256 zs))), (8, .int .i64 (cmpI (nv 256 ys) (nv 256 zs))), (7, .int .i64 (cmpI (nv 256 xs) (nv 256 ys))), (20, .bool ((decide (120 < ((zs.length : Nat) : Int))))), (6, .bool false), (0, .slice Ax xs.length cx), (1, .slice Ay ys.length cy), (2, .slice Az zs.length cz)]) (cs := []) (by kernel_rfl) trivial ?_
          intro a2473 hF2474; clear hF2471 a2470
          have hF2475 : Fr 104 a2473 [(57, .bool false), (56, .int .i64 (cmpI (nv 256 xs) (nv 256 ys))), (55, .int .i64 (cmpI ((nv 256 xs) + (nv 256 zs)) ((nv 256 ys) + (nv 256 zs)))), (54, .slice A2452 ((dig 256 ((nv 256 ys) + (nv 256 zs))).length) c2453), (53, .slice Az zs.length cz), (52, .slice Ay ys.length cy), (51, .slice A2439 ((dig 256 ((nv 256 xs) + (nv 256 zs))).length) c2440), (50, .slice Az zs.length cz), (49, .slice Ax xs.length cx), (48, .bool false), (47, .bool false), (46, .bool false), (45, .bool false), (44, .int .i64 (cmpI (nv 256 xs) (nv 256 zs))), (43, .bool true), (42, .bool true), (41, .bool true), (40, .int .i64 (cmpI (nv 256 ys) (nv 256 zs))), (39, .bool true), (38, .bool true), (37, .int .i64 (cmpI (nv 256 xs) (nv 256 ys))), (36, .bool false), (35, .bool false), (34, .int .i64 (-(cmpI (nv 256 xs) (nv 256 ys)))), (33, .int .i64 (cmpI (nv 256 xs) (nv 256 ys))), (32, .int .i64 (cmpI (nv 256 ys) (nv 256 xs))), (31, .slice Ax xs.length cx), (30, .slice Ay ys.length cy), (9, .int .i64 (cmpI (nv 256 xs) (nv 256 zs))), (8, .int .i64 (cmpI (nv 256 ys) (nv 256 zs))), (7, .int .i64 (cmpI (nv 256 xs) (nv 256 ys))), (20, .bool ((decide (120 < ((zs.length : Nat) : Int))))), (6, .bool false), (0, .slice Ax xs.length cx), (1, .slice Ay ys.length cy), (2, .slice Az zs.length cz)] := by rw [show (!(decide ((cmpI ((nv 256 xs) + (nv 256 zs)) ((nv 256 ys) + (nv 256 zs))) = (cmpI (nv 256 xs) (nv 256 ys))))) = false from (congrArg Bool.not (decide_eq_true cmpI_add))] at hF2474; exact hF2474
          clear hF2474
          refine pures hT 4 _ hF2475 (F' := [(61, .slice Ay ys.length cy), (60, .slice Ax xs.length cx), (59, .bool false), (58, .bool false), (57, .bool false), (56, .int .i64 (cmpI (nv 256 xs) (nv 256 ys))), (55, .int .i64 (cmpI ((nv 256 xs) + (nv 256 zs)) ((nv 256 ys) + (nv 256 zs)))), (54, .slice A2452 ((dig 256 ((nv 256 ys) + (nv 256 zs))).length) c2453), (53, .slice Az zs.length cz), (52, .slice Ay ys.length cy), (51, .slice A2439 ((dig 256 ((nv 256 xs) + (nv 256 zs))).length) c2440), (50, .slice Az zs.length cz), (49, .slice Ax xs.length cx), (48, .bool false), (47, .bool false), (46, .bool false), (45, .bool false), (44, .int .i64 (cmpI (nv 256 xs) (nv 256 zs))), (43, .bool true), (42, .bool true), (41, .bool true), (40, .int .i64 (cmpI (nv 256 ys) (nv 256 zs))), (39, .bool true), (38, .bool true), (37, .int .i64 (cmpI (nv 256 xs) (nv 256 ys))), (36, .bool false), (35, .bool false), (34, .int .i64 (-(cmpI (nv 256 xs) (nv 256 ys)))), (33, .int .i64 (cmpI (nv 256 xs) (nv 256 ys))), (32, .int .i64 (cmpI (nv 256 ys) (nv 256 xs))), (31, .slice Ax xs.length cx), (30, .slice Ay ys.length cy), (9, .int .i64 (cmpI (nv 256 xs) (nv 256 zs))), (8, .int .i64 (cmpI (nv 256 ys) (nv 256 zs))), (7, .int .i64 (cmpI (nv 256 xs) (nv 256 ys))), (20, .bool ((decide (120 < ((zs.length : Nat) : Int))))), (6, .bool false), (0, .slice Ax xs.length cx), (1, .slice Ay ys.length cy), (2, .slice Az zs.length cz)]) (cs := []) (by kernel_rfl) trivial ?_
          intro a2476 hF2477; clear hF2475 a2473
          have hz2484 := HE.size
          have hz2485 := HO2441.base
          have hz2486 := HO2454.base
          refine wl (One.bare hF2477 (by kernel_rfl) (s_call (d := 62) (f := 15) (l := [.slice Ax xs.length cx, .slice Ay ys.length cy]) (by kernel_rfl) hF2477 cl15 (Sub' (A := Ax) (n := xs.length) (c := cx) (x := (nv 256 xs)) (xs := xs) (A2 := Ay) (n2 := ys.length) (c2 := cy) (y := (nv 256 ys)) (ys := ys) (w := _) rfl rfl  rfl rfl (hxs.ex HE) (hys.ex HE) hbxs hbys (Nat.le_trans hlxs (by decide)) (Nat.le_trans hlys (by decide))) ?_))
          rintro a2487 w2481 v2482 ⟨A2478, c2479, rfl, HX2483, HO2480⟩ ha2489 hF2488; clear ha2489 hF2477 a2476
          replace HE := HE.thenN HX2483.g
          replace HO2441 := HO2441.growN HX2483.g
          replace HO2454 := HO2454.growN HX2483.g
          have hcp2490 := HO2480.cap
          refine pures hT 4 _ hF2488 (F' := [(66, .bool ((decide ((cmpI (nv 256 xs) (nv 256 ys)) ≤ 0)))), (65, .int .i64 (cmpI (nv 256 xs) (nv 256 ys))), (64, .bool ((decide ((((dig 256 ((nv 256 xs) - (nv 256 ys))).length : Nat) : Int) = 0)))), (63, .int .i64 (((dig 256 ((nv 256 xs) - (nv 256 ys))).length : Nat) : Int)), (62, .slice A2478 ((dig 256 ((nv 256 xs) - (nv 256 ys))).length) c2479), (61, .slice Ay ys.length cy), (60, .slice Ax xs.length cx), (59, .bool false), (58, .bool false), (57, .bool false), (56, .int .i64 (cmpI (nv 256 xs) (nv 256 ys))), (55, .int .i64 (cmpI ((nv 256 xs) + (nv 256 zs)) ((nv 256 ys) + (nv 256 zs)))), (54, .slice A2452 ((dig 256 ((nv 256 ys) + (nv 256 zs))).length) c2453), (53, .slice Az zs.length cz), (52, .slice Ay ys.length cy), (51, .slice A2439 ((dig 256 ((nv 256 xs) + (nv 256 zs))).length) c2440), (50, .slice Az zs.length cz), (49, .slice Ax xs.length cx), (48, .bool false), (47, .bool false), (46, .bool false), (45, .bool false), (44, .int .i64 (cmpI (nv 256 xs) (nv 256 zs))), (43, .bool true), (42, .bool true), (41, .bool true), (40, .int .i64 (cmpI (nv 256 ys) (nv 256 zs))), (39, .bool true), (38, .bool true), (37, .int .i64 (cmpI (nv 256 xs) (nv 256 ys))), (36, .bool false), (35, .bool false), (34, .int .i64 (-(cmpI (nv 256 xs) (nv 256 ys)))), (33, .int .i64 (cmpI (nv 256 xs) (nv 256 ys))), (32, .int .i64 (cmpI (nv 256 ys) (nv 256 xs))), (31, .slice Ax xs.length cx), (30, .slice Ay ys.length cy), (9, .int .i64 (cmpI (nv 256 xs) (nv 256 zs))), (8, .int .i64 (cmpI (nv 256 ys) (nv 256 zs))), (7, .int .i64 (cmpI (nv 256 xs) (nv 256 ys))), (20, .bool ((decide (120 < ((zs.length : Nat) : Int))))), (6, .bool false), (0, .slice Ax xs.length cx), (1, .slice Ay ys.length cy), (2, .slice Az zs.length cz)]) (cs := []) (by kernel_rfl) trivial ?_
          intro a2491 hF2492; clear hF2488 a2487
          refine wl (One.bare hF2492 (by kernel_rfl) (s_beq hT (d := 67) (b := !((decide ((((dig 256 ((nv 256 xs) - (nv 256 ys))).length : Nat) : Int) = 0)) == (decide ((cmpI (nv 256 xs) (nv 256 ys)) ≤ 0)))) (by kernel_rfl) hF2492 ?_))
          rintro a2493 ha2495 hF2494; clear ha2495 hF2492 a2491
          have hF2496 : Fr 104 a2493 [(67, .bool false), (66, .bool ((decide ((cmpI (nv 256 xs) (nv 256 ys)) ≤ 0)))), (65, .int .i64 (cmpI (nv 256 xs) (nv 256 ys))), (64, .bool ((decide ((((dig 256 ((nv 256 xs) - (nv 256 ys))).length : Nat) : Int) = 0)))), (63, .int .i64 (((dig 256 ((nv 256 xs) - (nv 256 ys))).length : Nat) : Int)), (62, .slice A2478 ((dig 256 ((nv 256 xs) - (nv 256 ys))).length) c2479), (61, .slice Ay ys.length cy), (60, .slice Ax xs.length cx), (59, .bool false), (58, .bool false), (57, .bool false), (56, .int .i64 (cmpI (nv 256 xs) (nv 256 ys))), (55, .int .i64 (cmpI ((nv 256 xs) + (nv 256 zs)) ((nv 256 ys) + (nv 256 zs)))), (54, .slice A2452 ((dig 256 ((nv 256 ys) + (nv 256 zs))).length) c2453), (53, .slice Az zs.length cz), (52, .slice Ay ys.length cy), (51, .slice A2439 ((dig 256 ((nv 256 xs) + (nv 256 zs))).length) c2440), (50, .slice Az zs.length cz), (49, .slice Ax xs.length cx), (48, .bool false), (47, .bool false), (46, .bool false), (45, .bool false), (44, .int .i64 (cmpI (nv 256 xs) (nv 256 zs))), (43, .bool true), (42, .bool true), (41, .bool true), (40, .int .i64 (cmpI (nv 256 ys) (nv 256 zs))), (39, .bool true), (38, .bool true), (37, .int .i64 (cmpI (nv 256 xs) (nv 256 ys))), (36, .bool false), (35, .bool false), (34, .int .i64 (-(cmpI (nv 256 xs) (nv 256 ys)))), (33, .int .i64 (cmpI (nv 256 xs) (nv 256 ys))), (32, .int .i64 (cmpI (nv 256 ys) (nv 256 xs))), (31, .slice Ax xs.length cx), (30, .slice Ay ys.length cy), (9, .int .i64 (cmpI (nv 256 xs) (nv 256 zs))), (8, .int .i64 (cmpI (nv 256 ys) (nv 256 zs))), (7, .int .i64 (cmpI (nv 256 xs) (nv 256 ys))), (20, .bool ((decide (120 < ((zs.length : Nat) : Int))))), (6, .bool false), (0, .slice Ax xs.length cx), (1, .slice Ay ys.length cy), (2, .slice Az zs.length cz)] := by rw [show (!((decide ((((dig 256 ((nv 256 xs) - (nv 256 ys))).length : Nat) : Int) = 0)) == (decide ((cmpI (nv 256 xs) (nv 256 ys)) ≤ 0)))) = false from (by rw [beq_dec (by have h1 := @cmpI_le (nv 256 xs) (nv 256 ys); have h2 := len0 (nv 256 xs - nv 256 ys); have h3 := len0' (nv 256 xs - nv 256 ys); omega)]; rfl)] at hF2494; exact hF2494
          clear hF2494
          refine pures_end hT 1 _ hF2496 (F' := [(68, .bool false), (67, .bool false), (66, .bool ((decide ((cmpI (nv 256 xs) (nv 256 ys)) ≤ 0)))), (65, .int .i64 (cmpI (nv 256 xs) (nv 256 ys))), (64, .bool ((decide ((((dig 256 ((nv 256 xs) - (nv 256 ys))).length : Nat) : Int) = 0)))), (63, .int .i64 (((dig 256 ((nv 256 xs) - (nv 256 ys))).length : Nat) : Int)), (62, .slice A2478 ((dig 256 ((nv 256 xs) - (nv 256 ys))).length) c2479), (61, .slice Ay ys.length cy), (60, .slice Ax xs.length cx), (59, .bool false), (58, .bool false), (57, .bool false), (56, .int .i64 (cmpI (nv 256 xs) (nv 256 ys))), (55, .int .i64 (cmpI ((nv 256 xs) + (nv 256 zs)) ((nv 256 ys) + (nv 256 zs)))), (54, .slice A2452 ((dig 256 ((nv 256 ys) + (nv 256 zs))).length) c2453), (53, .slice Az zs.length cz), (52, .slice Ay ys.length cy), (51, .slice A2439 ((dig 256 ((nv 256 xs) + (nv 256 zs))).length) c2440), (50, .slice Az zs.length cz), (49, .slice Ax xs.length cx), (48, .bool false), (47, .bool false), (46, .bool false), (45, .bool false), (44, .int .i64 (cmpI (nv 256 xs) (nv 256 zs))), (43, .bool true), (42, .bool true), (41, .bool true), (40, .int .i64 (cmpI (nv 256 ys) (nv 256 zs))), (39, .bool true), (38, .bool true), (37, .int .i64 (cmpI (nv 256 xs) (nv 256 ys))), (36, .bool false), (35, .bool false), (34, .int .i64 (-(cmpI (nv 256 xs) (nv 256 ys)))), (33, .int .i64 (cmpI (nv 256 xs) (nv 256 ys))), (32, .int .i64 (cmpI (nv 256 ys) (nv 256 xs))), (31, .slice Ax xs.length cx), (30, .slice Ay ys.length cy), (9, .int .i64 (cmpI (nv 256 xs) (nv 256 zs))), (8, .int .i64 (cmpI (nv 256 ys) (nv 256 zs))), (7, .int .i64 (cmpI (nv 256 xs) (nv 256 ys))), (20, .bool ((decide (120 < ((zs.length : Nat) : Int))))), (6, .bool false), (0, .slice Ax xs.length cx), (1, .slice Ay ys.length cy), (2, .slice Az zs.length cz)]) (cs := []) (by kernel_rfl) rfl trivial ?_
          intro a2497 hF2498; clear hF2496 a2493
          have hF2499 := hF2498.pick [68, 9, 8, 7, 20, 6, 0, 1, 2] (G := [(68, .bool false), (9, .int .i64 (cmpI (nv 256 xs) (nv 256 zs))), (8, .int .i64 (cmpI (nv 256 ys) (nv 256 zs))), (7, .int .i64 (cmpI (nv 256 xs) (nv 256 ys))), (20, .bool ((decide (120 < ((zs.length : Nat) : Int))))), (6, .bool false), (0, .slice Ax xs.length cx), (1, .slice Ay ys.length cy), (2, .slice Az zs.length cz)]) (by kernel_rfl); clear hF2498
          refine hK2413 _ _ ?_
          refine condF hF2499 (by kernel_rfl) ?_
          refine wp_skip ?_
          exact hK75 _ _ ⟨hF2499.pick [0, 1, 2, 7] (by kernel_rfl), HE⟩
        · rw [e2433] at hF2431; clear e2433
          refine pures hT 7 _ hF2431 (F' := [(50, .slice Az zs.length cz), (49, .slice Ax xs.length cx), (48, .bool false), (47, .bool false), (46, .bool false), (45, undef), (44, undef), (43, .bool false), (42, .bool false), (41, .bool false), (40, .int .i64 (cmpI (nv 256 ys) (nv 256 zs))), (39, .bool true), (38, .bool true), (37, .int .i64 (cmpI (nv 256 xs) (nv 256 ys))), (36, .bool false), (35, .bool false), (34, .int .i64 (-(cmpI (nv 256 xs) (nv 256 ys)))), (33, .int .i64 (cmpI (nv 256 xs) (nv 256 ys))), (32, .int .i64 (cmpI (nv 256 ys) (nv 256 xs))), (31, .slice Ax xs.length cx), (30, .slice Ay ys.length cy), (9, .int .i64 (cmpI (nv 256 xs) (nv 256 zs))), (8, .int .i64 (cmpI (nv 256 ys) (nv 256 zs))), (7, .int .i64 (cmpI (nv 256 xs) (nv 256 ys))), (20, .bool ((decide (120 < ((zs.length : Nat) : Int))))), (6, .bool false), (0, .slice Ax xs.length cx), (1, .slice Ay ys.length cy), (2, .slice Az zs.length cz)]) (cs := []) (by kernel_rfl) trivial ?_
          intro a2500 hF2501; clear hF2431 a2430
          have hz2508 := HE.size
          refine wl (One.bare hF2501 (by kernel_rfl) (s_call (d := 51) (f := 17) (l := [.slice Ax xs.length cx, .slice Az zs.length cz]) (by kernel_rfl) hF2501 cl17 (Add' (A := Ax) (n := xs.length) (c := cx) (x := (nv 256 xs)) (xs := xs) (A2 := Az) (n2 := zs.length) (c2 := cz) (y := (nv 256 zs)) (ys := zs) (w := _) rfl rfl  rfl rfl (hxs.ex HE) (hzs.ex HE) hbxs hbzs (Nat.le_trans hlxs (by decide)) (Nat.le_trans hlzs (by decide))) ?_))
          rintro a2509 w2505 v2506 ⟨A2502, c2503, rfl, HX2507, HO2504⟩ ha2511 hF2510; clear ha2511 hF2501 a2500
          replace HE := HE.thenN HX2507.g
          have hcp2512 := HO2504.cap
          refine pures hT 2 _ hF2510 (F' := [(53, .slice Az zs.length cz), (52, .slice Ay ys.length cy), (51, .slice A2502 ((dig 256 ((nv 256 xs) + (nv 256 zs))).length) c2503), (50, .slice Az zs.length cz), (49, .slice Ax xs.length cx), (48, .bool false), (47, .bool false), (46, .bool false), (45, undef), (44, undef), (43, .bool false), (42, .bool false), (41, .bool false), (40, .int .i64 (cmpI (nv 256 ys) (nv 256 zs))), (39, .bool true), (38, .bool true), (37, .int .i64 (cmpI (nv 256 xs) (nv 256 ys))), (36, .bool false), (35, .bool false), (34, .int .i64 (-(cmpI (nv 256 xs) (nv 256 ys)))), (33, .int .i64 (cmpI (nv 256 xs) (nv 256 ys))), (32, .int .i64 (cmpI (nv 256 ys) (nv 256 xs))), (31, .slice Ax xs.length cx), (30, .slice Ay ys.length cy), (9, .int .i64 (cmpI (nv 256 xs) (nv 256 zs))), (8, .int .i64 (cmpI (nv 256 ys) (nv 256 zs))), (7, .int .i64 (cmpI (nv 256 xs) (nv 256 ys))), (20, .bool ((decide (120 < ((zs.length : Nat) : Int))))), (6, .bool false), (0, .slice Ax xs.length cx), (1, .slice Ay ys.length cy), (2, .slice Az zs.length cz)]) (cs := []) (by kernel_rfl) trivial ?_
          intro a2513 hF2514; clear hF2510 a2509
          have hz2521 := HE.size
          have hz2522 := HO2504.base
          refine wl (One.bare hF2514 (by kernel_rfl) (s_call (d := 54) (f := 17) (l := [.slice Ay ys.length cy, .slice Az zs.length cz]) (by kernel_rfl) hF2514 cl17 (Add' (A := Ay) (n := ys.length) (c := cy) (x := (nv 256 ys)) (xs := ys) (A2 := Az) (n2 := zs.length) (c2 := cz) (y := (nv 256 zs)) (ys := zs) (w := _) rfl rfl  rfl rfl (hys.ex HE) (hzs.ex HE) hbys hbzs (Nat.le_trans hlys (by decide)) (Nat.le_trans hlzs (by decide))) ?_))
          rintro a2523 w2518 v2519 ⟨A2515, c2516, rfl, HX2520, HO2517⟩ ha2525 hF2524; clear ha2525 hF2514 a2513
          replace HE := HE.thenN HX2520.g
          replace HO2504 := HO2504.growN HX2520.g
          have hcp2526 := HO2517.cap
          have hz2530 := HE.size
          have hz2531 := HO2504.base
          have hz2532 := HO2517.base
          refine wl (One.bare hF2524 (by kernel_rfl) (s_call (d := 55) (f := 16) (l := [.slice A2502 ((dig 256 ((nv 256 xs) + (nv 256 zs))).length) c2503, .slice A2515 ((dig 256 ((nv 256 ys) + (nv 256 zs))).length) c2516]) (by kernel_rfl) hF2524 cl16 (Cmp' (A := A2502) (n := ((dig 256 ((nv 256 xs) + (nv 256 zs))).length)) (c := c2503) (x := ((nv 256 xs) + (nv 256 zs))) (xs := (dig 256 ((nv 256 xs) + (nv 256 zs)))) (A2 := A2515) (n2 := ((dig 256 ((nv 256 ys) + (nv 256 zs))).length)) (c2 := c2516) (y := ((nv 256 ys) + (nv 256 zs))) (ys := (dig 256 ((nv 256 ys) + (nv 256 zs)))) (w := _) (nvd _) (nvd _)  rfl rfl HO2504.rd HO2517.rd (by_dig _) (by_dig _) (Nat.le_trans (dlen (add_lt (m := 120) (nlen hbxs hlxs) (nlen hbzs hlzs) (by decide) (by decide))) (by decide)) (Nat.le_trans (dlen (add_lt (m := 120) (nlen hbys hlys) (nlen hbzs hlzs) (by decide) (by decide))) (by decide))) ?_))
          rintro a2533 w2527 v2528 ⟨rfl, HX2529⟩ ha2535 hF2534; clear ha2535 hF2524 a2523
          replace HE := HE.thenN HX2529.g
          replace HO2504 := HO2504.growN HX2529.g
          replace HO2517 := HO2517.growN HX2529.g
          refine pures hT 2 _ hF2534 (F' := [(57, .bool (!(decide ((cmpI ((nv 256 xs) + (nv 256 zs)) ((nv 256 ys) + (nv 256 zs))) = (cmpI (nv 256 xs) (nv 256 ys)))))), (56, .int .i64 (cmpI (nv 256 xs) (nv 256 ys))), (55, .int .i64 (cmpI ((nv 256 xs) + (nv 256 zs)) ((nv 256 ys) + (nv 256 zs)))), (54, .slice A2515 ((dig 256 ((nv 256 ys) + (nv 256 zs))).length) c2516), (53, .slice Az zs.length cz), (52, .slice Ay ys.length cy), (51, .slice A2502 ((dig 256 ((nv 256 xs) + (nv 256 zs))).length) c2503), (50, .slice Az zs.length cz), (49, .slice Ax xs.length cx), (48, .bool false), (47, .bool false), (46, .bool false), (45, undef), (44, undef), (43, .bool false), (42, .bool false), (41, .bool false), (40, .int .i64 (cmpI (nv 256 ys) (nv 256 zs))), (39, .bool true), (38, .bool true), (37, .int .i64 (cmpI (nv 256 xs) (nv 256 ys))), (36, .bool false), (35, .bool false), (34, .int .i64 (-(cmpI (nv 256 xs) (nv 256 ys)))), (33, .int .i64 (cmpI (nv 256 xs) (nv 256 ys))), (32, .int .i64 (cmpI (nv 256 ys) (nv 256 xs))), (31, .slice Ax xs.length cx), (30, .slice Ay ys.length cy), (9, .int .i64 (cmpI (nv 256 xs) (nv 256 zs))), (8, .int .i64 (cmpI (nv 256 ys) (nv 256 zs))), (7, .int .i64 (cmpI (nv 256 xs) (nv 256 ys))), (20, .bool ((decide (120 < ((zs.length : Nat) : Int))))), (6, .bool false), (0, .slice Ax xs.length cx), (1, .slice Ay ys.length cy), (2, .slice Az zs.length cz)]) (cs := []) (by kernel_rfl) trivial ?_
          intro a2536 hF2537; clear hF2534 a2533
          have hF2538 : Fr 104 a2536 [(57, .bool false), (56, .int .i64 (cmpI (nv 256 xs) (nv 256 ys))), (55, .int .i64 (cmpI ((nv 256 xs) + (nv 256 zs)) ((nv 256 ys) + (nv 256 zs)))), (54, .slice A2515 ((dig 256 ((nv 256 ys) + (nv 256 zs))).length) c2516), (53, .slice Az zs.length cz), (52, .slice Ay ys.length cy), (51, .slice A2502 ((dig 256 ((nv 256 xs) + (nv 256 zs))).length) c2503), (50, .slice Az zs.length cz), (49, .slice Ax xs.length cx), (48, .bool false), (47, .bool false), (46, .bool false), (45, undef), (44, undef), (43, .bool false), (42, .bool false), (41, .bool false), (40, .int .i64 (cmpI (nv 256 ys) (nv 256 zs))), (39, .bool true), (38, .bool true), (37, .int .i64 (cmpI (nv 256 xs) (nv 256 ys))), (36, .bool false), (35, .bool false), (34, .int .i64 (-(cmpI (nv 256 xs) (nv 256 ys)))), (33, .int .i64 (cmpI (nv 256 xs) (nv 256 ys))), (32, .int .i64 (cmpI (nv 256 ys) (nv 256 xs))), (31, .slice Ax xs.length cx), (30, .slice Ay ys.length cy), (9, .int .i64 (cmpI (nv 256 xs) (nv 256 zs))), (8, .int .i64 (cmpI (nv 256 ys) (nv 256 zs))), (7, .int .i64 (cmpI (nv 256 xs) (nv 256 ys))), (20, .bool ((decide (120 < ((zs.length : Nat) : Int))))), (6, .bool false), (0, .slice Ax xs.length cx), (1, .slice Ay ys.length cy), (2, .slice Az zs.length cz)] := by rw [show (!(decide ((cmpI ((nv 256 xs) + (nv 256 zs)) ((nv 256 ys) + (nv 256 zs))) = (cmpI (nv 256 xs) (nv 256 ys))))) = false from (congrArg Bool.not (decide_eq_true cmpI_add))] at hF2537; exact hF2537
          clear hF2537
          refine pures hT 4 _ hF2538 (F' := [(61, .slice Ay ys.length cy), (60, .slice Ax xs.length cx), (59, .bool false), (58, .bool false), (57, .bool false), (56, .int .i64 (cmpI (nv 256 xs) (nv 256 ys))), (55, .int .i64 (cmpI ((nv 256 xs) + (nv 256 zs)) ((nv 256 ys) + (nv 256 zs)))), (54, .slice A2515 ((dig 256 ((nv 256 ys) + (nv 256 zs))).length) c2516), (53, .slice Az zs.length cz), (52, .slice Ay ys.length cy), (51, .slice A2502 ((dig 256 ((nv 256 xs) + (nv 256 zs))).length) c2503), (50, .slice Az zs.length cz), (49, .slice Ax xs.length cx), (48, .bool false), (47, .bool false), (46, .bool false), (45, undef), (44, undef), (43, .bool false), (42, .bool false), (41, .bool false), (40, .int .i64 (cmpI (nv 256 ys) (nv 256 zs))), (39, .bool true), (38, .bool true), (37, .int .i64 (cmpI (nv 256 xs) (nv 256 ys))), (36, .bool false), (35, .bool false), (34, .int .i64 (-(cmpI (nv 256 xs) (nv 256 ys)))), (33, .int .i64 (cmpI (nv 256 xs) (nv 256 ys))), (32, .int .i64 (cmpI (nv 256 ys) (nv 256 xs))), (31, .slice Ax xs.length cx), (30, .slice Ay ys.length cy), (9, .int .i64 (cmpI (nv 256 xs) (nv 256 zs))), (8, .int .i64 (cmpI (nv 256 ys) (nv 256 zs))), (7, .int .i64 (cmpI (nv 256 xs) (nv 256 ys))), (20, .bool ((decide (120 < ((zs.length : Nat) : Int))))), (6, .bool false), (0, .slice Ax xs.length cx), (1, .slice Ay ys.length cy), (2, .slice Az zs.length cz)]) (cs := []) (by kernel_rfl) trivial ?_
          intro a2539 hF2540; clear hF2538 a2536
          have hz2547 := HE.size
          have hz2548 := HO2504.base
          have hz2549 := HO2517.base
          refine wl (One.bare hF2540 (by kernel_rfl) (s_call (d := 62) (f := 15) (l := [.slice Ax xs.length cx, .slice Ay ys.length cy]) (by kernel_rfl) hF2540 cl15 (Sub' (A := Ax) (n := xs.length) (c := cx) (x := (nv 256 xs)) (xs := xs) (A2 := Ay) (n2 := ys.length) (c2 := cy) (y := (nv 256 ys)) (ys := ys) (w := _) rfl rfl  rfl rfl (hxs.ex HE) (hys.ex HE) hbxs hbys (Nat.le_trans hlxs (by decide)) (Nat.le_trans hlys (by decide))) ?_))
          rintro a2550 w2544 v2545 ⟨A2541, c2542, rfl, HX2546, HO2543⟩ ha2552 hF2551; clear ha2552 hF2540 a2539
          replace HE := HE.thenN HX2546.g
          replace HO2504 := HO2504.growN HX2546.g
          replace HO2517 := HO2517.growN HX2546.g
          have hcp2553 := HO2543.cap
          refine pures hT 4 _ hF2551 (F' := [(66, .bool ((decide ((cmpI (nv 256 xs) (nv 256 ys)) ≤ 0)))), (65, .int .i64 (cmpI (nv 256 xs) (nv 256 ys))), (64, .bool ((decide ((((dig 256 ((nv 256 xs) - (nv 256 ys))).length : Nat) : Int) = 0)))), (63, .int .i64 (((dig 256 ((nv 256 xs) - (nv 256 ys))).length : Nat) : Int)), (62, .slice A2541 ((dig 256 ((nv 256 xs) - (nv 256 ys))).length) c2542), (61, .slice Ay ys.length cy), (60, .slice Ax xs.length cx), (59, .bool false), (58, .bool false), (57, .bool false), (56, .int .i64 (cmpI (nv 256 xs) (nv 256 ys))), (55, .int .i64 (cmpI ((nv 256 xs) + (nv 256 zs)) ((nv 256 ys) + (nv 256 zs)))), (54, .slice A2515 ((dig 256 ((nv 256 ys) + (nv 256 zs))).length) c2516), (53, .slice Az zs.length cz), (52, .slice Ay ys.length cy), (51, .slice A2502 ((dig 256 ((nv 256 xs) + (nv 256 zs))).length) c2503), (50, .slice Az zs.length cz), (49, .slice Ax xs.length cx), (48, .bool false), (47, .bool false), (46, .bool false), (45, undef), (44, undef), (43, .bool false), (42, .bool false), (41, .bool false), (40, .int .i64 (cmpI (nv 256 ys) (nv 256 zs))), (39, .bool true), (38, .bool true), (37, .int .i64 (cmpI (nv 256 xs) (nv 256 ys))), (36, .bool false), (35, .bool false), (34, .int .i64 (-(cmpI (nv 256 xs) (nv 256 ys)))), (33, .int .i64 (cmpI (nv 256 xs) (nv 256 ys))), (32, .int .i64 (cmpI (nv 256 ys) (nv 256 xs))), (31, .slice Ax xs.length cx), (30, .slice Ay ys.length cy), (9, .int .i64 (cmpI (nv 256 xs) (nv 256 zs))), (8, .int .i64 (cmpI (nv 256 ys) (nv 256 zs))), (7, .int .i64 (cmpI (nv 256 xs) (nv 256 ys))), (20, .bool ((decide (120 < ((zs.length : Nat) : Int))))), (6, .bool false), (0, .slice Ax xs.length cx), (1, .slice Ay ys.length cy), (2, .slice Az zs.length cz)]) (cs := []) (by kernel_rfl) trivial ?_
          intro a2554 hF2555; clear hF2551 a2550
          refine wl (One.bare hF2555 (by kernel_rfl) (s_beq hT (d := 67) (b := !((decide ((((dig 256 ((nv 256 xs) - (nv 256 ys))).length : Nat) : Int) = 0)) == (decide ((cmpI (nv 256 xs) (nv 256 ys)) ≤ 0)))) (by kernel_rfl) hF2555 ?_))
          rintro a2556 ha2558 hF2557; clear ha2558 hF2555 a2554
          have hF2559 : Fr 104 a2556 [(67, .bool false), (66, .bool ((decide ((cmpI (nv 256 xs) (nv 256 ys)) ≤ 0)))), (65, .int .i64 (cmpI (nv 256 xs) (nv 256 ys))), (64, .bool ((decide ((((dig 256 ((nv 256 xs) - (nv 256 ys))).length : Nat) : Int) = 0)))), (63, .int .i64 (((dig 256 ((nv 256 xs) - (nv 256 ys))).length : Nat) : Int)), (62, .slice A2541 ((dig 256 ((nv 256 xs) - (nv 256 ys))).length) c2542), (61, .slice Ay ys.length cy), (60, .slice Ax xs.length cx), (59, .bool false), (58, .bool false), (57, .bool false), (56, .int .i64 (cmpI (nv 256 xs) (nv 256 ys))), (55, .int .i64 (cmpI ((nv 256 xs) + (nv 256 zs)) ((nv 256 ys) + (nv 256 zs)))), (54, .slice A2515 ((dig 256 ((nv 256 ys) + (nv 256 zs))).length) c2516), (53, .slice Az zs.length cz), (52, .slice Ay ys.length cy), (51, .slice A2502 ((dig 256 ((nv 256 xs) + (nv 256 zs))).length) c2503), (50, .slice Az zs.length cz), (49, .slice Ax xs.length cx), (48, .bool false), (47, .bool false), (46, .bool false), (45, undef), (44, undef), (43, .bool false), (42, .bool false), (41, .bool false), (40, .int .i64 (cmpI (nv 256 ys) (nv 256 zs))), (39, .bool true), (38, .bool true), (37, .int .i64 (cmpI (nv 256 xs) (nv 256 ys))), (36, .bool false), (35, .bool false), (34, .int .i64 (-(cmpI (nv 256 xs) (nv 256 ys)))), (33, .int .i64 (cmpI (nv 256 xs) (nv 256 ys))), (32, .int .i64 (cmpI (nv 256 ys) (nv 256 xs))), (31, .slice Ax xs.length cx), (30, .slice Ay ys.length cy), (9, .int .i64 (cmpI (nv 256 xs) (nv 256 zs))), (8, .int .i64 (cmpI (nv 256 ys) (nv 256 zs))), (7, .int .i64 (cmpI (nv 256 xs) (nv 256 ys))), (20, .bool ((decide (120 < ((zs.length : Nat) : Int))))), (6, .bool false), (0, .slice Ax xs.length cx), (1, .slice Ay ys.length cy), (2, .slice Az zs.length cz)] := by rw [show (!((decide ((((dig 256 ((nv 256 xs) - (nv 256 ys))).length : Nat) : Int) = 0)) == (decide ((cmpI (nv 256 xs) (nv 256 ys)) ≤ 0)))) = false from (by rw [beq_dec (by have h1 := @cmpI_le (nv 256 xs) (nv 256 ys); have h2 := len0 (nv 256 xs - nv 256 ys); have h3 := len0' (nv 256 xs - nv 256 ys); omega)]; rfl)] at hF2557; exact hF2557
          clear hF2557
          refine pures_end hT 1 _ hF2559 (F' := [(68, .bool false), (67, .bool false), (66, .bool ((decide ((cmpI (nv 256 xs) (nv 256 ys)) ≤ 0)))), (65, .int .i64 (cmpI (nv 256 xs) (nv 256 ys))), (64, .bool ((decide ((((dig 256 ((nv 256 xs) - (nv 256 ys))).length : Nat) : Int) = 0)))), (63, .int .i64 (((dig 256 ((nv 256 xs) - (nv 256 ys))).length : Nat) : Int)), (62, .slice A2541 ((dig 256 ((nv 256 xs) - (nv 256 ys))).length) c2542), (61, .slice Ay ys.length cy), (60, .slice Ax xs.length cx), (59, .bool false), (58, .bool false), (57, .bool false), (56, .int .i64 (cmpI (nv 256 xs) (nv 256 ys))), (55, .int .i64 (cmpI ((nv 256 xs) + (nv 256 zs)) ((nv 256 ys) + (nv 256 zs)))), (54, .slice A2515 ((dig 256 ((nv 256 ys) + (nv 256 zs))).length) c2516), (53, .slice Az zs.length cz), (52, .slice Ay ys.length cy), (51, .slice A2502 ((dig 256 ((nv 256 xs) + (nv 256 zs))).length) c2503), (50, .slice Az zs.length cz), (49, .slice Ax xs.length cx), (48, .bool false), (47, .bool false), (46, .bool false), (45, undef), (44, undef), (43, .bool false), (42, .bool false), (41, .bool false), (40, .int .i64 (cmpI (nv 256 ys) (nv 256 zs))), (39, .bool true), (38, .bool true), (37, .int .i64 (cmpI (nv 256 xs) (nv 256 ys))), (36, .bool false), (35, .bool false), (34, .int .i64 (-(cmpI (nv 256 xs) (nv 256 ys)))), (33, .int .i64 (cmpI (nv 256 xs) (nv 256 ys))), (32, .int .i64 (cmpI (nv 256 ys) (nv 256 xs))), (31, .slice Ax xs.length cx), (30, .slice Ay ys.length cy), (9, .int .i64 (cmpI (nv 256 xs) (nv 256 zs))), (8, .int .i64 (cmpI (nv 256 ys) (nv 256 zs))), (7, .int .i64 (cmpI (nv 256 xs) (nv 256 ys))), (20, .bool ((decide (120 < ((zs.length : Nat) : Int))))), (6, .bool false), (0, .slice Ax xs.length cx), (1, .slice Ay ys.length cy), (2, .slice Az zs.length cz)]) (cs := []) (by kernel_rfl) rfl trivial ?_
          intro a2560 hF2561; clear hF2559 a2556
          have hF2562 := hF2561.pick [68, 9, 8, 7, 20, 6, 0, 1, 2] (G := [(68, .bool false), (9, .int .i64 (cmpI (nv 256 xs) (nv 256 zs))), (8, .int .i64 (cmpI (nv 256 ys) (nv 256 zs))), (7, .int .i64 (cmpI (nv 256 xs) (nv 256 ys))), (20, .bool ((decide (120 < ((zs.length : Nat) : Int))))), (6, .bool false), (0, .slice Ax xs.length cx), (1, .slice Ay ys.length cy), (2, .slice Az zs.length cz)]) (by kernel_rfl); clear hF2561
          refine hK2413 _ _ ?_
          refine condF hF2562 (by kernel_rfl) ?_
          refine wp_skip ?_
          exact hK75 _ _ ⟨hF2562.pick [0, 1, 2, 7] (by kernel_rfl), HE⟩
      · rw [e2429] at hF2427; clear e2429
        refine pures hT 11 _ hF2427 (F' := [(50, .slice Az zs.length cz), (49, .slice Ax xs.length cx), (48, .bool false), (47, .bool false), (46, .bool false), (45, undef), (44, undef), (43, .bool false), (42, .bool false), (41, undef), (40, undef), (39, .bool false), (38, .bool false), (37, .int .i64 (cmpI (nv 256 xs) (nv 256 ys))), (36, .bool false), (35, .bool false), (34, .int .i64 (-(cmpI (nv 256 xs) (nv 256 ys)))), (33, .int .i64 (cmpI (nv 256 xs) (nv 256 ys))), (32, .int .i64 (cmpI (nv 256 ys) (nv 256 xs))), (31, .slice Ax xs.length cx), (30, .slice Ay ys.length cy), (9, .int .i64 (cmpI (nv 256 xs) (nv 256 zs))), (8, .int .i64 (cmpI (nv 256 ys) (nv 256 zs))), (7, .int .i64 (cmpI (nv 256 xs) (nv 256 ys))), (20, .bool ((decide (120 < ((zs.length : Nat) : Int))))), (6, .bool false), (0, .slice Ax xs.length cx), (1, .slice Ay ys.length cy), (2, .slice Az zs.length cz)]) (cs := []) (by kernel_rfl) trivial ?_
        intro a2563 hF2564; clear hF2427 a2426
        have hz2571 := HE.size
        refine wl (One.bare hF2564 (by kernel_rfl) (s_call (d := 51) (f := 17) (l := [.slice Ax xs.length cx, .slice Az zs.length cz]) (by kernel_rfl) hF2564 cl17 (Add' (A := Ax) (n := xs.length) (c := cx) (x := (nv 256 xs)) (xs := xs) (A2 := Az) (n2 := zs.length) (c2 := cz) (y := (nv 256 zs)) (ys := zs) (w := _) rfl rfl  rfl rfl (hxs.ex HE) (hzs.ex HE) hbxs hbzs (Nat.le_trans hlxs (by decide)) (Nat.le_trans hlzs (by decide))) ?_))
        rintro a2572 w2568 v2569 ⟨A2565, c2566, rfl, HX2570, HO2567⟩ ha2574 hF2573; clear ha2574 hF2564 a2563
        replace HE := HE.thenN HX2570.g
        have hcp2575 := HO2567.cap
        refine pures hT 2 _ hF2573 (F' := [(53, .slice Az zs.length cz), (52, .slice Ay ys.length cy), (51, .slice A2565 ((dig 256 ((nv 256 xs) + (nv 256 zs))).length) c2566), (50, .slice Az zs.length cz), (49, .slice Ax xs.length cx), (48, .bool false), (47, .bool false), (46, .bool false), (45, undef), (44, undef), (43, .bool false), (42, .bool false), (41, undef), (40, undef), (39, .bool false), (38, .bool false), (37, .int .i64 (cmpI (nv 256 xs) (nv 256 ys))), (36, .bool false), (35, .bool false), (34, .int .i64 (-(cmpI (nv 256 xs) (nv 256 ys)))), (33, .int .i64 (cmpI (nv 256 xs) (nv 256 ys))), (32, .int .i64 (cmpI (nv 256 ys) (nv 256 xs))), (31, .slice Ax xs.length cx), (30, .slice Ay ys.length cy), (9, .int .i64 (cmpI (nv 256 xs) (nv 256 zs))), (8, .int .i64 (cmpI (nv 256 ys) (nv 256 zs))), (7, .int .i64 (cmpI (nv 256 xs) (nv 256 ys))), (20, .bool ((decide (120 < ((zs.length : Nat) : Int))))), (6, .bool false), (0, .slice Ax xs.length cx), (1, .slice Ay ys.length cy), (2, .slice Az zs.length cz)]) (cs := []) (by kernel_rfl) trivial ?_
        intro a2576 hF2577; clear hF2573 a2572
        have hz2584 := HE.size
        have hz2585 := HO2567.base
        refine wl (One.bare hF2577 (by kernel_rfl) (s_call (d := 54) (f := 17) (l := [.slice Ay ys.length cy, .slice Az zs.length cz]) (by kernel_rfl) hF2577 cl17 (Add' (A := Ay) (n := ys.length) (c := cy) (x := (nv 256 ys)) (xs := ys) (A2 := Az) (n2 := zs.length) (c2 := cz) (y := (nv 256 zs)) (ys := zs) (w := _) rfl rfl  rfl rfl (hys.ex HE) (hzs.ex HE) hbys hbzs (Nat.le_trans hlys (by decide)) (Nat.le_trans hlzs (by decide))) ?_))
        rintro a2586 w2581 v2582 ⟨A2578, c2579, rfl, HX2583, HO2580⟩ ha2588 hF2587; clear ha2588 hF2577 a2576
        replace HE := HE.thenN HX2583.g
        replace HO2567 := HO2567.growN HX2583.g
        have hcp2589 := HO2580.cap
        have hz2593 := HE.size
        have hz2594 := HO2567.base
        have hz2595 := HO2580.base
        refine wl (One.bare hF2587 (by kernel_rfl) (s_call (d := 55) (f := 16) (l := [.slice A2565 ((dig 256 ((nv 256 xs) + (nv 256 zs))).length) c2566, .slice A2578 ((dig 256 ((nv 256 ys) + (nv 256 zs))).length) c2579]) (by kernel_rfl) hF2587 cl16 (Cmp' (A := A2565) (n := ((dig 256 ((nv 256 xs) + (nv 256 zs))).length)) (c := c2566) (x := ((nv 256 xs) + (nv 256 zs))) (xs := (dig 256 ((nv 256 xs) + (nv 256 zs)))) (A2 := A2578) (n2 := ((dig 256 ((nv 256 ys) + (nv 256 zs))).length)) (c2 := c2579) (y := ((nv 256 ys) + (nv 256 zs))) (ys := (dig 256 ((nv 256 ys) + (nv 256 zs)))) (w := _) (nvd _) (nvd _)  rfl rfl HO2567.rd HO2580.rd (by_dig _) (by_dig _) (Nat.le_trans (dlen (add_lt (m := 120) (nlen hbxs hlxs) (nlen hbzs hlzs) (by decide) (by decide))) (by decide)) (Nat.le_trans (dlen (add_lt (m := 120) (nlen hbys hlys) (nlen hbzs hlzs) (by decide) (by decide))) (by decide))) ?_))
        rintro a2596 w2590 v2591 ⟨rfl, HX2592⟩ ha2598 hF2597; clear ha2598 hF2587 a2586
        replace HE := HE.thenN HX2592.g
        replace HO2567 := HO2567.growN HX2592.g
        replace HO2580 := HO2580.growN HX2592.g
        refine pures hT 2 _ hF2597 (F' := [(57, .bool (!(decide ((cmpI ((nv 256 xs) + (nv 256 zs)) ((nv 256 ys) + (nv 256 zs))) = (cmpI (nv 256 xs) (nv 256 ys)))))), (56, .int .i64 (cmpI (nv 256 xs) (nv 256 ys))), (55, .int .i64 (cmpI ((nv 256 xs) + (nv 256 zs)) ((nv 256 ys) + (nv 256 zs)))), (54, .slice A2578 ((dig 256 ((nv 256 ys) + (nv 256 zs))).length) c2579), (53, .slice Az zs.length cz), (52, .slice Ay ys.length cy), (51, .slice A2565 ((dig 256 ((nv 256 xs) + (nv 256 zs))).length) c2566), (50, .slice Az zs.length cz), (49, .slice Ax xs.length cx), (48, .bool false), (47, .bool false), (46, .bool false), (45, undef), (44, undef), (43, .bool false), (42, .bool false), (41, undef), (40, undef), (39, .bool false), (38, .bool false), (37, .int .i64 (cmpI (nv 256 xs) (nv 256 ys))), (36, .bool false), (35, .bool false), (34, .int .i64 (-(cmpI (nv 256 xs) (nv 256 ys)))), (33, .int .i64 (cmpI (nv 256 xs) (nv 256 ys))), (32, .int .i64 (cmpI (nv 256 ys) (nv 256 xs))), (31, .slice Ax xs.length cx), (30, .slice Ay ys.length cy), (9, .int .i64 (cmpI (nv 256 xs) (nv 256 zs))), (8, .int .i64 (cmpI (nv 256 ys) (nv 256 zs))), (7, .int .i64 (cmpI (nv 256 xs) (nv 256 ys))), (20, .bool ((decide (120 < ((zs.length : Nat) : Int))))), (6, .bool false), (0, .slice Ax xs.length cx), (1, .slice Ay ys.length cy), (2, .slice Az zs.length cz)]) (cs := []) (by kernel_rfl) trivial ?_
        intro a2599 hF2600; clear hF2597 a2596
        have hF2601 : Fr 104 a2599 [(57, .bool false), (56, .int .i64 (cmpI (nv 256 xs) (nv 256 ys))), (55, .int .i64 (cmpI ((nv 256 xs) + (nv 256 zs)) ((nv 256 ys) + (nv 256 zs)))), (54, .slice A2578 ((dig 256 ((nv 256 ys) + (nv 256 zs))).length) c2579), (53, .slice Az zs.length cz), (52, .slice Ay ys.length cy), (51, .slice A2565 ((dig 256 ((nv 256 xs) + (nv 256 zs))).length) c2566), (50, .slice Az zs.length cz), (49, .slice Ax xs.length cx), (48, .bool false), (47, .bool false), (46, .bool false), (45, undef), (44, undef), (43, .bool false), (42, .bool false), (41, undef), (40, undef), (39, .bool false), (38, .bool false), (37, .int .i64 (cmpI (nv 256 xs) (nv 256 ys))), (36, .bool false), (35, .bool false), (34, .int .i64 (-(cmpI (nv 256 xs) (nv 256 ys)))), (33, .int .i64 (cmpI (nv 256 xs) (nv 256 ys))), (32, .int .i64 (cmpI (nv 256 ys) (nv 256 xs))), (31, .slice Ax xs.length cx), (30, .slice Ay ys.length cy), (9, .int .i64 (cmpI (nv 256 xs) (nv 256 zs))), (8, .int .i64 (cmpI (nv 256 ys) (nv 256 zs))), (7, .int .i64 (cmpI (nv 256 xs) (nv 256 ys))), (20, .bool ((decide (120 < ((zs.length : Nat) : Int))))), (6, .bool false), (0, .slice Ax xs.length cx), (1, .slice Ay ys.length cy), (2, .slice Az zs.length cz)] := by rw [show (!(decide ((cmpI ((nv 256 xs) + (nv 256 zs)) ((nv 256 ys) + (nv 256 zs))) = (cmpI (nv 256 xs) (nv 256 ys))))) = false from (congrArg Bool.not (decide_eq_true cmpI_add))] at hF2600; exact hF2600
        clear hF2600
        refine pures hT 4 _ hF2601 (F' := [(61, .slice Ay ys.length cy), (60, .slice Ax xs.length cx), (59, .bool false), (58, .bool false), (57, .bool false), (56, .int .i64 (cmpI (nv 256 xs) (nv 256 ys))), (55, .int .i64 (cmpI ((nv 256 xs) + (nv 256 zs)) ((nv 256 ys) + (nv 256 zs)))), (54, .slice A2578 ((dig 256 ((nv 256 ys) + (nv 256 zs))).length) c2579), (53, .slice Az zs.length cz), (52, .slice Ay ys.length cy), (51, .slice A2565 ((dig 256 ((nv 256 xs) + (nv 256 zs))).length) c2566), (50, .slice Az zs.length cz), (49, .slice Ax xs.length cx), (48, .bool false), (47, .bool false), (46, .bool false), (45, undef), (44, undef), (43, .bool false), (42, .bool false), (41, undef), (40, undef), (39, .bool false), (38, .bool false), (37, .int .i64 (cmpI (nv 256 xs) (nv 256 ys))), (36, .bool false), (35, .bool false), (34, .int .i64 (-(cmpI (nv 256 xs) (nv 256 ys)))), (33, .int .i64 (cmpI (nv 256 xs) (nv 256 ys))), (32, .int .i64 (cmpI (nv 256 ys) (nv 256 xs))), (31, .slice Ax xs.length cx), (30, .slice Ay ys.length cy), (9, .int .i64 (cmpI (nv 256 xs) (nv 256 zs))), (8, .int .i64 (cmpI (nv 256 ys) (nv 256 zs))), (7, .int .i64 (cmpI (nv 256 xs) (nv 256 ys))), (20, .bool ((decide (120 < ((zs.length : Nat) : Int))))), (6, .bool false), (0, .slice Ax xs.length cx), (1, .slice Ay ys.length cy), (2, .slice Az zs.length cz)]) (cs := []) (by kernel_rfl) trivial ?_
        intro a2602 hF2603; clear hF2601 a2599
        have hz2610 := HE.size
        have hz2611 := HO2567.base
        have hz2612 := HO2580.base
        refine wl (One.bare hF2603 (by kernel_rfl) (s_call (d := 62) (f := 15) (l := [.slice Ax xs.length cx, .slice Ay ys.length cy]) (by kernel_rfl) hF2603 cl15 (Sub' (A := Ax) (n := xs.length) (c := cx) (x := (nv 256 xs)) (xs := xs) (A2 := Ay) (n2 := ys.length) (c2 := cy) (y := (nv 256 ys)) (ys := ys) (w := _) rfl rfl  rfl rfl (hxs.ex HE) (hys.ex HE) hbxs hbys (Nat.le_trans hlxs (by decide)) (Nat.le_trans hlys (by decide))) ?_))
        rintro a2613 w2607 v2608 ⟨A2604, c2605, rfl, HX2609, HO2606⟩ ha2615 hF2614; clear ha2615 hF2603 a2602
        replace HE := HE.thenN HX2609.g
        replace HO2567 := HO2567.growN HX2609.g
        replace HO2580 := HO2580.growN HX2609.g
        have hcp2616 := HO2606.cap
        refine pures hT 4 _ hF2614 (F' := [(66, .bool ((decide ((cmpI (nv 256 xs) (nv 256 ys)) ≤ 0)))), (65, .int .i64 (cmpI (nv 256 xs) (nv 256 ys))), (64, .bool ((decide ((((dig 256 ((nv 256 xs) - (nv 256 ys))).length : Nat) : Int) = 0)))), (63, .int .i64 (((dig 256 ((nv 256 xs) - (nv 256 ys))).length : Nat) : Int)), (62, .slice A2604 ((dig 256 ((nv 256 xs) - (nv 256 ys))).length) c2605), (61, .slice Ay ys.length cy), (60, .slice Ax xs.length cx), (59, .bool false), (58, .bool false), (57, .bool false), (56, .int .i64 (cmpI (nv 256 xs) (nv 256 ys))), (55, .int .i64 (cmpI ((nv 256 xs) + (nv 256 zs)) ((nv 256 ys) + (nv 256 zs)))), (54, .slice A2578 ((dig 256 ((nv 256 ys) + (nv 256 zs))).length) c2579), (53, .slice Az zs.length cz), (52, .slice Ay ys.length cy), (51, .slice A2565 ((dig 256 ((nv 256 xs) + (nv 256 zs))).length) c2566), (50, .slice Az zs.length cz), (49, .slice Ax xs.length cx), (48, .bool false), (47, .bool false), (46, .bool false), (45, undef), (44, undef), (43, .bool false), (42, .bool false), (41, undef), (40, undef), (39, .bool false), (38, .bool false), (37, .int .i64 (cmpI (nv 256 xs) (nv 256 ys))), (36, .bool false), (35, .bool false), (34, .int .i64 (-(cmpI (nv 256 xs) (nv 256 ys)))), (33, .int .i64 (cmpI (nv 256 xs) (nv 256 ys))), (32, .int .i64 (cmpI (nv 256 ys) (nv 256 xs))), (31, .slice Ax xs.length cx), (30, .slice Ay ys.length cy), (9, .int .i64 (cmpI (nv 256 xs) (nv 256 zs))), (8, .int .i64 (cmpI (nv 256 ys) (nv 256 zs))), (7, .int .i64 (cmpI (nv 256 xs) (nv 256 ys))), (20, .bool ((decide (120 < ((zs.length : Nat) : Int))))), (6, .bool false), (0, .slice Ax xs.length cx), (1, .slice Ay ys.length cy), (2, .slice Az zs.length cz)]) (cs := []) (by kernel_rfl) trivial ?_
        intro a2617 hF2618; clear hF2614 a2613
        refine wl (One.bare hF2618 (by kernel_rfl) (s_beq hT (d := 67) (b := !((decide ((((dig 256 ((nv 256 xs) - (nv 256 ys))).length : Nat) : Int) = 0)) == (decide ((cmpI (nv 256 xs) (nv 256 ys)) ≤ 0)))) (by kernel_rfl) hF2618 ?_))
        rintro a2619 ha2621 hF2620; clear ha2621 hF2618 a2617
        have hF2622 : Fr 104 a2619 [(67, .bool false), (66, .bool ((decide ((cmpI (nv 256 xs) (nv 256 ys)) ≤ 0)))), (65, .int .i64 (cmpI (nv 256 xs) (nv 256 ys))), (64, .bool ((decide ((((dig 256 ((nv 256 xs) - (nv 256 ys))).length : Nat) : Int) = 0)))), (63, .int .i64 (((dig 256 ((nv 256 xs) - (nv 256 ys))).length : Nat) : Int)), (62, .slice A2604 ((dig 256 ((nv 256 xs) - (nv 256 ys))).length) c2605), (61, .slice Ay ys.length cy), (60, .slice Ax xs.length cx), (59, .bool false), (58, .bool false), (57, .bool false), (56, .int .i64 (cmpI (nv 256 xs) (nv 256 ys))), (55, .int .i64 (cmpI ((nv 256 xs) + (nv 256 zs)) ((nv 256 ys) + (nv 256 zs)))), (54, .slice A2578 ((dig 256 ((nv 256 ys) + (nv 256 zs))).length) c2579), (53, .slice Az zs.length cz), (52, .slice Ay ys.length cy), (51, .slice A2565 ((dig 256 ((nv 256 xs) + (nv 256 zs))).length) c2566), (50, .slice Az zs.length cz), (49, .slice Ax xs.length cx), (48, .bool false), (47, .bool false), (46, .bool false), (45, undef), (44, undef), (43, .bool false), (42, .bool false), (41, undef), (40, undef), (39, .bool false), (38, .bool false), (37, .int .i64 (cmpI (nv 256 xs) (nv 256 ys))), (36, .bool false), (35, .bool false), (34, .int .i64 (-(cmpI (nv 256 xs) (nv 256 ys)))), (33, .int .i64 (cmpI (nv 256 xs) (nv 256 ys))), (32, .int .i64 (cmpI (nv 256 ys) (nv 256 xs))), (31, .slice Ax xs.length cx), (30, .slice Ay ys.length cy), (9, .int .i64 (cmpI (nv 256 xs) (nv 256 zs))), (8, .int .i64 (cmpI (nv 256 ys) (nv 256 zs))), (7, .int .i64 (cmpI (nv 256 xs) (nv 256 ys))), (20, .bool ((decide (120 < ((zs.length : Nat) : Int))))), (6, .bool false), (0, .slice Ax xs.length cx), (1, .slice Ay ys.length cy), (2, .slice Az zs.length cz)] := by rw [show (!((decide ((((dig 256 ((nv 256 xs) - (nv 256 ys))).length : Nat) : Int) = 0)) == (decide ((cmpI (nv 256 xs) (nv 256 ys)) ≤ 0)))) = false from (by rw [beq_dec (by have h1 := @cmpI_le (nv 256 xs) (nv 256 ys); have h2 := len0 (nv 256 xs - nv 256 ys); have h3 := len0' (nv 256 xs - nv 256 ys); omega)]; rfl)] at hF2620; exact hF2620
        clear hF2620
        refine pures_end hT 1 _ hF2622 (F' := [(68, .bool false), (67, .bool false), (66, .bool ((decide ((cmpI (nv 256 xs) (nv 256 ys)) ≤ 0)))), (65, .int .i64 (cmpI (nv 256 xs) (nv 256 ys))), (64, .bool ((decide ((((dig 256 ((nv 256 xs) - (nv 256 ys))).length : Nat) : Int) = 0)))), (63, .int .i64 (((dig 256 ((nv 256 xs) - (nv 256 ys))).length : Nat) : Int)), (62, .slice A2604 ((dig 256 ((nv 256 xs) - (nv 256 ys))).length) c2605), (61, .slice Ay ys.length cy), (60, .slice Ax xs.length cx), (59, .bool false), (58, .bool false), (57, .bool false), (56, .int .i64 (cmpI (nv 256 xs) (nv 256 ys))), (55, .int .i64 (cmpI ((nv 256 xs) + (nv 256 zs)) ((nv 256 ys) + (nv 256 zs)))), (54, .slice A2578 ((dig 256 ((nv 256 ys) + (nv 256 zs))).length) c2579), (53, .slice Az zs.length cz), (52, .slice Ay ys.length cy), (51, .slice A2565 ((dig 256 ((nv 256 xs) + (nv 256 zs))).length) c2566), (50, .slice Az zs.length cz), (49, .slice Ax xs.length cx), (48, .bool false), (47, .bool false), (46, .bool false), (45, undef), (44, undef), (43, .bool false), (42, .bool false), (41, undef), (40, undef), (39, .bool false), (38, .bool false), (37, .int .i64 (cmpI (nv 256 xs) (nv 256 ys))), (36, .bool false), (35, .bool false), (34, .int .i64 (-(cmpI (nv 256 xs) (nv 256 ys)))), (33, .int .i64 (cmpI (nv 256 xs) (nv 256 ys))), (32, .int .i64 (cmpI (nv 256 ys) (nv 256 xs))), (31, .slice Ax xs.length cx), (30, .slice Ay ys.length cy), (9, .int .i64 (cmpI (nv 256 xs) (nv 256 zs))), (8, .int .i64 (cmpI (nv 256 ys) (nv 256 zs))), (7, .int .i64 (cmpI (nv 256 xs) (nv 256 ys))), (20, .bool ((decide (120 < ((zs.length : Nat) : Int))))), (6, .bool false), (0, .slice Ax xs.length cx), (1, .slice Ay ys.length cy), (2, .slice Az zs.length cz)]) (cs := []) (by kernel_rfl) rfl trivial ?_
        intro a2623 hF2624; clear hF2622 a2619
        have hF2625 := hF2624.pick [68, 9, 8, 7, 20, 6, 0, 1, 2] (G := [(68, .bool false), (9, .int .i64 (cmpI (nv 256 xs) (nv 256 zs))), (8, .int .i64 (cmpI (nv 256 ys) (nv 256 zs))), (7, .int .i64 (cmpI (nv 256 xs) (nv 256 ys))), (20, .bool ((decide (120 < ((zs.length : Nat) : Int))))), (6, .bool false), (0, .slice Ax xs.length cx), (1, .slice Ay ys.length cy), (2, .slice Az zs.length cz)]) (by kernel_rfl); clear hF2624
        refine hK2413 _ _ ?_
        refine condF hF2625 (by kernel_rfl) ?_
        refine wp_skip ?_
        exact hK75 _ _ ⟨hF2625.pick [0, 1, 2, 7] (by kernel_rfl), HE⟩
  · rw [e21] at hF19; clear e21; simp only [Bool.not_true, Bool.not_false] at hF19
    refine pures_end hT 4 _ hF19 (F' := [(20, .bool true), (19, undef), (18, undef), (17, undef), (16, .bool true), (15, .bool true), (14, .bool false), (13, .slice Ay ys.length cy), (12, .slice Ax xs.length cx), (6, .bool false), (0, .slice Ax xs.length cx), (1, .slice Ay ys.length cy), (2, .slice Az zs.length cz)]) (cs := []) (by kernel_rfl) rfl trivial ?_
    intro a2626 hF2627; clear hF19 a18
    have hF2628 := hF2627.pick [20, 6, 0, 1, 2] (G := [(20, .bool true), (6, .bool false), (0, .slice Ax xs.length cx), (1, .slice Ay ys.length cy), (2, .slice Az zs.length cz)]) (by kernel_rfl); clear hF2627
    refine hK8 _ _ ?_
    refine condT hF2628 (by kernel_rfl) ?_
    refine wp_seq_k (fun K2629 hK2630 => ?_)
    refine wp_region_lit ?_
    refine pures_end hT 1 _ hF2628 (F' := [(6, .bool true), (20, .bool true), (6, .bool false), (0, .slice Ax xs.length cx), (1, .slice Ay ys.length cy), (2, .slice Az zs.length cz)]) (cs := []) (by kernel_rfl) rfl trivial ?_
    intro a2631 hF2632; clear hF2628 a2626
    have hF2633 := hF2632.pick [6, 20, 0, 1, 2] (G := [(6, .bool true), (20, .bool true), (0, .slice Ax xs.length cx), (1, .slice Ay ys.length cy), (2, .slice Az zs.length cz)]) (by kernel_rfl); clear hF2632
    refine hK2630 _ _ ?_
    refine wp_ret ?_
    refine ret1 hF2633 rfl (v := .bool true) (by kernel_rfl) ?_
    exact ⟨rfl, HE⟩

end Go.Proofs.Ytdabkjflpbbpeaa
