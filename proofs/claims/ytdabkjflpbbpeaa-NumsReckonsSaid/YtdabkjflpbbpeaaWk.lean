/- Walks of functions of the program: lemmas. -/
import Derived.Test.YtdabkjflpbbpeaaWd
import Derived.Test.YtdabkjflpbbpeaaWj
set_option maxRecDepth 100000
set_option linter.unusedVariables false
set_option linter.unusedSimpArgs false
namespace Go.Proofs.Ytdabkjflpbbpeaa
open Go.Proofs Go.RowKit

set_option maxHeartbeats 4000000 in
theorem law15_reckons (Ax : Option Addr) (cx : Nat) (xs : List Nat) (Ay : Option Addr) (cy : Nat) (ys : List Nat) (w : World) (hxs : Rd w Ax (vs .u8 xs)) (hbxs : By xs) (hmxs : xs.length ≤ 9223372036854775807) (hcxs : xs.length ≤ cx) (hys : Rd w Ay (vs .u8 ys)) (hbys : By ys) (hmys : ys.length ≤ 9223372036854775807) (hcys : ys.length ≤ cy) :
    Calls Try.prog 5 [.slice Ax xs.length cx, .slice Ay ys.length cy].toArray w (Ret fun v w' => v = .bool true ∧ Ex w w') := by
  refine enter Try.func5 rfl (n := 113) Try.ntmps5 (by simp) ?_
  intro a hF
  have HE : Ex w w := Ex.refl w
  refine wp_seq_k (fun K1 hK2 => ?_)
  refine wp_region_lit ?_
  refine pures_end hT 1 _ hF (F' := [(4, .bool false), (0, .slice Ax xs.length cx), (1, .slice Ay ys.length cy)]) (cs := []) (by kernel_rfl) rfl trivial ?_
  intro a3 hF4; clear hF a
  refine hK2 _ _ ?_
  refine wp_seq_k (fun K5 hK6 => ?_)
  refine wp_seq_k (fun K7 hK8 => ?_)
  refine wp_region_lit ?_
  refine pures hT 2 _ hF4 (F' := [(13, .slice Ay ys.length cy), (12, .slice Ax xs.length cx), (4, .bool false), (0, .slice Ax xs.length cx), (1, .slice Ay ys.length cy)]) (cs := []) (by kernel_rfl) trivial ?_
  intro a9 hF10; clear hF4 a3
  have hz14 := HE.size
  refine wl (s_call (d := 14) (f := 12) (l := [.slice Ax xs.length cx, .slice Ay ys.length cy]) (by kernel_rfl) hF10 cl12 (law15_small Ax xs.length cx Ay ys.length cy _ (by omega) (by omega)) ?_)
  rintro a15 w11 v12 ⟨rfl, HX13⟩ ha17 hF16; clear ha17 hF10 a9
  replace HE := HE.thenN HX13.g
  refine pures_end hT 1 _ hF16 (F' := [(15, .bool (!(decide ((xs.length ≤ 120 ∧ ys.length ≤ 120))))), (14, .bool ((decide ((xs.length ≤ 120 ∧ ys.length ≤ 120))))), (13, .slice Ay ys.length cy), (12, .slice Ax xs.length cx), (4, .bool false), (0, .slice Ax xs.length cx), (1, .slice Ay ys.length cy)]) (cs := []) (by kernel_rfl) rfl trivial ?_
  intro a18 hF19; clear hF16 a15
  have hF20 := hF19.pick [15, 4, 0, 1] (G := [(15, .bool (!(decide ((xs.length ≤ 120 ∧ ys.length ≤ 120))))), (4, .bool false), (0, .slice Ax xs.length cx), (1, .slice Ay ys.length cy)]) (by kernel_rfl); clear hF19
  refine hK8 _ _ ?_
  refine condB hF20 (t := !(decide ((xs.length ≤ 120 ∧ ys.length ≤ 120)))) (by kernel_rfl) (fun h21 => ?_) (fun h21 => ?_)
  · -- h21
    replace h21 : ¬ ((xs.length ≤ 120 ∧ ys.length ≤ 120)) := of_decide_eq_false (Eq.mp (Bool.not_eq_true' _) h21)
    refine wp_seq_k (fun K22 hK23 => ?_)
    refine wp_region_lit ?_
    refine pures_end hT 1 _ hF20 (F' := [(4, .bool true), (15, .bool (!(decide ((xs.length ≤ 120 ∧ ys.length ≤ 120))))), (4, .bool false), (0, .slice Ax xs.length cx), (1, .slice Ay ys.length cy)]) (cs := []) (by kernel_rfl) rfl trivial ?_
    intro a24 hF25; clear hF20 a18
    have hF26 := hF25.pick [4, 15, 0, 1] (G := [(4, .bool true), (15, .bool (!(decide ((xs.length ≤ 120 ∧ ys.length ≤ 120))))), (0, .slice Ax xs.length cx), (1, .slice Ay ys.length cy)]) (by kernel_rfl); clear hF25
    refine hK23 _ _ ?_
    refine wp_ret ?_
    refine ret1 hF26 rfl (v := .bool true) (by kernel_rfl) ?_
    exact ⟨rfl, HE⟩
  · -- h21
    replace h21 : ((xs.length ≤ 120 ∧ ys.length ≤ 120)) := of_decide_eq_true (Eq.mp (Bool.not_eq_false' _) h21)
    refine wp_skip ?_
    refine hK6 _ _ ?_
    refine wp_seq_k (fun K27 hK28 => ?_)
    rcases Nat.eq_zero_or_pos (nv 256 ys) with hmod | hmod
    · -- side 0
      have hlxs : xs.length ≤ 120 := by omega
      have hlys : ys.length ≤ 120 := by omega
      refine wp_region_lit ?_
      have hz35 := HE.size
      refine wl (s_lit hT (d := 16) (T := 5) (l := vs .u8 []) (by kernel_rfl) hF20 ?_)
      rintro a36 w30 b29 h33 h34 HB32 g31 ha38 hF37; clear ha38 hF20 a18
      replace HE := HE.thenN g31
      refine pures hT 1 _ hF37 (F' := [(17, .slice Ax xs.length cx), (16, .slice (some ⟨b29, 0, none⟩) 0 0), (15, .bool (!(decide ((xs.length ≤ 120 ∧ ys.length ≤ 120))))), (4, .bool false), (0, .slice Ax xs.length cx), (1, .slice Ay ys.length cy)]) (cs := []) (by kernel_rfl) trivial ?_
      intro a39 hF40; clear hF37 a36
      have hz41 := HE.size
      have hz42 := HB32.lt
      refine wl (s_app hT (d := 18) (T := 5) (i := tr5) (B := w.heap.size) (m := 0) (c := 0) (m2 := xs.length) (c2 := cx) (by kernel_rfl) hF40 rfl (by decide) (HB32.own (B := w.heap.size) (by omega) (by simp [maxLen])) (hxs.ex HE) (by show _ = xs.length * 1; simp) vs_one (by show (0 + xs.length) * 1 ≤ 140737488355328; omega) (by decide) (by have := HE.size; omega) ?_)
      rintro a49 w43 A46 c47 HO45 g44 hat48 ha51 hF50; clear ha51 hF40 a39
      rw [Nat.zero_add] at hF50 HO45
      simp only [vs, List.map_nil, List.nil_append] at HO45; try change Own _ _ _ _ _ _ _ (vs _ _) at HO45
      replace g44 : World.grownBy w30 w43 (some b29) := g44
      replace HE := HE.thenS g44 (by omega)
      refine pures_end hT 1 _ hF50 (F' := [(5, .slice A46 xs.length c47), (18, .slice A46 xs.length c47), (17, .slice Ax xs.length cx), (16, .slice (some ⟨b29, 0, none⟩) 0 0), (15, .bool (!(decide ((xs.length ≤ 120 ∧ ys.length ≤ 120))))), (4, .bool false), (0, .slice Ax xs.length cx), (1, .slice Ay ys.length cy)]) (cs := []) (by kernel_rfl) rfl trivial ?_
      intro a52 hF53; clear hF50 a49
      have hF54 := hF53.pick [5, 15, 4, 0, 1] (G := [(5, .slice A46 xs.length c47), (15, .bool (!(decide ((xs.length ≤ 120 ∧ ys.length ≤ 120))))), (4, .bool false), (0, .slice Ax xs.length cx), (1, .slice Ay ys.length cy)]) (by kernel_rfl); clear hF53
      refine hK28 _ _ ?_
      refine wp_seq_k (fun K55 hK56 => ?_)
      refine wp_region_lit ?_
      refine pures hT 1 _ hF54 (F' := [(19, .slice A46 xs.length c47), (5, .slice A46 xs.length c47), (15, .bool (!(decide ((xs.length ≤ 120 ∧ ys.length ≤ 120))))), (4, .bool false), (0, .slice Ax xs.length cx), (1, .slice Ay ys.length cy)]) (cs := []) (by kernel_rfl) trivial ?_
      intro a57 hF58; clear hF54 a52
      have hz65 := HE.size
      have hz66 := HO45.base
      refine wl (s_call (d := 20) (f := 19) (l := [.slice A46 xs.length c47]) (by kernel_rfl) hF58 cl19 (Norm' (A := A46) (n := xs.length) (c := c47) (x := (nv 256 xs)) (xs := xs) (w := _) rfl rfl HO45.rd hbxs (Nat.le_trans hlxs (by decide))) ?_)
      rintro a67 w62 v63 ⟨A59, c60, rfl, HX64, HO61⟩ ha69 hF68; clear ha69 hF58 a57
      replace HE := HE.thenN HX64.g
      replace HO45 := HO45.growN HX64.g
      have hcp70 := HO61.cap
      refine pures_end hT 1 _ hF68 (F' := [(6, .slice A59 ((dig 256 (nv 256 xs)).length) c60), (20, .slice A59 ((dig 256 (nv 256 xs)).length) c60), (19, .slice A46 xs.length c47), (5, .slice A46 xs.length c47), (15, .bool (!(decide ((xs.length ≤ 120 ∧ ys.length ≤ 120))))), (4, .bool false), (0, .slice Ax xs.length cx), (1, .slice Ay ys.length cy)]) (cs := []) (by kernel_rfl) rfl trivial ?_
      intro a71 hF72; clear hF68 a67
      have hF73 := hF72.pick [6, 5, 15, 4, 0, 1] (G := [(6, .slice A59 ((dig 256 (nv 256 xs)).length) c60), (5, .slice A46 xs.length c47), (15, .bool (!(decide ((xs.length ≤ 120 ∧ ys.length ≤ 120))))), (4, .bool false), (0, .slice Ax xs.length cx), (1, .slice Ay ys.length cy)]) (by kernel_rfl); clear hF72
      refine hK56 _ _ ?_
      refine wp_seq_k (fun K74 hK75 => ?_)
      refine wp_region_lit ?_
      refine pures hT 2 _ hF73 (F' := [(22, .slice Ay ys.length cy), (21, .slice A46 xs.length c47), (6, .slice A59 ((dig 256 (nv 256 xs)).length) c60), (5, .slice A46 xs.length c47), (15, .bool (!(decide ((xs.length ≤ 120 ∧ ys.length ≤ 120))))), (4, .bool false), (0, .slice Ax xs.length cx), (1, .slice Ay ys.length cy)]) (cs := []) (by kernel_rfl) trivial ?_
      intro a76 hF77; clear hF73 a71
      have hz84 := HE.size
      have hz85 := HO45.base
      have hz86 := HO61.base
      refine wl (s_call (d := 23) (f := 17) (l := [.slice A46 xs.length c47, .slice Ay ys.length cy]) (by kernel_rfl) hF77 cl17 (Add' (A := A46) (n := xs.length) (c := c47) (x := (nv 256 xs)) (xs := xs) (A2 := Ay) (n2 := ys.length) (c2 := cy) (y := (nv 256 ys)) (ys := ys) (w := _) rfl rfl  rfl rfl HO45.rd (hys.ex HE) hbxs hbys (Nat.le_trans hlxs (by decide)) (Nat.le_trans hlys (by decide))) ?_)
      rintro a87 w81 v82 ⟨A78, c79, rfl, HX83, HO80⟩ ha89 hF88; clear ha89 hF77 a76
      replace HE := HE.thenN HX83.g
      replace HO45 := HO45.growN HX83.g
      replace HO61 := HO61.growN HX83.g
      have hcp90 := HO80.cap
      refine pures_end hT 1 _ hF88 (F' := [(7, .slice A78 ((dig 256 ((nv 256 xs) + (nv 256 ys))).length) c79), (23, .slice A78 ((dig 256 ((nv 256 xs) + (nv 256 ys))).length) c79), (22, .slice Ay ys.length cy), (21, .slice A46 xs.length c47), (6, .slice A59 ((dig 256 (nv 256 xs)).length) c60), (5, .slice A46 xs.length c47), (15, .bool (!(decide ((xs.length ≤ 120 ∧ ys.length ≤ 120))))), (4, .bool false), (0, .slice Ax xs.length cx), (1, .slice Ay ys.length cy)]) (cs := []) (by kernel_rfl) rfl trivial ?_
      intro a91 hF92; clear hF88 a87
      have hF93 := hF92.pick [7, 6, 5, 15, 4, 0, 1] (G := [(7, .slice A78 ((dig 256 ((nv 256 xs) + (nv 256 ys))).length) c79), (6, .slice A59 ((dig 256 (nv 256 xs)).length) c60), (5, .slice A46 xs.length c47), (15, .bool (!(decide ((xs.length ≤ 120 ∧ ys.length ≤ 120))))), (4, .bool false), (0, .slice Ax xs.length cx), (1, .slice Ay ys.length cy)]) (by kernel_rfl); clear hF92
      refine hK75 _ _ ?_
      refine wp_seq_k (fun K94 hK95 => ?_)
      refine wp_region_lit ?_
      refine pures hT 2 _ hF93 (F' := [(25, .slice Ay ys.length cy), (24, .slice A46 xs.length c47), (7, .slice A78 ((dig 256 ((nv 256 xs) + (nv 256 ys))).length) c79), (6, .slice A59 ((dig 256 (nv 256 xs)).length) c60), (5, .slice A46 xs.length c47), (15, .bool (!(decide ((xs.length ≤ 120 ∧ ys.length ≤ 120))))), (4, .bool false), (0, .slice Ax xs.length cx), (1, .slice Ay ys.length cy)]) (cs := []) (by kernel_rfl) trivial ?_
      intro a96 hF97; clear hF93 a91
      have hz104 := HE.size
      have hz105 := HO45.base
      have hz106 := HO61.base
      have hz107 := HO80.base
      refine wl (s_call (d := 26) (f := 15) (l := [.slice A46 xs.length c47, .slice Ay ys.length cy]) (by kernel_rfl) hF97 cl15 (Sub' (A := A46) (n := xs.length) (c := c47) (x := (nv 256 xs)) (xs := xs) (A2 := Ay) (n2 := ys.length) (c2 := cy) (y := (nv 256 ys)) (ys := ys) (w := _) rfl rfl  rfl rfl HO45.rd (hys.ex HE) hbxs hbys (Nat.le_trans hlxs (by decide)) (Nat.le_trans hlys (by decide))) ?_)
      rintro a108 w101 v102 ⟨A98, c99, rfl, HX103, HO100⟩ ha110 hF109; clear ha110 hF97 a96
      replace HE := HE.thenN HX103.g
      replace HO45 := HO45.growN HX103.g
      replace HO61 := HO61.growN HX103.g
      replace HO80 := HO80.growN HX103.g
      have hcp111 := HO100.cap
      refine pures_end hT 1 _ hF109 (F' := [(8, .slice A98 ((dig 256 ((nv 256 xs) - (nv 256 ys))).length) c99), (26, .slice A98 ((dig 256 ((nv 256 xs) - (nv 256 ys))).length) c99), (25, .slice Ay ys.length cy), (24, .slice A46 xs.length c47), (7, .slice A78 ((dig 256 ((nv 256 xs) + (nv 256 ys))).length) c79), (6, .slice A59 ((dig 256 (nv 256 xs)).length) c60), (5, .slice A46 xs.length c47), (15, .bool (!(decide ((xs.length ≤ 120 ∧ ys.length ≤ 120))))), (4, .bool false), (0, .slice Ax xs.length cx), (1, .slice Ay ys.length cy)]) (cs := []) (by kernel_rfl) rfl trivial ?_
      intro a112 hF113; clear hF109 a108
      have hF114 := hF113.pick [8, 7, 6, 5, 15, 4, 0, 1] (G := [(8, .slice A98 ((dig 256 ((nv 256 xs) - (nv 256 ys))).length) c99), (7, .slice A78 ((dig 256 ((nv 256 xs) + (nv 256 ys))).length) c79), (6, .slice A59 ((dig 256 (nv 256 xs)).length) c60), (5, .slice A46 xs.length c47), (15, .bool (!(decide ((xs.length ≤ 120 ∧ ys.length ≤ 120))))), (4, .bool false), (0, .slice Ax xs.length cx), (1, .slice Ay ys.length cy)]) (by kernel_rfl); clear hF113
      refine hK95 _ _ ?_
      refine wp_seq_k (fun K115 hK116 => ?_)
      refine wp_region_lit ?_
      refine pures hT 2 _ hF114 (F' := [(28, .slice Ay ys.length cy), (27, .slice A46 xs.length c47), (8, .slice A98 ((dig 256 ((nv 256 xs) - (nv 256 ys))).length) c99), (7, .slice A78 ((dig 256 ((nv 256 xs) + (nv 256 ys))).length) c79), (6, .slice A59 ((dig 256 (nv 256 xs)).length) c60), (5, .slice A46 xs.length c47), (15, .bool (!(decide ((xs.length ≤ 120 ∧ ys.length ≤ 120))))), (4, .bool false), (0, .slice Ax xs.length cx), (1, .slice Ay ys.length cy)]) (cs := []) (by kernel_rfl) trivial ?_
      intro a117 hF118; clear hF114 a112
      have hz125 := HE.size
      have hz126 := HO45.base
      have hz127 := HO61.base
      have hz128 := HO80.base
      have hz129 := HO100.base
      refine wl (s_call (d := 29) (f := 18) (l := [.slice A46 xs.length c47, .slice Ay ys.length cy]) (by kernel_rfl) hF118 cl18 (Mul' (A := A46) (n := xs.length) (c := c47) (x := (nv 256 xs)) (xs := xs) (A2 := Ay) (n2 := ys.length) (c2 := cy) (y := (nv 256 ys)) (ys := ys) (w := _) rfl rfl  rfl rfl HO45.rd (hys.ex HE) hbxs hbys (Nat.le_trans hlxs (by decide)) (Nat.le_trans hlys (by decide))) ?_)
      rintro a130 w122 v123 ⟨A119, c120, rfl, HX124, HO121⟩ ha132 hF131; clear ha132 hF118 a117
      replace HE := HE.thenN HX124.g
      replace HO45 := HO45.growN HX124.g
      replace HO61 := HO61.growN HX124.g
      replace HO80 := HO80.growN HX124.g
      replace HO100 := HO100.growN HX124.g
      have hcp133 := HO121.cap
      refine pures_end hT 1 _ hF131 (F' := [(9, .slice A119 ((dig 256 ((nv 256 xs) * (nv 256 ys))).length) c120), (29, .slice A119 ((dig 256 ((nv 256 xs) * (nv 256 ys))).length) c120), (28, .slice Ay ys.length cy), (27, .slice A46 xs.length c47), (8, .slice A98 ((dig 256 ((nv 256 xs) - (nv 256 ys))).length) c99), (7, .slice A78 ((dig 256 ((nv 256 xs) + (nv 256 ys))).length) c79), (6, .slice A59 ((dig 256 (nv 256 xs)).length) c60), (5, .slice A46 xs.length c47), (15, .bool (!(decide ((xs.length ≤ 120 ∧ ys.length ≤ 120))))), (4, .bool false), (0, .slice Ax xs.length cx), (1, .slice Ay ys.length cy)]) (cs := []) (by kernel_rfl) rfl trivial ?_
      intro a134 hF135; clear hF131 a130
      have hF136 := hF135.pick [9, 8, 7, 6, 5, 15, 4, 0, 1] (G := [(9, .slice A119 ((dig 256 ((nv 256 xs) * (nv 256 ys))).length) c120), (8, .slice A98 ((dig 256 ((nv 256 xs) - (nv 256 ys))).length) c99), (7, .slice A78 ((dig 256 ((nv 256 xs) + (nv 256 ys))).length) c79), (6, .slice A59 ((dig 256 (nv 256 xs)).length) c60), (5, .slice A46 xs.length c47), (15, .bool (!(decide ((xs.length ≤ 120 ∧ ys.length ≤ 120))))), (4, .bool false), (0, .slice Ax xs.length cx), (1, .slice Ay ys.length cy)]) (by kernel_rfl); clear hF135
      refine hK116 _ _ ?_
      refine wp_seq_k (fun K137 hK138 => ?_)
      refine wp_region_lit ?_
      refine pures hT 2 _ hF136 (F' := [(32, .slice Ay ys.length cy), (31, .slice A46 xs.length c47), (9, .slice A119 ((dig 256 ((nv 256 xs) * (nv 256 ys))).length) c120), (8, .slice A98 ((dig 256 ((nv 256 xs) - (nv 256 ys))).length) c99), (7, .slice A78 ((dig 256 ((nv 256 xs) + (nv 256 ys))).length) c79), (6, .slice A59 ((dig 256 (nv 256 xs)).length) c60), (5, .slice A46 xs.length c47), (15, .bool (!(decide ((xs.length ≤ 120 ∧ ys.length ≤ 120))))), (4, .bool false), (0, .slice Ax xs.length cx), (1, .slice Ay ys.length cy)]) (cs := []) (by kernel_rfl) trivial ?_
      intro a139 hF140; clear hF136 a134
      have hz147 := HE.size
      have hz148 := HO45.base
      have hz149 := HO61.base
      have hz150 := HO80.base
      have hz151 := HO100.base
      have hz152 := HO121.base
      refine wl (s_call (d := 33) (f := 13) (l := [.slice A46 xs.length c47, .slice Ay ys.length cy]) (by kernel_rfl) hF140 cl13 (Mod0' (A := A46) (n := xs.length) (c := c47) (x := (nv 256 xs)) (xs := xs) (A2 := Ay) (n2 := ys.length) (c2 := cy) (y := (nv 256 ys)) (ys := ys) (w := _) rfl rfl hmod rfl rfl HO45.rd (hys.ex HE) hbxs hbys (Nat.le_trans hlxs (by decide)) (Nat.le_trans hlys (by decide))) ?_)
      rintro a153 w144 v145 ⟨A141, c142, rfl, HX146, HO143⟩ ha155 hF154; clear ha155 hF140 a139
      replace HE := HE.thenN HX146.g
      replace HO45 := HO45.growN HX146.g
      replace HO61 := HO61.growN HX146.g
      replace HO80 := HO80.growN HX146.g
      replace HO100 := HO100.growN HX146.g
      replace HO121 := HO121.growN HX146.g
      have hcp156 := HO143.cap
      refine pures_end hT 5 _ hF154 (F' := [(11, .int .i64 20), (10, .slice A141 0 c142), (35, .int .i64 20), (34, .slice A141 0 c142), (30, .tuple #[.slice A141 0 c142, .int .i64 20]), (33, .tuple #[.slice A141 0 c142, .int .i64 20]), (32, .slice Ay ys.length cy), (31, .slice A46 xs.length c47), (9, .slice A119 ((dig 256 ((nv 256 xs) * (nv 256 ys))).length) c120), (8, .slice A98 ((dig 256 ((nv 256 xs) - (nv 256 ys))).length) c99), (7, .slice A78 ((dig 256 ((nv 256 xs) + (nv 256 ys))).length) c79), (6, .slice A59 ((dig 256 (nv 256 xs)).length) c60), (5, .slice A46 xs.length c47), (15, .bool (!(decide ((xs.length ≤ 120 ∧ ys.length ≤ 120))))), (4, .bool false), (0, .slice Ax xs.length cx), (1, .slice Ay ys.length cy)]) (cs := []) (by kernel_rfl) rfl trivial ?_
      intro a157 hF158; clear hF154 a153
      have hF159 := hF158.pick [11, 10, 9, 8, 7, 6, 5, 15, 4, 0, 1] (G := [(11, .int .i64 20), (10, .slice A141 0 c142), (9, .slice A119 ((dig 256 ((nv 256 xs) * (nv 256 ys))).length) c120), (8, .slice A98 ((dig 256 ((nv 256 xs) - (nv 256 ys))).length) c99), (7, .slice A78 ((dig 256 ((nv 256 xs) + (nv 256 ys))).length) c79), (6, .slice A59 ((dig 256 (nv 256 xs)).length) c60), (5, .slice A46 xs.length c47), (15, .bool (!(decide ((xs.length ≤ 120 ∧ ys.length ≤ 120))))), (4, .bool false), (0, .slice Ax xs.length cx), (1, .slice Ay ys.length cy)]) (by kernel_rfl); clear hF158
      refine hK138 _ _ ?_
      refine wp_seq_k (fun K160 hK161 => ?_)
      refine wp_seq_k (fun K162 hK163 => ?_)
      have HE164 : Ex w144 w144 := Ex.refl _
      have HR165 := HO45.rd
      have HR165b := HO45.base
      clear HO45
      have HR166 := HO61.rd
      have HR166b := HO61.base
      clear HO61
      have HR167 := HO80.rd
      have HR167b := HO80.base
      clear HO80
      have HR168 := HO100.rd
      have HR168b := HO100.base
      clear HO100
      have HR169 := HO121.rd
      have HR169b := HO121.base
      clear HO121
      have HR170 := HO143.rd
      have HR170b := HO143.base
      clear HO143
      let SL_ : List SP := [SP.val (.slice A46 xs.length c47), SP.val (.string (str xs)), SP.val (.slice Ax xs.length cx), SP.val (.string (str xs)), SP.val (.bool false), SP.val (.bool false), SP.val (.slice A46 xs.length c47), SP.val (.slice Ay ys.length cy), SP.val (.int .i64 (cmpI (nv 256 xs) (nv 256 ys))), SP.val (.slice Ax xs.length cx), SP.val (.slice Ay ys.length cy), SP.val (.int .i64 (cmpI (nv 256 xs) (nv 256 ys))), SP.val (.bool false), SP.val (.bool false), SP.val (.bool false), SP.val (.slice A59 ((dig 256 (nv 256 xs)).length) c60), SP.val (.string (str (dig 256 (nv 256 xs)))), SP.val (.slice Ax xs.length cx), SP.mk' (fun v W => ∃ A c, v = .slice A ((dig 256 (nv 256 xs)).length) c ∧ Rd W A (vs .u8 (dig 256 (nv 256 xs)))) (fun v w w' h g => by obtain ⟨A, c, e, h⟩ := h; exact ⟨A, c, e, h.grow g (by simp)⟩), SP.val (.string (str (dig 256 (nv 256 xs)))), SP.val (.bool false), SP.val (.bool false), SP.val (.bool false), SP.val (.slice A78 ((dig 256 ((nv 256 xs) + (nv 256 ys))).length) c79), SP.val (.string (str (dig 256 ((nv 256 xs) + (nv 256 ys))))), SP.val (.slice Ax xs.length cx), SP.val (.slice Ay ys.length cy), SP.mk' (fun v W => ∃ A c, v = .slice A ((dig 256 ((nv 256 xs) + (nv 256 ys))).length) c ∧ Rd W A (vs .u8 (dig 256 ((nv 256 xs) + (nv 256 ys))))) (fun v w w' h g => by obtain ⟨A, c, e, h⟩ := h; exact ⟨A, c, e, h.grow g (by simp)⟩), SP.val (.string (str (dig 256 ((nv 256 xs) + (nv 256 ys))))), SP.val (.bool false), SP.val (.bool false), SP.val (.bool false), SP.val (.slice A98 ((dig 256 ((nv 256 xs) - (nv 256 ys))).length) c99), SP.val (.string (str (dig 256 ((nv 256 xs) - (nv 256 ys))))), SP.val (.slice Ax xs.length cx), SP.val (.slice Ay ys.length cy), SP.mk' (fun v W => ∃ A c, v = .slice A ((dig 256 ((nv 256 xs) - (nv 256 ys))).length) c ∧ Rd W A (vs .u8 (dig 256 ((nv 256 xs) - (nv 256 ys))))) (fun v w w' h g => by obtain ⟨A, c, e, h⟩ := h; exact ⟨A, c, e, h.grow g (by simp)⟩), SP.val (.string (str (dig 256 ((nv 256 xs) - (nv 256 ys))))), SP.val (.bool false), SP.val (.bool false), SP.val (.bool false), SP.val (.slice A119 ((dig 256 ((nv 256 xs) * (nv 256 ys))).length) c120), SP.val (.string (str (dig 256 ((nv 256 xs) * (nv 256 ys))))), SP.val (.slice Ax xs.length cx), SP.val (.slice Ay ys.length cy), SP.mk' (fun v W => ∃ A c, v = .slice A ((dig 256 ((nv 256 xs) * (nv 256 ys))).length) c ∧ Rd W A (vs .u8 (dig 256 ((nv 256 xs) * (nv 256 ys))))) (fun v w w' h g => by obtain ⟨A, c, e, h⟩ := h; exact ⟨A, c, e, h.grow g (by simp)⟩), SP.val (.string (str (dig 256 ((nv 256 xs) * (nv 256 ys))))), SP.val (.bool false), SP.val (.bool false)]
      refine region_rel (SL := SL_) (J := (fun (b : Bool) (W : World) => (Ex w W) ∧ (Ex w144 W))) (m := 49) (bm := none) wide (by kernel_rfl) (by kernel_rfl) hF159 rfl ?_ ?_ ⟨HE, HE164⟩ ⟨?_, ?_, ?_, ?_, ?_, ?_, ?_, ?_, ?_, ?_, ?_, ?_, ?_, ?_, ?_, ?_, ?_, ?_, ?_, ?_, ?_, ?_, ?_, ?_, ?_, ?_, ?_, ?_, ?_, ?_, ?_, ?_, ?_, ?_, ?_, ?_, ?_, ?_, ?_, ?_, ?_, ?_, ?_, ?_, ?_, ?_, ?_, ?_, ?_, trivial⟩ [(84, some 48), (11, none), (10, none), (9, none), (8, none), (7, none), (6, none), (5, none), (15, none), (4, none), (0, none), (1, none)] (by kernel_rfl) ?_
      · exact fun h => absurd h (by decide)
      · intro b W W' hj g; cases b <;> exact ⟨hj.1.thenN g, hj.2.thenN g⟩
      · -- operation 0
        rintro a172 w171 b174 KK180 hs176 hd177 hJ178 hb179 hr182 hK175
        have hr182x : RD SL_ a172 a157 w171 [(5, none)] := hr182 _ (by kernel_rfl)
        obtain ⟨q181, -⟩ := hr182x
        obtain ⟨HE, HE164⟩ := hJ178
        have hF173 : Fr 113 a172 [(5, .slice A46 xs.length c47)] := Fr.of hs176 hd177 ⟨(Fr.init hF159 q181 (by kernel_rfl)), trivial⟩
        refine s_pure hT (d := 36) (v := .slice A46 xs.length c47) (cs := []) (by kernel_rfl) (by kernel_rfl) trivial hF173 ?_
        rintro a2 ha2 hF2; rw [ha2]; exact hK175 _ _ rfl (grown_refl _ _)
      · -- operation 1
        rintro a184 w183 b186 KK192 hs188 hd189 hJ190 hb191 hr196 hK187
        have hr196x : RD SL_ a184 a157 w183 [(36, some 0)] := hr196 _ (by kernel_rfl)
        obtain ⟨⟨v194, q193, s195⟩, -⟩ := hr196x
        obtain rfl : v194 = .slice A46 xs.length c47 := s195
        obtain ⟨HE, HE164⟩ := hJ190
        have hF185 : Fr 113 a184 [(36, .slice A46 xs.length c47)] := Fr.of hs188 hd189 ⟨q193, trivial⟩
        refine s_str hT (d := 37) (A := A46) (m := xs.length) (xs := xs) (by kernel_rfl) hF185 (HR165.ex HE164) (by (first | (simp only [vs_length, vi_length]; omega) | (simp; omega) | omega)) ?_
        rintro a197 ha199 hF198
        rw [ha199]; exact hK187 _ _ rfl (grown_refl _ _)
      · -- operation 2
        rintro a201 w200 b203 KK209 hs205 hd206 hJ207 hb208 hr211 hK204
        have hr211x : RD SL_ a201 a157 w200 [(0, none)] := hr211 _ (by kernel_rfl)
        obtain ⟨q210, -⟩ := hr211x
        obtain ⟨HE, HE164⟩ := hJ207
        have hF202 : Fr 113 a201 [(0, .slice Ax xs.length cx)] := Fr.of hs205 hd206 ⟨(Fr.init hF159 q210 (by kernel_rfl)), trivial⟩
        refine s_pure hT (d := 38) (v := .slice Ax xs.length cx) (cs := []) (by kernel_rfl) (by kernel_rfl) trivial hF202 ?_
        rintro a2 ha2 hF2; rw [ha2]; exact hK204 _ _ rfl (grown_refl _ _)
      · -- operation 3
        rintro a213 w212 b215 KK221 hs217 hd218 hJ219 hb220 hr225 hK216
        have hr225x : RD SL_ a213 a157 w212 [(38, some 2)] := hr225 _ (by kernel_rfl)
        obtain ⟨⟨v223, q222, s224⟩, -⟩ := hr225x
        obtain rfl : v223 = .slice Ax xs.length cx := s224
        obtain ⟨HE, HE164⟩ := hJ219
        have hF214 : Fr 113 a213 [(38, .slice Ax xs.length cx)] := Fr.of hs217 hd218 ⟨q222, trivial⟩
        refine s_str hT (d := 39) (A := Ax) (m := xs.length) (xs := xs) (by kernel_rfl) hF214 (hxs.ex HE) (by (first | (simp only [vs_length, vi_length]; omega) | (simp; omega) | omega)) ?_
        rintro a226 ha228 hF227
        rw [ha228]; exact hK216 _ _ rfl (grown_refl _ _)
      · -- operation 4
        rintro a230 w229 b232 KK238 hs234 hd235 hJ236 hb237 hr245 hK233
        have hr245x : RD SL_ a230 a157 w229 [(37, some 1), (39, some 3)] := hr245 _ (by kernel_rfl)
        obtain ⟨⟨v240, q239, s241⟩, ⟨v243, q242, s244⟩, -⟩ := hr245x
        obtain rfl : v240 = .string (str xs) := s241
        obtain rfl : v243 = .string (str xs) := s244
        obtain ⟨HE, HE164⟩ := hJ236
        have hF231 : Fr 113 a230 [(37, .string (str xs)), (39, .string (str xs))] := Fr.of hs234 hd235 ⟨q239, q242, trivial⟩
        refine s_pure hT (d := 40) (v := .bool (!(ByteArray.toList (str xs) == ByteArray.toList (str xs)))) (cs := []) (by kernel_rfl) (by kernel_rfl) trivial hF231 ?_
        have htr : (!(ByteArray.toList (str xs) == ByteArray.toList (str xs))) = false := (congrArg Bool.not (str_eqT rfl))
        rintro a2 ha2 hF2; rw [ha2]; exact hK233 _ _ (congrArg Value.bool htr) (grown_refl _ _)
      · -- operation 5
        rintro a247 w246 b249 KK255 hs251 hd252 hJ253 hb254 hr259 hK250
        have hr259x : RD SL_ a247 a157 w246 [(40, some 4)] := hr259 _ (by kernel_rfl)
        obtain ⟨⟨v257, q256, s258⟩, -⟩ := hr259x
        obtain rfl : v257 = .bool false := s258
        obtain ⟨HE, HE164⟩ := hJ253
        have hF248 : Fr 113 a247 [(40, .bool false)] := Fr.of hs251 hd252 ⟨q256, trivial⟩
        refine s_pure hT (d := 41) (v := .bool false) (cs := []) (by kernel_rfl) (by kernel_rfl) trivial hF248 ?_
        rintro a2 ha2 hF2; rw [ha2]; exact hK250 _ _ rfl (grown_refl _ _)
      · -- operation 6
        rintro a261 w260 b263 KK269 hs265 hd266 hJ267 hb268 hr274 hK264
        have hr274x : RD SL_ a261 a157 w260 [(5, none), (41, some 5)] := hr274 _ (by kernel_rfl)
        obtain ⟨q270, ⟨v272, q271, s273⟩, -⟩ := hr274x
        obtain rfl : v272 = .bool false := s273
        obtain ⟨HE, HE164⟩ := hJ267
        have hF262 : Fr 113 a261 [(5, .slice A46 xs.length c47), (41, .bool false)] := Fr.of hs265 hd266 ⟨(Fr.init hF159 q270 (by kernel_rfl)), q271, trivial⟩
        refine One.bare hF262 (by kernel_rfl) (s_pure hT (d := 42) (v := .slice A46 xs.length c47) (cs := []) (by kernel_rfl) (by kernel_rfl) trivial hF262 ?_)
        rintro a2 ha2 hF2; rw [ha2]; exact hK264 _ _ rfl (grown_refl _ _)
      · -- operation 7
        rintro a276 w275 b278 KK284 hs280 hd281 hJ282 hb283 hr289 hK279
        have hr289x : RD SL_ a276 a157 w275 [(1, none), (41, some 5)] := hr289 _ (by kernel_rfl)
        obtain ⟨q285, ⟨v287, q286, s288⟩, -⟩ := hr289x
        obtain rfl : v287 = .bool false := s288
        obtain ⟨HE, HE164⟩ := hJ282
        have hF277 : Fr 113 a276 [(1, .slice Ay ys.length cy), (41, .bool false)] := Fr.of hs280 hd281 ⟨(Fr.init hF159 q285 (by kernel_rfl)), q286, trivial⟩
        refine One.bare hF277 (by kernel_rfl) (s_pure hT (d := 43) (v := .slice Ay ys.length cy) (cs := []) (by kernel_rfl) (by kernel_rfl) trivial hF277 ?_)
        rintro a2 ha2 hF2; rw [ha2]; exact hK279 _ _ rfl (grown_refl _ _)
      · -- operation 8
        rintro a291 w290 b293 KK299 hs295 hd296 hJ297 hb298 hr309 hK294
        have hr309x : RD SL_ a291 a157 w290 [(42, some 6), (43, some 7), (41, some 5)] := hr309 _ (by kernel_rfl)
        obtain ⟨⟨v301, q300, s302⟩, ⟨v304, q303, s305⟩, ⟨v307, q306, s308⟩, -⟩ := hr309x
        obtain rfl : v301 = .slice A46 xs.length c47 := s302
        obtain rfl : v304 = .slice Ay ys.length cy := s305
        obtain rfl : v307 = .bool false := s308
        obtain ⟨HE, HE164⟩ := hJ297
        have hF292 : Fr 113 a291 [(42, .slice A46 xs.length c47), (43, .slice Ay ys.length cy), (41, .bool false)] := Fr.of hs295 hd296 ⟨q300, q303, q306, trivial⟩
        have hz313 := HE.size
        have hz314 := HE164.size
        refine One.bare hF292 (by kernel_rfl) (s_call (d := 44) (f := 16) (l := [.slice A46 xs.length c47, .slice Ay ys.length cy]) (by kernel_rfl) hF292 cl16 (Cmp' (A := A46) (n := xs.length) (c := c47) (x := (nv 256 xs)) (xs := xs) (A2 := Ay) (n2 := ys.length) (c2 := cy) (y := (nv 256 ys)) (ys := ys) (w := _) rfl rfl  rfl rfl (HR165.ex HE164) (hys.ex HE) hbxs hbys (Nat.le_trans hlxs (by decide)) (Nat.le_trans hlys (by decide))) ?_)
        rintro a315 w310 v311 ⟨rfl, HX312⟩ ha317 hF316
        replace HE := HE.thenN HX312.g
        replace HE164 := HE164.thenN HX312.g
        rw [ha317]; exact hK294 _ _ rfl HX312.g
      · -- operation 9
        rintro a319 w318 b321 KK327 hs323 hd324 hJ325 hb326 hr332 hK322
        have hr332x : RD SL_ a319 a157 w318 [(0, none), (41, some 5)] := hr332 _ (by kernel_rfl)
        obtain ⟨q328, ⟨v330, q329, s331⟩, -⟩ := hr332x
        obtain rfl : v330 = .bool false := s331
        obtain ⟨HE, HE164⟩ := hJ325
        have hF320 : Fr 113 a319 [(0, .slice Ax xs.length cx), (41, .bool false)] := Fr.of hs323 hd324 ⟨(Fr.init hF159 q328 (by kernel_rfl)), q329, trivial⟩
        refine One.bare hF320 (by kernel_rfl) (s_pure hT (d := 45) (v := .slice Ax xs.length cx) (cs := []) (by kernel_rfl) (by kernel_rfl) trivial hF320 ?_)
        rintro a2 ha2 hF2; rw [ha2]; exact hK322 _ _ rfl (grown_refl _ _)
      · -- operation 10
        rintro a334 w333 b336 KK342 hs338 hd339 hJ340 hb341 hr347 hK337
        have hr347x : RD SL_ a334 a157 w333 [(1, none), (41, some 5)] := hr347 _ (by kernel_rfl)
        obtain ⟨q343, ⟨v345, q344, s346⟩, -⟩ := hr347x
        obtain rfl : v345 = .bool false := s346
        obtain ⟨HE, HE164⟩ := hJ340
        have hF335 : Fr 113 a334 [(1, .slice Ay ys.length cy), (41, .bool false)] := Fr.of hs338 hd339 ⟨(Fr.init hF159 q343 (by kernel_rfl)), q344, trivial⟩
        refine One.bare hF335 (by kernel_rfl) (s_pure hT (d := 46) (v := .slice Ay ys.length cy) (cs := []) (by kernel_rfl) (by kernel_rfl) trivial hF335 ?_)
        rintro a2 ha2 hF2; rw [ha2]; exact hK337 _ _ rfl (grown_refl _ _)
      · -- operation 11
        rintro a349 w348 b351 KK357 hs353 hd354 hJ355 hb356 hr367 hK352
        have hr367x : RD SL_ a349 a157 w348 [(45, some 9), (46, some 10), (41, some 5)] := hr367 _ (by kernel_rfl)
        obtain ⟨⟨v359, q358, s360⟩, ⟨v362, q361, s363⟩, ⟨v365, q364, s366⟩, -⟩ := hr367x
        obtain rfl : v359 = .slice Ax xs.length cx := s360
        obtain rfl : v362 = .slice Ay ys.length cy := s363
        obtain rfl : v365 = .bool false := s366
        obtain ⟨HE, HE164⟩ := hJ355
        have hF350 : Fr 113 a349 [(45, .slice Ax xs.length cx), (46, .slice Ay ys.length cy), (41, .bool false)] := Fr.of hs353 hd354 ⟨q358, q361, q364, trivial⟩
        have hz371 := HE.size
        have hz372 := HE164.size
        refine One.bare hF350 (by kernel_rfl) (s_call (d := 47) (f := 20) (l := [.slice Ax xs.length cx, .slice Ay ys.length cy]) (by kernel_rfl) hF350 cl20 (ref15_Cmp Ax xs.length cx xs (nv 256 xs) Ay ys.length cy ys (nv 256 ys) _ rfl rfl (by first | omega | assumption | (simp; done) | (simp; omega) | decide) (by first | omega | assumption | (simp; done) | (simp; omega) | decide) (hxs.ex HE) (hys.ex HE) (by first | assumption | exact by_dig _ | exact by_one (Nat.mod_lt _ (by decide)) | omega | simp | decide) (by first | assumption | exact by_dig _ | exact by_one (Nat.mod_lt _ (by decide)) | omega | simp | decide) (by first | omega | assumption | (simp; done) | (simp; omega) | decide) (by first | omega | assumption | (simp; done) | (simp; omega) | decide) ) ?_)
        rintro a373 w368 v369 ⟨rfl, HX370⟩ ha375 hF374
        replace HE := HE.thenN HX370.g
        replace HE164 := HE164.thenN HX370.g
        rw [ha375]; exact hK352 _ _ rfl HX370.g
      · -- operation 12
        rintro a377 w376 b379 KK385 hs381 hd382 hJ383 hb384 hr395 hK380
        have hr395x : RD SL_ a377 a157 w376 [(44, some 8), (47, some 11), (41, some 5)] := hr395 _ (by kernel_rfl)
        obtain ⟨⟨v387, q386, s388⟩, ⟨v390, q389, s391⟩, ⟨v393, q392, s394⟩, -⟩ := hr395x
        obtain rfl : v387 = .int .i64 (cmpI (nv 256 xs) (nv 256 ys)) := s388
        obtain rfl : v390 = .int .i64 (cmpI (nv 256 xs) (nv 256 ys)) := s391
        obtain rfl : v393 = .bool false := s394
        obtain ⟨HE, HE164⟩ := hJ383
        have hF378 : Fr 113 a377 [(44, .int .i64 (cmpI (nv 256 xs) (nv 256 ys))), (47, .int .i64 (cmpI (nv 256 xs) (nv 256 ys))), (41, .bool false)] := Fr.of hs381 hd382 ⟨q386, q389, q392, trivial⟩
        refine One.bare hF378 (by kernel_rfl) (s_pure hT (d := 48) (v := .bool (!(decide ((cmpI (nv 256 xs) (nv 256 ys)) = (cmpI (nv 256 xs) (nv 256 ys)))))) (cs := []) (by kernel_rfl) (by kernel_rfl) trivial hF378 ?_)
        have htr : (!(decide ((cmpI (nv 256 xs) (nv 256 ys)) = (cmpI (nv 256 xs) (nv 256 ys))))) = false := (congrArg Bool.not (decide_eq_true rfl))
        rintro a2 ha2 hF2; rw [ha2]; exact hK380 _ _ (congrArg Value.bool htr) (grown_refl _ _)
      · -- operation 13
        rintro a397 w396 b399 KK405 hs401 hd402 hJ403 hb404 hr412 hK400
        have hr412x : RD SL_ a397 a157 w396 [(41, some 5), (48, some 12)] := hr412 _ (by kernel_rfl)
        obtain ⟨⟨v407, q406, s408⟩, ⟨v410, q409, s411⟩, -⟩ := hr412x
        obtain rfl : v407 = .bool false := s408
        obtain rfl : v410 = .bool false := s411
        obtain ⟨HE, HE164⟩ := hJ403
        have hF398 : Fr 113 a397 [(41, .bool false), (48, .bool false)] := Fr.of hs401 hd402 ⟨q406, q409, trivial⟩
        refine s_pure hT (d := 49) (v := .bool false) (cs := []) (by kernel_rfl) (by kernel_rfl) trivial hF398 ?_
        rintro a2 ha2 hF2; rw [ha2]; exact hK400 _ _ rfl (grown_refl _ _)
      · -- operation 14
        rintro a414 w413 b416 KK422 hs418 hd419 hJ420 hb421 hr426 hK417
        have hr426x : RD SL_ a414 a157 w413 [(49, some 13)] := hr426 _ (by kernel_rfl)
        obtain ⟨⟨v424, q423, s425⟩, -⟩ := hr426x
        obtain rfl : v424 = .bool false := s425
        obtain ⟨HE, HE164⟩ := hJ420
        have hF415 : Fr 113 a414 [(49, .bool false)] := Fr.of hs418 hd419 ⟨q423, trivial⟩
        refine s_pure hT (d := 50) (v := .bool false) (cs := []) (by kernel_rfl) (by kernel_rfl) trivial hF415 ?_
        rintro a2 ha2 hF2; rw [ha2]; exact hK417 _ _ rfl (grown_refl _ _)
      · -- operation 15
        rintro a428 w427 b430 KK436 hs432 hd433 hJ434 hb435 hr441 hK431
        have hr441x : RD SL_ a428 a157 w427 [(6, none), (50, some 14)] := hr441 _ (by kernel_rfl)
        obtain ⟨q437, ⟨v439, q438, s440⟩, -⟩ := hr441x
        obtain rfl : v439 = .bool false := s440
        obtain ⟨HE, HE164⟩ := hJ434
        have hF429 : Fr 113 a428 [(6, .slice A59 ((dig 256 (nv 256 xs)).length) c60), (50, .bool false)] := Fr.of hs432 hd433 ⟨(Fr.init hF159 q437 (by kernel_rfl)), q438, trivial⟩
        refine One.bare hF429 (by kernel_rfl) (s_pure hT (d := 51) (v := .slice A59 ((dig 256 (nv 256 xs)).length) c60) (cs := []) (by kernel_rfl) (by kernel_rfl) trivial hF429 ?_)
        rintro a2 ha2 hF2; rw [ha2]; exact hK431 _ _ rfl (grown_refl _ _)
      · -- operation 16
        rintro a443 w442 b445 KK451 hs447 hd448 hJ449 hb450 hr458 hK446
        have hr458x : RD SL_ a443 a157 w442 [(51, some 15), (50, some 14)] := hr458 _ (by kernel_rfl)
        obtain ⟨⟨v453, q452, s454⟩, ⟨v456, q455, s457⟩, -⟩ := hr458x
        obtain rfl : v453 = .slice A59 ((dig 256 (nv 256 xs)).length) c60 := s454
        obtain rfl : v456 = .bool false := s457
        obtain ⟨HE, HE164⟩ := hJ449
        have hF444 : Fr 113 a443 [(51, .slice A59 ((dig 256 (nv 256 xs)).length) c60), (50, .bool false)] := Fr.of hs447 hd448 ⟨q452, q455, trivial⟩
        refine One.bare hF444 (by kernel_rfl) (s_str hT (d := 52) (A := A59) (m := (dig 256 (nv 256 xs)).length) (xs := (dig 256 (nv 256 xs))) (by kernel_rfl) hF444 (HR166.ex HE164) (by (first | (simp only [vs_length, vi_length]; omega) | (simp; omega) | omega)) ?_)
        rintro a459 ha461 hF460
        rw [ha461]; exact hK446 _ _ rfl (grown_refl _ _)
      · -- operation 17
        rintro a463 w462 b465 KK471 hs467 hd468 hJ469 hb470 hr476 hK466
        have hr476x : RD SL_ a463 a157 w462 [(0, none), (50, some 14)] := hr476 _ (by kernel_rfl)
        obtain ⟨q472, ⟨v474, q473, s475⟩, -⟩ := hr476x
        obtain rfl : v474 = .bool false := s475
        obtain ⟨HE, HE164⟩ := hJ469
        have hF464 : Fr 113 a463 [(0, .slice Ax xs.length cx), (50, .bool false)] := Fr.of hs467 hd468 ⟨(Fr.init hF159 q472 (by kernel_rfl)), q473, trivial⟩
        refine One.bare hF464 (by kernel_rfl) (s_pure hT (d := 53) (v := .slice Ax xs.length cx) (cs := []) (by kernel_rfl) (by kernel_rfl) trivial hF464 ?_)
        rintro a2 ha2 hF2; rw [ha2]; exact hK466 _ _ rfl (grown_refl _ _)
      · -- operation 18
        rintro a478 w477 b480 KK486 hs482 hd483 hJ484 hb485 hr493 hK481
        have hr493x : RD SL_ a478 a157 w477 [(53, some 17), (50, some 14)] := hr493 _ (by kernel_rfl)
        obtain ⟨⟨v488, q487, s489⟩, ⟨v491, q490, s492⟩, -⟩ := hr493x
        obtain rfl : v488 = .slice Ax xs.length cx := s489
        obtain rfl : v491 = .bool false := s492
        obtain ⟨HE, HE164⟩ := hJ484
        have hF479 : Fr 113 a478 [(53, .slice Ax xs.length cx), (50, .bool false)] := Fr.of hs482 hd483 ⟨q487, q490, trivial⟩
        have hz500 := HE.size
        have hz501 := HE164.size
        refine One.bare hF479 (by kernel_rfl) (s_call (d := 54) (f := 21) (l := [.slice Ax xs.length cx]) (by kernel_rfl) hF479 cl21 (ref15_Norm Ax xs.length cx xs (nv 256 xs) _ rfl (by first | omega | assumption | (simp; done) | (simp; omega) | decide) (hxs.ex HE) (by first | assumption | exact by_dig _ | exact by_one (Nat.mod_lt _ (by decide)) | omega | simp | decide) (by first | omega | assumption | (simp; done) | (simp; omega) | decide) (by first | omega | assumption | (simp; done) | (simp; omega) | decide)) ?_)
        rintro a502 w497 v498 ⟨A494, c495, rfl, HX499, HO496⟩ ha504 hF503
        replace HE := HE.thenN HX499.g
        replace HE164 := HE164.thenN HX499.g
        have hcp505 := HO496.cap
        rw [ha504]; exact hK481 _ _ ⟨_, _, rfl, HO496.rd⟩ HX499.g
      · -- operation 19
        rintro a507 w506 b509 KK515 hs511 hd512 hJ513 hb514 hr525 hK510
        have hr525x : RD SL_ a507 a157 w506 [(54, some 18), (50, some 14)] := hr525 _ (by kernel_rfl)
        obtain ⟨⟨v517, q516, s518⟩, ⟨v523, q522, s524⟩, -⟩ := hr525x
        obtain ⟨A519, c520, rfl, HR521⟩ := s518
        obtain rfl : v523 = .bool false := s524
        obtain ⟨HE, HE164⟩ := hJ513
        have hF508 : Fr 113 a507 [(54, .slice A519 ((dig 256 (nv 256 xs)).length) c520), (50, .bool false)] := Fr.of hs511 hd512 ⟨q516, q522, trivial⟩
        refine One.bare hF508 (by kernel_rfl) (s_str hT (d := 55) (A := A519) (m := (dig 256 (nv 256 xs)).length) (xs := (dig 256 (nv 256 xs))) (by kernel_rfl) hF508 HR521 (by (first | (simp only [vs_length, vi_length]; omega) | (simp; omega) | omega)) ?_)
        rintro a526 ha528 hF527
        rw [ha528]; exact hK510 _ _ rfl (grown_refl _ _)
      · -- operation 20
        rintro a530 w529 b532 KK538 hs534 hd535 hJ536 hb537 hr548 hK533
        have hr548x : RD SL_ a530 a157 w529 [(52, some 16), (55, some 19), (50, some 14)] := hr548 _ (by kernel_rfl)
        obtain ⟨⟨v540, q539, s541⟩, ⟨v543, q542, s544⟩, ⟨v546, q545, s547⟩, -⟩ := hr548x
        obtain rfl : v540 = .string (str (dig 256 (nv 256 xs))) := s541
        obtain rfl : v543 = .string (str (dig 256 (nv 256 xs))) := s544
        obtain rfl : v546 = .bool false := s547
        obtain ⟨HE, HE164⟩ := hJ536
        have hF531 : Fr 113 a530 [(52, .string (str (dig 256 (nv 256 xs)))), (55, .string (str (dig 256 (nv 256 xs)))), (50, .bool false)] := Fr.of hs534 hd535 ⟨q539, q542, q545, trivial⟩
        refine One.bare hF531 (by kernel_rfl) (s_pure hT (d := 56) (v := .bool (!(ByteArray.toList (str (dig 256 (nv 256 xs))) == ByteArray.toList (str (dig 256 (nv 256 xs)))))) (cs := []) (by kernel_rfl) (by kernel_rfl) trivial hF531 ?_)
        have htr : (!(ByteArray.toList (str (dig 256 (nv 256 xs))) == ByteArray.toList (str (dig 256 (nv 256 xs))))) = false := (congrArg Bool.not (str_eqT rfl))
        rintro a2 ha2 hF2; rw [ha2]; exact hK533 _ _ (congrArg Value.bool htr) (grown_refl _ _)
      · -- operation 21
        rintro a550 w549 b552 KK558 hs554 hd555 hJ556 hb557 hr565 hK553
        have hr565x : RD SL_ a550 a157 w549 [(50, some 14), (56, some 20)] := hr565 _ (by kernel_rfl)
        obtain ⟨⟨v560, q559, s561⟩, ⟨v563, q562, s564⟩, -⟩ := hr565x
        obtain rfl : v560 = .bool false := s561
        obtain rfl : v563 = .bool false := s564
        obtain ⟨HE, HE164⟩ := hJ556
        have hF551 : Fr 113 a550 [(50, .bool false), (56, .bool false)] := Fr.of hs554 hd555 ⟨q559, q562, trivial⟩
        refine s_pure hT (d := 57) (v := .bool false) (cs := []) (by kernel_rfl) (by kernel_rfl) trivial hF551 ?_
        rintro a2 ha2 hF2; rw [ha2]; exact hK553 _ _ rfl (grown_refl _ _)
      · -- operation 22
        rintro a567 w566 b569 KK575 hs571 hd572 hJ573 hb574 hr579 hK570
        have hr579x : RD SL_ a567 a157 w566 [(57, some 21)] := hr579 _ (by kernel_rfl)
        obtain ⟨⟨v577, q576, s578⟩, -⟩ := hr579x
        obtain rfl : v577 = .bool false := s578
        obtain ⟨HE, HE164⟩ := hJ573
        have hF568 : Fr 113 a567 [(57, .bool false)] := Fr.of hs571 hd572 ⟨q576, trivial⟩
        refine s_pure hT (d := 58) (v := .bool false) (cs := []) (by kernel_rfl) (by kernel_rfl) trivial hF568 ?_
        rintro a2 ha2 hF2; rw [ha2]; exact hK570 _ _ rfl (grown_refl _ _)
      · -- operation 23
        rintro a581 w580 b583 KK589 hs585 hd586 hJ587 hb588 hr594 hK584
        have hr594x : RD SL_ a581 a157 w580 [(7, none), (58, some 22)] := hr594 _ (by kernel_rfl)
        obtain ⟨q590, ⟨v592, q591, s593⟩, -⟩ := hr594x
        obtain rfl : v592 = .bool false := s593
        obtain ⟨HE, HE164⟩ := hJ587
        have hF582 : Fr 113 a581 [(7, .slice A78 ((dig 256 ((nv 256 xs) + (nv 256 ys))).length) c79), (58, .bool false)] := Fr.of hs585 hd586 ⟨(Fr.init hF159 q590 (by kernel_rfl)), q591, trivial⟩
        refine One.bare hF582 (by kernel_rfl) (s_pure hT (d := 59) (v := .slice A78 ((dig 256 ((nv 256 xs) + (nv 256 ys))).length) c79) (cs := []) (by kernel_rfl) (by kernel_rfl) trivial hF582 ?_)
        rintro a2 ha2 hF2; rw [ha2]; exact hK584 _ _ rfl (grown_refl _ _)
      · -- operation 24
        rintro a596 w595 b598 KK604 hs600 hd601 hJ602 hb603 hr611 hK599
        have hr611x : RD SL_ a596 a157 w595 [(59, some 23), (58, some 22)] := hr611 _ (by kernel_rfl)
        obtain ⟨⟨v606, q605, s607⟩, ⟨v609, q608, s610⟩, -⟩ := hr611x
        obtain rfl : v606 = .slice A78 ((dig 256 ((nv 256 xs) + (nv 256 ys))).length) c79 := s607
        obtain rfl : v609 = .bool false := s610
        obtain ⟨HE, HE164⟩ := hJ602
        have hF597 : Fr 113 a596 [(59, .slice A78 ((dig 256 ((nv 256 xs) + (nv 256 ys))).length) c79), (58, .bool false)] := Fr.of hs600 hd601 ⟨q605, q608, trivial⟩
        refine One.bare hF597 (by kernel_rfl) (s_str hT (d := 60) (A := A78) (m := (dig 256 ((nv 256 xs) + (nv 256 ys))).length) (xs := (dig 256 ((nv 256 xs) + (nv 256 ys)))) (by kernel_rfl) hF597 (HR167.ex HE164) (by (first | (simp only [vs_length, vi_length]; omega) | (simp; omega) | omega)) ?_)
        rintro a612 ha614 hF613
        rw [ha614]; exact hK599 _ _ rfl (grown_refl _ _)
      · -- operation 25
        rintro a616 w615 b618 KK624 hs620 hd621 hJ622 hb623 hr629 hK619
        have hr629x : RD SL_ a616 a157 w615 [(0, none), (58, some 22)] := hr629 _ (by kernel_rfl)
        obtain ⟨q625, ⟨v627, q626, s628⟩, -⟩ := hr629x
        obtain rfl : v627 = .bool false := s628
        obtain ⟨HE, HE164⟩ := hJ622
        have hF617 : Fr 113 a616 [(0, .slice Ax xs.length cx), (58, .bool false)] := Fr.of hs620 hd621 ⟨(Fr.init hF159 q625 (by kernel_rfl)), q626, trivial⟩
        refine One.bare hF617 (by kernel_rfl) (s_pure hT (d := 61) (v := .slice Ax xs.length cx) (cs := []) (by kernel_rfl) (by kernel_rfl) trivial hF617 ?_)
        rintro a2 ha2 hF2; rw [ha2]; exact hK619 _ _ rfl (grown_refl _ _)
      · -- operation 26
        rintro a631 w630 b633 KK639 hs635 hd636 hJ637 hb638 hr644 hK634
        have hr644x : RD SL_ a631 a157 w630 [(1, none), (58, some 22)] := hr644 _ (by kernel_rfl)
        obtain ⟨q640, ⟨v642, q641, s643⟩, -⟩ := hr644x
        obtain rfl : v642 = .bool false := s643
        obtain ⟨HE, HE164⟩ := hJ637
        have hF632 : Fr 113 a631 [(1, .slice Ay ys.length cy), (58, .bool false)] := Fr.of hs635 hd636 ⟨(Fr.init hF159 q640 (by kernel_rfl)), q641, trivial⟩
        refine One.bare hF632 (by kernel_rfl) (s_pure hT (d := 62) (v := .slice Ay ys.length cy) (cs := []) (by kernel_rfl) (by kernel_rfl) trivial hF632 ?_)
        rintro a2 ha2 hF2; rw [ha2]; exact hK634 _ _ rfl (grown_refl _ _)
      · -- operation 27
        rintro a646 w645 b648 KK654 hs650 hd651 hJ652 hb653 hr664 hK649
        have hr664x : RD SL_ a646 a157 w645 [(61, some 25), (62, some 26), (58, some 22)] := hr664 _ (by kernel_rfl)
        obtain ⟨⟨v656, q655, s657⟩, ⟨v659, q658, s660⟩, ⟨v662, q661, s663⟩, -⟩ := hr664x
        obtain rfl : v656 = .slice Ax xs.length cx := s657
        obtain rfl : v659 = .slice Ay ys.length cy := s660
        obtain rfl : v662 = .bool false := s663
        obtain ⟨HE, HE164⟩ := hJ652
        have hF647 : Fr 113 a646 [(61, .slice Ax xs.length cx), (62, .slice Ay ys.length cy), (58, .bool false)] := Fr.of hs650 hd651 ⟨q655, q658, q661, trivial⟩
        have hz671 := HE.size
        have hz672 := HE164.size
        refine One.bare hF647 (by kernel_rfl) (s_call (d := 63) (f := 22) (l := [.slice Ax xs.length cx, .slice Ay ys.length cy]) (by kernel_rfl) hF647 cl22 (ref15_Add Ax xs.length cx xs (nv 256 xs) Ay ys.length cy ys (nv 256 ys) _ rfl rfl (by first | omega | assumption | (simp; done) | (simp; omega) | decide) (by first | omega | assumption | (simp; done) | (simp; omega) | decide) (hxs.ex HE) (hys.ex HE) (by first | assumption | exact by_dig _ | exact by_one (Nat.mod_lt _ (by decide)) | omega | simp | decide) (by first | assumption | exact by_dig _ | exact by_one (Nat.mod_lt _ (by decide)) | omega | simp | decide) (by first | omega | assumption | (simp; done) | (simp; omega) | decide) (by first | omega | assumption | (simp; done) | (simp; omega) | decide) ) ?_)
        rintro a673 w668 v669 ⟨A665, c666, rfl, HX670, HO667⟩ ha675 hF674
        replace HE := HE.thenN HX670.g
        replace HE164 := HE164.thenN HX670.g
        have hcp676 := HO667.cap
        rw [ha675]; exact hK649 _ _ ⟨_, _, rfl, HO667.rd⟩ HX670.g
      · -- operation 28
        rintro a678 w677 b680 KK686 hs682 hd683 hJ684 hb685 hr696 hK681
        have hr696x : RD SL_ a678 a157 w677 [(63, some 27), (58, some 22)] := hr696 _ (by kernel_rfl)
        obtain ⟨⟨v688, q687, s689⟩, ⟨v694, q693, s695⟩, -⟩ := hr696x
        obtain ⟨A690, c691, rfl, HR692⟩ := s689
        obtain rfl : v694 = .bool false := s695
        obtain ⟨HE, HE164⟩ := hJ684
        have hF679 : Fr 113 a678 [(63, .slice A690 ((dig 256 ((nv 256 xs) + (nv 256 ys))).length) c691), (58, .bool false)] := Fr.of hs682 hd683 ⟨q687, q693, trivial⟩
        refine One.bare hF679 (by kernel_rfl) (s_str hT (d := 64) (A := A690) (m := (dig 256 ((nv 256 xs) + (nv 256 ys))).length) (xs := (dig 256 ((nv 256 xs) + (nv 256 ys)))) (by kernel_rfl) hF679 HR692 (by (first | (simp only [vs_length, vi_length]; omega) | (simp; omega) | omega)) ?_)
        rintro a697 ha699 hF698
        rw [ha699]; exact hK681 _ _ rfl (grown_refl _ _)
      · -- operation 29
        rintro a701 w700 b703 KK709 hs705 hd706 hJ707 hb708 hr719 hK704
        have hr719x : RD SL_ a701 a157 w700 [(60, some 24), (64, some 28), (58, some 22)] := hr719 _ (by kernel_rfl)
        obtain ⟨⟨v711, q710, s712⟩, ⟨v714, q713, s715⟩, ⟨v717, q716, s718⟩, -⟩ := hr719x
        obtain rfl : v711 = .string (str (dig 256 ((nv 256 xs) + (nv 256 ys)))) := s712
        obtain rfl : v714 = .string (str (dig 256 ((nv 256 xs) + (nv 256 ys)))) := s715
        obtain rfl : v717 = .bool false := s718
        obtain ⟨HE, HE164⟩ := hJ707
        have hF702 : Fr 113 a701 [(60, .string (str (dig 256 ((nv 256 xs) + (nv 256 ys))))), (64, .string (str (dig 256 ((nv 256 xs) + (nv 256 ys))))), (58, .bool false)] := Fr.of hs705 hd706 ⟨q710, q713, q716, trivial⟩
        refine One.bare hF702 (by kernel_rfl) (s_pure hT (d := 65) (v := .bool (!(ByteArray.toList (str (dig 256 ((nv 256 xs) + (nv 256 ys)))) == ByteArray.toList (str (dig 256 ((nv 256 xs) + (nv 256 ys))))))) (cs := []) (by kernel_rfl) (by kernel_rfl) trivial hF702 ?_)
        have htr : (!(ByteArray.toList (str (dig 256 ((nv 256 xs) + (nv 256 ys)))) == ByteArray.toList (str (dig 256 ((nv 256 xs) + (nv 256 ys)))))) = false := (congrArg Bool.not (str_eqT rfl))
        rintro a2 ha2 hF2; rw [ha2]; exact hK704 _ _ (congrArg Value.bool htr) (grown_refl _ _)
      · -- operation 30
        rintro a721 w720 b723 KK729 hs725 hd726 hJ727 hb728 hr736 hK724
        have hr736x : RD SL_ a721 a157 w720 [(58, some 22), (65, some 29)] := hr736 _ (by kernel_rfl)
        obtain ⟨⟨v731, q730, s732⟩, ⟨v734, q733, s735⟩, -⟩ := hr736x
        obtain rfl : v731 = .bool false := s732
        obtain rfl : v734 = .bool false := s735
        obtain ⟨HE, HE164⟩ := hJ727
        have hF722 : Fr 113 a721 [(58, .bool false), (65, .bool false)] := Fr.of hs725 hd726 ⟨q730, q733, trivial⟩
        refine s_pure hT (d := 66) (v := .bool false) (cs := []) (by kernel_rfl) (by kernel_rfl) trivial hF722 ?_
        rintro a2 ha2 hF2; rw [ha2]; exact hK724 _ _ rfl (grown_refl _ _)
      · -- operation 31
        rintro a738 w737 b740 KK746 hs742 hd743 hJ744 hb745 hr750 hK741
        have hr750x : RD SL_ a738 a157 w737 [(66, some 30)] := hr750 _ (by kernel_rfl)
        obtain ⟨⟨v748, q747, s749⟩, -⟩ := hr750x
        obtain rfl : v748 = .bool false := s749
        obtain ⟨HE, HE164⟩ := hJ744
        have hF739 : Fr 113 a738 [(66, .bool false)] := Fr.of hs742 hd743 ⟨q747, trivial⟩
        refine s_pure hT (d := 67) (v := .bool false) (cs := []) (by kernel_rfl) (by kernel_rfl) trivial hF739 ?_
        rintro a2 ha2 hF2; rw [ha2]; exact hK741 _ _ rfl (grown_refl _ _)
      · -- operation 32
        rintro a752 w751 b754 KK760 hs756 hd757 hJ758 hb759 hr765 hK755
        have hr765x : RD SL_ a752 a157 w751 [(8, none), (67, some 31)] := hr765 _ (by kernel_rfl)
        obtain ⟨q761, ⟨v763, q762, s764⟩, -⟩ := hr765x
        obtain rfl : v763 = .bool false := s764
        obtain ⟨HE, HE164⟩ := hJ758
        have hF753 : Fr 113 a752 [(8, .slice A98 ((dig 256 ((nv 256 xs) - (nv 256 ys))).length) c99), (67, .bool false)] := Fr.of hs756 hd757 ⟨(Fr.init hF159 q761 (by kernel_rfl)), q762, trivial⟩
        refine One.bare hF753 (by kernel_rfl) (s_pure hT (d := 68) (v := .slice A98 ((dig 256 ((nv 256 xs) - (nv 256 ys))).length) c99) (cs := []) (by kernel_rfl) (by kernel_rfl) trivial hF753 ?_)
        rintro a2 ha2 hF2; rw [ha2]; exact hK755 _ _ rfl (grown_refl _ _)
      · -- operation 33
        rintro a767 w766 b769 KK775 hs771 hd772 hJ773 hb774 hr782 hK770
        have hr782x : RD SL_ a767 a157 w766 [(68, some 32), (67, some 31)] := hr782 _ (by kernel_rfl)
        obtain ⟨⟨v777, q776, s778⟩, ⟨v780, q779, s781⟩, -⟩ := hr782x
        obtain rfl : v777 = .slice A98 ((dig 256 ((nv 256 xs) - (nv 256 ys))).length) c99 := s778
        obtain rfl : v780 = .bool false := s781
        obtain ⟨HE, HE164⟩ := hJ773
        have hF768 : Fr 113 a767 [(68, .slice A98 ((dig 256 ((nv 256 xs) - (nv 256 ys))).length) c99), (67, .bool false)] := Fr.of hs771 hd772 ⟨q776, q779, trivial⟩
        refine One.bare hF768 (by kernel_rfl) (s_str hT (d := 69) (A := A98) (m := (dig 256 ((nv 256 xs) - (nv 256 ys))).length) (xs := (dig 256 ((nv 256 xs) - (nv 256 ys)))) (by kernel_rfl) hF768 (HR168.ex HE164) (by (first | (simp only [vs_length, vi_length]; omega) | (simp; omega) | omega)) ?_)
        rintro a783 ha785 hF784
        rw [ha785]; exact hK770 _ _ rfl (grown_refl _ _)
      · -- operation 34
        rintro a787 w786 b789 KK795 hs791 hd792 hJ793 hb794 hr800 hK790
        have hr800x : RD SL_ a787 a157 w786 [(0, none), (67, some 31)] := hr800 _ (by kernel_rfl)
        obtain ⟨q796, ⟨v798, q797, s799⟩, -⟩ := hr800x
        obtain rfl : v798 = .bool false := s799
        obtain ⟨HE, HE164⟩ := hJ793
        have hF788 : Fr 113 a787 [(0, .slice Ax xs.length cx), (67, .bool false)] := Fr.of hs791 hd792 ⟨(Fr.init hF159 q796 (by kernel_rfl)), q797, trivial⟩
        refine One.bare hF788 (by kernel_rfl) (s_pure hT (d := 70) (v := .slice Ax xs.length cx) (cs := []) (by kernel_rfl) (by kernel_rfl) trivial hF788 ?_)
        rintro a2 ha2 hF2; rw [ha2]; exact hK790 _ _ rfl (grown_refl _ _)
      · -- operation 35
        rintro a802 w801 b804 KK810 hs806 hd807 hJ808 hb809 hr815 hK805
        have hr815x : RD SL_ a802 a157 w801 [(1, none), (67, some 31)] := hr815 _ (by kernel_rfl)
        obtain ⟨q811, ⟨v813, q812, s814⟩, -⟩ := hr815x
        obtain rfl : v813 = .bool false := s814
        obtain ⟨HE, HE164⟩ := hJ808
        have hF803 : Fr 113 a802 [(1, .slice Ay ys.length cy), (67, .bool false)] := Fr.of hs806 hd807 ⟨(Fr.init hF159 q811 (by kernel_rfl)), q812, trivial⟩
        refine One.bare hF803 (by kernel_rfl) (s_pure hT (d := 71) (v := .slice Ay ys.length cy) (cs := []) (by kernel_rfl) (by kernel_rfl) trivial hF803 ?_)
        rintro a2 ha2 hF2; rw [ha2]; exact hK805 _ _ rfl (grown_refl _ _)
      · -- operation 36
        rintro a817 w816 b819 KK825 hs821 hd822 hJ823 hb824 hr835 hK820
        have hr835x : RD SL_ a817 a157 w816 [(70, some 34), (71, some 35), (67, some 31)] := hr835 _ (by kernel_rfl)
        obtain ⟨⟨v827, q826, s828⟩, ⟨v830, q829, s831⟩, ⟨v833, q832, s834⟩, -⟩ := hr835x
        obtain rfl : v827 = .slice Ax xs.length cx := s828
        obtain rfl : v830 = .slice Ay ys.length cy := s831
        obtain rfl : v833 = .bool false := s834
        obtain ⟨HE, HE164⟩ := hJ823
        have hF818 : Fr 113 a817 [(70, .slice Ax xs.length cx), (71, .slice Ay ys.length cy), (67, .bool false)] := Fr.of hs821 hd822 ⟨q826, q829, q832, trivial⟩
        have hz842 := HE.size
        have hz843 := HE164.size
        refine One.bare hF818 (by kernel_rfl) (s_call (d := 72) (f := 23) (l := [.slice Ax xs.length cx, .slice Ay ys.length cy]) (by kernel_rfl) hF818 cl23 (ref15_Sub Ax xs.length cx xs (nv 256 xs) Ay ys.length cy ys (nv 256 ys) _ rfl rfl (by first | omega | assumption | (simp; done) | (simp; omega) | decide) (by first | omega | assumption | (simp; done) | (simp; omega) | decide) (hxs.ex HE) (hys.ex HE) (by first | assumption | exact by_dig _ | exact by_one (Nat.mod_lt _ (by decide)) | omega | simp | decide) (by first | assumption | exact by_dig _ | exact by_one (Nat.mod_lt _ (by decide)) | omega | simp | decide) (by first | omega | assumption | (simp; done) | (simp; omega) | decide) (by first | omega | assumption | (simp; done) | (simp; omega) | decide) ) ?_)
        rintro a844 w839 v840 ⟨A836, c837, rfl, HX841, HO838⟩ ha846 hF845
        replace HE := HE.thenN HX841.g
        replace HE164 := HE164.thenN HX841.g
        have hcp847 := HO838.cap
        rw [ha846]; exact hK820 _ _ ⟨_, _, rfl, HO838.rd⟩ HX841.g
      · -- operation 37
        rintro a849 w848 b851 KK857 hs853 hd854 hJ855 hb856 hr867 hK852
        have hr867x : RD SL_ a849 a157 w848 [(72, some 36), (67, some 31)] := hr867 _ (by kernel_rfl)
        obtain ⟨⟨v859, q858, s860⟩, ⟨v865, q864, s866⟩, -⟩ := hr867x
        obtain ⟨A861, c862, rfl, HR863⟩ := s860
        obtain rfl : v865 = .bool false := s866
        obtain ⟨HE, HE164⟩ := hJ855
        have hF850 : Fr 113 a849 [(72, .slice A861 ((dig 256 ((nv 256 xs) - (nv 256 ys))).length) c862), (67, .bool false)] := Fr.of hs853 hd854 ⟨q858, q864, trivial⟩
        refine One.bare hF850 (by kernel_rfl) (s_str hT (d := 73) (A := A861) (m := (dig 256 ((nv 256 xs) - (nv 256 ys))).length) (xs := (dig 256 ((nv 256 xs) - (nv 256 ys)))) (by kernel_rfl) hF850 HR863 (by (first | (simp only [vs_length, vi_length]; omega) | (simp; omega) | omega)) ?_)
        rintro a868 ha870 hF869
        rw [ha870]; exact hK852 _ _ rfl (grown_refl _ _)
      · -- operation 38
        rintro a872 w871 b874 KK880 hs876 hd877 hJ878 hb879 hr890 hK875
        have hr890x : RD SL_ a872 a157 w871 [(69, some 33), (73, some 37), (67, some 31)] := hr890 _ (by kernel_rfl)
        obtain ⟨⟨v882, q881, s883⟩, ⟨v885, q884, s886⟩, ⟨v888, q887, s889⟩, -⟩ := hr890x
        obtain rfl : v882 = .string (str (dig 256 ((nv 256 xs) - (nv 256 ys)))) := s883
        obtain rfl : v885 = .string (str (dig 256 ((nv 256 xs) - (nv 256 ys)))) := s886
        obtain rfl : v888 = .bool false := s889
        obtain ⟨HE, HE164⟩ := hJ878
        have hF873 : Fr 113 a872 [(69, .string (str (dig 256 ((nv 256 xs) - (nv 256 ys))))), (73, .string (str (dig 256 ((nv 256 xs) - (nv 256 ys))))), (67, .bool false)] := Fr.of hs876 hd877 ⟨q881, q884, q887, trivial⟩
        refine One.bare hF873 (by kernel_rfl) (s_pure hT (d := 74) (v := .bool (!(ByteArray.toList (str (dig 256 ((nv 256 xs) - (nv 256 ys)))) == ByteArray.toList (str (dig 256 ((nv 256 xs) - (nv 256 ys))))))) (cs := []) (by kernel_rfl) (by kernel_rfl) trivial hF873 ?_)
        have htr : (!(ByteArray.toList (str (dig 256 ((nv 256 xs) - (nv 256 ys)))) == ByteArray.toList (str (dig 256 ((nv 256 xs) - (nv 256 ys)))))) = false := (congrArg Bool.not (str_eqT rfl))
        rintro a2 ha2 hF2; rw [ha2]; exact hK875 _ _ (congrArg Value.bool htr) (grown_refl _ _)
      · -- operation 39
        rintro a892 w891 b894 KK900 hs896 hd897 hJ898 hb899 hr907 hK895
        have hr907x : RD SL_ a892 a157 w891 [(67, some 31), (74, some 38)] := hr907 _ (by kernel_rfl)
        obtain ⟨⟨v902, q901, s903⟩, ⟨v905, q904, s906⟩, -⟩ := hr907x
        obtain rfl : v902 = .bool false := s903
        obtain rfl : v905 = .bool false := s906
        obtain ⟨HE, HE164⟩ := hJ898
        have hF893 : Fr 113 a892 [(67, .bool false), (74, .bool false)] := Fr.of hs896 hd897 ⟨q901, q904, trivial⟩
        refine s_pure hT (d := 75) (v := .bool false) (cs := []) (by kernel_rfl) (by kernel_rfl) trivial hF893 ?_
        rintro a2 ha2 hF2; rw [ha2]; exact hK895 _ _ rfl (grown_refl _ _)
      · -- operation 40
        rintro a909 w908 b911 KK917 hs913 hd914 hJ915 hb916 hr921 hK912
        have hr921x : RD SL_ a909 a157 w908 [(75, some 39)] := hr921 _ (by kernel_rfl)
        obtain ⟨⟨v919, q918, s920⟩, -⟩ := hr921x
        obtain rfl : v919 = .bool false := s920
        obtain ⟨HE, HE164⟩ := hJ915
        have hF910 : Fr 113 a909 [(75, .bool false)] := Fr.of hs913 hd914 ⟨q918, trivial⟩
        refine s_pure hT (d := 76) (v := .bool false) (cs := []) (by kernel_rfl) (by kernel_rfl) trivial hF910 ?_
        rintro a2 ha2 hF2; rw [ha2]; exact hK912 _ _ rfl (grown_refl _ _)
      · -- operation 41
        rintro a923 w922 b925 KK931 hs927 hd928 hJ929 hb930 hr936 hK926
        have hr936x : RD SL_ a923 a157 w922 [(9, none), (76, some 40)] := hr936 _ (by kernel_rfl)
        obtain ⟨q932, ⟨v934, q933, s935⟩, -⟩ := hr936x
        obtain rfl : v934 = .bool false := s935
        obtain ⟨HE, HE164⟩ := hJ929
        have hF924 : Fr 113 a923 [(9, .slice A119 ((dig 256 ((nv 256 xs) * (nv 256 ys))).length) c120), (76, .bool false)] := Fr.of hs927 hd928 ⟨(Fr.init hF159 q932 (by kernel_rfl)), q933, trivial⟩
        refine One.bare hF924 (by kernel_rfl) (s_pure hT (d := 77) (v := .slice A119 ((dig 256 ((nv 256 xs) * (nv 256 ys))).length) c120) (cs := []) (by kernel_rfl) (by kernel_rfl) trivial hF924 ?_)
        rintro a2 ha2 hF2; rw [ha2]; exact hK926 _ _ rfl (grown_refl _ _)
      · -- operation 42
        rintro a938 w937 b940 KK946 hs942 hd943 hJ944 hb945 hr953 hK941
        have hr953x : RD SL_ a938 a157 w937 [(77, some 41), (76, some 40)] := hr953 _ (by kernel_rfl)
        obtain ⟨⟨v948, q947, s949⟩, ⟨v951, q950, s952⟩, -⟩ := hr953x
        obtain rfl : v948 = .slice A119 ((dig 256 ((nv 256 xs) * (nv 256 ys))).length) c120 := s949
        obtain rfl : v951 = .bool false := s952
        obtain ⟨HE, HE164⟩ := hJ944
        have hF939 : Fr 113 a938 [(77, .slice A119 ((dig 256 ((nv 256 xs) * (nv 256 ys))).length) c120), (76, .bool false)] := Fr.of hs942 hd943 ⟨q947, q950, trivial⟩
        refine One.bare hF939 (by kernel_rfl) (s_str hT (d := 78) (A := A119) (m := (dig 256 ((nv 256 xs) * (nv 256 ys))).length) (xs := (dig 256 ((nv 256 xs) * (nv 256 ys)))) (by kernel_rfl) hF939 (HR169.ex HE164) (by (first | (simp only [vs_length, vi_length]; omega) | (simp; omega) | omega)) ?_)
        rintro a954 ha956 hF955
        rw [ha956]; exact hK941 _ _ rfl (grown_refl _ _)
      · -- operation 43
        rintro a958 w957 b960 KK966 hs962 hd963 hJ964 hb965 hr971 hK961
        have hr971x : RD SL_ a958 a157 w957 [(0, none), (76, some 40)] := hr971 _ (by kernel_rfl)
        obtain ⟨q967, ⟨v969, q968, s970⟩, -⟩ := hr971x
        obtain rfl : v969 = .bool false := s970
        obtain ⟨HE, HE164⟩ := hJ964
        have hF959 : Fr 113 a958 [(0, .slice Ax xs.length cx), (76, .bool false)] := Fr.of hs962 hd963 ⟨(Fr.init hF159 q967 (by kernel_rfl)), q968, trivial⟩
        refine One.bare hF959 (by kernel_rfl) (s_pure hT (d := 79) (v := .slice Ax xs.length cx) (cs := []) (by kernel_rfl) (by kernel_rfl) trivial hF959 ?_)
        rintro a2 ha2 hF2; rw [ha2]; exact hK961 _ _ rfl (grown_refl _ _)
      · -- operation 44
        rintro a973 w972 b975 KK981 hs977 hd978 hJ979 hb980 hr986 hK976
        have hr986x : RD SL_ a973 a157 w972 [(1, none), (76, some 40)] := hr986 _ (by kernel_rfl)
        obtain ⟨q982, ⟨v984, q983, s985⟩, -⟩ := hr986x
        obtain rfl : v984 = .bool false := s985
        obtain ⟨HE, HE164⟩ := hJ979
        have hF974 : Fr 113 a973 [(1, .slice Ay ys.length cy), (76, .bool false)] := Fr.of hs977 hd978 ⟨(Fr.init hF159 q982 (by kernel_rfl)), q983, trivial⟩
        refine One.bare hF974 (by kernel_rfl) (s_pure hT (d := 80) (v := .slice Ay ys.length cy) (cs := []) (by kernel_rfl) (by kernel_rfl) trivial hF974 ?_)
        rintro a2 ha2 hF2; rw [ha2]; exact hK976 _ _ rfl (grown_refl _ _)
      · -- operation 45
        rintro a988 w987 b990 KK996 hs992 hd993 hJ994 hb995 hr1006 hK991
        have hr1006x : RD SL_ a988 a157 w987 [(79, some 43), (80, some 44), (76, some 40)] := hr1006 _ (by kernel_rfl)
        obtain ⟨⟨v998, q997, s999⟩, ⟨v1001, q1000, s1002⟩, ⟨v1004, q1003, s1005⟩, -⟩ := hr1006x
        obtain rfl : v998 = .slice Ax xs.length cx := s999
        obtain rfl : v1001 = .slice Ay ys.length cy := s1002
        obtain rfl : v1004 = .bool false := s1005
        obtain ⟨HE, HE164⟩ := hJ994
        have hF989 : Fr 113 a988 [(79, .slice Ax xs.length cx), (80, .slice Ay ys.length cy), (76, .bool false)] := Fr.of hs992 hd993 ⟨q997, q1000, q1003, trivial⟩
        have hz1013 := HE.size
        have hz1014 := HE164.size
        refine One.bare hF989 (by kernel_rfl) (s_call (d := 81) (f := 24) (l := [.slice Ax xs.length cx, .slice Ay ys.length cy]) (by kernel_rfl) hF989 cl24 (ref15_Mul Ax xs.length cx xs (nv 256 xs) Ay ys.length cy ys (nv 256 ys) _ rfl rfl (by first | omega | assumption | (simp; done) | (simp; omega) | decide) (by first | omega | assumption | (simp; done) | (simp; omega) | decide) (hxs.ex HE) (hys.ex HE) (by first | assumption | exact by_dig _ | exact by_one (Nat.mod_lt _ (by decide)) | omega | simp | decide) (by first | assumption | exact by_dig _ | exact by_one (Nat.mod_lt _ (by decide)) | omega | simp | decide) (by first | omega | assumption | (simp; done) | (simp; omega) | decide) (by first | omega | assumption | (simp; done) | (simp; omega) | decide) ) ?_)
        rintro a1015 w1010 v1011 ⟨A1007, c1008, rfl, HX1012, HO1009⟩ ha1017 hF1016
        replace HE := HE.thenN HX1012.g
        replace HE164 := HE164.thenN HX1012.g
        have hcp1018 := HO1009.cap
        rw [ha1017]; exact hK991 _ _ ⟨_, _, rfl, HO1009.rd⟩ HX1012.g
      · -- operation 46
        rintro a1020 w1019 b1022 KK1028 hs1024 hd1025 hJ1026 hb1027 hr1038 hK1023
        have hr1038x : RD SL_ a1020 a157 w1019 [(81, some 45), (76, some 40)] := hr1038 _ (by kernel_rfl)
        obtain ⟨⟨v1030, q1029, s1031⟩, ⟨v1036, q1035, s1037⟩, -⟩ := hr1038x
        obtain ⟨A1032, c1033, rfl, HR1034⟩ := s1031
        obtain rfl : v1036 = .bool false := s1037
        obtain ⟨HE, HE164⟩ := hJ1026
        have hF1021 : Fr 113 a1020 [(81, .slice A1032 ((dig 256 ((nv 256 xs) * (nv 256 ys))).length) c1033), (76, .bool false)] := Fr.of hs1024 hd1025 ⟨q1029, q1035, trivial⟩
        refine One.bare hF1021 (by kernel_rfl) (s_str hT (d := 82) (A := A1032) (m := (dig 256 ((nv 256 xs) * (nv 256 ys))).length) (xs := (dig 256 ((nv 256 xs) * (nv 256 ys)))) (by kernel_rfl) hF1021 HR1034 (by (first | (simp only [vs_length, vi_length]; omega) | (simp; omega) | omega)) ?_)
        rintro a1039 ha1041 hF1040
        rw [ha1041]; exact hK1023 _ _ rfl (grown_refl _ _)
      · -- operation 47
        rintro a1043 w1042 b1045 KK1051 hs1047 hd1048 hJ1049 hb1050 hr1061 hK1046
        have hr1061x : RD SL_ a1043 a157 w1042 [(78, some 42), (82, some 46), (76, some 40)] := hr1061 _ (by kernel_rfl)
        obtain ⟨⟨v1053, q1052, s1054⟩, ⟨v1056, q1055, s1057⟩, ⟨v1059, q1058, s1060⟩, -⟩ := hr1061x
        obtain rfl : v1053 = .string (str (dig 256 ((nv 256 xs) * (nv 256 ys)))) := s1054
        obtain rfl : v1056 = .string (str (dig 256 ((nv 256 xs) * (nv 256 ys)))) := s1057
        obtain rfl : v1059 = .bool false := s1060
        obtain ⟨HE, HE164⟩ := hJ1049
        have hF1044 : Fr 113 a1043 [(78, .string (str (dig 256 ((nv 256 xs) * (nv 256 ys))))), (82, .string (str (dig 256 ((nv 256 xs) * (nv 256 ys))))), (76, .bool false)] := Fr.of hs1047 hd1048 ⟨q1052, q1055, q1058, trivial⟩
        refine One.bare hF1044 (by kernel_rfl) (s_pure hT (d := 83) (v := .bool (!(ByteArray.toList (str (dig 256 ((nv 256 xs) * (nv 256 ys)))) == ByteArray.toList (str (dig 256 ((nv 256 xs) * (nv 256 ys))))))) (cs := []) (by kernel_rfl) (by kernel_rfl) trivial hF1044 ?_)
        have htr : (!(ByteArray.toList (str (dig 256 ((nv 256 xs) * (nv 256 ys)))) == ByteArray.toList (str (dig 256 ((nv 256 xs) * (nv 256 ys)))))) = false := (congrArg Bool.not (str_eqT rfl))
        rintro a2 ha2 hF2; rw [ha2]; exact hK1046 _ _ (congrArg Value.bool htr) (grown_refl _ _)
      · -- operation 48
        rintro a1063 w1062 b1065 KK1071 hs1067 hd1068 hJ1069 hb1070 hr1078 hK1066
        have hr1078x : RD SL_ a1063 a157 w1062 [(76, some 40), (83, some 47)] := hr1078 _ (by kernel_rfl)
        obtain ⟨⟨v1073, q1072, s1074⟩, ⟨v1076, q1075, s1077⟩, -⟩ := hr1078x
        obtain rfl : v1073 = .bool false := s1074
        obtain rfl : v1076 = .bool false := s1077
        obtain ⟨HE, HE164⟩ := hJ1069
        have hF1064 : Fr 113 a1063 [(76, .bool false), (83, .bool false)] := Fr.of hs1067 hd1068 ⟨q1072, q1075, trivial⟩
        refine s_pure hT (d := 84) (v := .bool false) (cs := []) (by kernel_rfl) (by kernel_rfl) trivial hF1064 ?_
        rintro a2 ha2 hF2; rw [ha2]; exact hK1066 _ _ rfl (grown_refl _ _)
      · -- behind the region
        rintro a1080 w1081 hs1082 hd1083 ⟨⟨v1085, q1086, s1087⟩, q1088, q1089, q1090, q1091, q1092, q1093, q1094, q1095, q1096, q1097, q1098, -⟩ ⟨HE, HE164⟩
        obtain rfl : v1085 = .bool false := s1087
        have hF1099 : Fr 113 a1080 [(84, .bool false), (11, .int .i64 20), (10, .slice A141 0 c142), (9, .slice A119 ((dig 256 ((nv 256 xs) * (nv 256 ys))).length) c120), (8, .slice A98 ((dig 256 ((nv 256 xs) - (nv 256 ys))).length) c99), (7, .slice A78 ((dig 256 ((nv 256 xs) + (nv 256 ys))).length) c79), (6, .slice A59 ((dig 256 (nv 256 xs)).length) c60), (5, .slice A46 xs.length c47), (15, .bool (!(decide ((xs.length ≤ 120 ∧ ys.length ≤ 120))))), (4, .bool false), (0, .slice Ax xs.length cx), (1, .slice Ay ys.length cy)] := Fr.of hs1082 hd1083 ⟨q1086, (Fr.init hF159 q1088 (by kernel_rfl)), (Fr.init hF159 q1089 (by kernel_rfl)), (Fr.init hF159 q1090 (by kernel_rfl)), (Fr.init hF159 q1091 (by kernel_rfl)), (Fr.init hF159 q1092 (by kernel_rfl)), (Fr.init hF159 q1093 (by kernel_rfl)), (Fr.init hF159 q1094 (by kernel_rfl)), (Fr.init hF159 q1095 (by kernel_rfl)), (Fr.init hF159 q1096 (by kernel_rfl)), (Fr.init hF159 q1097 (by kernel_rfl)), (Fr.init hF159 q1098 (by kernel_rfl)), trivial⟩
        clear hF159 hs1082 hd1083 q1086 q1088 q1089 q1090 q1091 q1092 q1093 q1094 q1095 q1096 q1097 q1098
        refine hK163 _ _ ?_
        refine condF hF1099 (by kernel_rfl) ?_
        refine wp_skip ?_
        refine hK161 _ _ ?_
        refine wp_seq_k (fun K1100 hK1101 => ?_)
        refine wp_seq_k (fun K1102 hK1103 => ?_)
        refine wp_region_lit ?_
        refine pures hT 1 _ hF1099 (F' := [(85, .slice Ay ys.length cy), (84, .bool false), (11, .int .i64 20), (10, .slice A141 0 c142), (9, .slice A119 ((dig 256 ((nv 256 xs) * (nv 256 ys))).length) c120), (8, .slice A98 ((dig 256 ((nv 256 xs) - (nv 256 ys))).length) c99), (7, .slice A78 ((dig 256 ((nv 256 xs) + (nv 256 ys))).length) c79), (6, .slice A59 ((dig 256 (nv 256 xs)).length) c60), (5, .slice A46 xs.length c47), (15, .bool (!(decide ((xs.length ≤ 120 ∧ ys.length ≤ 120))))), (4, .bool false), (0, .slice Ax xs.length cx), (1, .slice Ay ys.length cy)]) (cs := []) (by kernel_rfl) trivial ?_
        intro a1104 hF1105; clear hF1099 a1080
        have hz1112 := HE.size
        have hz1113 := HE164.size
        refine wl (s_call (d := 86) (f := 21) (l := [.slice Ay ys.length cy]) (by kernel_rfl) hF1105 cl21 (ref15_Norm Ay ys.length cy ys (nv 256 ys) _ rfl (by first | omega | assumption | (simp; done) | (simp; omega) | decide) (hys.ex HE) (by first | assumption | exact by_dig _ | exact by_one (Nat.mod_lt _ (by decide)) | omega | simp | decide) (by first | omega | assumption | (simp; done) | (simp; omega) | decide) (by first | omega | assumption | (simp; done) | (simp; omega) | decide)) ?_)
        rintro a1114 w1109 v1110 ⟨A1106, c1107, rfl, HX1111, HO1108⟩ ha1116 hF1115; clear ha1116 hF1105 a1104
        replace HE := HE.thenN HX1111.g
        replace HE164 := HE164.thenN HX1111.g
        have hcp1117 := HO1108.cap
        refine pures_end hT 2 _ hF1115 (F' := [(88, .bool ((decide ((((dig 256 (nv 256 ys)).length : Nat) : Int) = 0)))), (87, .int .i64 (((dig 256 (nv 256 ys)).length : Nat) : Int)), (86, .slice A1106 ((dig 256 (nv 256 ys)).length) c1107), (85, .slice Ay ys.length cy), (84, .bool false), (11, .int .i64 20), (10, .slice A141 0 c142), (9, .slice A119 ((dig 256 ((nv 256 xs) * (nv 256 ys))).length) c120), (8, .slice A98 ((dig 256 ((nv 256 xs) - (nv 256 ys))).length) c99), (7, .slice A78 ((dig 256 ((nv 256 xs) + (nv 256 ys))).length) c79), (6, .slice A59 ((dig 256 (nv 256 xs)).length) c60), (5, .slice A46 xs.length c47), (15, .bool (!(decide ((xs.length ≤ 120 ∧ ys.length ≤ 120))))), (4, .bool false), (0, .slice Ax xs.length cx), (1, .slice Ay ys.length cy)]) (cs := []) (by kernel_rfl) rfl trivial ?_
        intro a1118 hF1119; clear hF1115 a1114
        have hF1120 : Fr 113 a1118 [(88, .bool true), (87, .int .i64 (((dig 256 (nv 256 ys)).length : Nat) : Int)), (86, .slice A1106 ((dig 256 (nv 256 ys)).length) c1107), (85, .slice Ay ys.length cy), (84, .bool false), (11, .int .i64 20), (10, .slice A141 0 c142), (9, .slice A119 ((dig 256 ((nv 256 xs) * (nv 256 ys))).length) c120), (8, .slice A98 ((dig 256 ((nv 256 xs) - (nv 256 ys))).length) c99), (7, .slice A78 ((dig 256 ((nv 256 xs) + (nv 256 ys))).length) c79), (6, .slice A59 ((dig 256 (nv 256 xs)).length) c60), (5, .slice A46 xs.length c47), (15, .bool (!(decide ((xs.length ≤ 120 ∧ ys.length ≤ 120))))), (4, .bool false), (0, .slice Ax xs.length cx), (1, .slice Ay ys.length cy)] := by rw [show ((decide ((((dig 256 (nv 256 ys)).length : Nat) : Int) = 0))) = true from (decide_eq_true (by have := len0 (nv 256 ys) hmod; omega))] at hF1119; exact hF1119
        clear hF1119
        have hF1121 := hF1120.pick [88, 84, 11, 10, 9, 8, 7, 6, 5, 15, 4, 0, 1] (G := [(88, .bool true), (84, .bool false), (11, .int .i64 20), (10, .slice A141 0 c142), (9, .slice A119 ((dig 256 ((nv 256 xs) * (nv 256 ys))).length) c120), (8, .slice A98 ((dig 256 ((nv 256 xs) - (nv 256 ys))).length) c99), (7, .slice A78 ((dig 256 ((nv 256 xs) + (nv 256 ys))).length) c79), (6, .slice A59 ((dig 256 (nv 256 xs)).length) c60), (5, .slice A46 xs.length c47), (15, .bool (!(decide ((xs.length ≤ 120 ∧ ys.length ≤ 120))))), (4, .bool false), (0, .slice Ax xs.length cx), (1, .slice Ay ys.length cy)]) (by kernel_rfl); clear hF1120
        refine hK1103 _ _ ?_
        refine condT hF1121 (by kernel_rfl) ?_
        refine wp_seq_k (fun K1122 hK1123 => ?_)
        refine wp_region_lit ?_
        have hz1127 := HE.size
        have hz1128 := HE164.size
        have hz1129 := HO1108.base
        refine wl (s_call (d := 89) (f := 14) (l := []) (by kernel_rfl) hF1121 cl14 (law15_awake _) ?_)
        rintro a1130 w1124 v1125 ⟨rfl, HX1126⟩ ha1132 hF1131; clear ha1132 hF1121 a1118
        replace HE := HE.thenN HX1126.g
        replace HE164 := HE164.thenN HX1126.g
        replace HO1108 := HO1108.growN HX1126.g
        refine pures_end hT 10 _ hF1131 (F' := [(4, .bool true), (98, .bool true), (97, .bool true), (96, .int .i64 0), (95, .slice A141 0 c142), (94, .bool true), (93, .bool true), (92, .bool true), (91, .int .i64 20), (90, .bool true), (89, .bool true), (88, .bool true), (84, .bool false), (11, .int .i64 20), (10, .slice A141 0 c142), (9, .slice A119 ((dig 256 ((nv 256 xs) * (nv 256 ys))).length) c120), (8, .slice A98 ((dig 256 ((nv 256 xs) - (nv 256 ys))).length) c99), (7, .slice A78 ((dig 256 ((nv 256 xs) + (nv 256 ys))).length) c79), (6, .slice A59 ((dig 256 (nv 256 xs)).length) c60), (5, .slice A46 xs.length c47), (15, .bool (!(decide ((xs.length ≤ 120 ∧ ys.length ≤ 120))))), (4, .bool false), (0, .slice Ax xs.length cx), (1, .slice Ay ys.length cy)]) (cs := []) (by kernel_rfl) rfl trivial ?_
        intro a1133 hF1134; clear hF1131 a1130
        have hF1135 := hF1134.pick [4, 88, 84, 11, 10, 9, 8, 7, 6, 5, 15, 0, 1] (G := [(4, .bool true), (88, .bool true), (84, .bool false), (11, .int .i64 20), (10, .slice A141 0 c142), (9, .slice A119 ((dig 256 ((nv 256 xs) * (nv 256 ys))).length) c120), (8, .slice A98 ((dig 256 ((nv 256 xs) - (nv 256 ys))).length) c99), (7, .slice A78 ((dig 256 ((nv 256 xs) + (nv 256 ys))).length) c79), (6, .slice A59 ((dig 256 (nv 256 xs)).length) c60), (5, .slice A46 xs.length c47), (15, .bool (!(decide ((xs.length ≤ 120 ∧ ys.length ≤ 120))))), (0, .slice Ax xs.length cx), (1, .slice Ay ys.length cy)]) (by kernel_rfl); clear hF1134
        refine hK1123 _ _ ?_
        refine wp_ret ?_
        refine ret1 hF1135 rfl (v := .bool true) (by kernel_rfl) ?_
        exact ⟨rfl, HE⟩
    · -- side 1
      have hlxs : xs.length ≤ 120 := by omega
      have hlys : ys.length ≤ 120 := by omega
      refine wp_region_lit ?_
      have hz1142 := HE.size
      refine wl (s_lit hT (d := 16) (T := 5) (l := vs .u8 []) (by kernel_rfl) hF20 ?_)
      rintro a1143 w1137 b1136 h1140 h1141 HB1139 g1138 ha1145 hF1144; clear ha1145 hF20 a18
      replace HE := HE.thenN g1138
      refine pures hT 1 _ hF1144 (F' := [(17, .slice Ax xs.length cx), (16, .slice (some ⟨b1136, 0, none⟩) 0 0), (15, .bool (!(decide ((xs.length ≤ 120 ∧ ys.length ≤ 120))))), (4, .bool false), (0, .slice Ax xs.length cx), (1, .slice Ay ys.length cy)]) (cs := []) (by kernel_rfl) trivial ?_
      intro a1146 hF1147; clear hF1144 a1143
      have hz1148 := HE.size
      have hz1149 := HB1139.lt
      refine wl (s_app hT (d := 18) (T := 5) (i := tr5) (B := w.heap.size) (m := 0) (c := 0) (m2 := xs.length) (c2 := cx) (by kernel_rfl) hF1147 rfl (by decide) (HB1139.own (B := w.heap.size) (by omega) (by simp [maxLen])) (hxs.ex HE) (by show _ = xs.length * 1; simp) vs_one (by show (0 + xs.length) * 1 ≤ 140737488355328; omega) (by decide) (by have := HE.size; omega) ?_)
      rintro a1156 w1150 A1153 c1154 HO1152 g1151 hat1155 ha1158 hF1157; clear ha1158 hF1147 a1146
      rw [Nat.zero_add] at hF1157 HO1152
      simp only [vs, List.map_nil, List.nil_append] at HO1152; try change Own _ _ _ _ _ _ _ (vs _ _) at HO1152
      replace g1151 : World.grownBy w1137 w1150 (some b1136) := g1151
      replace HE := HE.thenS g1151 (by omega)
      refine pures_end hT 1 _ hF1157 (F' := [(5, .slice A1153 xs.length c1154), (18, .slice A1153 xs.length c1154), (17, .slice Ax xs.length cx), (16, .slice (some ⟨b1136, 0, none⟩) 0 0), (15, .bool (!(decide ((xs.length ≤ 120 ∧ ys.length ≤ 120))))), (4, .bool false), (0, .slice Ax xs.length cx), (1, .slice Ay ys.length cy)]) (cs := []) (by kernel_rfl) rfl trivial ?_
      intro a1159 hF1160; clear hF1157 a1156
      have hF1161 := hF1160.pick [5, 15, 4, 0, 1] (G := [(5, .slice A1153 xs.length c1154), (15, .bool (!(decide ((xs.length ≤ 120 ∧ ys.length ≤ 120))))), (4, .bool false), (0, .slice Ax xs.length cx), (1, .slice Ay ys.length cy)]) (by kernel_rfl); clear hF1160
      refine hK28 _ _ ?_
      refine wp_seq_k (fun K1162 hK1163 => ?_)
      refine wp_region_lit ?_
      refine pures hT 1 _ hF1161 (F' := [(19, .slice A1153 xs.length c1154), (5, .slice A1153 xs.length c1154), (15, .bool (!(decide ((xs.length ≤ 120 ∧ ys.length ≤ 120))))), (4, .bool false), (0, .slice Ax xs.length cx), (1, .slice Ay ys.length cy)]) (cs := []) (by kernel_rfl) trivial ?_
      intro a1164 hF1165; clear hF1161 a1159
      have hz1172 := HE.size
      have hz1173 := HO1152.base
      refine wl (s_call (d := 20) (f := 19) (l := [.slice A1153 xs.length c1154]) (by kernel_rfl) hF1165 cl19 (Norm' (A := A1153) (n := xs.length) (c := c1154) (x := (nv 256 xs)) (xs := xs) (w := _) rfl rfl HO1152.rd hbxs (Nat.le_trans hlxs (by decide))) ?_)
      rintro a1174 w1169 v1170 ⟨A1166, c1167, rfl, HX1171, HO1168⟩ ha1176 hF1175; clear ha1176 hF1165 a1164
      replace HE := HE.thenN HX1171.g
      replace HO1152 := HO1152.growN HX1171.g
      have hcp1177 := HO1168.cap
      refine pures_end hT 1 _ hF1175 (F' := [(6, .slice A1166 ((dig 256 (nv 256 xs)).length) c1167), (20, .slice A1166 ((dig 256 (nv 256 xs)).length) c1167), (19, .slice A1153 xs.length c1154), (5, .slice A1153 xs.length c1154), (15, .bool (!(decide ((xs.length ≤ 120 ∧ ys.length ≤ 120))))), (4, .bool false), (0, .slice Ax xs.length cx), (1, .slice Ay ys.length cy)]) (cs := []) (by kernel_rfl) rfl trivial ?_
      intro a1178 hF1179; clear hF1175 a1174
      have hF1180 := hF1179.pick [6, 5, 15, 4, 0, 1] (G := [(6, .slice A1166 ((dig 256 (nv 256 xs)).length) c1167), (5, .slice A1153 xs.length c1154), (15, .bool (!(decide ((xs.length ≤ 120 ∧ ys.length ≤ 120))))), (4, .bool false), (0, .slice Ax xs.length cx), (1, .slice Ay ys.length cy)]) (by kernel_rfl); clear hF1179
      refine hK1163 _ _ ?_
      refine wp_seq_k (fun K1181 hK1182 => ?_)
      refine wp_region_lit ?_
      refine pures hT 2 _ hF1180 (F' := [(22, .slice Ay ys.length cy), (21, .slice A1153 xs.length c1154), (6, .slice A1166 ((dig 256 (nv 256 xs)).length) c1167), (5, .slice A1153 xs.length c1154), (15, .bool (!(decide ((xs.length ≤ 120 ∧ ys.length ≤ 120))))), (4, .bool false), (0, .slice Ax xs.length cx), (1, .slice Ay ys.length cy)]) (cs := []) (by kernel_rfl) trivial ?_
      intro a1183 hF1184; clear hF1180 a1178
      have hz1191 := HE.size
      have hz1192 := HO1152.base
      have hz1193 := HO1168.base
      refine wl (s_call (d := 23) (f := 17) (l := [.slice A1153 xs.length c1154, .slice Ay ys.length cy]) (by kernel_rfl) hF1184 cl17 (Add' (A := A1153) (n := xs.length) (c := c1154) (x := (nv 256 xs)) (xs := xs) (A2 := Ay) (n2 := ys.length) (c2 := cy) (y := (nv 256 ys)) (ys := ys) (w := _) rfl rfl  rfl rfl HO1152.rd (hys.ex HE) hbxs hbys (Nat.le_trans hlxs (by decide)) (Nat.le_trans hlys (by decide))) ?_)
      rintro a1194 w1188 v1189 ⟨A1185, c1186, rfl, HX1190, HO1187⟩ ha1196 hF1195; clear ha1196 hF1184 a1183
      replace HE := HE.thenN HX1190.g
      replace HO1152 := HO1152.growN HX1190.g
      replace HO1168 := HO1168.growN HX1190.g
      have hcp1197 := HO1187.cap
      refine pures_end hT 1 _ hF1195 (F' := [(7, .slice A1185 ((dig 256 ((nv 256 xs) + (nv 256 ys))).length) c1186), (23, .slice A1185 ((dig 256 ((nv 256 xs) + (nv 256 ys))).length) c1186), (22, .slice Ay ys.length cy), (21, .slice A1153 xs.length c1154), (6, .slice A1166 ((dig 256 (nv 256 xs)).length) c1167), (5, .slice A1153 xs.length c1154), (15, .bool (!(decide ((xs.length ≤ 120 ∧ ys.length ≤ 120))))), (4, .bool false), (0, .slice Ax xs.length cx), (1, .slice Ay ys.length cy)]) (cs := []) (by kernel_rfl) rfl trivial ?_
      intro a1198 hF1199; clear hF1195 a1194
      have hF1200 := hF1199.pick [7, 6, 5, 15, 4, 0, 1] (G := [(7, .slice A1185 ((dig 256 ((nv 256 xs) + (nv 256 ys))).length) c1186), (6, .slice A1166 ((dig 256 (nv 256 xs)).length) c1167), (5, .slice A1153 xs.length c1154), (15, .bool (!(decide ((xs.length ≤ 120 ∧ ys.length ≤ 120))))), (4, .bool false), (0, .slice Ax xs.length cx), (1, .slice Ay ys.length cy)]) (by kernel_rfl); clear hF1199
      refine hK1182 _ _ ?_
      refine wp_seq_k (fun K1201 hK1202 => ?_)
      refine wp_region_lit ?_
      refine pures hT 2 _ hF1200 (F' := [(25, .slice Ay ys.length cy), (24, .slice A1153 xs.length c1154), (7, .slice A1185 ((dig 256 ((nv 256 xs) + (nv 256 ys))).length) c1186), (6, .slice A1166 ((dig 256 (nv 256 xs)).length) c1167), (5, .slice A1153 xs.length c1154), (15, .bool (!(decide ((xs.length ≤ 120 ∧ ys.length ≤ 120))))), (4, .bool false), (0, .slice Ax xs.length cx), (1, .slice Ay ys.length cy)]) (cs := []) (by kernel_rfl) trivial ?_
      intro a1203 hF1204; clear hF1200 a1198
      have hz1211 := HE.size
      have hz1212 := HO1152.base
      have hz1213 := HO1168.base
      have hz1214 := HO1187.base
      refine wl (s_call (d := 26) (f := 15) (l := [.slice A1153 xs.length c1154, .slice Ay ys.length cy]) (by kernel_rfl) hF1204 cl15 (Sub' (A := A1153) (n := xs.length) (c := c1154) (x := (nv 256 xs)) (xs := xs) (A2 := Ay) (n2 := ys.length) (c2 := cy) (y := (nv 256 ys)) (ys := ys) (w := _) rfl rfl  rfl rfl HO1152.rd (hys.ex HE) hbxs hbys (Nat.le_trans hlxs (by decide)) (Nat.le_trans hlys (by decide))) ?_)
      rintro a1215 w1208 v1209 ⟨A1205, c1206, rfl, HX1210, HO1207⟩ ha1217 hF1216; clear ha1217 hF1204 a1203
      replace HE := HE.thenN HX1210.g
      replace HO1152 := HO1152.growN HX1210.g
      replace HO1168 := HO1168.growN HX1210.g
      replace HO1187 := HO1187.growN HX1210.g
      have hcp1218 := HO1207.cap
      refine pures_end hT 1 _ hF1216 (F' := [(8, .slice A1205 ((dig 256 ((nv 256 xs) - (nv 256 ys))).length) c1206), (26, .slice A1205 ((dig 256 ((nv 256 xs) - (nv 256 ys))).length) c1206), (25, .slice Ay ys.length cy), (24, .slice A1153 xs.length c1154), (7, .slice A1185 ((dig 256 ((nv 256 xs) + (nv 256 ys))).length) c1186), (6, .slice A1166 ((dig 256 (nv 256 xs)).length) c1167), (5, .slice A1153 xs.length c1154), (15, .bool (!(decide ((xs.length ≤ 120 ∧ ys.length ≤ 120))))), (4, .bool false), (0, .slice Ax xs.length cx), (1, .slice Ay ys.length cy)]) (cs := []) (by kernel_rfl) rfl trivial ?_
      intro a1219 hF1220; clear hF1216 a1215
      have hF1221 := hF1220.pick [8, 7, 6, 5, 15, 4, 0, 1] (G := [(8, .slice A1205 ((dig 256 ((nv 256 xs) - (nv 256 ys))).length) c1206), (7, .slice A1185 ((dig 256 ((nv 256 xs) + (nv 256 ys))).length) c1186), (6, .slice A1166 ((dig 256 (nv 256 xs)).length) c1167), (5, .slice A1153 xs.length c1154), (15, .bool (!(decide ((xs.length ≤ 120 ∧ ys.length ≤ 120))))), (4, .bool false), (0, .slice Ax xs.length cx), (1, .slice Ay ys.length cy)]) (by kernel_rfl); clear hF1220
      refine hK1202 _ _ ?_
      refine wp_seq_k (fun K1222 hK1223 => ?_)
      refine wp_region_lit ?_
      refine pures hT 2 _ hF1221 (F' := [(28, .slice Ay ys.length cy), (27, .slice A1153 xs.length c1154), (8, .slice A1205 ((dig 256 ((nv 256 xs) - (nv 256 ys))).length) c1206), (7, .slice A1185 ((dig 256 ((nv 256 xs) + (nv 256 ys))).length) c1186), (6, .slice A1166 ((dig 256 (nv 256 xs)).length) c1167), (5, .slice A1153 xs.length c1154), (15, .bool (!(decide ((xs.length ≤ 120 ∧ ys.length ≤ 120))))), (4, .bool false), (0, .slice Ax xs.length cx), (1, .slice Ay ys.length cy)]) (cs := []) (by kernel_rfl) trivial ?_
      intro a1224 hF1225; clear hF1221 a1219
      have hz1232 := HE.size
      have hz1233 := HO1152.base
      have hz1234 := HO1168.base
      have hz1235 := HO1187.base
      have hz1236 := HO1207.base
      refine wl (s_call (d := 29) (f := 18) (l := [.slice A1153 xs.length c1154, .slice Ay ys.length cy]) (by kernel_rfl) hF1225 cl18 (Mul' (A := A1153) (n := xs.length) (c := c1154) (x := (nv 256 xs)) (xs := xs) (A2 := Ay) (n2 := ys.length) (c2 := cy) (y := (nv 256 ys)) (ys := ys) (w := _) rfl rfl  rfl rfl HO1152.rd (hys.ex HE) hbxs hbys (Nat.le_trans hlxs (by decide)) (Nat.le_trans hlys (by decide))) ?_)
      rintro a1237 w1229 v1230 ⟨A1226, c1227, rfl, HX1231, HO1228⟩ ha1239 hF1238; clear ha1239 hF1225 a1224
      replace HE := HE.thenN HX1231.g
      replace HO1152 := HO1152.growN HX1231.g
      replace HO1168 := HO1168.growN HX1231.g
      replace HO1187 := HO1187.growN HX1231.g
      replace HO1207 := HO1207.growN HX1231.g
      have hcp1240 := HO1228.cap
      refine pures_end hT 1 _ hF1238 (F' := [(9, .slice A1226 ((dig 256 ((nv 256 xs) * (nv 256 ys))).length) c1227), (29, .slice A1226 ((dig 256 ((nv 256 xs) * (nv 256 ys))).length) c1227), (28, .slice Ay ys.length cy), (27, .slice A1153 xs.length c1154), (8, .slice A1205 ((dig 256 ((nv 256 xs) - (nv 256 ys))).length) c1206), (7, .slice A1185 ((dig 256 ((nv 256 xs) + (nv 256 ys))).length) c1186), (6, .slice A1166 ((dig 256 (nv 256 xs)).length) c1167), (5, .slice A1153 xs.length c1154), (15, .bool (!(decide ((xs.length ≤ 120 ∧ ys.length ≤ 120))))), (4, .bool false), (0, .slice Ax xs.length cx), (1, .slice Ay ys.length cy)]) (cs := []) (by kernel_rfl) rfl trivial ?_
      intro a1241 hF1242; clear hF1238 a1237
      have hF1243 := hF1242.pick [9, 8, 7, 6, 5, 15, 4, 0, 1] (G := [(9, .slice A1226 ((dig 256 ((nv 256 xs) * (nv 256 ys))).length) c1227), (8, .slice A1205 ((dig 256 ((nv 256 xs) - (nv 256 ys))).length) c1206), (7, .slice A1185 ((dig 256 ((nv 256 xs) + (nv 256 ys))).length) c1186), (6, .slice A1166 ((dig 256 (nv 256 xs)).length) c1167), (5, .slice A1153 xs.length c1154), (15, .bool (!(decide ((xs.length ≤ 120 ∧ ys.length ≤ 120))))), (4, .bool false), (0, .slice Ax xs.length cx), (1, .slice Ay ys.length cy)]) (by kernel_rfl); clear hF1242
      refine hK1223 _ _ ?_
      refine wp_seq_k (fun K1244 hK1245 => ?_)
      refine wp_region_lit ?_
      refine pures hT 2 _ hF1243 (F' := [(32, .slice Ay ys.length cy), (31, .slice A1153 xs.length c1154), (9, .slice A1226 ((dig 256 ((nv 256 xs) * (nv 256 ys))).length) c1227), (8, .slice A1205 ((dig 256 ((nv 256 xs) - (nv 256 ys))).length) c1206), (7, .slice A1185 ((dig 256 ((nv 256 xs) + (nv 256 ys))).length) c1186), (6, .slice A1166 ((dig 256 (nv 256 xs)).length) c1167), (5, .slice A1153 xs.length c1154), (15, .bool (!(decide ((xs.length ≤ 120 ∧ ys.length ≤ 120))))), (4, .bool false), (0, .slice Ax xs.length cx), (1, .slice Ay ys.length cy)]) (cs := []) (by kernel_rfl) trivial ?_
      intro a1246 hF1247; clear hF1243 a1241
      have hz1254 := HE.size
      have hz1255 := HO1152.base
      have hz1256 := HO1168.base
      have hz1257 := HO1187.base
      have hz1258 := HO1207.base
      have hz1259 := HO1228.base
      refine wl (s_call (d := 33) (f := 13) (l := [.slice A1153 xs.length c1154, .slice Ay ys.length cy]) (by kernel_rfl) hF1247 cl13 (Mod1' (A := A1153) (n := xs.length) (c := c1154) (x := (nv 256 xs)) (xs := xs) (A2 := Ay) (n2 := ys.length) (c2 := cy) (y := (nv 256 ys)) (ys := ys) (w := _) rfl rfl hmod rfl rfl HO1152.rd (hys.ex HE) hbxs hbys (Nat.le_trans hlxs (by decide)) (Nat.le_trans hlys (by decide))) ?_)
      rintro a1260 w1251 v1252 ⟨A1248, c1249, rfl, HX1253, HO1250⟩ ha1262 hF1261; clear ha1262 hF1247 a1246
      replace HE := HE.thenN HX1253.g
      replace HO1152 := HO1152.growN HX1253.g
      replace HO1168 := HO1168.growN HX1253.g
      replace HO1187 := HO1187.growN HX1253.g
      replace HO1207 := HO1207.growN HX1253.g
      replace HO1228 := HO1228.growN HX1253.g
      have hcp1263 := HO1250.cap
      refine pures_end hT 5 _ hF1261 (F' := [(11, .int .i64 0), (10, .slice A1248 ((dig 256 ((nv 256 xs) % (nv 256 ys))).length) c1249), (35, .int .i64 0), (34, .slice A1248 ((dig 256 ((nv 256 xs) % (nv 256 ys))).length) c1249), (30, .tuple #[.slice A1248 ((dig 256 ((nv 256 xs) % (nv 256 ys))).length) c1249, .int .i64 0]), (33, .tuple #[.slice A1248 ((dig 256 ((nv 256 xs) % (nv 256 ys))).length) c1249, .int .i64 0]), (32, .slice Ay ys.length cy), (31, .slice A1153 xs.length c1154), (9, .slice A1226 ((dig 256 ((nv 256 xs) * (nv 256 ys))).length) c1227), (8, .slice A1205 ((dig 256 ((nv 256 xs) - (nv 256 ys))).length) c1206), (7, .slice A1185 ((dig 256 ((nv 256 xs) + (nv 256 ys))).length) c1186), (6, .slice A1166 ((dig 256 (nv 256 xs)).length) c1167), (5, .slice A1153 xs.length c1154), (15, .bool (!(decide ((xs.length ≤ 120 ∧ ys.length ≤ 120))))), (4, .bool false), (0, .slice Ax xs.length cx), (1, .slice Ay ys.length cy)]) (cs := []) (by kernel_rfl) rfl trivial ?_
      intro a1264 hF1265; clear hF1261 a1260
      have hF1266 := hF1265.pick [11, 10, 9, 8, 7, 6, 5, 15, 4, 0, 1] (G := [(11, .int .i64 0), (10, .slice A1248 ((dig 256 ((nv 256 xs) % (nv 256 ys))).length) c1249), (9, .slice A1226 ((dig 256 ((nv 256 xs) * (nv 256 ys))).length) c1227), (8, .slice A1205 ((dig 256 ((nv 256 xs) - (nv 256 ys))).length) c1206), (7, .slice A1185 ((dig 256 ((nv 256 xs) + (nv 256 ys))).length) c1186), (6, .slice A1166 ((dig 256 (nv 256 xs)).length) c1167), (5, .slice A1153 xs.length c1154), (15, .bool (!(decide ((xs.length ≤ 120 ∧ ys.length ≤ 120))))), (4, .bool false), (0, .slice Ax xs.length cx), (1, .slice Ay ys.length cy)]) (by kernel_rfl); clear hF1265
      refine hK1245 _ _ ?_
      refine wp_seq_k (fun K1267 hK1268 => ?_)
      refine wp_seq_k (fun K1269 hK1270 => ?_)
      have HE1271 : Ex w1251 w1251 := Ex.refl _
      have HR1272 := HO1152.rd
      have HR1272b := HO1152.base
      clear HO1152
      have HR1273 := HO1168.rd
      have HR1273b := HO1168.base
      clear HO1168
      have HR1274 := HO1187.rd
      have HR1274b := HO1187.base
      clear HO1187
      have HR1275 := HO1207.rd
      have HR1275b := HO1207.base
      clear HO1207
      have HR1276 := HO1228.rd
      have HR1276b := HO1228.base
      clear HO1228
      have HR1277 := HO1250.rd
      have HR1277b := HO1250.base
      clear HO1250
      let SL_ : List SP := [SP.val (.slice A1153 xs.length c1154), SP.val (.string (str xs)), SP.val (.slice Ax xs.length cx), SP.val (.string (str xs)), SP.val (.bool false), SP.val (.bool false), SP.val (.slice A1153 xs.length c1154), SP.val (.slice Ay ys.length cy), SP.val (.int .i64 (cmpI (nv 256 xs) (nv 256 ys))), SP.val (.slice Ax xs.length cx), SP.val (.slice Ay ys.length cy), SP.val (.int .i64 (cmpI (nv 256 xs) (nv 256 ys))), SP.val (.bool false), SP.val (.bool false), SP.val (.bool false), SP.val (.slice A1166 ((dig 256 (nv 256 xs)).length) c1167), SP.val (.string (str (dig 256 (nv 256 xs)))), SP.val (.slice Ax xs.length cx), SP.mk' (fun v W => ∃ A c, v = .slice A ((dig 256 (nv 256 xs)).length) c ∧ Rd W A (vs .u8 (dig 256 (nv 256 xs)))) (fun v w w' h g => by obtain ⟨A, c, e, h⟩ := h; exact ⟨A, c, e, h.grow g (by simp)⟩), SP.val (.string (str (dig 256 (nv 256 xs)))), SP.val (.bool false), SP.val (.bool false), SP.val (.bool false), SP.val (.slice A1185 ((dig 256 ((nv 256 xs) + (nv 256 ys))).length) c1186), SP.val (.string (str (dig 256 ((nv 256 xs) + (nv 256 ys))))), SP.val (.slice Ax xs.length cx), SP.val (.slice Ay ys.length cy), SP.mk' (fun v W => ∃ A c, v = .slice A ((dig 256 ((nv 256 xs) + (nv 256 ys))).length) c ∧ Rd W A (vs .u8 (dig 256 ((nv 256 xs) + (nv 256 ys))))) (fun v w w' h g => by obtain ⟨A, c, e, h⟩ := h; exact ⟨A, c, e, h.grow g (by simp)⟩), SP.val (.string (str (dig 256 ((nv 256 xs) + (nv 256 ys))))), SP.val (.bool false), SP.val (.bool false), SP.val (.bool false), SP.val (.slice A1205 ((dig 256 ((nv 256 xs) - (nv 256 ys))).length) c1206), SP.val (.string (str (dig 256 ((nv 256 xs) - (nv 256 ys))))), SP.val (.slice Ax xs.length cx), SP.val (.slice Ay ys.length cy), SP.mk' (fun v W => ∃ A c, v = .slice A ((dig 256 ((nv 256 xs) - (nv 256 ys))).length) c ∧ Rd W A (vs .u8 (dig 256 ((nv 256 xs) - (nv 256 ys))))) (fun v w w' h g => by obtain ⟨A, c, e, h⟩ := h; exact ⟨A, c, e, h.grow g (by simp)⟩), SP.val (.string (str (dig 256 ((nv 256 xs) - (nv 256 ys))))), SP.val (.bool false), SP.val (.bool false), SP.val (.bool false), SP.val (.slice A1226 ((dig 256 ((nv 256 xs) * (nv 256 ys))).length) c1227), SP.val (.string (str (dig 256 ((nv 256 xs) * (nv 256 ys))))), SP.val (.slice Ax xs.length cx), SP.val (.slice Ay ys.length cy), SP.mk' (fun v W => ∃ A c, v = .slice A ((dig 256 ((nv 256 xs) * (nv 256 ys))).length) c ∧ Rd W A (vs .u8 (dig 256 ((nv 256 xs) * (nv 256 ys))))) (fun v w w' h g => by obtain ⟨A, c, e, h⟩ := h; exact ⟨A, c, e, h.grow g (by simp)⟩), SP.val (.string (str (dig 256 ((nv 256 xs) * (nv 256 ys))))), SP.val (.bool false), SP.val (.bool false)]
      refine region_rel (SL := SL_) (J := (fun (b : Bool) (W : World) => (Ex w W) ∧ (Ex w1251 W))) (m := 49) (bm := none) wide (by kernel_rfl) (by kernel_rfl) hF1266 rfl ?_ ?_ ⟨HE, HE1271⟩ ⟨?_, ?_, ?_, ?_, ?_, ?_, ?_, ?_, ?_, ?_, ?_, ?_, ?_, ?_, ?_, ?_, ?_, ?_, ?_, ?_, ?_, ?_, ?_, ?_, ?_, ?_, ?_, ?_, ?_, ?_, ?_, ?_, ?_, ?_, ?_, ?_, ?_, ?_, ?_, ?_, ?_, ?_, ?_, ?_, ?_, ?_, ?_, ?_, ?_, trivial⟩ [(84, some 48), (11, none), (10, none), (9, none), (8, none), (7, none), (6, none), (5, none), (15, none), (4, none), (0, none), (1, none)] (by kernel_rfl) ?_
      · exact fun h => absurd h (by decide)
      · intro b W W' hj g; cases b <;> exact ⟨hj.1.thenN g, hj.2.thenN g⟩
      · -- operation 0
        rintro a1279 w1278 b1281 KK1287 hs1283 hd1284 hJ1285 hb1286 hr1289 hK1282
        have hr1289x : RD SL_ a1279 a1264 w1278 [(5, none)] := hr1289 _ (by kernel_rfl)
        obtain ⟨q1288, -⟩ := hr1289x
        obtain ⟨HE, HE1271⟩ := hJ1285
        have hF1280 : Fr 113 a1279 [(5, .slice A1153 xs.length c1154)] := Fr.of hs1283 hd1284 ⟨(Fr.init hF1266 q1288 (by kernel_rfl)), trivial⟩
        refine s_pure hT (d := 36) (v := .slice A1153 xs.length c1154) (cs := []) (by kernel_rfl) (by kernel_rfl) trivial hF1280 ?_
        rintro a2 ha2 hF2; rw [ha2]; exact hK1282 _ _ rfl (grown_refl _ _)
      · -- operation 1
        rintro a1291 w1290 b1293 KK1299 hs1295 hd1296 hJ1297 hb1298 hr1303 hK1294
        have hr1303x : RD SL_ a1291 a1264 w1290 [(36, some 0)] := hr1303 _ (by kernel_rfl)
        obtain ⟨⟨v1301, q1300, s1302⟩, -⟩ := hr1303x
        obtain rfl : v1301 = .slice A1153 xs.length c1154 := s1302
        obtain ⟨HE, HE1271⟩ := hJ1297
        have hF1292 : Fr 113 a1291 [(36, .slice A1153 xs.length c1154)] := Fr.of hs1295 hd1296 ⟨q1300, trivial⟩
        refine s_str hT (d := 37) (A := A1153) (m := xs.length) (xs := xs) (by kernel_rfl) hF1292 (HR1272.ex HE1271) (by (first | (simp only [vs_length, vi_length]; omega) | (simp; omega) | omega)) ?_
        rintro a1304 ha1306 hF1305
        rw [ha1306]; exact hK1294 _ _ rfl (grown_refl _ _)
      · -- operation 2
        rintro a1308 w1307 b1310 KK1316 hs1312 hd1313 hJ1314 hb1315 hr1318 hK1311
        have hr1318x : RD SL_ a1308 a1264 w1307 [(0, none)] := hr1318 _ (by kernel_rfl)
        obtain ⟨q1317, -⟩ := hr1318x
        obtain ⟨HE, HE1271⟩ := hJ1314
        have hF1309 : Fr 113 a1308 [(0, .slice Ax xs.length cx)] := Fr.of hs1312 hd1313 ⟨(Fr.init hF1266 q1317 (by kernel_rfl)), trivial⟩
        refine s_pure hT (d := 38) (v := .slice Ax xs.length cx) (cs := []) (by kernel_rfl) (by kernel_rfl) trivial hF1309 ?_
        rintro a2 ha2 hF2; rw [ha2]; exact hK1311 _ _ rfl (grown_refl _ _)
      · -- operation 3
        rintro a1320 w1319 b1322 KK1328 hs1324 hd1325 hJ1326 hb1327 hr1332 hK1323
        have hr1332x : RD SL_ a1320 a1264 w1319 [(38, some 2)] := hr1332 _ (by kernel_rfl)
        obtain ⟨⟨v1330, q1329, s1331⟩, -⟩ := hr1332x
        obtain rfl : v1330 = .slice Ax xs.length cx := s1331
        obtain ⟨HE, HE1271⟩ := hJ1326
        have hF1321 : Fr 113 a1320 [(38, .slice Ax xs.length cx)] := Fr.of hs1324 hd1325 ⟨q1329, trivial⟩
        refine s_str hT (d := 39) (A := Ax) (m := xs.length) (xs := xs) (by kernel_rfl) hF1321 (hxs.ex HE) (by (first | (simp only [vs_length, vi_length]; omega) | (simp; omega) | omega)) ?_
        rintro a1333 ha1335 hF1334
        rw [ha1335]; exact hK1323 _ _ rfl (grown_refl _ _)
      · -- operation 4
        rintro a1337 w1336 b1339 KK1345 hs1341 hd1342 hJ1343 hb1344 hr1352 hK1340
        have hr1352x : RD SL_ a1337 a1264 w1336 [(37, some 1), (39, some 3)] := hr1352 _ (by kernel_rfl)
        obtain ⟨⟨v1347, q1346, s1348⟩, ⟨v1350, q1349, s1351⟩, -⟩ := hr1352x
        obtain rfl : v1347 = .string (str xs) := s1348
        obtain rfl : v1350 = .string (str xs) := s1351
        obtain ⟨HE, HE1271⟩ := hJ1343
        have hF1338 : Fr 113 a1337 [(37, .string (str xs)), (39, .string (str xs))] := Fr.of hs1341 hd1342 ⟨q1346, q1349, trivial⟩
        refine s_pure hT (d := 40) (v := .bool (!(ByteArray.toList (str xs) == ByteArray.toList (str xs)))) (cs := []) (by kernel_rfl) (by kernel_rfl) trivial hF1338 ?_
        have htr : (!(ByteArray.toList (str xs) == ByteArray.toList (str xs))) = false := (congrArg Bool.not (str_eqT rfl))
        rintro a2 ha2 hF2; rw [ha2]; exact hK1340 _ _ (congrArg Value.bool htr) (grown_refl _ _)
      · -- operation 5
        rintro a1354 w1353 b1356 KK1362 hs1358 hd1359 hJ1360 hb1361 hr1366 hK1357
        have hr1366x : RD SL_ a1354 a1264 w1353 [(40, some 4)] := hr1366 _ (by kernel_rfl)
        obtain ⟨⟨v1364, q1363, s1365⟩, -⟩ := hr1366x
        obtain rfl : v1364 = .bool false := s1365
        obtain ⟨HE, HE1271⟩ := hJ1360
        have hF1355 : Fr 113 a1354 [(40, .bool false)] := Fr.of hs1358 hd1359 ⟨q1363, trivial⟩
        refine s_pure hT (d := 41) (v := .bool false) (cs := []) (by kernel_rfl) (by kernel_rfl) trivial hF1355 ?_
        rintro a2 ha2 hF2; rw [ha2]; exact hK1357 _ _ rfl (grown_refl _ _)
      · -- operation 6
        rintro a1368 w1367 b1370 KK1376 hs1372 hd1373 hJ1374 hb1375 hr1381 hK1371
        have hr1381x : RD SL_ a1368 a1264 w1367 [(5, none), (41, some 5)] := hr1381 _ (by kernel_rfl)
        obtain ⟨q1377, ⟨v1379, q1378, s1380⟩, -⟩ := hr1381x
        obtain rfl : v1379 = .bool false := s1380
        obtain ⟨HE, HE1271⟩ := hJ1374
        have hF1369 : Fr 113 a1368 [(5, .slice A1153 xs.length c1154), (41, .bool false)] := Fr.of hs1372 hd1373 ⟨(Fr.init hF1266 q1377 (by kernel_rfl)), q1378, trivial⟩
        refine One.bare hF1369 (by kernel_rfl) (s_pure hT (d := 42) (v := .slice A1153 xs.length c1154) (cs := []) (by kernel_rfl) (by kernel_rfl) trivial hF1369 ?_)
        rintro a2 ha2 hF2; rw [ha2]; exact hK1371 _ _ rfl (grown_refl _ _)
      · -- operation 7
        rintro a1383 w1382 b1385 KK1391 hs1387 hd1388 hJ1389 hb1390 hr1396 hK1386
        have hr1396x : RD SL_ a1383 a1264 w1382 [(1, none), (41, some 5)] := hr1396 _ (by kernel_rfl)
        obtain ⟨q1392, ⟨v1394, q1393, s1395⟩, -⟩ := hr1396x
        obtain rfl : v1394 = .bool false := s1395
        obtain ⟨HE, HE1271⟩ := hJ1389
        have hF1384 : Fr 113 a1383 [(1, .slice Ay ys.length cy), (41, .bool false)] := Fr.of hs1387 hd1388 ⟨(Fr.init hF1266 q1392 (by kernel_rfl)), q1393, trivial⟩
        refine One.bare hF1384 (by kernel_rfl) (s_pure hT (d := 43) (v := .slice Ay ys.length cy) (cs := []) (by kernel_rfl) (by kernel_rfl) trivial hF1384 ?_)
        rintro a2 ha2 hF2; rw [ha2]; exact hK1386 _ _ rfl (grown_refl _ _)
      · -- operation 8
        rintro a1398 w1397 b1400 KK1406 hs1402 hd1403 hJ1404 hb1405 hr1416 hK1401
        have hr1416x : RD SL_ a1398 a1264 w1397 [(42, some 6), (43, some 7), (41, some 5)] := hr1416 _ (by kernel_rfl)
        obtain ⟨⟨v1408, q1407, s1409⟩, ⟨v1411, q1410, s1412⟩, ⟨v1414, q1413, s1415⟩, -⟩ := hr1416x
        obtain rfl : v1408 = .slice A1153 xs.length c1154 := s1409
        obtain rfl : v1411 = .slice Ay ys.length cy := s1412
        obtain rfl : v1414 = .bool false := s1415
        obtain ⟨HE, HE1271⟩ := hJ1404
        have hF1399 : Fr 113 a1398 [(42, .slice A1153 xs.length c1154), (43, .slice Ay ys.length cy), (41, .bool false)] := Fr.of hs1402 hd1403 ⟨q1407, q1410, q1413, trivial⟩
        have hz1420 := HE.size
        have hz1421 := HE1271.size
        refine One.bare hF1399 (by kernel_rfl) (s_call (d := 44) (f := 16) (l := [.slice A1153 xs.length c1154, .slice Ay ys.length cy]) (by kernel_rfl) hF1399 cl16 (Cmp' (A := A1153) (n := xs.length) (c := c1154) (x := (nv 256 xs)) (xs := xs) (A2 := Ay) (n2 := ys.length) (c2 := cy) (y := (nv 256 ys)) (ys := ys) (w := _) rfl rfl  rfl rfl (HR1272.ex HE1271) (hys.ex HE) hbxs hbys (Nat.le_trans hlxs (by decide)) (Nat.le_trans hlys (by decide))) ?_)
        rintro a1422 w1417 v1418 ⟨rfl, HX1419⟩ ha1424 hF1423
        replace HE := HE.thenN HX1419.g
        replace HE1271 := HE1271.thenN HX1419.g
        rw [ha1424]; exact hK1401 _ _ rfl HX1419.g
      · -- operation 9
        rintro a1426 w1425 b1428 KK1434 hs1430 hd1431 hJ1432 hb1433 hr1439 hK1429
        have hr1439x : RD SL_ a1426 a1264 w1425 [(0, none), (41, some 5)] := hr1439 _ (by kernel_rfl)
        obtain ⟨q1435, ⟨v1437, q1436, s1438⟩, -⟩ := hr1439x
        obtain rfl : v1437 = .bool false := s1438
        obtain ⟨HE, HE1271⟩ := hJ1432
        have hF1427 : Fr 113 a1426 [(0, .slice Ax xs.length cx), (41, .bool false)] := Fr.of hs1430 hd1431 ⟨(Fr.init hF1266 q1435 (by kernel_rfl)), q1436, trivial⟩
        refine One.bare hF1427 (by kernel_rfl) (s_pure hT (d := 45) (v := .slice Ax xs.length cx) (cs := []) (by kernel_rfl) (by kernel_rfl) trivial hF1427 ?_)
        rintro a2 ha2 hF2; rw [ha2]; exact hK1429 _ _ rfl (grown_refl _ _)
      · -- operation 10
        rintro a1441 w1440 b1443 KK1449 hs1445 hd1446 hJ1447 hb1448 hr1454 hK1444
        have hr1454x : RD SL_ a1441 a1264 w1440 [(1, none), (41, some 5)] := hr1454 _ (by kernel_rfl)
        obtain ⟨q1450, ⟨v1452, q1451, s1453⟩, -⟩ := hr1454x
        obtain rfl : v1452 = .bool false := s1453
        obtain ⟨HE, HE1271⟩ := hJ1447
        have hF1442 : Fr 113 a1441 [(1, .slice Ay ys.length cy), (41, .bool false)] := Fr.of hs1445 hd1446 ⟨(Fr.init hF1266 q1450 (by kernel_rfl)), q1451, trivial⟩
        refine One.bare hF1442 (by kernel_rfl) (s_pure hT (d := 46) (v := .slice Ay ys.length cy) (cs := []) (by kernel_rfl) (by kernel_rfl) trivial hF1442 ?_)
        rintro a2 ha2 hF2; rw [ha2]; exact hK1444 _ _ rfl (grown_refl _ _)
      · -- operation 11
        rintro a1456 w1455 b1458 KK1464 hs1460 hd1461 hJ1462 hb1463 hr1474 hK1459
        have hr1474x : RD SL_ a1456 a1264 w1455 [(45, some 9), (46, some 10), (41, some 5)] := hr1474 _ (by kernel_rfl)
        obtain ⟨⟨v1466, q1465, s1467⟩, ⟨v1469, q1468, s1470⟩, ⟨v1472, q1471, s1473⟩, -⟩ := hr1474x
        obtain rfl : v1466 = .slice Ax xs.length cx := s1467
        obtain rfl : v1469 = .slice Ay ys.length cy := s1470
        obtain rfl : v1472 = .bool false := s1473
        obtain ⟨HE, HE1271⟩ := hJ1462
        have hF1457 : Fr 113 a1456 [(45, .slice Ax xs.length cx), (46, .slice Ay ys.length cy), (41, .bool false)] := Fr.of hs1460 hd1461 ⟨q1465, q1468, q1471, trivial⟩
        have hz1478 := HE.size
        have hz1479 := HE1271.size
        refine One.bare hF1457 (by kernel_rfl) (s_call (d := 47) (f := 20) (l := [.slice Ax xs.length cx, .slice Ay ys.length cy]) (by kernel_rfl) hF1457 cl20 (ref15_Cmp Ax xs.length cx xs (nv 256 xs) Ay ys.length cy ys (nv 256 ys) _ rfl rfl (by first | omega | assumption | (simp; done) | (simp; omega) | decide) (by first | omega | assumption | (simp; done) | (simp; omega) | decide) (hxs.ex HE) (hys.ex HE) (by first | assumption | exact by_dig _ | exact by_one (Nat.mod_lt _ (by decide)) | omega | simp | decide) (by first | assumption | exact by_dig _ | exact by_one (Nat.mod_lt _ (by decide)) | omega | simp | decide) (by first | omega | assumption | (simp; done) | (simp; omega) | decide) (by first | omega | assumption | (simp; done) | (simp; omega) | decide) ) ?_)
        rintro a1480 w1475 v1476 ⟨rfl, HX1477⟩ ha1482 hF1481
        replace HE := HE.thenN HX1477.g
        replace HE1271 := HE1271.thenN HX1477.g
        rw [ha1482]; exact hK1459 _ _ rfl HX1477.g
      · -- operation 12
        rintro a1484 w1483 b1486 KK1492 hs1488 hd1489 hJ1490 hb1491 hr1502 hK1487
        have hr1502x : RD SL_ a1484 a1264 w1483 [(44, some 8), (47, some 11), (41, some 5)] := hr1502 _ (by kernel_rfl)
        obtain ⟨⟨v1494, q1493, s1495⟩, ⟨v1497, q1496, s1498⟩, ⟨v1500, q1499, s1501⟩, -⟩ := hr1502x
        obtain rfl : v1494 = .int .i64 (cmpI (nv 256 xs) (nv 256 ys)) := s1495
        obtain rfl : v1497 = .int .i64 (cmpI (nv 256 xs) (nv 256 ys)) := s1498
        obtain rfl : v1500 = .bool false := s1501
        obtain ⟨HE, HE1271⟩ := hJ1490
        have hF1485 : Fr 113 a1484 [(44, .int .i64 (cmpI (nv 256 xs) (nv 256 ys))), (47, .int .i64 (cmpI (nv 256 xs) (nv 256 ys))), (41, .bool false)] := Fr.of hs1488 hd1489 ⟨q1493, q1496, q1499, trivial⟩
        refine One.bare hF1485 (by kernel_rfl) (s_pure hT (d := 48) (v := .bool (!(decide ((cmpI (nv 256 xs) (nv 256 ys)) = (cmpI (nv 256 xs) (nv 256 ys)))))) (cs := []) (by kernel_rfl) (by kernel_rfl) trivial hF1485 ?_)
        have htr : (!(decide ((cmpI (nv 256 xs) (nv 256 ys)) = (cmpI (nv 256 xs) (nv 256 ys))))) = false := (congrArg Bool.not (decide_eq_true rfl))
        rintro a2 ha2 hF2; rw [ha2]; exact hK1487 _ _ (congrArg Value.bool htr) (grown_refl _ _)
      · -- operation 13
        rintro a1504 w1503 b1506 KK1512 hs1508 hd1509 hJ1510 hb1511 hr1519 hK1507
        have hr1519x : RD SL_ a1504 a1264 w1503 [(41, some 5), (48, some 12)] := hr1519 _ (by kernel_rfl)
        obtain ⟨⟨v1514, q1513, s1515⟩, ⟨v1517, q1516, s1518⟩, -⟩ := hr1519x
        obtain rfl : v1514 = .bool false := s1515
        obtain rfl : v1517 = .bool false := s1518
        obtain ⟨HE, HE1271⟩ := hJ1510
        have hF1505 : Fr 113 a1504 [(41, .bool false), (48, .bool false)] := Fr.of hs1508 hd1509 ⟨q1513, q1516, trivial⟩
        refine s_pure hT (d := 49) (v := .bool false) (cs := []) (by kernel_rfl) (by kernel_rfl) trivial hF1505 ?_
        rintro a2 ha2 hF2; rw [ha2]; exact hK1507 _ _ rfl (grown_refl _ _)
      · -- operation 14
        rintro a1521 w1520 b1523 KK1529 hs1525 hd1526 hJ1527 hb1528 hr1533 hK1524
        have hr1533x : RD SL_ a1521 a1264 w1520 [(49, some 13)] := hr1533 _ (by kernel_rfl)
        obtain ⟨⟨v1531, q1530, s1532⟩, -⟩ := hr1533x
        obtain rfl : v1531 = .bool false := s1532
        obtain ⟨HE, HE1271⟩ := hJ1527
        have hF1522 : Fr 113 a1521 [(49, .bool false)] := Fr.of hs1525 hd1526 ⟨q1530, trivial⟩
        refine s_pure hT (d := 50) (v := .bool false) (cs := []) (by kernel_rfl) (by kernel_rfl) trivial hF1522 ?_
        rintro a2 ha2 hF2; rw [ha2]; exact hK1524 _ _ rfl (grown_refl _ _)
      · -- operation 15
        rintro a1535 w1534 b1537 KK1543 hs1539 hd1540 hJ1541 hb1542 hr1548 hK1538
        have hr1548x : RD SL_ a1535 a1264 w1534 [(6, none), (50, some 14)] := hr1548 _ (by kernel_rfl)
        obtain ⟨q1544, ⟨v1546, q1545, s1547⟩, -⟩ := hr1548x
        obtain rfl : v1546 = .bool false := s1547
        obtain ⟨HE, HE1271⟩ := hJ1541
        have hF1536 : Fr 113 a1535 [(6, .slice A1166 ((dig 256 (nv 256 xs)).length) c1167), (50, .bool false)] := Fr.of hs1539 hd1540 ⟨(Fr.init hF1266 q1544 (by kernel_rfl)), q1545, trivial⟩
        refine One.bare hF1536 (by kernel_rfl) (s_pure hT (d := 51) (v := .slice A1166 ((dig 256 (nv 256 xs)).length) c1167) (cs := []) (by kernel_rfl) (by kernel_rfl) trivial hF1536 ?_)
        rintro a2 ha2 hF2; rw [ha2]; exact hK1538 _ _ rfl (grown_refl _ _)
      · -- operation 16
        rintro a1550 w1549 b1552 KK1558 hs1554 hd1555 hJ1556 hb1557 hr1565 hK1553
        have hr1565x : RD SL_ a1550 a1264 w1549 [(51, some 15), (50, some 14)] := hr1565 _ (by kernel_rfl)
        obtain ⟨⟨v1560, q1559, s1561⟩, ⟨v1563, q1562, s1564⟩, -⟩ := hr1565x
        obtain rfl : v1560 = .slice A1166 ((dig 256 (nv 256 xs)).length) c1167 := s1561
        obtain rfl : v1563 = .bool false := s1564
        obtain ⟨HE, HE1271⟩ := hJ1556
        have hF1551 : Fr 113 a1550 [(51, .slice A1166 ((dig 256 (nv 256 xs)).length) c1167), (50, .bool false)] := Fr.of hs1554 hd1555 ⟨q1559, q1562, trivial⟩
        refine One.bare hF1551 (by kernel_rfl) (s_str hT (d := 52) (A := A1166) (m := (dig 256 (nv 256 xs)).length) (xs := (dig 256 (nv 256 xs))) (by kernel_rfl) hF1551 (HR1273.ex HE1271) (by (first | (simp only [vs_length, vi_length]; omega) | (simp; omega) | omega)) ?_)
        rintro a1566 ha1568 hF1567
        rw [ha1568]; exact hK1553 _ _ rfl (grown_refl _ _)
      · -- operation 17
        rintro a1570 w1569 b1572 KK1578 hs1574 hd1575 hJ1576 hb1577 hr1583 hK1573
        have hr1583x : RD SL_ a1570 a1264 w1569 [(0, none), (50, some 14)] := hr1583 _ (by kernel_rfl)
        obtain ⟨q1579, ⟨v1581, q1580, s1582⟩, -⟩ := hr1583x
        obtain rfl : v1581 = .bool false := s1582
        obtain ⟨HE, HE1271⟩ := hJ1576
        have hF1571 : Fr 113 a1570 [(0, .slice Ax xs.length cx), (50, .bool false)] := Fr.of hs1574 hd1575 ⟨(Fr.init hF1266 q1579 (by kernel_rfl)), q1580, trivial⟩
        refine One.bare hF1571 (by kernel_rfl) (s_pure hT (d := 53) (v := .slice Ax xs.length cx) (cs := []) (by kernel_rfl) (by kernel_rfl) trivial hF1571 ?_)
        rintro a2 ha2 hF2; rw [ha2]; exact hK1573 _ _ rfl (grown_refl _ _)
      · -- operation 18
        rintro a1585 w1584 b1587 KK1593 hs1589 hd1590 hJ1591 hb1592 hr1600 hK1588
        have hr1600x : RD SL_ a1585 a1264 w1584 [(53, some 17), (50, some 14)] := hr1600 _ (by kernel_rfl)
        obtain ⟨⟨v1595, q1594, s1596⟩, ⟨v1598, q1597, s1599⟩, -⟩ := hr1600x
        obtain rfl : v1595 = .slice Ax xs.length cx := s1596
        obtain rfl : v1598 = .bool false := s1599
        obtain ⟨HE, HE1271⟩ := hJ1591
        have hF1586 : Fr 113 a1585 [(53, .slice Ax xs.length cx), (50, .bool false)] := Fr.of hs1589 hd1590 ⟨q1594, q1597, trivial⟩
        have hz1607 := HE.size
        have hz1608 := HE1271.size
        refine One.bare hF1586 (by kernel_rfl) (s_call (d := 54) (f := 21) (l := [.slice Ax xs.length cx]) (by kernel_rfl) hF1586 cl21 (ref15_Norm Ax xs.length cx xs (nv 256 xs) _ rfl (by first | omega | assumption | (simp; done) | (simp; omega) | decide) (hxs.ex HE) (by first | assumption | exact by_dig _ | exact by_one (Nat.mod_lt _ (by decide)) | omega | simp | decide) (by first | omega | assumption | (simp; done) | (simp; omega) | decide) (by first | omega | assumption | (simp; done) | (simp; omega) | decide)) ?_)
        rintro a1609 w1604 v1605 ⟨A1601, c1602, rfl, HX1606, HO1603⟩ ha1611 hF1610
        replace HE := HE.thenN HX1606.g
        replace HE1271 := HE1271.thenN HX1606.g
        have hcp1612 := HO1603.cap
        rw [ha1611]; exact hK1588 _ _ ⟨_, _, rfl, HO1603.rd⟩ HX1606.g
      · -- operation 19
        rintro a1614 w1613 b1616 KK1622 hs1618 hd1619 hJ1620 hb1621 hr1632 hK1617
        have hr1632x : RD SL_ a1614 a1264 w1613 [(54, some 18), (50, some 14)] := hr1632 _ (by kernel_rfl)
        obtain ⟨⟨v1624, q1623, s1625⟩, ⟨v1630, q1629, s1631⟩, -⟩ := hr1632x
        obtain ⟨A1626, c1627, rfl, HR1628⟩ := s1625
        obtain rfl : v1630 = .bool false := s1631
        obtain ⟨HE, HE1271⟩ := hJ1620
        have hF1615 : Fr 113 a1614 [(54, .slice A1626 ((dig 256 (nv 256 xs)).length) c1627), (50, .bool false)] := Fr.of hs1618 hd1619 ⟨q1623, q1629, trivial⟩
        refine One.bare hF1615 (by kernel_rfl) (s_str hT (d := 55) (A := A1626) (m := (dig 256 (nv 256 xs)).length) (xs := (dig 256 (nv 256 xs))) (by kernel_rfl) hF1615 HR1628 (by (first | (simp only [vs_length, vi_length]; omega) | (simp; omega) | omega)) ?_)
        rintro a1633 ha1635 hF1634
        rw [ha1635]; exact hK1617 _ _ rfl (grown_refl _ _)
      · -- operation 20
        rintro a1637 w1636 b1639 KK1645 hs1641 hd1642 hJ1643 hb1644 hr1655 hK1640
        have hr1655x : RD SL_ a1637 a1264 w1636 [(52, some 16), (55, some 19), (50, some 14)] := hr1655 _ (by kernel_rfl)
        obtain ⟨⟨v1647, q1646, s1648⟩, ⟨v1650, q1649, s1651⟩, ⟨v1653, q1652, s1654⟩, -⟩ := hr1655x
        obtain rfl : v1647 = .string (str (dig 256 (nv 256 xs))) := s1648
        obtain rfl : v1650 = .string (str (dig 256 (nv 256 xs))) := s1651
        obtain rfl : v1653 = .bool false := s1654
        obtain ⟨HE, HE1271⟩ := hJ1643
        have hF1638 : Fr 113 a1637 [(52, .string (str (dig 256 (nv 256 xs)))), (55, .string (str (dig 256 (nv 256 xs)))), (50, .bool false)] := Fr.of hs1641 hd1642 ⟨q1646, q1649, q1652, trivial⟩
        refine One.bare hF1638 (by kernel_rfl) (s_pure hT (d := 56) (v := .bool (!(ByteArray.toList (str (dig 256 (nv 256 xs))) == ByteArray.toList (str (dig 256 (nv 256 xs)))))) (cs := []) (by kernel_rfl) (by kernel_rfl) trivial hF1638 ?_)
        have htr : (!(ByteArray.toList (str (dig 256 (nv 256 xs))) == ByteArray.toList (str (dig 256 (nv 256 xs))))) = false := (congrArg Bool.not (str_eqT rfl))
        rintro a2 ha2 hF2; rw [ha2]; exact hK1640 _ _ (congrArg Value.bool htr) (grown_refl _ _)
      · -- operation 21
        rintro a1657 w1656 b1659 KK1665 hs1661 hd1662 hJ1663 hb1664 hr1672 hK1660
        have hr1672x : RD SL_ a1657 a1264 w1656 [(50, some 14), (56, some 20)] := hr1672 _ (by kernel_rfl)
        obtain ⟨⟨v1667, q1666, s1668⟩, ⟨v1670, q1669, s1671⟩, -⟩ := hr1672x
        obtain rfl : v1667 = .bool false := s1668
        obtain rfl : v1670 = .bool false := s1671
        obtain ⟨HE, HE1271⟩ := hJ1663
        have hF1658 : Fr 113 a1657 [(50, .bool false), (56, .bool false)] := Fr.of hs1661 hd1662 ⟨q1666, q1669, trivial⟩
        refine s_pure hT (d := 57) (v := .bool false) (cs := []) (by kernel_rfl) (by kernel_rfl) trivial hF1658 ?_
        rintro a2 ha2 hF2; rw [ha2]; exact hK1660 _ _ rfl (grown_refl _ _)
      · -- operation 22
        rintro a1674 w1673 b1676 KK1682 hs1678 hd1679 hJ1680 hb1681 hr1686 hK1677
        have hr1686x : RD SL_ a1674 a1264 w1673 [(57, some 21)] := hr1686 _ (by kernel_rfl)
        obtain ⟨⟨v1684, q1683, s1685⟩, -⟩ := hr1686x
        obtain rfl : v1684 = .bool false := s1685
        obtain ⟨HE, HE1271⟩ := hJ1680
        have hF1675 : Fr 113 a1674 [(57, .bool false)] := Fr.of hs1678 hd1679 ⟨q1683, trivial⟩
        refine s_pure hT (d := 58) (v := .bool false) (cs := []) (by kernel_rfl) (by kernel_rfl) trivial hF1675 ?_
        rintro a2 ha2 hF2; rw [ha2]; exact hK1677 _ _ rfl (grown_refl _ _)
      · -- operation 23
        rintro a1688 w1687 b1690 KK1696 hs1692 hd1693 hJ1694 hb1695 hr1701 hK1691
        have hr1701x : RD SL_ a1688 a1264 w1687 [(7, none), (58, some 22)] := hr1701 _ (by kernel_rfl)
        obtain ⟨q1697, ⟨v1699, q1698, s1700⟩, -⟩ := hr1701x
        obtain rfl : v1699 = .bool false := s1700
        obtain ⟨HE, HE1271⟩ := hJ1694
        have hF1689 : Fr 113 a1688 [(7, .slice A1185 ((dig 256 ((nv 256 xs) + (nv 256 ys))).length) c1186), (58, .bool false)] := Fr.of hs1692 hd1693 ⟨(Fr.init hF1266 q1697 (by kernel_rfl)), q1698, trivial⟩
        refine One.bare hF1689 (by kernel_rfl) (s_pure hT (d := 59) (v := .slice A1185 ((dig 256 ((nv 256 xs) + (nv 256 ys))).length) c1186) (cs := []) (by kernel_rfl) (by kernel_rfl) trivial hF1689 ?_)
        rintro a2 ha2 hF2; rw [ha2]; exact hK1691 _ _ rfl (grown_refl _ _)
      · -- operation 24
        rintro a1703 w1702 b1705 KK1711 hs1707 hd1708 hJ1709 hb1710 hr1718 hK1706
        have hr1718x : RD SL_ a1703 a1264 w1702 [(59, some 23), (58, some 22)] := hr1718 _ (by kernel_rfl)
        obtain ⟨⟨v1713, q1712, s1714⟩, ⟨v1716, q1715, s1717⟩, -⟩ := hr1718x
        obtain rfl : v1713 = .slice A1185 ((dig 256 ((nv 256 xs) + (nv 256 ys))).length) c1186 := s1714
        obtain rfl : v1716 = .bool false := s1717
        obtain ⟨HE, HE1271⟩ := hJ1709
        have hF1704 : Fr 113 a1703 [(59, .slice A1185 ((dig 256 ((nv 256 xs) + (nv 256 ys))).length) c1186), (58, .bool false)] := Fr.of hs1707 hd1708 ⟨q1712, q1715, trivial⟩
        refine One.bare hF1704 (by kernel_rfl) (s_str hT (d := 60) (A := A1185) (m := (dig 256 ((nv 256 xs) + (nv 256 ys))).length) (xs := (dig 256 ((nv 256 xs) + (nv 256 ys)))) (by kernel_rfl) hF1704 (HR1274.ex HE1271) (by (first | (simp only [vs_length, vi_length]; omega) | (simp; omega) | omega)) ?_)
        rintro a1719 ha1721 hF1720
        rw [ha1721]; exact hK1706 _ _ rfl (grown_refl _ _)
      · -- operation 25
        rintro a1723 w1722 b1725 KK1731 hs1727 hd1728 hJ1729 hb1730 hr1736 hK1726
        have hr1736x : RD SL_ a1723 a1264 w1722 [(0, none), (58, some 22)] := hr1736 _ (by kernel_rfl)
        obtain ⟨q1732, ⟨v1734, q1733, s1735⟩, -⟩ := hr1736x
        obtain rfl : v1734 = .bool false := s1735
        obtain ⟨HE, HE1271⟩ := hJ1729
        have hF1724 : Fr 113 a1723 [(0, .slice Ax xs.length cx), (58, .bool false)] := Fr.of hs1727 hd1728 ⟨(Fr.init hF1266 q1732 (by kernel_rfl)), q1733, trivial⟩
        refine One.bare hF1724 (by kernel_rfl) (s_pure hT (d := 61) (v := .slice Ax xs.length cx) (cs := []) (by kernel_rfl) (by kernel_rfl) trivial hF1724 ?_)
        rintro a2 ha2 hF2; rw [ha2]; exact hK1726 _ _ rfl (grown_refl _ _)
      · -- operation 26
        rintro a1738 w1737 b1740 KK1746 hs1742 hd1743 hJ1744 hb1745 hr1751 hK1741
        have hr1751x : RD SL_ a1738 a1264 w1737 [(1, none), (58, some 22)] := hr1751 _ (by kernel_rfl)
        obtain ⟨q1747, ⟨v1749, q1748, s1750⟩, -⟩ := hr1751x
        obtain rfl : v1749 = .bool false := s1750
        obtain ⟨HE, HE1271⟩ := hJ1744
        have hF1739 : Fr 113 a1738 [(1, .slice Ay ys.length cy), (58, .bool false)] := Fr.of hs1742 hd1743 ⟨(Fr.init hF1266 q1747 (by kernel_rfl)), q1748, trivial⟩
        refine One.bare hF1739 (by kernel_rfl) (s_pure hT (d := 62) (v := .slice Ay ys.length cy) (cs := []) (by kernel_rfl) (by kernel_rfl) trivial hF1739 ?_)
        rintro a2 ha2 hF2; rw [ha2]; exact hK1741 _ _ rfl (grown_refl _ _)
      · -- operation 27
        rintro a1753 w1752 b1755 KK1761 hs1757 hd1758 hJ1759 hb1760 hr1771 hK1756
        have hr1771x : RD SL_ a1753 a1264 w1752 [(61, some 25), (62, some 26), (58, some 22)] := hr1771 _ (by kernel_rfl)
        obtain ⟨⟨v1763, q1762, s1764⟩, ⟨v1766, q1765, s1767⟩, ⟨v1769, q1768, s1770⟩, -⟩ := hr1771x
        obtain rfl : v1763 = .slice Ax xs.length cx := s1764
        obtain rfl : v1766 = .slice Ay ys.length cy := s1767
        obtain rfl : v1769 = .bool false := s1770
        obtain ⟨HE, HE1271⟩ := hJ1759
        have hF1754 : Fr 113 a1753 [(61, .slice Ax xs.length cx), (62, .slice Ay ys.length cy), (58, .bool false)] := Fr.of hs1757 hd1758 ⟨q1762, q1765, q1768, trivial⟩
        have hz1778 := HE.size
        have hz1779 := HE1271.size
        refine One.bare hF1754 (by kernel_rfl) (s_call (d := 63) (f := 22) (l := [.slice Ax xs.length cx, .slice Ay ys.length cy]) (by kernel_rfl) hF1754 cl22 (ref15_Add Ax xs.length cx xs (nv 256 xs) Ay ys.length cy ys (nv 256 ys) _ rfl rfl (by first | omega | assumption | (simp; done) | (simp; omega) | decide) (by first | omega | assumption | (simp; done) | (simp; omega) | decide) (hxs.ex HE) (hys.ex HE) (by first | assumption | exact by_dig _ | exact by_one (Nat.mod_lt _ (by decide)) | omega | simp | decide) (by first | assumption | exact by_dig _ | exact by_one (Nat.mod_lt _ (by decide)) | omega | simp | decide) (by first | omega | assumption | (simp; done) | (simp; omega) | decide) (by first | omega | assumption | (simp; done) | (simp; omega) | decide) ) ?_)
        rintro a1780 w1775 v1776 ⟨A1772, c1773, rfl, HX1777, HO1774⟩ ha1782 hF1781
        replace HE := HE.thenN HX1777.g
        replace HE1271 := HE1271.thenN HX1777.g
        have hcp1783 := HO1774.cap
        rw [ha1782]; exact hK1756 _ _ ⟨_, _, rfl, HO1774.rd⟩ HX1777.g
      · -- operation 28
        rintro a1785 w1784 b1787 KK1793 hs1789 hd1790 hJ1791 hb1792 hr1803 hK1788
        have hr1803x : RD SL_ a1785 a1264 w1784 [(63, some 27), (58, some 22)] := hr1803 _ (by kernel_rfl)
        obtain ⟨⟨v1795, q1794, s1796⟩, ⟨v1801, q1800, s1802⟩, -⟩ := hr1803x
        obtain ⟨A1797, c1798, rfl, HR1799⟩ := s1796
        obtain rfl : v1801 = .bool false := s1802
        obtain ⟨HE, HE1271⟩ := hJ1791
        have hF1786 : Fr 113 a1785 [(63, .slice A1797 ((dig 256 ((nv 256 xs) + (nv 256 ys))).length) c1798), (58, .bool false)] := Fr.of hs1789 hd1790 ⟨q1794, q1800, trivial⟩
        refine One.bare hF1786 (by kernel_rfl) (s_str hT (d := 64) (A := A1797) (m := (dig 256 ((nv 256 xs) + (nv 256 ys))).length) (xs := (dig 256 ((nv 256 xs) + (nv 256 ys)))) (by kernel_rfl) hF1786 HR1799 (by (first | (simp only [vs_length, vi_length]; omega) | (simp; omega) | omega)) ?_)
        rintro a1804 ha1806 hF1805
        rw [ha1806]; exact hK1788 _ _ rfl (grown_refl _ _)
      · -- operation 29
        rintro a1808 w1807 b1810 KK1816 hs1812 hd1813 hJ1814 hb1815 hr1826 hK1811
        have hr1826x : RD SL_ a1808 a1264 w1807 [(60, some 24), (64, some 28), (58, some 22)] := hr1826 _ (by kernel_rfl)
        obtain ⟨⟨v1818, q1817, s1819⟩, ⟨v1821, q1820, s1822⟩, ⟨v1824, q1823, s1825⟩, -⟩ := hr1826x
        obtain rfl : v1818 = .string (str (dig 256 ((nv 256 xs) + (nv 256 ys)))) := s1819
        obtain rfl : v1821 = .string (str (dig 256 ((nv 256 xs) + (nv 256 ys)))) := s1822
        obtain rfl : v1824 = .bool false := s1825
        obtain ⟨HE, HE1271⟩ := hJ1814
        have hF1809 : Fr 113 a1808 [(60, .string (str (dig 256 ((nv 256 xs) + (nv 256 ys))))), (64, .string (str (dig 256 ((nv 256 xs) + (nv 256 ys))))), (58, .bool false)] := Fr.of hs1812 hd1813 ⟨q1817, q1820, q1823, trivial⟩
        refine One.bare hF1809 (by kernel_rfl) (s_pure hT (d := 65) (v := .bool (!(ByteArray.toList (str (dig 256 ((nv 256 xs) + (nv 256 ys)))) == ByteArray.toList (str (dig 256 ((nv 256 xs) + (nv 256 ys))))))) (cs := []) (by kernel_rfl) (by kernel_rfl) trivial hF1809 ?_)
        have htr : (!(ByteArray.toList (str (dig 256 ((nv 256 xs) + (nv 256 ys)))) == ByteArray.toList (str (dig 256 ((nv 256 xs) + (nv 256 ys)))))) = false := (congrArg Bool.not (str_eqT rfl))
        rintro a2 ha2 hF2; rw [ha2]; exact hK1811 _ _ (congrArg Value.bool htr) (grown_refl _ _)
      · -- operation 30
        rintro a1828 w1827 b1830 KK1836 hs1832 hd1833 hJ1834 hb1835 hr1843 hK1831
        have hr1843x : RD SL_ a1828 a1264 w1827 [(58, some 22), (65, some 29)] := hr1843 _ (by kernel_rfl)
        obtain ⟨⟨v1838, q1837, s1839⟩, ⟨v1841, q1840, s1842⟩, -⟩ := hr1843x
        obtain rfl : v1838 = .bool false := s1839
        obtain rfl : v1841 = .bool false := s1842
        obtain ⟨HE, HE1271⟩ := hJ1834
        have hF1829 : Fr 113 a1828 [(58, .bool false), (65, .bool false)] := Fr.of hs1832 hd1833 ⟨q1837, q1840, trivial⟩
        refine s_pure hT (d := 66) (v := .bool false) (cs := []) (by kernel_rfl) (by kernel_rfl) trivial hF1829 ?_
        rintro a2 ha2 hF2; rw [ha2]; exact hK1831 _ _ rfl (grown_refl _ _)
      · -- operation 31
        rintro a1845 w1844 b1847 KK1853 hs1849 hd1850 hJ1851 hb1852 hr1857 hK1848
        have hr1857x : RD SL_ a1845 a1264 w1844 [(66, some 30)] := hr1857 _ (by kernel_rfl)
        obtain ⟨⟨v1855, q1854, s1856⟩, -⟩ := hr1857x
        obtain rfl : v1855 = .bool false := s1856
        obtain ⟨HE, HE1271⟩ := hJ1851
        have hF1846 : Fr 113 a1845 [(66, .bool false)] := Fr.of hs1849 hd1850 ⟨q1854, trivial⟩
        refine s_pure hT (d := 67) (v := .bool false) (cs := []) (by kernel_rfl) (by kernel_rfl) trivial hF1846 ?_
        rintro a2 ha2 hF2; rw [ha2]; exact hK1848 _ _ rfl (grown_refl _ _)
      · -- operation 32
        rintro a1859 w1858 b1861 KK1867 hs1863 hd1864 hJ1865 hb1866 hr1872 hK1862
        have hr1872x : RD SL_ a1859 a1264 w1858 [(8, none), (67, some 31)] := hr1872 _ (by kernel_rfl)
        obtain ⟨q1868, ⟨v1870, q1869, s1871⟩, -⟩ := hr1872x
        obtain rfl : v1870 = .bool false := s1871
        obtain ⟨HE, HE1271⟩ := hJ1865
        have hF1860 : Fr 113 a1859 [(8, .slice A1205 ((dig 256 ((nv 256 xs) - (nv 256 ys))).length) c1206), (67, .bool false)] := Fr.of hs1863 hd1864 ⟨(Fr.init hF1266 q1868 (by kernel_rfl)), q1869, trivial⟩
        refine One.bare hF1860 (by kernel_rfl) (s_pure hT (d := 68) (v := .slice A1205 ((dig 256 ((nv 256 xs) - (nv 256 ys))).length) c1206) (cs := []) (by kernel_rfl) (by kernel_rfl) trivial hF1860 ?_)
        rintro a2 ha2 hF2; rw [ha2]; exact hK1862 _ _ rfl (grown_refl _ _)
      · -- operation 33
        rintro a1874 w1873 b1876 KK1882 hs1878 hd1879 hJ1880 hb1881 hr1889 hK1877
        have hr1889x : RD SL_ a1874 a1264 w1873 [(68, some 32), (67, some 31)] := hr1889 _ (by kernel_rfl)
        obtain ⟨⟨v1884, q1883, s1885⟩, ⟨v1887, q1886, s1888⟩, -⟩ := hr1889x
        obtain rfl : v1884 = .slice A1205 ((dig 256 ((nv 256 xs) - (nv 256 ys))).length) c1206 := s1885
        obtain rfl : v1887 = .bool false := s1888
        obtain ⟨HE, HE1271⟩ := hJ1880
        have hF1875 : Fr 113 a1874 [(68, .slice A1205 ((dig 256 ((nv 256 xs) - (nv 256 ys))).length) c1206), (67, .bool false)] := Fr.of hs1878 hd1879 ⟨q1883, q1886, trivial⟩
        refine One.bare hF1875 (by kernel_rfl) (s_str hT (d := 69) (A := A1205) (m := (dig 256 ((nv 256 xs) - (nv 256 ys))).length) (xs := (dig 256 ((nv 256 xs) - (nv 256 ys)))) (by kernel_rfl) hF1875 (HR1275.ex HE1271) (by (first | (simp only [vs_length, vi_length]; omega) | (simp; omega) | omega)) ?_)
        rintro a1890 ha1892 hF1891
        rw [ha1892]; exact hK1877 _ _ rfl (grown_refl _ _)
      · -- operation 34
        rintro a1894 w1893 b1896 KK1902 hs1898 hd1899 hJ1900 hb1901 hr1907 hK1897
        have hr1907x : RD SL_ a1894 a1264 w1893 [(0, none), (67, some 31)] := hr1907 _ (by kernel_rfl)
        obtain ⟨q1903, ⟨v1905, q1904, s1906⟩, -⟩ := hr1907x
        obtain rfl : v1905 = .bool false := s1906
        obtain ⟨HE, HE1271⟩ := hJ1900
        have hF1895 : Fr 113 a1894 [(0, .slice Ax xs.length cx), (67, .bool false)] := Fr.of hs1898 hd1899 ⟨(Fr.init hF1266 q1903 (by kernel_rfl)), q1904, trivial⟩
        refine One.bare hF1895 (by kernel_rfl) (s_pure hT (d := 70) (v := .slice Ax xs.length cx) (cs := []) (by kernel_rfl) (by kernel_rfl) trivial hF1895 ?_)
        rintro a2 ha2 hF2; rw [ha2]; exact hK1897 _ _ rfl (grown_refl _ _)
      · -- operation 35
        rintro a1909 w1908 b1911 KK1917 hs1913 hd1914 hJ1915 hb1916 hr1922 hK1912
        have hr1922x : RD SL_ a1909 a1264 w1908 [(1, none), (67, some 31)] := hr1922 _ (by kernel_rfl)
        obtain ⟨q1918, ⟨v1920, q1919, s1921⟩, -⟩ := hr1922x
        obtain rfl : v1920 = .bool false := s1921
        obtain ⟨HE, HE1271⟩ := hJ1915
        have hF1910 : Fr 113 a1909 [(1, .slice Ay ys.length cy), (67, .bool false)] := Fr.of hs1913 hd1914 ⟨(Fr.init hF1266 q1918 (by kernel_rfl)), q1919, trivial⟩
        refine One.bare hF1910 (by kernel_rfl) (s_pure hT (d := 71) (v := .slice Ay ys.length cy) (cs := []) (by kernel_rfl) (by kernel_rfl) trivial hF1910 ?_)
        rintro a2 ha2 hF2; rw [ha2]; exact hK1912 _ _ rfl (grown_refl _ _)
      · -- operation 36
        rintro a1924 w1923 b1926 KK1932 hs1928 hd1929 hJ1930 hb1931 hr1942 hK1927
        have hr1942x : RD SL_ a1924 a1264 w1923 [(70, some 34), (71, some 35), (67, some 31)] := hr1942 _ (by kernel_rfl)
        obtain ⟨⟨v1934, q1933, s1935⟩, ⟨v1937, q1936, s1938⟩, ⟨v1940, q1939, s1941⟩, -⟩ := hr1942x
        obtain rfl : v1934 = .slice Ax xs.length cx := s1935
        obtain rfl : v1937 = .slice Ay ys.length cy := s1938
        obtain rfl : v1940 = .bool false := s1941
        obtain ⟨HE, HE1271⟩ := hJ1930
        have hF1925 : Fr 113 a1924 [(70, .slice Ax xs.length cx), (71, .slice Ay ys.length cy), (67, .bool false)] := Fr.of hs1928 hd1929 ⟨q1933, q1936, q1939, trivial⟩
        have hz1949 := HE.size
        have hz1950 := HE1271.size
        refine One.bare hF1925 (by kernel_rfl) (s_call (d := 72) (f := 23) (l := [.slice Ax xs.length cx, .slice Ay ys.length cy]) (by kernel_rfl) hF1925 cl23 (ref15_Sub Ax xs.length cx xs (nv 256 xs) Ay ys.length cy ys (nv 256 ys) _ rfl rfl (by first | omega | assumption | (simp; done) | (simp; omega) | decide) (by first | omega | assumption | (simp; done) | (simp; omega) | decide) (hxs.ex HE) (hys.ex HE) (by first | assumption | exact by_dig _ | exact by_one (Nat.mod_lt _ (by decide)) | omega | simp | decide) (by first | assumption | exact by_dig _ | exact by_one (Nat.mod_lt _ (by decide)) | omega | simp | decide) (by first | omega | assumption | (simp; done) | (simp; omega) | decide) (by first | omega | assumption | (simp; done) | (simp; omega) | decide) ) ?_)
        rintro a1951 w1946 v1947 ⟨A1943, c1944, rfl, HX1948, HO1945⟩ ha1953 hF1952
        replace HE := HE.thenN HX1948.g
        replace HE1271 := HE1271.thenN HX1948.g
        have hcp1954 := HO1945.cap
        rw [ha1953]; exact hK1927 _ _ ⟨_, _, rfl, HO1945.rd⟩ HX1948.g
      · -- operation 37
        rintro a1956 w1955 b1958 KK1964 hs1960 hd1961 hJ1962 hb1963 hr1974 hK1959
        have hr1974x : RD SL_ a1956 a1264 w1955 [(72, some 36), (67, some 31)] := hr1974 _ (by kernel_rfl)
        obtain ⟨⟨v1966, q1965, s1967⟩, ⟨v1972, q1971, s1973⟩, -⟩ := hr1974x
        obtain ⟨A1968, c1969, rfl, HR1970⟩ := s1967
        obtain rfl : v1972 = .bool false := s1973
        obtain ⟨HE, HE1271⟩ := hJ1962
        have hF1957 : Fr 113 a1956 [(72, .slice A1968 ((dig 256 ((nv 256 xs) - (nv 256 ys))).length) c1969), (67, .bool false)] := Fr.of hs1960 hd1961 ⟨q1965, q1971, trivial⟩
        refine One.bare hF1957 (by kernel_rfl) (s_str hT (d := 73) (A := A1968) (m := (dig 256 ((nv 256 xs) - (nv 256 ys))).length) (xs := (dig 256 ((nv 256 xs) - (nv 256 ys)))) (by kernel_rfl) hF1957 HR1970 (by (first | (simp only [vs_length, vi_length]; omega) | (simp; omega) | omega)) ?_)
        rintro a1975 ha1977 hF1976
        rw [ha1977]; exact hK1959 _ _ rfl (grown_refl _ _)
      · -- operation 38
        rintro a1979 w1978 b1981 KK1987 hs1983 hd1984 hJ1985 hb1986 hr1997 hK1982
        have hr1997x : RD SL_ a1979 a1264 w1978 [(69, some 33), (73, some 37), (67, some 31)] := hr1997 _ (by kernel_rfl)
        obtain ⟨⟨v1989, q1988, s1990⟩, ⟨v1992, q1991, s1993⟩, ⟨v1995, q1994, s1996⟩, -⟩ := hr1997x
        obtain rfl : v1989 = .string (str (dig 256 ((nv 256 xs) - (nv 256 ys)))) := s1990
        obtain rfl : v1992 = .string (str (dig 256 ((nv 256 xs) - (nv 256 ys)))) := s1993
        obtain rfl : v1995 = .bool false := s1996
        obtain ⟨HE, HE1271⟩ := hJ1985
        have hF1980 : Fr 113 a1979 [(69, .string (str (dig 256 ((nv 256 xs) - (nv 256 ys))))), (73, .string (str (dig 256 ((nv 256 xs) - (nv 256 ys))))), (67, .bool false)] := Fr.of hs1983 hd1984 ⟨q1988, q1991, q1994, trivial⟩
        refine One.bare hF1980 (by kernel_rfl) (s_pure hT (d := 74) (v := .bool (!(ByteArray.toList (str (dig 256 ((nv 256 xs) - (nv 256 ys)))) == ByteArray.toList (str (dig 256 ((nv 256 xs) - (nv 256 ys))))))) (cs := []) (by kernel_rfl) (by kernel_rfl) trivial hF1980 ?_)
        have htr : (!(ByteArray.toList (str (dig 256 ((nv 256 xs) - (nv 256 ys)))) == ByteArray.toList (str (dig 256 ((nv 256 xs) - (nv 256 ys)))))) = false := (congrArg Bool.not (str_eqT rfl))
        rintro a2 ha2 hF2; rw [ha2]; exact hK1982 _ _ (congrArg Value.bool htr) (grown_refl _ _)
      · -- operation 39
        rintro a1999 w1998 b2001 KK2007 hs2003 hd2004 hJ2005 hb2006 hr2014 hK2002
        have hr2014x : RD SL_ a1999 a1264 w1998 [(67, some 31), (74, some 38)] := hr2014 _ (by kernel_rfl)
        obtain ⟨⟨v2009, q2008, s2010⟩, ⟨v2012, q2011, s2013⟩, -⟩ := hr2014x
        obtain rfl : v2009 = .bool false := s2010
        obtain rfl : v2012 = .bool false := s2013
        obtain ⟨HE, HE1271⟩ := hJ2005
        have hF2000 : Fr 113 a1999 [(67, .bool false), (74, .bool false)] := Fr.of hs2003 hd2004 ⟨q2008, q2011, trivial⟩
        refine s_pure hT (d := 75) (v := .bool false) (cs := []) (by kernel_rfl) (by kernel_rfl) trivial hF2000 ?_
        rintro a2 ha2 hF2; rw [ha2]; exact hK2002 _ _ rfl (grown_refl _ _)
      · -- operation 40
        rintro a2016 w2015 b2018 KK2024 hs2020 hd2021 hJ2022 hb2023 hr2028 hK2019
        have hr2028x : RD SL_ a2016 a1264 w2015 [(75, some 39)] := hr2028 _ (by kernel_rfl)
        obtain ⟨⟨v2026, q2025, s2027⟩, -⟩ := hr2028x
        obtain rfl : v2026 = .bool false := s2027
        obtain ⟨HE, HE1271⟩ := hJ2022
        have hF2017 : Fr 113 a2016 [(75, .bool false)] := Fr.of hs2020 hd2021 ⟨q2025, trivial⟩
        refine s_pure hT (d := 76) (v := .bool false) (cs := []) (by kernel_rfl) (by kernel_rfl) trivial hF2017 ?_
        rintro a2 ha2 hF2; rw [ha2]; exact hK2019 _ _ rfl (grown_refl _ _)
      · -- operation 41
        rintro a2030 w2029 b2032 KK2038 hs2034 hd2035 hJ2036 hb2037 hr2043 hK2033
        have hr2043x : RD SL_ a2030 a1264 w2029 [(9, none), (76, some 40)] := hr2043 _ (by kernel_rfl)
        obtain ⟨q2039, ⟨v2041, q2040, s2042⟩, -⟩ := hr2043x
        obtain rfl : v2041 = .bool false := s2042
        obtain ⟨HE, HE1271⟩ := hJ2036
        have hF2031 : Fr 113 a2030 [(9, .slice A1226 ((dig 256 ((nv 256 xs) * (nv 256 ys))).length) c1227), (76, .bool false)] := Fr.of hs2034 hd2035 ⟨(Fr.init hF1266 q2039 (by kernel_rfl)), q2040, trivial⟩
        refine One.bare hF2031 (by kernel_rfl) (s_pure hT (d := 77) (v := .slice A1226 ((dig 256 ((nv 256 xs) * (nv 256 ys))).length) c1227) (cs := []) (by kernel_rfl) (by kernel_rfl) trivial hF2031 ?_)
        rintro a2 ha2 hF2; rw [ha2]; exact hK2033 _ _ rfl (grown_refl _ _)
      · -- operation 42
        rintro a2045 w2044 b2047 KK2053 hs2049 hd2050 hJ2051 hb2052 hr2060 hK2048
        have hr2060x : RD SL_ a2045 a1264 w2044 [(77, some 41), (76, some 40)] := hr2060 _ (by kernel_rfl)
        obtain ⟨⟨v2055, q2054, s2056⟩, ⟨v2058, q2057, s2059⟩, -⟩ := hr2060x
        obtain rfl : v2055 = .slice A1226 ((dig 256 ((nv 256 xs) * (nv 256 ys))).length) c1227 := s2056
        obtain rfl : v2058 = .bool false := s2059
        obtain ⟨HE, HE1271⟩ := hJ2051
        have hF2046 : Fr 113 a2045 [(77, .slice A1226 ((dig 256 ((nv 256 xs) * (nv 256 ys))).length) c1227), (76, .bool false)] := Fr.of hs2049 hd2050 ⟨q2054, q2057, trivial⟩
        refine One.bare hF2046 (by kernel_rfl) (s_str hT (d := 78) (A := A1226) (m := (dig 256 ((nv 256 xs) * (nv 256 ys))).length) (xs := (dig 256 ((nv 256 xs) * (nv 256 ys)))) (by kernel_rfl) hF2046 (HR1276.ex HE1271) (by (first | (simp only [vs_length, vi_length]; omega) | (simp; omega) | omega)) ?_)
        rintro a2061 ha2063 hF2062
        rw [ha2063]; exact hK2048 _ _ rfl (grown_refl _ _)
      · -- operation 43
        rintro a2065 w2064 b2067 KK2073 hs2069 hd2070 hJ2071 hb2072 hr2078 hK2068
        have hr2078x : RD SL_ a2065 a1264 w2064 [(0, none), (76, some 40)] := hr2078 _ (by kernel_rfl)
        obtain ⟨q2074, ⟨v2076, q2075, s2077⟩, -⟩ := hr2078x
        obtain rfl : v2076 = .bool false := s2077
        obtain ⟨HE, HE1271⟩ := hJ2071
        have hF2066 : Fr 113 a2065 [(0, .slice Ax xs.length cx), (76, .bool false)] := Fr.of hs2069 hd2070 ⟨(Fr.init hF1266 q2074 (by kernel_rfl)), q2075, trivial⟩
        refine One.bare hF2066 (by kernel_rfl) (s_pure hT (d := 79) (v := .slice Ax xs.length cx) (cs := []) (by kernel_rfl) (by kernel_rfl) trivial hF2066 ?_)
        rintro a2 ha2 hF2; rw [ha2]; exact hK2068 _ _ rfl (grown_refl _ _)
      · -- operation 44
        rintro a2080 w2079 b2082 KK2088 hs2084 hd2085 hJ2086 hb2087 hr2093 hK2083
        have hr2093x : RD SL_ a2080 a1264 w2079 [(1, none), (76, some 40)] := hr2093 _ (by kernel_rfl)
        obtain ⟨q2089, ⟨v2091, q2090, s2092⟩, -⟩ := hr2093x
        obtain rfl : v2091 = .bool false := s2092
        obtain ⟨HE, HE1271⟩ := hJ2086
        have hF2081 : Fr 113 a2080 [(1, .slice Ay ys.length cy), (76, .bool false)] := Fr.of hs2084 hd2085 ⟨(Fr.init hF1266 q2089 (by kernel_rfl)), q2090, trivial⟩
        refine One.bare hF2081 (by kernel_rfl) (s_pure hT (d := 80) (v := .slice Ay ys.length cy) (cs := []) (by kernel_rfl) (by kernel_rfl) trivial hF2081 ?_)
        rintro a2 ha2 hF2; rw [ha2]; exact hK2083 _ _ rfl (grown_refl _ _)
      · -- operation 45
        rintro a2095 w2094 b2097 KK2103 hs2099 hd2100 hJ2101 hb2102 hr2113 hK2098
        have hr2113x : RD SL_ a2095 a1264 w2094 [(79, some 43), (80, some 44), (76, some 40)] := hr2113 _ (by kernel_rfl)
        obtain ⟨⟨v2105, q2104, s2106⟩, ⟨v2108, q2107, s2109⟩, ⟨v2111, q2110, s2112⟩, -⟩ := hr2113x
        obtain rfl : v2105 = .slice Ax xs.length cx := s2106
        obtain rfl : v2108 = .slice Ay ys.length cy := s2109
        obtain rfl : v2111 = .bool false := s2112
        obtain ⟨HE, HE1271⟩ := hJ2101
        have hF2096 : Fr 113 a2095 [(79, .slice Ax xs.length cx), (80, .slice Ay ys.length cy), (76, .bool false)] := Fr.of hs2099 hd2100 ⟨q2104, q2107, q2110, trivial⟩
        have hz2120 := HE.size
        have hz2121 := HE1271.size
        refine One.bare hF2096 (by kernel_rfl) (s_call (d := 81) (f := 24) (l := [.slice Ax xs.length cx, .slice Ay ys.length cy]) (by kernel_rfl) hF2096 cl24 (ref15_Mul Ax xs.length cx xs (nv 256 xs) Ay ys.length cy ys (nv 256 ys) _ rfl rfl (by first | omega | assumption | (simp; done) | (simp; omega) | decide) (by first | omega | assumption | (simp; done) | (simp; omega) | decide) (hxs.ex HE) (hys.ex HE) (by first | assumption | exact by_dig _ | exact by_one (Nat.mod_lt _ (by decide)) | omega | simp | decide) (by first | assumption | exact by_dig _ | exact by_one (Nat.mod_lt _ (by decide)) | omega | simp | decide) (by first | omega | assumption | (simp; done) | (simp; omega) | decide) (by first | omega | assumption | (simp; done) | (simp; omega) | decide) ) ?_)
        rintro a2122 w2117 v2118 ⟨A2114, c2115, rfl, HX2119, HO2116⟩ ha2124 hF2123
        replace HE := HE.thenN HX2119.g
        replace HE1271 := HE1271.thenN HX2119.g
        have hcp2125 := HO2116.cap
        rw [ha2124]; exact hK2098 _ _ ⟨_, _, rfl, HO2116.rd⟩ HX2119.g
      · -- operation 46
        rintro a2127 w2126 b2129 KK2135 hs2131 hd2132 hJ2133 hb2134 hr2145 hK2130
        have hr2145x : RD SL_ a2127 a1264 w2126 [(81, some 45), (76, some 40)] := hr2145 _ (by kernel_rfl)
        obtain ⟨⟨v2137, q2136, s2138⟩, ⟨v2143, q2142, s2144⟩, -⟩ := hr2145x
        obtain ⟨A2139, c2140, rfl, HR2141⟩ := s2138
        obtain rfl : v2143 = .bool false := s2144
        obtain ⟨HE, HE1271⟩ := hJ2133
        have hF2128 : Fr 113 a2127 [(81, .slice A2139 ((dig 256 ((nv 256 xs) * (nv 256 ys))).length) c2140), (76, .bool false)] := Fr.of hs2131 hd2132 ⟨q2136, q2142, trivial⟩
        refine One.bare hF2128 (by kernel_rfl) (s_str hT (d := 82) (A := A2139) (m := (dig 256 ((nv 256 xs) * (nv 256 ys))).length) (xs := (dig 256 ((nv 256 xs) * (nv 256 ys)))) (by kernel_rfl) hF2128 HR2141 (by (first | (simp only [vs_length, vi_length]; omega) | (simp; omega) | omega)) ?_)
        rintro a2146 ha2148 hF2147
        rw [ha2148]; exact hK2130 _ _ rfl (grown_refl _ _)
      · -- operation 47
        rintro a2150 w2149 b2152 KK2158 hs2154 hd2155 hJ2156 hb2157 hr2168 hK2153
        have hr2168x : RD SL_ a2150 a1264 w2149 [(78, some 42), (82, some 46), (76, some 40)] := hr2168 _ (by kernel_rfl)
        obtain ⟨⟨v2160, q2159, s2161⟩, ⟨v2163, q2162, s2164⟩, ⟨v2166, q2165, s2167⟩, -⟩ := hr2168x
        obtain rfl : v2160 = .string (str (dig 256 ((nv 256 xs) * (nv 256 ys)))) := s2161
        obtain rfl : v2163 = .string (str (dig 256 ((nv 256 xs) * (nv 256 ys)))) := s2164
        obtain rfl : v2166 = .bool false := s2167
        obtain ⟨HE, HE1271⟩ := hJ2156
        have hF2151 : Fr 113 a2150 [(78, .string (str (dig 256 ((nv 256 xs) * (nv 256 ys))))), (82, .string (str (dig 256 ((nv 256 xs) * (nv 256 ys))))), (76, .bool false)] := Fr.of hs2154 hd2155 ⟨q2159, q2162, q2165, trivial⟩
        refine One.bare hF2151 (by kernel_rfl) (s_pure hT (d := 83) (v := .bool (!(ByteArray.toList (str (dig 256 ((nv 256 xs) * (nv 256 ys)))) == ByteArray.toList (str (dig 256 ((nv 256 xs) * (nv 256 ys))))))) (cs := []) (by kernel_rfl) (by kernel_rfl) trivial hF2151 ?_)
        have htr : (!(ByteArray.toList (str (dig 256 ((nv 256 xs) * (nv 256 ys)))) == ByteArray.toList (str (dig 256 ((nv 256 xs) * (nv 256 ys)))))) = false := (congrArg Bool.not (str_eqT rfl))
        rintro a2 ha2 hF2; rw [ha2]; exact hK2153 _ _ (congrArg Value.bool htr) (grown_refl _ _)
      · -- operation 48
        rintro a2170 w2169 b2172 KK2178 hs2174 hd2175 hJ2176 hb2177 hr2185 hK2173
        have hr2185x : RD SL_ a2170 a1264 w2169 [(76, some 40), (83, some 47)] := hr2185 _ (by kernel_rfl)
        obtain ⟨⟨v2180, q2179, s2181⟩, ⟨v2183, q2182, s2184⟩, -⟩ := hr2185x
        obtain rfl : v2180 = .bool false := s2181
        obtain rfl : v2183 = .bool false := s2184
        obtain ⟨HE, HE1271⟩ := hJ2176
        have hF2171 : Fr 113 a2170 [(76, .bool false), (83, .bool false)] := Fr.of hs2174 hd2175 ⟨q2179, q2182, trivial⟩
        refine s_pure hT (d := 84) (v := .bool false) (cs := []) (by kernel_rfl) (by kernel_rfl) trivial hF2171 ?_
        rintro a2 ha2 hF2; rw [ha2]; exact hK2173 _ _ rfl (grown_refl _ _)
      · -- behind the region
        rintro a2187 w2188 hs2189 hd2190 ⟨⟨v2192, q2193, s2194⟩, q2195, q2196, q2197, q2198, q2199, q2200, q2201, q2202, q2203, q2204, q2205, -⟩ ⟨HE, HE1271⟩
        obtain rfl : v2192 = .bool false := s2194
        have hF2206 : Fr 113 a2187 [(84, .bool false), (11, .int .i64 0), (10, .slice A1248 ((dig 256 ((nv 256 xs) % (nv 256 ys))).length) c1249), (9, .slice A1226 ((dig 256 ((nv 256 xs) * (nv 256 ys))).length) c1227), (8, .slice A1205 ((dig 256 ((nv 256 xs) - (nv 256 ys))).length) c1206), (7, .slice A1185 ((dig 256 ((nv 256 xs) + (nv 256 ys))).length) c1186), (6, .slice A1166 ((dig 256 (nv 256 xs)).length) c1167), (5, .slice A1153 xs.length c1154), (15, .bool (!(decide ((xs.length ≤ 120 ∧ ys.length ≤ 120))))), (4, .bool false), (0, .slice Ax xs.length cx), (1, .slice Ay ys.length cy)] := Fr.of hs2189 hd2190 ⟨q2193, (Fr.init hF1266 q2195 (by kernel_rfl)), (Fr.init hF1266 q2196 (by kernel_rfl)), (Fr.init hF1266 q2197 (by kernel_rfl)), (Fr.init hF1266 q2198 (by kernel_rfl)), (Fr.init hF1266 q2199 (by kernel_rfl)), (Fr.init hF1266 q2200 (by kernel_rfl)), (Fr.init hF1266 q2201 (by kernel_rfl)), (Fr.init hF1266 q2202 (by kernel_rfl)), (Fr.init hF1266 q2203 (by kernel_rfl)), (Fr.init hF1266 q2204 (by kernel_rfl)), (Fr.init hF1266 q2205 (by kernel_rfl)), trivial⟩
        clear hF1266 hs2189 hd2190 q2193 q2195 q2196 q2197 q2198 q2199 q2200 q2201 q2202 q2203 q2204 q2205
        refine hK1270 _ _ ?_
        refine condF hF2206 (by kernel_rfl) ?_
        refine wp_skip ?_
        refine hK1268 _ _ ?_
        refine wp_seq_k (fun K2207 hK2208 => ?_)
        refine wp_seq_k (fun K2209 hK2210 => ?_)
        refine wp_region_lit ?_
        refine pures hT 1 _ hF2206 (F' := [(85, .slice Ay ys.length cy), (84, .bool false), (11, .int .i64 0), (10, .slice A1248 ((dig 256 ((nv 256 xs) % (nv 256 ys))).length) c1249), (9, .slice A1226 ((dig 256 ((nv 256 xs) * (nv 256 ys))).length) c1227), (8, .slice A1205 ((dig 256 ((nv 256 xs) - (nv 256 ys))).length) c1206), (7, .slice A1185 ((dig 256 ((nv 256 xs) + (nv 256 ys))).length) c1186), (6, .slice A1166 ((dig 256 (nv 256 xs)).length) c1167), (5, .slice A1153 xs.length c1154), (15, .bool (!(decide ((xs.length ≤ 120 ∧ ys.length ≤ 120))))), (4, .bool false), (0, .slice Ax xs.length cx), (1, .slice Ay ys.length cy)]) (cs := []) (by kernel_rfl) trivial ?_
        intro a2211 hF2212; clear hF2206 a2187
        have hz2219 := HE.size
        have hz2220 := HE1271.size
        refine wl (s_call (d := 86) (f := 21) (l := [.slice Ay ys.length cy]) (by kernel_rfl) hF2212 cl21 (ref15_Norm Ay ys.length cy ys (nv 256 ys) _ rfl (by first | omega | assumption | (simp; done) | (simp; omega) | decide) (hys.ex HE) (by first | assumption | exact by_dig _ | exact by_one (Nat.mod_lt _ (by decide)) | omega | simp | decide) (by first | omega | assumption | (simp; done) | (simp; omega) | decide) (by first | omega | assumption | (simp; done) | (simp; omega) | decide)) ?_)
        rintro a2221 w2216 v2217 ⟨A2213, c2214, rfl, HX2218, HO2215⟩ ha2223 hF2222; clear ha2223 hF2212 a2211
        replace HE := HE.thenN HX2218.g
        replace HE1271 := HE1271.thenN HX2218.g
        have hcp2224 := HO2215.cap
        refine pures_end hT 2 _ hF2222 (F' := [(88, .bool ((decide ((((dig 256 (nv 256 ys)).length : Nat) : Int) = 0)))), (87, .int .i64 (((dig 256 (nv 256 ys)).length : Nat) : Int)), (86, .slice A2213 ((dig 256 (nv 256 ys)).length) c2214), (85, .slice Ay ys.length cy), (84, .bool false), (11, .int .i64 0), (10, .slice A1248 ((dig 256 ((nv 256 xs) % (nv 256 ys))).length) c1249), (9, .slice A1226 ((dig 256 ((nv 256 xs) * (nv 256 ys))).length) c1227), (8, .slice A1205 ((dig 256 ((nv 256 xs) - (nv 256 ys))).length) c1206), (7, .slice A1185 ((dig 256 ((nv 256 xs) + (nv 256 ys))).length) c1186), (6, .slice A1166 ((dig 256 (nv 256 xs)).length) c1167), (5, .slice A1153 xs.length c1154), (15, .bool (!(decide ((xs.length ≤ 120 ∧ ys.length ≤ 120))))), (4, .bool false), (0, .slice Ax xs.length cx), (1, .slice Ay ys.length cy)]) (cs := []) (by kernel_rfl) rfl trivial ?_
        intro a2225 hF2226; clear hF2222 a2221
        have hF2227 : Fr 113 a2225 [(88, .bool false), (87, .int .i64 (((dig 256 (nv 256 ys)).length : Nat) : Int)), (86, .slice A2213 ((dig 256 (nv 256 ys)).length) c2214), (85, .slice Ay ys.length cy), (84, .bool false), (11, .int .i64 0), (10, .slice A1248 ((dig 256 ((nv 256 xs) % (nv 256 ys))).length) c1249), (9, .slice A1226 ((dig 256 ((nv 256 xs) * (nv 256 ys))).length) c1227), (8, .slice A1205 ((dig 256 ((nv 256 xs) - (nv 256 ys))).length) c1206), (7, .slice A1185 ((dig 256 ((nv 256 xs) + (nv 256 ys))).length) c1186), (6, .slice A1166 ((dig 256 (nv 256 xs)).length) c1167), (5, .slice A1153 xs.length c1154), (15, .bool (!(decide ((xs.length ≤ 120 ∧ ys.length ≤ 120))))), (4, .bool false), (0, .slice Ax xs.length cx), (1, .slice Ay ys.length cy)] := by rw [show ((decide ((((dig 256 (nv 256 ys)).length : Nat) : Int) = 0))) = false from (decide_eq_false (fun q => absurd (len0' (nv 256 ys) (by omega)) (by omega)))] at hF2226; exact hF2226
        clear hF2226
        have hF2228 := hF2227.pick [88, 84, 11, 10, 9, 8, 7, 6, 5, 15, 4, 0, 1] (G := [(88, .bool false), (84, .bool false), (11, .int .i64 0), (10, .slice A1248 ((dig 256 ((nv 256 xs) % (nv 256 ys))).length) c1249), (9, .slice A1226 ((dig 256 ((nv 256 xs) * (nv 256 ys))).length) c1227), (8, .slice A1205 ((dig 256 ((nv 256 xs) - (nv 256 ys))).length) c1206), (7, .slice A1185 ((dig 256 ((nv 256 xs) + (nv 256 ys))).length) c1186), (6, .slice A1166 ((dig 256 (nv 256 xs)).length) c1167), (5, .slice A1153 xs.length c1154), (15, .bool (!(decide ((xs.length ≤ 120 ∧ ys.length ≤ 120))))), (4, .bool false), (0, .slice Ax xs.length cx), (1, .slice Ay ys.length cy)]) (by kernel_rfl); clear hF2227
        refine hK2210 _ _ ?_
        refine condF hF2228 (by kernel_rfl) ?_
        refine wp_skip ?_
        refine hK2208 _ _ ?_
        refine wp_seq_k (fun K2229 hK2230 => ?_)
        have HE2231 : Ex w2216 w2216 := Ex.refl _
        have HR2232 := HO2215.rd
        have HR2232b := HO2215.base
        clear HO2215
        let SL_ : List SP := [SP.val (.bool true), SP.val (.bool true), SP.val (.int .i64 0), SP.val (.bool true), SP.val (.bool true), SP.val (.bool true), SP.val (.slice A1248 ((dig 256 ((nv 256 xs) % (nv 256 ys))).length) c1249), SP.val (.string (str (dig 256 ((nv 256 xs) % (nv 256 ys))))), SP.val (.slice Ax xs.length cx), SP.val (.slice Ay ys.length cy), SP.mk' (fun v W => ∃ A c, v = .slice A ((dig 256 ((nv 256 xs) % (nv 256 ys))).length) c ∧ Rd W A (vs .u8 (dig 256 ((nv 256 xs) % (nv 256 ys))))) (fun v w w' h g => by obtain ⟨A, c, e, h⟩ := h; exact ⟨A, c, e, h.grow g (by simp)⟩), SP.val (.string (str (dig 256 ((nv 256 xs) % (nv 256 ys))))), SP.val (.bool true), SP.val (.bool true), SP.val (.bool true)]
        refine region_rel (SL := SL_) (J := (fun (b : Bool) (W : World) => (Ex w W) ∧ (Ex w1251 W) ∧ (Ex w2216 W))) (m := 15) (bm := none) wide (by kernel_rfl) (by kernel_rfl) hF2228 rfl ?_ ?_ ⟨HE, HE1271, HE2231⟩ ⟨?_, ?_, ?_, ?_, ?_, ?_, ?_, ?_, ?_, ?_, ?_, ?_, ?_, ?_, ?_, trivial⟩ [(4, some 14), (88, none), (84, none), (11, none), (10, none), (9, none), (8, none), (7, none), (6, none), (5, none), (15, none), (0, none), (1, none)] (by kernel_rfl) ?_
        · exact fun h => absurd h (by decide)
        · intro b W W' hj g; cases b <;> exact ⟨hj.1.thenN g, hj.2.1.thenN g, hj.2.2.thenN g⟩
        · -- operation 0
          rintro a2234 w2233 b2236 KK2242 hs2238 hd2239 hJ2240 hb2241 hr2243 hK2237
          have hr2243x : RD SL_ a2234 a2225 w2233 [] := hr2243 _ (by kernel_rfl)
          obtain ⟨HE, HE1271, HE2231⟩ := hJ2240
          have hF2235 : Fr 113 a2234 [] := Fr.of hs2238 hd2239 trivial
          have hz2247 := HE.size
          have hz2248 := HE1271.size
          have hz2249 := HE2231.size
          refine s_call (d := 99) (f := 14) (l := []) (by kernel_rfl) hF2235 cl14 (law15_awake _) ?_
          rintro a2250 w2244 v2245 ⟨rfl, HX2246⟩ ha2252 hF2251
          replace HE := HE.thenN HX2246.g
          replace HE1271 := HE1271.thenN HX2246.g
          replace HE2231 := HE2231.thenN HX2246.g
          rw [ha2252]; exact hK2237 _ _ rfl HX2246.g
        · -- operation 1
          rintro a2254 w2253 b2256 KK2262 hs2258 hd2259 hJ2260 hb2261 hr2266 hK2257
          have hr2266x : RD SL_ a2254 a2225 w2253 [(99, some 0)] := hr2266 _ (by kernel_rfl)
          obtain ⟨⟨v2264, q2263, s2265⟩, -⟩ := hr2266x
          obtain rfl : v2264 = .bool true := s2265
          obtain ⟨HE, HE1271, HE2231⟩ := hJ2260
          have hF2255 : Fr 113 a2254 [(99, .bool true)] := Fr.of hs2258 hd2259 ⟨q2263, trivial⟩
          refine s_pure hT (d := 100) (v := .bool true) (cs := []) (by kernel_rfl) (by kernel_rfl) trivial hF2255 ?_
          rintro a2 ha2 hF2; rw [ha2]; exact hK2257 _ _ rfl (grown_refl _ _)
        · -- operation 2
          rintro a2268 w2267 b2270 KK2276 hs2272 hd2273 hJ2274 hb2275 hr2281 hK2271
          have hr2281x : RD SL_ a2268 a2225 w2267 [(11, none), (100, some 1)] := hr2281 _ (by kernel_rfl)
          obtain ⟨q2277, ⟨v2279, q2278, s2280⟩, -⟩ := hr2281x
          obtain rfl : v2279 = .bool true := s2280
          obtain ⟨HE, HE1271, HE2231⟩ := hJ2274
          have hF2269 : Fr 113 a2268 [(11, .int .i64 0), (100, .bool true)] := Fr.of hs2272 hd2273 ⟨(Fr.init hF2228 q2277 (by kernel_rfl)), q2278, trivial⟩
          refine One.bare hF2269 (by kernel_rfl) (s_pure hT (d := 101) (v := .int .i64 0) (cs := []) (by kernel_rfl) (by kernel_rfl) trivial hF2269 ?_)
          rintro a2 ha2 hF2; rw [ha2]; exact hK2271 _ _ rfl (grown_refl _ _)
        · -- operation 3
          rintro a2283 w2282 b2285 KK2291 hs2287 hd2288 hJ2289 hb2290 hr2298 hK2286
          have hr2298x : RD SL_ a2283 a2225 w2282 [(101, some 2), (100, some 1)] := hr2298 _ (by kernel_rfl)
          obtain ⟨⟨v2293, q2292, s2294⟩, ⟨v2296, q2295, s2297⟩, -⟩ := hr2298x
          obtain rfl : v2293 = .int .i64 0 := s2294
          obtain rfl : v2296 = .bool true := s2297
          obtain ⟨HE, HE1271, HE2231⟩ := hJ2289
          have hF2284 : Fr 113 a2283 [(101, .int .i64 0), (100, .bool true)] := Fr.of hs2287 hd2288 ⟨q2292, q2295, trivial⟩
          refine One.bare hF2284 (by kernel_rfl) (s_pure hT (d := 102) (v := .bool true) (cs := []) (by kernel_rfl) (by kernel_rfl) trivial hF2284 ?_)
          rintro a2 ha2 hF2; rw [ha2]; exact hK2286 _ _ rfl (grown_refl _ _)
        · -- operation 4
          rintro a2300 w2299 b2302 KK2308 hs2304 hd2305 hJ2306 hb2307 hr2315 hK2303
          have hr2315x : RD SL_ a2300 a2225 w2299 [(100, some 1), (102, some 3)] := hr2315 _ (by kernel_rfl)
          obtain ⟨⟨v2310, q2309, s2311⟩, ⟨v2313, q2312, s2314⟩, -⟩ := hr2315x
          obtain rfl : v2310 = .bool true := s2311
          obtain rfl : v2313 = .bool true := s2314
          obtain ⟨HE, HE1271, HE2231⟩ := hJ2306
          have hF2301 : Fr 113 a2300 [(100, .bool true), (102, .bool true)] := Fr.of hs2304 hd2305 ⟨q2309, q2312, trivial⟩
          refine s_pure hT (d := 103) (v := .bool true) (cs := []) (by kernel_rfl) (by kernel_rfl) trivial hF2301 ?_
          rintro a2 ha2 hF2; rw [ha2]; exact hK2303 _ _ rfl (grown_refl _ _)
        · -- operation 5
          rintro a2317 w2316 b2319 KK2325 hs2321 hd2322 hJ2323 hb2324 hr2329 hK2320
          have hr2329x : RD SL_ a2317 a2225 w2316 [(103, some 4)] := hr2329 _ (by kernel_rfl)
          obtain ⟨⟨v2327, q2326, s2328⟩, -⟩ := hr2329x
          obtain rfl : v2327 = .bool true := s2328
          obtain ⟨HE, HE1271, HE2231⟩ := hJ2323
          have hF2318 : Fr 113 a2317 [(103, .bool true)] := Fr.of hs2321 hd2322 ⟨q2326, trivial⟩
          refine s_pure hT (d := 104) (v := .bool true) (cs := []) (by kernel_rfl) (by kernel_rfl) trivial hF2318 ?_
          rintro a2 ha2 hF2; rw [ha2]; exact hK2320 _ _ rfl (grown_refl _ _)
        · -- operation 6
          rintro a2331 w2330 b2333 KK2339 hs2335 hd2336 hJ2337 hb2338 hr2344 hK2334
          have hr2344x : RD SL_ a2331 a2225 w2330 [(10, none), (104, some 5)] := hr2344 _ (by kernel_rfl)
          obtain ⟨q2340, ⟨v2342, q2341, s2343⟩, -⟩ := hr2344x
          obtain rfl : v2342 = .bool true := s2343
          obtain ⟨HE, HE1271, HE2231⟩ := hJ2337
          have hF2332 : Fr 113 a2331 [(10, .slice A1248 ((dig 256 ((nv 256 xs) % (nv 256 ys))).length) c1249), (104, .bool true)] := Fr.of hs2335 hd2336 ⟨(Fr.init hF2228 q2340 (by kernel_rfl)), q2341, trivial⟩
          refine One.bare hF2332 (by kernel_rfl) (s_pure hT (d := 105) (v := .slice A1248 ((dig 256 ((nv 256 xs) % (nv 256 ys))).length) c1249) (cs := []) (by kernel_rfl) (by kernel_rfl) trivial hF2332 ?_)
          rintro a2 ha2 hF2; rw [ha2]; exact hK2334 _ _ rfl (grown_refl _ _)
        · -- operation 7
          rintro a2346 w2345 b2348 KK2354 hs2350 hd2351 hJ2352 hb2353 hr2361 hK2349
          have hr2361x : RD SL_ a2346 a2225 w2345 [(105, some 6), (104, some 5)] := hr2361 _ (by kernel_rfl)
          obtain ⟨⟨v2356, q2355, s2357⟩, ⟨v2359, q2358, s2360⟩, -⟩ := hr2361x
          obtain rfl : v2356 = .slice A1248 ((dig 256 ((nv 256 xs) % (nv 256 ys))).length) c1249 := s2357
          obtain rfl : v2359 = .bool true := s2360
          obtain ⟨HE, HE1271, HE2231⟩ := hJ2352
          have hF2347 : Fr 113 a2346 [(105, .slice A1248 ((dig 256 ((nv 256 xs) % (nv 256 ys))).length) c1249), (104, .bool true)] := Fr.of hs2350 hd2351 ⟨q2355, q2358, trivial⟩
          refine One.bare hF2347 (by kernel_rfl) (s_str hT (d := 106) (A := A1248) (m := (dig 256 ((nv 256 xs) % (nv 256 ys))).length) (xs := (dig 256 ((nv 256 xs) % (nv 256 ys)))) (by kernel_rfl) hF2347 (HR1277.ex HE1271) (by (first | (simp only [vs_length, vi_length]; omega) | (simp; omega) | omega)) ?_)
          rintro a2362 ha2364 hF2363
          rw [ha2364]; exact hK2349 _ _ rfl (grown_refl _ _)
        · -- operation 8
          rintro a2366 w2365 b2368 KK2374 hs2370 hd2371 hJ2372 hb2373 hr2379 hK2369
          have hr2379x : RD SL_ a2366 a2225 w2365 [(0, none), (104, some 5)] := hr2379 _ (by kernel_rfl)
          obtain ⟨q2375, ⟨v2377, q2376, s2378⟩, -⟩ := hr2379x
          obtain rfl : v2377 = .bool true := s2378
          obtain ⟨HE, HE1271, HE2231⟩ := hJ2372
          have hF2367 : Fr 113 a2366 [(0, .slice Ax xs.length cx), (104, .bool true)] := Fr.of hs2370 hd2371 ⟨(Fr.init hF2228 q2375 (by kernel_rfl)), q2376, trivial⟩
          refine One.bare hF2367 (by kernel_rfl) (s_pure hT (d := 107) (v := .slice Ax xs.length cx) (cs := []) (by kernel_rfl) (by kernel_rfl) trivial hF2367 ?_)
          rintro a2 ha2 hF2; rw [ha2]; exact hK2369 _ _ rfl (grown_refl _ _)
        · -- operation 9
          rintro a2381 w2380 b2383 KK2389 hs2385 hd2386 hJ2387 hb2388 hr2394 hK2384
          have hr2394x : RD SL_ a2381 a2225 w2380 [(1, none), (104, some 5)] := hr2394 _ (by kernel_rfl)
          obtain ⟨q2390, ⟨v2392, q2391, s2393⟩, -⟩ := hr2394x
          obtain rfl : v2392 = .bool true := s2393
          obtain ⟨HE, HE1271, HE2231⟩ := hJ2387
          have hF2382 : Fr 113 a2381 [(1, .slice Ay ys.length cy), (104, .bool true)] := Fr.of hs2385 hd2386 ⟨(Fr.init hF2228 q2390 (by kernel_rfl)), q2391, trivial⟩
          refine One.bare hF2382 (by kernel_rfl) (s_pure hT (d := 108) (v := .slice Ay ys.length cy) (cs := []) (by kernel_rfl) (by kernel_rfl) trivial hF2382 ?_)
          rintro a2 ha2 hF2; rw [ha2]; exact hK2384 _ _ rfl (grown_refl _ _)
        · -- operation 10
          rintro a2396 w2395 b2398 KK2404 hs2400 hd2401 hJ2402 hb2403 hr2414 hK2399
          have hr2414x : RD SL_ a2396 a2225 w2395 [(107, some 8), (108, some 9), (104, some 5)] := hr2414 _ (by kernel_rfl)
          obtain ⟨⟨v2406, q2405, s2407⟩, ⟨v2409, q2408, s2410⟩, ⟨v2412, q2411, s2413⟩, -⟩ := hr2414x
          obtain rfl : v2406 = .slice Ax xs.length cx := s2407
          obtain rfl : v2409 = .slice Ay ys.length cy := s2410
          obtain rfl : v2412 = .bool true := s2413
          obtain ⟨HE, HE1271, HE2231⟩ := hJ2402
          have hF2397 : Fr 113 a2396 [(107, .slice Ax xs.length cx), (108, .slice Ay ys.length cy), (104, .bool true)] := Fr.of hs2400 hd2401 ⟨q2405, q2408, q2411, trivial⟩
          have hz2421 := HE.size
          have hz2422 := HE1271.size
          have hz2423 := HE2231.size
          refine One.bare hF2397 (by kernel_rfl) (s_call (d := 109) (f := 25) (l := [.slice Ax xs.length cx, .slice Ay ys.length cy]) (by kernel_rfl) hF2397 cl25 (ref15_Mod Ax xs.length cx xs (nv 256 xs) Ay ys.length cy ys (nv 256 ys) _ rfl rfl (by first | omega | assumption | (simp; done) | (simp; omega) | decide) (by first | omega | assumption | (simp; done) | (simp; omega) | decide) (hxs.ex HE) (hys.ex HE) (by first | assumption | exact by_dig _ | exact by_one (Nat.mod_lt _ (by decide)) | omega | simp | decide) (by first | assumption | exact by_dig _ | exact by_one (Nat.mod_lt _ (by decide)) | omega | simp | decide) (by first | omega | assumption | (simp; done) | (simp; omega) | decide) (by first | omega | assumption | (simp; done) | (simp; omega) | decide) hmod) ?_)
          rintro a2424 w2418 v2419 ⟨A2415, c2416, rfl, HX2420, HO2417⟩ ha2426 hF2425
          replace HE := HE.thenN HX2420.g
          replace HE1271 := HE1271.thenN HX2420.g
          replace HE2231 := HE2231.thenN HX2420.g
          have hcp2427 := HO2417.cap
          rw [ha2426]; exact hK2399 _ _ ⟨_, _, rfl, HO2417.rd⟩ HX2420.g
        · -- operation 11
          rintro a2429 w2428 b2431 KK2437 hs2433 hd2434 hJ2435 hb2436 hr2447 hK2432
          have hr2447x : RD SL_ a2429 a2225 w2428 [(109, some 10), (104, some 5)] := hr2447 _ (by kernel_rfl)
          obtain ⟨⟨v2439, q2438, s2440⟩, ⟨v2445, q2444, s2446⟩, -⟩ := hr2447x
          obtain ⟨A2441, c2442, rfl, HR2443⟩ := s2440
          obtain rfl : v2445 = .bool true := s2446
          obtain ⟨HE, HE1271, HE2231⟩ := hJ2435
          have hF2430 : Fr 113 a2429 [(109, .slice A2441 ((dig 256 ((nv 256 xs) % (nv 256 ys))).length) c2442), (104, .bool true)] := Fr.of hs2433 hd2434 ⟨q2438, q2444, trivial⟩
          refine One.bare hF2430 (by kernel_rfl) (s_str hT (d := 110) (A := A2441) (m := (dig 256 ((nv 256 xs) % (nv 256 ys))).length) (xs := (dig 256 ((nv 256 xs) % (nv 256 ys)))) (by kernel_rfl) hF2430 HR2443 (by (first | (simp only [vs_length, vi_length]; omega) | (simp; omega) | omega)) ?_)
          rintro a2448 ha2450 hF2449
          rw [ha2450]; exact hK2432 _ _ rfl (grown_refl _ _)
        · -- operation 12
          rintro a2452 w2451 b2454 KK2460 hs2456 hd2457 hJ2458 hb2459 hr2470 hK2455
          have hr2470x : RD SL_ a2452 a2225 w2451 [(106, some 7), (110, some 11), (104, some 5)] := hr2470 _ (by kernel_rfl)
          obtain ⟨⟨v2462, q2461, s2463⟩, ⟨v2465, q2464, s2466⟩, ⟨v2468, q2467, s2469⟩, -⟩ := hr2470x
          obtain rfl : v2462 = .string (str (dig 256 ((nv 256 xs) % (nv 256 ys)))) := s2463
          obtain rfl : v2465 = .string (str (dig 256 ((nv 256 xs) % (nv 256 ys)))) := s2466
          obtain rfl : v2468 = .bool true := s2469
          obtain ⟨HE, HE1271, HE2231⟩ := hJ2458
          have hF2453 : Fr 113 a2452 [(106, .string (str (dig 256 ((nv 256 xs) % (nv 256 ys))))), (110, .string (str (dig 256 ((nv 256 xs) % (nv 256 ys))))), (104, .bool true)] := Fr.of hs2456 hd2457 ⟨q2461, q2464, q2467, trivial⟩
          refine One.bare hF2453 (by kernel_rfl) (s_pure hT (d := 111) (v := .bool ((ByteArray.toList (str (dig 256 ((nv 256 xs) % (nv 256 ys)))) == ByteArray.toList (str (dig 256 ((nv 256 xs) % (nv 256 ys))))))) (cs := []) (by kernel_rfl) (by kernel_rfl) trivial hF2453 ?_)
          have htr : ((ByteArray.toList (str (dig 256 ((nv 256 xs) % (nv 256 ys)))) == ByteArray.toList (str (dig 256 ((nv 256 xs) % (nv 256 ys)))))) = true := (str_eqT rfl)
          rintro a2 ha2 hF2; rw [ha2]; exact hK2455 _ _ (congrArg Value.bool htr) (grown_refl _ _)
        · -- operation 13
          rintro a2472 w2471 b2474 KK2480 hs2476 hd2477 hJ2478 hb2479 hr2487 hK2475
          have hr2487x : RD SL_ a2472 a2225 w2471 [(104, some 5), (111, some 12)] := hr2487 _ (by kernel_rfl)
          obtain ⟨⟨v2482, q2481, s2483⟩, ⟨v2485, q2484, s2486⟩, -⟩ := hr2487x
          obtain rfl : v2482 = .bool true := s2483
          obtain rfl : v2485 = .bool true := s2486
          obtain ⟨HE, HE1271, HE2231⟩ := hJ2478
          have hF2473 : Fr 113 a2472 [(104, .bool true), (111, .bool true)] := Fr.of hs2476 hd2477 ⟨q2481, q2484, trivial⟩
          refine s_pure hT (d := 112) (v := .bool true) (cs := []) (by kernel_rfl) (by kernel_rfl) trivial hF2473 ?_
          rintro a2 ha2 hF2; rw [ha2]; exact hK2475 _ _ rfl (grown_refl _ _)
        · -- operation 14
          rintro a2489 w2488 b2491 KK2497 hs2493 hd2494 hJ2495 hb2496 hr2501 hK2492
          have hr2501x : RD SL_ a2489 a2225 w2488 [(112, some 13)] := hr2501 _ (by kernel_rfl)
          obtain ⟨⟨v2499, q2498, s2500⟩, -⟩ := hr2501x
          obtain rfl : v2499 = .bool true := s2500
          obtain ⟨HE, HE1271, HE2231⟩ := hJ2495
          have hF2490 : Fr 113 a2489 [(112, .bool true)] := Fr.of hs2493 hd2494 ⟨q2498, trivial⟩
          refine s_pure hT (d := 4) (v := .bool true) (cs := []) (by kernel_rfl) (by kernel_rfl) trivial hF2490 ?_
          rintro a2 ha2 hF2; rw [ha2]; exact hK2492 _ _ rfl (grown_refl _ _)
        · -- behind the region
          rintro a2503 w2504 hs2505 hd2506 ⟨⟨v2508, q2509, s2510⟩, q2511, q2512, q2513, q2514, q2515, q2516, q2517, q2518, q2519, q2520, q2521, q2522, -⟩ ⟨HE, HE1271, HE2231⟩
          obtain rfl : v2508 = .bool true := s2510
          have hF2523 : Fr 113 a2503 [(4, .bool true), (88, .bool false), (84, .bool false), (11, .int .i64 0), (10, .slice A1248 ((dig 256 ((nv 256 xs) % (nv 256 ys))).length) c1249), (9, .slice A1226 ((dig 256 ((nv 256 xs) * (nv 256 ys))).length) c1227), (8, .slice A1205 ((dig 256 ((nv 256 xs) - (nv 256 ys))).length) c1206), (7, .slice A1185 ((dig 256 ((nv 256 xs) + (nv 256 ys))).length) c1186), (6, .slice A1166 ((dig 256 (nv 256 xs)).length) c1167), (5, .slice A1153 xs.length c1154), (15, .bool (!(decide ((xs.length ≤ 120 ∧ ys.length ≤ 120))))), (0, .slice Ax xs.length cx), (1, .slice Ay ys.length cy)] := Fr.of hs2505 hd2506 ⟨q2509, (Fr.init hF2228 q2511 (by kernel_rfl)), (Fr.init hF2228 q2512 (by kernel_rfl)), (Fr.init hF2228 q2513 (by kernel_rfl)), (Fr.init hF2228 q2514 (by kernel_rfl)), (Fr.init hF2228 q2515 (by kernel_rfl)), (Fr.init hF2228 q2516 (by kernel_rfl)), (Fr.init hF2228 q2517 (by kernel_rfl)), (Fr.init hF2228 q2518 (by kernel_rfl)), (Fr.init hF2228 q2519 (by kernel_rfl)), (Fr.init hF2228 q2520 (by kernel_rfl)), (Fr.init hF2228 q2521 (by kernel_rfl)), (Fr.init hF2228 q2522 (by kernel_rfl)), trivial⟩
          clear hF2228 hs2505 hd2506 q2509 q2511 q2512 q2513 q2514 q2515 q2516 q2517 q2518 q2519 q2520 q2521 q2522
          refine hK2230 _ _ ?_
          refine wp_ret ?_
          refine ret1 hF2523 rfl (v := .bool true) (by kernel_rfl) ?_
          exact ⟨rfl, HE⟩

end Go.Proofs.Ytdabkjflpbbpeaa
