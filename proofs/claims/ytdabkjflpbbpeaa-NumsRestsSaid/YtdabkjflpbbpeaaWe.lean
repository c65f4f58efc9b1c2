/- Walks of functions of the program: lemmas. -/
import Derived.Test.YtdabkjflpbbpeaaLb
import Derived.Test.YtdabkjflpbbpeaaWd
set_option maxRecDepth 100000
set_option linter.unusedVariables false
set_option linter.unusedSimpArgs false
namespace Go.Proofs.Ytdabkjflpbbpeaa
open Go.Proofs Go.RowKit

set_option maxHeartbeats 4000000 in
theorem law15_divides (Ax : Option Addr) (cx : Nat) (xs : List Nat) (Am : Option Addr) (cm : Nat) (ms : List Nat) (w : World) (hxs : Rd w Ax (vs .u8 xs)) (hbxs : By xs) (hmxs : xs.length ≤ 9223372036854775807) (hms : Rd w Am (vs .u8 ms)) (hbms : By ms) (hmms : ms.length ≤ 9223372036854775807) :
    Calls Try.prog 3 [.slice Ax xs.length cx, .slice Am ms.length cm].toArray w (Ret fun v w' => v = .bool true ∧ Ex w w') := by
  refine enter Try.func3 rfl (n := 70) Try.ntmps3 (by simp) ?_
  intro a hF
  have HE : Ex w w := Ex.refl w
  refine wp_seq_k (fun K1 hK2 => ?_)
  refine wp_region_lit ?_
  refine pures_end hT 1 _ hF (F' := [(4, .bool false), (0, .slice Ax xs.length cx), (1, .slice Am ms.length cm)]) (cs := []) (by kernel_rfl) rfl trivial ?_
  intro a3 hF4; clear hF a
  refine hK2 _ _ ?_
  refine wp_seq_k (fun K5 hK6 => ?_)
  refine wp_seq_k (fun K7 hK8 => ?_)
  refine wp_region_lit ?_
  refine pures hT 2 _ hF4 (F' := [(12, .slice Am ms.length cm), (11, .slice Ax xs.length cx), (4, .bool false), (0, .slice Ax xs.length cx), (1, .slice Am ms.length cm)]) (cs := []) (by kernel_rfl) trivial ?_
  intro a9 hF10; clear hF4 a3
  have hz14 := HE.size
  refine wl (s_call (d := 13) (f := 12) (l := [.slice Ax xs.length cx, .slice Am ms.length cm]) (by kernel_rfl) hF10 cl12 (law15_small Ax xs.length cx Am ms.length cm _ (by omega) (by omega)) ?_)
  rintro a15 w11 v12 ⟨rfl, HX13⟩ ha17 hF16; clear ha17 hF10 a9
  replace HE := HE.thenN HX13.g
  refine pures_end hT 1 _ hF16 (F' := [(14, .bool (!(decide ((xs.length ≤ 120 ∧ ms.length ≤ 120))))), (13, .bool ((decide ((xs.length ≤ 120 ∧ ms.length ≤ 120))))), (12, .slice Am ms.length cm), (11, .slice Ax xs.length cx), (4, .bool false), (0, .slice Ax xs.length cx), (1, .slice Am ms.length cm)]) (cs := []) (by kernel_rfl) rfl trivial ?_
  intro a18 hF19; clear hF16 a15
  have hF20 := hF19.pick [14, 4, 0, 1] (G := [(14, .bool (!(decide ((xs.length ≤ 120 ∧ ms.length ≤ 120))))), (4, .bool false), (0, .slice Ax xs.length cx), (1, .slice Am ms.length cm)]) (by kernel_rfl); clear hF19
  refine hK8 _ _ ?_
  refine condB hF20 (t := !(decide ((xs.length ≤ 120 ∧ ms.length ≤ 120)))) (by kernel_rfl) (fun h21 => ?_) (fun h21 => ?_)
  · -- h21
    replace h21 : ¬ ((xs.length ≤ 120 ∧ ms.length ≤ 120)) := of_decide_eq_false (Eq.mp (Bool.not_eq_true' _) h21)
    refine wp_seq_k (fun K22 hK23 => ?_)
    refine wp_region_lit ?_
    refine pures_end hT 1 _ hF20 (F' := [(4, .bool true), (14, .bool (!(decide ((xs.length ≤ 120 ∧ ms.length ≤ 120))))), (4, .bool false), (0, .slice Ax xs.length cx), (1, .slice Am ms.length cm)]) (cs := []) (by kernel_rfl) rfl trivial ?_
    intro a24 hF25; clear hF20 a18
    have hF26 := hF25.pick [4, 14, 0, 1] (G := [(4, .bool true), (14, .bool (!(decide ((xs.length ≤ 120 ∧ ms.length ≤ 120))))), (0, .slice Ax xs.length cx), (1, .slice Am ms.length cm)]) (by kernel_rfl); clear hF25
    refine hK23 _ _ ?_
    refine wp_ret ?_
    refine ret1 hF26 rfl (v := .bool true) (by kernel_rfl) ?_
    exact ⟨rfl, HE⟩
  · -- h21
    replace h21 : ((xs.length ≤ 120 ∧ ms.length ≤ 120)) := of_decide_eq_true (Eq.mp (Bool.not_eq_false' _) h21)
    refine wp_skip ?_
    refine hK6 _ _ ?_
    refine wp_seq_k (fun K27 hK28 => ?_)
    rcases Nat.eq_zero_or_pos (nv 256 ms) with hmod | hmod
    · -- side 0
      have hlxs : xs.length ≤ 120 := by omega
      have hlms : ms.length ≤ 120 := by omega
      refine wp_region_lit ?_
      refine pures hT 2 _ hF20 (F' := [(17, .slice Am ms.length cm), (16, .slice Ax xs.length cx), (14, .bool (!(decide ((xs.length ≤ 120 ∧ ms.length ≤ 120))))), (4, .bool false), (0, .slice Ax xs.length cx), (1, .slice Am ms.length cm)]) (cs := []) (by kernel_rfl) trivial ?_
      intro a29 hF30; clear hF20 a18
      have hz37 := HE.size
      refine wl (s_call (d := 18) (f := 13) (l := [.slice Ax xs.length cx, .slice Am ms.length cm]) (by kernel_rfl) hF30 cl13 (Mod0' (A := Ax) (n := xs.length) (c := cx) (x := (nv 256 xs)) (xs := xs) (A2 := Am) (n2 := ms.length) (c2 := cm) (y := (nv 256 ms)) (ys := ms) (w := _) rfl rfl hmod rfl rfl (hxs.ex HE) (hms.ex HE) hbxs hbms (Nat.le_trans hlxs (by decide)) (Nat.le_trans hlms (by decide))) ?_)
      rintro a38 w34 v35 ⟨A31, c32, rfl, HX36, HO33⟩ ha40 hF39; clear ha40 hF30 a29
      replace HE := HE.thenN HX36.g
      have hcp41 := HO33.cap
      refine pures_end hT 5 _ hF39 (F' := [(6, .int .i64 20), (5, .slice A31 0 c32), (20, .int .i64 20), (19, .slice A31 0 c32), (15, .tuple #[.slice A31 0 c32, .int .i64 20]), (18, .tuple #[.slice A31 0 c32, .int .i64 20]), (17, .slice Am ms.length cm), (16, .slice Ax xs.length cx), (14, .bool (!(decide ((xs.length ≤ 120 ∧ ms.length ≤ 120))))), (4, .bool false), (0, .slice Ax xs.length cx), (1, .slice Am ms.length cm)]) (cs := []) (by kernel_rfl) rfl trivial ?_
      intro a42 hF43; clear hF39 a38
      have hF44 := hF43.pick [6, 5, 14, 4, 0, 1] (G := [(6, .int .i64 20), (5, .slice A31 0 c32), (14, .bool (!(decide ((xs.length ≤ 120 ∧ ms.length ≤ 120))))), (4, .bool false), (0, .slice Ax xs.length cx), (1, .slice Am ms.length cm)]) (by kernel_rfl); clear hF43
      refine hK28 _ _ ?_
      refine wp_seq_k (fun K45 hK46 => ?_)
      refine wp_seq_k (fun K47 hK48 => ?_)
      refine wp_region_lit ?_
      refine pures_end hT 2 _ hF44 (F' := [(22, .bool true), (21, .int .i64 20), (6, .int .i64 20), (5, .slice A31 0 c32), (14, .bool (!(decide ((xs.length ≤ 120 ∧ ms.length ≤ 120))))), (4, .bool false), (0, .slice Ax xs.length cx), (1, .slice Am ms.length cm)]) (cs := []) (by kernel_rfl) rfl trivial ?_
      intro a49 hF50; clear hF44 a42
      have hF51 := hF50.pick [22, 6, 5, 14, 4, 0, 1] (G := [(22, .bool true), (6, .int .i64 20), (5, .slice A31 0 c32), (14, .bool (!(decide ((xs.length ≤ 120 ∧ ms.length ≤ 120))))), (4, .bool false), (0, .slice Ax xs.length cx), (1, .slice Am ms.length cm)]) (by kernel_rfl); clear hF50
      refine hK48 _ _ ?_
      refine condT hF51 (by kernel_rfl) ?_
      refine wp_seq_k (fun K52 hK53 => ?_)
      refine wp_region_lit ?_
      have hz57 := HE.size
      have hz58 := HO33.base
      refine wl (s_call (d := 23) (f := 14) (l := []) (by kernel_rfl) hF51 cl14 (law15_awake _) ?_)
      rintro a59 w54 v55 ⟨rfl, HX56⟩ ha61 hF60; clear ha61 hF51 a49
      replace HE := HE.thenN HX56.g
      replace HO33 := HO33.growN HX56.g
      refine pures_end hT 6 _ hF60 (F' := [(4, .bool true), (28, .bool true), (27, .bool true), (26, .int .i64 0), (25, .slice A31 0 c32), (24, .bool true), (23, .bool true), (22, .bool true), (6, .int .i64 20), (5, .slice A31 0 c32), (14, .bool (!(decide ((xs.length ≤ 120 ∧ ms.length ≤ 120))))), (4, .bool false), (0, .slice Ax xs.length cx), (1, .slice Am ms.length cm)]) (cs := []) (by kernel_rfl) rfl trivial ?_
      intro a62 hF63; clear hF60 a59
      have hF64 := hF63.pick [4, 22, 6, 5, 14, 0, 1] (G := [(4, .bool true), (22, .bool true), (6, .int .i64 20), (5, .slice A31 0 c32), (14, .bool (!(decide ((xs.length ≤ 120 ∧ ms.length ≤ 120))))), (0, .slice Ax xs.length cx), (1, .slice Am ms.length cm)]) (by kernel_rfl); clear hF63
      refine hK53 _ _ ?_
      refine wp_ret ?_
      refine ret1 hF64 rfl (v := .bool true) (by kernel_rfl) ?_
      exact ⟨rfl, HE⟩
    · -- side 1
      have hlxs : xs.length ≤ 120 := by omega
      have hlms : ms.length ≤ 120 := by omega
      refine wp_region_lit ?_
      refine pures hT 2 _ hF20 (F' := [(17, .slice Am ms.length cm), (16, .slice Ax xs.length cx), (14, .bool (!(decide ((xs.length ≤ 120 ∧ ms.length ≤ 120))))), (4, .bool false), (0, .slice Ax xs.length cx), (1, .slice Am ms.length cm)]) (cs := []) (by kernel_rfl) trivial ?_
      intro a65 hF66; clear hF20 a18
      have hz73 := HE.size
      refine wl (s_call (d := 18) (f := 13) (l := [.slice Ax xs.length cx, .slice Am ms.length cm]) (by kernel_rfl) hF66 cl13 (Mod1' (A := Ax) (n := xs.length) (c := cx) (x := (nv 256 xs)) (xs := xs) (A2 := Am) (n2 := ms.length) (c2 := cm) (y := (nv 256 ms)) (ys := ms) (w := _) rfl rfl hmod rfl rfl (hxs.ex HE) (hms.ex HE) hbxs hbms (Nat.le_trans hlxs (by decide)) (Nat.le_trans hlms (by decide))) ?_)
      rintro a74 w70 v71 ⟨A67, c68, rfl, HX72, HO69⟩ ha76 hF75; clear ha76 hF66 a65
      replace HE := HE.thenN HX72.g
      have hcp77 := HO69.cap
      refine pures_end hT 5 _ hF75 (F' := [(6, .int .i64 0), (5, .slice A67 ((dig 256 ((nv 256 xs) % (nv 256 ms))).length) c68), (20, .int .i64 0), (19, .slice A67 ((dig 256 ((nv 256 xs) % (nv 256 ms))).length) c68), (15, .tuple #[.slice A67 ((dig 256 ((nv 256 xs) % (nv 256 ms))).length) c68, .int .i64 0]), (18, .tuple #[.slice A67 ((dig 256 ((nv 256 xs) % (nv 256 ms))).length) c68, .int .i64 0]), (17, .slice Am ms.length cm), (16, .slice Ax xs.length cx), (14, .bool (!(decide ((xs.length ≤ 120 ∧ ms.length ≤ 120))))), (4, .bool false), (0, .slice Ax xs.length cx), (1, .slice Am ms.length cm)]) (cs := []) (by kernel_rfl) rfl trivial ?_
      intro a78 hF79; clear hF75 a74
      have hF80 := hF79.pick [6, 5, 14, 4, 0, 1] (G := [(6, .int .i64 0), (5, .slice A67 ((dig 256 ((nv 256 xs) % (nv 256 ms))).length) c68), (14, .bool (!(decide ((xs.length ≤ 120 ∧ ms.length ≤ 120))))), (4, .bool false), (0, .slice Ax xs.length cx), (1, .slice Am ms.length cm)]) (by kernel_rfl); clear hF79
      refine hK28 _ _ ?_
      refine wp_seq_k (fun K81 hK82 => ?_)
      refine wp_seq_k (fun K83 hK84 => ?_)
      refine wp_region_lit ?_
      refine pures_end hT 2 _ hF80 (F' := [(22, .bool false), (21, .int .i64 0), (6, .int .i64 0), (5, .slice A67 ((dig 256 ((nv 256 xs) % (nv 256 ms))).length) c68), (14, .bool (!(decide ((xs.length ≤ 120 ∧ ms.length ≤ 120))))), (4, .bool false), (0, .slice Ax xs.length cx), (1, .slice Am ms.length cm)]) (cs := []) (by kernel_rfl) rfl trivial ?_
      intro a85 hF86; clear hF80 a78
      have hF87 := hF86.pick [22, 6, 5, 14, 4, 0, 1] (G := [(22, .bool false), (6, .int .i64 0), (5, .slice A67 ((dig 256 ((nv 256 xs) % (nv 256 ms))).length) c68), (14, .bool (!(decide ((xs.length ≤ 120 ∧ ms.length ≤ 120))))), (4, .bool false), (0, .slice Ax xs.length cx), (1, .slice Am ms.length cm)]) (by kernel_rfl); clear hF86
      refine hK84 _ _ ?_
      refine condF hF87 (by kernel_rfl) ?_
      refine wp_skip ?_
      refine hK82 _ _ ?_
      refine wp_seq_k (fun K88 hK89 => ?_)
      refine wp_region_lit ?_
      refine pures hT 2 _ hF87 (F' := [(31, .slice A67 ((dig 256 ((nv 256 xs) % (nv 256 ms))).length) c68), (30, .slice Ax xs.length cx), (22, .bool false), (6, .int .i64 0), (5, .slice A67 ((dig 256 ((nv 256 xs) % (nv 256 ms))).length) c68), (14, .bool (!(decide ((xs.length ≤ 120 ∧ ms.length ≤ 120))))), (4, .bool false), (0, .slice Ax xs.length cx), (1, .slice Am ms.length cm)]) (cs := []) (by kernel_rfl) trivial ?_
      intro a90 hF91; clear hF87 a85
      have hz98 := HE.size
      have hz99 := HO69.base
      refine wl (s_call (d := 32) (f := 15) (l := [.slice Ax xs.length cx, .slice A67 ((dig 256 ((nv 256 xs) % (nv 256 ms))).length) c68]) (by kernel_rfl) hF91 cl15 (Sub' (A := Ax) (n := xs.length) (c := cx) (x := (nv 256 xs)) (xs := xs) (A2 := A67) (n2 := ((dig 256 ((nv 256 xs) % (nv 256 ms))).length)) (c2 := c68) (y := ((nv 256 xs) % (nv 256 ms))) (ys := (dig 256 ((nv 256 xs) % (nv 256 ms)))) (w := _) rfl (nvd _)  rfl rfl (hxs.ex HE) HO69.rd hbxs (by_dig _) (Nat.le_trans hlxs (by decide)) (Nat.le_trans (dlen (mod_lt (nlen hbxs hlxs))) (by decide))) ?_)
      rintro a100 w95 v96 ⟨A92, c93, rfl, HX97, HO94⟩ ha102 hF101; clear ha102 hF91 a90
      replace HE := HE.thenN HX97.g
      replace HO69 := HO69.growN HX97.g
      have hcp103 := HO94.cap
      refine pures hT 1 _ hF101 (F' := [(33, .slice Am ms.length cm), (32, .slice A92 ((dig 256 ((nv 256 xs) - ((nv 256 xs) % (nv 256 ms)))).length) c93), (31, .slice A67 ((dig 256 ((nv 256 xs) % (nv 256 ms))).length) c68), (30, .slice Ax xs.length cx), (22, .bool false), (6, .int .i64 0), (5, .slice A67 ((dig 256 ((nv 256 xs) % (nv 256 ms))).length) c68), (14, .bool (!(decide ((xs.length ≤ 120 ∧ ms.length ≤ 120))))), (4, .bool false), (0, .slice Ax xs.length cx), (1, .slice Am ms.length cm)]) (cs := []) (by kernel_rfl) trivial ?_
      intro a104 hF105; clear hF101 a100
      have hz112 := HE.size
      have hz113 := HO69.base
      have hz114 := HO94.base
      refine wl (s_call (d := 34) (f := 13) (l := [.slice A92 ((dig 256 ((nv 256 xs) - ((nv 256 xs) % (nv 256 ms)))).length) c93, .slice Am ms.length cm]) (by kernel_rfl) hF105 cl13 (Mod1' (A := A92) (n := ((dig 256 ((nv 256 xs) - ((nv 256 xs) % (nv 256 ms)))).length)) (c := c93) (x := ((nv 256 xs) - ((nv 256 xs) % (nv 256 ms)))) (xs := (dig 256 ((nv 256 xs) - ((nv 256 xs) % (nv 256 ms))))) (A2 := Am) (n2 := ms.length) (c2 := cm) (y := (nv 256 ms)) (ys := ms) (w := _) (nvd _) rfl hmod rfl rfl HO94.rd (hms.ex HE) (by_dig _) hbms (Nat.le_trans (dlen (sub_lt (nlen hbxs hlxs))) (by decide)) (Nat.le_trans hlms (by decide))) ?_)
      rintro a115 w109 v110 ⟨A106, c107, rfl, HX111, HO108⟩ ha117 hF116; clear ha117 hF105 a104
      replace HE := HE.thenN HX111.g
      replace HO69 := HO69.growN HX111.g
      replace HO94 := HO94.growN HX111.g
      have hcp118 := HO108.cap
      refine pures_end hT 5 _ hF116 (F' := [(8, .int .i64 0), (7, .slice A106 ((dig 256 (((nv 256 xs) - ((nv 256 xs) % (nv 256 ms))) % (nv 256 ms))).length) c107), (36, .int .i64 0), (35, .slice A106 ((dig 256 (((nv 256 xs) - ((nv 256 xs) % (nv 256 ms))) % (nv 256 ms))).length) c107), (29, .tuple #[.slice A106 ((dig 256 (((nv 256 xs) - ((nv 256 xs) % (nv 256 ms))) % (nv 256 ms))).length) c107, .int .i64 0]), (34, .tuple #[.slice A106 ((dig 256 (((nv 256 xs) - ((nv 256 xs) % (nv 256 ms))) % (nv 256 ms))).length) c107, .int .i64 0]), (33, .slice Am ms.length cm), (32, .slice A92 ((dig 256 ((nv 256 xs) - ((nv 256 xs) % (nv 256 ms)))).length) c93), (31, .slice A67 ((dig 256 ((nv 256 xs) % (nv 256 ms))).length) c68), (30, .slice Ax xs.length cx), (22, .bool false), (6, .int .i64 0), (5, .slice A67 ((dig 256 ((nv 256 xs) % (nv 256 ms))).length) c68), (14, .bool (!(decide ((xs.length ≤ 120 ∧ ms.length ≤ 120))))), (4, .bool false), (0, .slice Ax xs.length cx), (1, .slice Am ms.length cm)]) (cs := []) (by kernel_rfl) rfl trivial ?_
      intro a119 hF120; clear hF116 a115
      have hF121 := hF120.pick [8, 7, 22, 6, 5, 14, 4, 0, 1] (G := [(8, .int .i64 0), (7, .slice A106 ((dig 256 (((nv 256 xs) - ((nv 256 xs) % (nv 256 ms))) % (nv 256 ms))).length) c107), (22, .bool false), (6, .int .i64 0), (5, .slice A67 ((dig 256 ((nv 256 xs) % (nv 256 ms))).length) c68), (14, .bool (!(decide ((xs.length ≤ 120 ∧ ms.length ≤ 120))))), (4, .bool false), (0, .slice Ax xs.length cx), (1, .slice Am ms.length cm)]) (by kernel_rfl); clear hF120
      refine hK89 _ _ ?_
      refine wp_seq_k (fun K122 hK123 => ?_)
      refine wp_region_lit ?_
      refine pures hT 2 _ hF121 (F' := [(39, .slice Am ms.length cm), (38, .slice A67 ((dig 256 ((nv 256 xs) % (nv 256 ms))).length) c68), (8, .int .i64 0), (7, .slice A106 ((dig 256 (((nv 256 xs) - ((nv 256 xs) % (nv 256 ms))) % (nv 256 ms))).length) c107), (22, .bool false), (6, .int .i64 0), (5, .slice A67 ((dig 256 ((nv 256 xs) % (nv 256 ms))).length) c68), (14, .bool (!(decide ((xs.length ≤ 120 ∧ ms.length ≤ 120))))), (4, .bool false), (0, .slice Ax xs.length cx), (1, .slice Am ms.length cm)]) (cs := []) (by kernel_rfl) trivial ?_
      intro a124 hF125; clear hF121 a119
      have hz132 := HE.size
      have hz133 := HO69.base
      have hz134 := HO94.base
      have hz135 := HO108.base
      refine wl (s_call (d := 40) (f := 13) (l := [.slice A67 ((dig 256 ((nv 256 xs) % (nv 256 ms))).length) c68, .slice Am ms.length cm]) (by kernel_rfl) hF125 cl13 (Mod1' (A := A67) (n := ((dig 256 ((nv 256 xs) % (nv 256 ms))).length)) (c := c68) (x := ((nv 256 xs) % (nv 256 ms))) (xs := (dig 256 ((nv 256 xs) % (nv 256 ms)))) (A2 := Am) (n2 := ms.length) (c2 := cm) (y := (nv 256 ms)) (ys := ms) (w := _) (nvd _) rfl hmod rfl rfl HO69.rd (hms.ex HE) (by_dig _) hbms (Nat.le_trans (dlen (mod_lt (nlen hbxs hlxs))) (by decide)) (Nat.le_trans hlms (by decide))) ?_)
      rintro a136 w129 v130 ⟨A126, c127, rfl, HX131, HO128⟩ ha138 hF137; clear ha138 hF125 a124
      replace HE := HE.thenN HX131.g
      replace HO69 := HO69.growN HX131.g
      replace HO94 := HO94.growN HX131.g
      replace HO108 := HO108.growN HX131.g
      have hcp139 := HO128.cap
      refine pures_end hT 5 _ hF137 (F' := [(10, .int .i64 0), (9, .slice A126 ((dig 256 (((nv 256 xs) % (nv 256 ms)) % (nv 256 ms))).length) c127), (42, .int .i64 0), (41, .slice A126 ((dig 256 (((nv 256 xs) % (nv 256 ms)) % (nv 256 ms))).length) c127), (37, .tuple #[.slice A126 ((dig 256 (((nv 256 xs) % (nv 256 ms)) % (nv 256 ms))).length) c127, .int .i64 0]), (40, .tuple #[.slice A126 ((dig 256 (((nv 256 xs) % (nv 256 ms)) % (nv 256 ms))).length) c127, .int .i64 0]), (39, .slice Am ms.length cm), (38, .slice A67 ((dig 256 ((nv 256 xs) % (nv 256 ms))).length) c68), (8, .int .i64 0), (7, .slice A106 ((dig 256 (((nv 256 xs) - ((nv 256 xs) % (nv 256 ms))) % (nv 256 ms))).length) c107), (22, .bool false), (6, .int .i64 0), (5, .slice A67 ((dig 256 ((nv 256 xs) % (nv 256 ms))).length) c68), (14, .bool (!(decide ((xs.length ≤ 120 ∧ ms.length ≤ 120))))), (4, .bool false), (0, .slice Ax xs.length cx), (1, .slice Am ms.length cm)]) (cs := []) (by kernel_rfl) rfl trivial ?_
      intro a140 hF141; clear hF137 a136
      have hF142 := hF141.pick [10, 9, 8, 7, 22, 6, 5, 14, 4, 0, 1] (G := [(10, .int .i64 0), (9, .slice A126 ((dig 256 (((nv 256 xs) % (nv 256 ms)) % (nv 256 ms))).length) c127), (8, .int .i64 0), (7, .slice A106 ((dig 256 (((nv 256 xs) - ((nv 256 xs) % (nv 256 ms))) % (nv 256 ms))).length) c107), (22, .bool false), (6, .int .i64 0), (5, .slice A67 ((dig 256 ((nv 256 xs) % (nv 256 ms))).length) c68), (14, .bool (!(decide ((xs.length ≤ 120 ∧ ms.length ≤ 120))))), (4, .bool false), (0, .slice Ax xs.length cx), (1, .slice Am ms.length cm)]) (by kernel_rfl); clear hF141
      refine hK123 _ _ ?_
      refine wp_seq_k (fun K143 hK144 => ?_)
      refine wp_region_lit ?_
      have hz148 := HE.size
      have hz149 := HO69.base
      have hz150 := HO94.base
      have hz151 := HO108.base
      have hz152 := HO128.base
      refine wl (s_call (d := 43) (f := 14) (l := []) (by kernel_rfl) hF142 cl14 (law15_awake _) ?_)
      rintro a153 w145 v146 ⟨rfl, HX147⟩ ha155 hF154; clear ha155 hF142 a140
      replace HE := HE.thenN HX147.g
      replace HO69 := HO69.growN HX147.g
      replace HO94 := HO94.growN HX147.g
      replace HO108 := HO108.growN HX147.g
      replace HO128 := HO128.growN HX147.g
      refine pures hT 12 _ hF154 (F' := [(55, .bool ((decide ((((dig 256 (((nv 256 xs) - ((nv 256 xs) % (nv 256 ms))) % (nv 256 ms))).length : Nat) : Int) = 0)))), (54, .int .i64 (((dig 256 (((nv 256 xs) - ((nv 256 xs) % (nv 256 ms))) % (nv 256 ms))).length : Nat) : Int)), (53, .slice A106 ((dig 256 (((nv 256 xs) - ((nv 256 xs) % (nv 256 ms))) % (nv 256 ms))).length) c107), (52, .bool true), (51, .bool true), (50, .bool true), (49, .int .i64 0), (48, .bool true), (47, .bool true), (46, .bool true), (45, .int .i64 0), (44, .bool true), (43, .bool true), (10, .int .i64 0), (9, .slice A126 ((dig 256 (((nv 256 xs) % (nv 256 ms)) % (nv 256 ms))).length) c127), (8, .int .i64 0), (7, .slice A106 ((dig 256 (((nv 256 xs) - ((nv 256 xs) % (nv 256 ms))) % (nv 256 ms))).length) c107), (22, .bool false), (6, .int .i64 0), (5, .slice A67 ((dig 256 ((nv 256 xs) % (nv 256 ms))).length) c68), (14, .bool (!(decide ((xs.length ≤ 120 ∧ ms.length ≤ 120))))), (4, .bool false), (0, .slice Ax xs.length cx), (1, .slice Am ms.length cm)]) (cs := []) (by kernel_rfl) trivial ?_
      intro a156 hF157; clear hF154 a153
      have hF158 : Fr 70 a156 [(55, .bool true), (54, .int .i64 (((dig 256 (((nv 256 xs) - ((nv 256 xs) % (nv 256 ms))) % (nv 256 ms))).length : Nat) : Int)), (53, .slice A106 ((dig 256 (((nv 256 xs) - ((nv 256 xs) % (nv 256 ms))) % (nv 256 ms))).length) c107), (52, .bool true), (51, .bool true), (50, .bool true), (49, .int .i64 0), (48, .bool true), (47, .bool true), (46, .bool true), (45, .int .i64 0), (44, .bool true), (43, .bool true), (10, .int .i64 0), (9, .slice A126 ((dig 256 (((nv 256 xs) % (nv 256 ms)) % (nv 256 ms))).length) c127), (8, .int .i64 0), (7, .slice A106 ((dig 256 (((nv 256 xs) - ((nv 256 xs) % (nv 256 ms))) % (nv 256 ms))).length) c107), (22, .bool false), (6, .int .i64 0), (5, .slice A67 ((dig 256 ((nv 256 xs) % (nv 256 ms))).length) c68), (14, .bool (!(decide ((xs.length ≤ 120 ∧ ms.length ≤ 120))))), (4, .bool false), (0, .slice Ax xs.length cx), (1, .slice Am ms.length cm)] := by rw [show ((decide ((((dig 256 (((nv 256 xs) - ((nv 256 xs) % (nv 256 ms))) % (nv 256 ms))).length : Nat) : Int) = 0))) = true from (decide_eq_true (by have := len0 ((nv 256 xs - nv 256 xs % nv 256 ms) % nv 256 ms) (sub_mod_self (nv 256 xs) (nv 256 ms)); omega))] at hF157; exact hF157
      clear hF157
      refine pures hT 3 _ hF158 (F' := [(58, .slice A126 ((dig 256 (((nv 256 xs) % (nv 256 ms)) % (nv 256 ms))).length) c127), (57, .bool true), (56, .bool true), (55, .bool true), (54, .int .i64 (((dig 256 (((nv 256 xs) - ((nv 256 xs) % (nv 256 ms))) % (nv 256 ms))).length : Nat) : Int)), (53, .slice A106 ((dig 256 (((nv 256 xs) - ((nv 256 xs) % (nv 256 ms))) % (nv 256 ms))).length) c107), (52, .bool true), (51, .bool true), (50, .bool true), (49, .int .i64 0), (48, .bool true), (47, .bool true), (46, .bool true), (45, .int .i64 0), (44, .bool true), (43, .bool true), (10, .int .i64 0), (9, .slice A126 ((dig 256 (((nv 256 xs) % (nv 256 ms)) % (nv 256 ms))).length) c127), (8, .int .i64 0), (7, .slice A106 ((dig 256 (((nv 256 xs) - ((nv 256 xs) % (nv 256 ms))) % (nv 256 ms))).length) c107), (22, .bool false), (6, .int .i64 0), (5, .slice A67 ((dig 256 ((nv 256 xs) % (nv 256 ms))).length) c68), (14, .bool (!(decide ((xs.length ≤ 120 ∧ ms.length ≤ 120))))), (4, .bool false), (0, .slice Ax xs.length cx), (1, .slice Am ms.length cm)]) (cs := []) (by kernel_rfl) trivial ?_
      intro a159 hF160; clear hF158 a156
      refine wl (One.bare hF160 (by kernel_rfl) (s_str hT (d := 59) (A := A126) (m := (dig 256 (((nv 256 xs) % (nv 256 ms)) % (nv 256 ms))).length) (xs := (dig 256 (((nv 256 xs) % (nv 256 ms)) % (nv 256 ms)))) (by kernel_rfl) hF160 HO128.rd (by (first | (simp only [vs_length, vi_length]; omega) | (simp; omega) | omega)) ?_))
      rintro a161 ha163 hF162; clear ha163 hF160 a159
      refine pures hT 1 _ hF162 (F' := [(60, .slice A67 ((dig 256 ((nv 256 xs) % (nv 256 ms))).length) c68), (59, .string (str (dig 256 (((nv 256 xs) % (nv 256 ms)) % (nv 256 ms))))), (58, .slice A126 ((dig 256 (((nv 256 xs) % (nv 256 ms)) % (nv 256 ms))).length) c127), (57, .bool true), (56, .bool true), (55, .bool true), (54, .int .i64 (((dig 256 (((nv 256 xs) - ((nv 256 xs) % (nv 256 ms))) % (nv 256 ms))).length : Nat) : Int)), (53, .slice A106 ((dig 256 (((nv 256 xs) - ((nv 256 xs) % (nv 256 ms))) % (nv 256 ms))).length) c107), (52, .bool true), (51, .bool true), (50, .bool true), (49, .int .i64 0), (48, .bool true), (47, .bool true), (46, .bool true), (45, .int .i64 0), (44, .bool true), (43, .bool true), (10, .int .i64 0), (9, .slice A126 ((dig 256 (((nv 256 xs) % (nv 256 ms)) % (nv 256 ms))).length) c127), (8, .int .i64 0), (7, .slice A106 ((dig 256 (((nv 256 xs) - ((nv 256 xs) % (nv 256 ms))) % (nv 256 ms))).length) c107), (22, .bool false), (6, .int .i64 0), (5, .slice A67 ((dig 256 ((nv 256 xs) % (nv 256 ms))).length) c68), (14, .bool (!(decide ((xs.length ≤ 120 ∧ ms.length ≤ 120))))), (4, .bool false), (0, .slice Ax xs.length cx), (1, .slice Am ms.length cm)]) (cs := []) (by kernel_rfl) trivial ?_
      intro a164 hF165; clear hF162 a161
      refine wl (One.bare hF165 (by kernel_rfl) (s_str hT (d := 61) (A := A67) (m := (dig 256 ((nv 256 xs) % (nv 256 ms))).length) (xs := (dig 256 ((nv 256 xs) % (nv 256 ms)))) (by kernel_rfl) hF165 HO69.rd (by (first | (simp only [vs_length, vi_length]; omega) | (simp; omega) | omega)) ?_))
      rintro a166 ha168 hF167; clear ha168 hF165 a164
      refine pures hT 1 _ hF167 (F' := [(62, .bool ((ByteArray.toList (str (dig 256 (((nv 256 xs) % (nv 256 ms)) % (nv 256 ms)))) == ByteArray.toList (str (dig 256 ((nv 256 xs) % (nv 256 ms))))))), (61, .string (str (dig 256 ((nv 256 xs) % (nv 256 ms))))), (60, .slice A67 ((dig 256 ((nv 256 xs) % (nv 256 ms))).length) c68), (59, .string (str (dig 256 (((nv 256 xs) % (nv 256 ms)) % (nv 256 ms))))), (58, .slice A126 ((dig 256 (((nv 256 xs) % (nv 256 ms)) % (nv 256 ms))).length) c127), (57, .bool true), (56, .bool true), (55, .bool true), (54, .int .i64 (((dig 256 (((nv 256 xs) - ((nv 256 xs) % (nv 256 ms))) % (nv 256 ms))).length : Nat) : Int)), (53, .slice A106 ((dig 256 (((nv 256 xs) - ((nv 256 xs) % (nv 256 ms))) % (nv 256 ms))).length) c107), (52, .bool true), (51, .bool true), (50, .bool true), (49, .int .i64 0), (48, .bool true), (47, .bool true), (46, .bool true), (45, .int .i64 0), (44, .bool true), (43, .bool true), (10, .int .i64 0), (9, .slice A126 ((dig 256 (((nv 256 xs) % (nv 256 ms)) % (nv 256 ms))).length) c127), (8, .int .i64 0), (7, .slice A106 ((dig 256 (((nv 256 xs) - ((nv 256 xs) % (nv 256 ms))) % (nv 256 ms))).length) c107), (22, .bool false), (6, .int .i64 0), (5, .slice A67 ((dig 256 ((nv 256 xs) % (nv 256 ms))).length) c68), (14, .bool (!(decide ((xs.length ≤ 120 ∧ ms.length ≤ 120))))), (4, .bool false), (0, .slice Ax xs.length cx), (1, .slice Am ms.length cm)]) (cs := []) (by kernel_rfl) trivial ?_
      intro a169 hF170; clear hF167 a166
      have hF171 : Fr 70 a169 [(62, .bool true), (61, .string (str (dig 256 ((nv 256 xs) % (nv 256 ms))))), (60, .slice A67 ((dig 256 ((nv 256 xs) % (nv 256 ms))).length) c68), (59, .string (str (dig 256 (((nv 256 xs) % (nv 256 ms)) % (nv 256 ms))))), (58, .slice A126 ((dig 256 (((nv 256 xs) % (nv 256 ms)) % (nv 256 ms))).length) c127), (57, .bool true), (56, .bool true), (55, .bool true), (54, .int .i64 (((dig 256 (((nv 256 xs) - ((nv 256 xs) % (nv 256 ms))) % (nv 256 ms))).length : Nat) : Int)), (53, .slice A106 ((dig 256 (((nv 256 xs) - ((nv 256 xs) % (nv 256 ms))) % (nv 256 ms))).length) c107), (52, .bool true), (51, .bool true), (50, .bool true), (49, .int .i64 0), (48, .bool true), (47, .bool true), (46, .bool true), (45, .int .i64 0), (44, .bool true), (43, .bool true), (10, .int .i64 0), (9, .slice A126 ((dig 256 (((nv 256 xs) % (nv 256 ms)) % (nv 256 ms))).length) c127), (8, .int .i64 0), (7, .slice A106 ((dig 256 (((nv 256 xs) - ((nv 256 xs) % (nv 256 ms))) % (nv 256 ms))).length) c107), (22, .bool false), (6, .int .i64 0), (5, .slice A67 ((dig 256 ((nv 256 xs) % (nv 256 ms))).length) c68), (14, .bool (!(decide ((xs.length ≤ 120 ∧ ms.length ≤ 120))))), (4, .bool false), (0, .slice Ax xs.length cx), (1, .slice Am ms.length cm)] := by rw [show ((ByteArray.toList (str (dig 256 (((nv 256 xs) % (nv 256 ms)) % (nv 256 ms)))) == ByteArray.toList (str (dig 256 ((nv 256 xs) % (nv 256 ms)))))) = true from (str_eqT (dig_congr (Nat.mod_mod _ _)))] at hF170; exact hF170
      clear hF170
      refine pures hT 4 _ hF171 (F' := [(66, .slice Ax xs.length cx), (65, .slice A67 ((dig 256 ((nv 256 xs) % (nv 256 ms))).length) c68), (64, .bool true), (63, .bool true), (62, .bool true), (61, .string (str (dig 256 ((nv 256 xs) % (nv 256 ms))))), (60, .slice A67 ((dig 256 ((nv 256 xs) % (nv 256 ms))).length) c68), (59, .string (str (dig 256 (((nv 256 xs) % (nv 256 ms)) % (nv 256 ms))))), (58, .slice A126 ((dig 256 (((nv 256 xs) % (nv 256 ms)) % (nv 256 ms))).length) c127), (57, .bool true), (56, .bool true), (55, .bool true), (54, .int .i64 (((dig 256 (((nv 256 xs) - ((nv 256 xs) % (nv 256 ms))) % (nv 256 ms))).length : Nat) : Int)), (53, .slice A106 ((dig 256 (((nv 256 xs) - ((nv 256 xs) % (nv 256 ms))) % (nv 256 ms))).length) c107), (52, .bool true), (51, .bool true), (50, .bool true), (49, .int .i64 0), (48, .bool true), (47, .bool true), (46, .bool true), (45, .int .i64 0), (44, .bool true), (43, .bool true), (10, .int .i64 0), (9, .slice A126 ((dig 256 (((nv 256 xs) % (nv 256 ms)) % (nv 256 ms))).length) c127), (8, .int .i64 0), (7, .slice A106 ((dig 256 (((nv 256 xs) - ((nv 256 xs) % (nv 256 ms))) % (nv 256 ms))).length) c107), (22, .bool false), (6, .int .i64 0), (5, .slice A67 ((dig 256 ((nv 256 xs) % (nv 256 ms))).length) c68), (14, .bool (!(decide ((xs.length ≤ 120 ∧ ms.length ≤ 120))))), (4, .bool false), (0, .slice Ax xs.length cx), (1, .slice Am ms.length cm)]) (cs := []) (by kernel_rfl) trivial ?_
      intro a172 hF173; clear hF171 a169
      have hz177 := HE.size
      have hz178 := HO69.base
      have hz179 := HO94.base
      have hz180 := HO108.base
      have hz181 := HO128.base
      refine wl (One.bare hF173 (by kernel_rfl) (s_call (d := 67) (f := 16) (l := [.slice A67 ((dig 256 ((nv 256 xs) % (nv 256 ms))).length) c68, .slice Ax xs.length cx]) (by kernel_rfl) hF173 cl16 (Cmp' (A := A67) (n := ((dig 256 ((nv 256 xs) % (nv 256 ms))).length)) (c := c68) (x := ((nv 256 xs) % (nv 256 ms))) (xs := (dig 256 ((nv 256 xs) % (nv 256 ms)))) (A2 := Ax) (n2 := xs.length) (c2 := cx) (y := (nv 256 xs)) (ys := xs) (w := _) (nvd _) rfl  rfl rfl HO69.rd (hxs.ex HE) (by_dig _) hbxs (Nat.le_trans (dlen (mod_lt (nlen hbxs hlxs))) (by decide)) (Nat.le_trans hlxs (by decide))) ?_))
      rintro a182 w174 v175 ⟨rfl, HX176⟩ ha184 hF183; clear ha184 hF173 a172
      replace HE := HE.thenN HX176.g
      replace HO69 := HO69.growN HX176.g
      replace HO94 := HO94.growN HX176.g
      replace HO108 := HO108.growN HX176.g
      replace HO128 := HO128.growN HX176.g
      refine pures hT 1 _ hF183 (F' := [(68, .bool ((decide ((cmpI ((nv 256 xs) % (nv 256 ms)) (nv 256 xs)) ≤ 0)))), (67, .int .i64 (cmpI ((nv 256 xs) % (nv 256 ms)) (nv 256 xs))), (66, .slice Ax xs.length cx), (65, .slice A67 ((dig 256 ((nv 256 xs) % (nv 256 ms))).length) c68), (64, .bool true), (63, .bool true), (62, .bool true), (61, .string (str (dig 256 ((nv 256 xs) % (nv 256 ms))))), (60, .slice A67 ((dig 256 ((nv 256 xs) % (nv 256 ms))).length) c68), (59, .string (str (dig 256 (((nv 256 xs) % (nv 256 ms)) % (nv 256 ms))))), (58, .slice A126 ((dig 256 (((nv 256 xs) % (nv 256 ms)) % (nv 256 ms))).length) c127), (57, .bool true), (56, .bool true), (55, .bool true), (54, .int .i64 (((dig 256 (((nv 256 xs) - ((nv 256 xs) % (nv 256 ms))) % (nv 256 ms))).length : Nat) : Int)), (53, .slice A106 ((dig 256 (((nv 256 xs) - ((nv 256 xs) % (nv 256 ms))) % (nv 256 ms))).length) c107), (52, .bool true), (51, .bool true), (50, .bool true), (49, .int .i64 0), (48, .bool true), (47, .bool true), (46, .bool true), (45, .int .i64 0), (44, .bool true), (43, .bool true), (10, .int .i64 0), (9, .slice A126 ((dig 256 (((nv 256 xs) % (nv 256 ms)) % (nv 256 ms))).length) c127), (8, .int .i64 0), (7, .slice A106 ((dig 256 (((nv 256 xs) - ((nv 256 xs) % (nv 256 ms))) % (nv 256 ms))).length) c107), (22, .bool false), (6, .int .i64 0), (5, .slice A67 ((dig 256 ((nv 256 xs) % (nv 256 ms))).length) c68), (14, .bool (!(decide ((xs.length ≤ 120 ∧ ms.length ≤ 120))))), (4, .bool false), (0, .slice Ax xs.length cx), (1, .slice Am ms.length cm)]) (cs := []) (by kernel_rfl) trivial ?_
      intro a185 hF186; clear hF183 a182
      have hF187 : Fr 70 a185 [(68, .bool true), (67, .int .i64 (cmpI ((nv 256 xs) % (nv 256 ms)) (nv 256 xs))), (66, .slice Ax xs.length cx), (65, .slice A67 ((dig 256 ((nv 256 xs) % (nv 256 ms))).length) c68), (64, .bool true), (63, .bool true), (62, .bool true), (61, .string (str (dig 256 ((nv 256 xs) % (nv 256 ms))))), (60, .slice A67 ((dig 256 ((nv 256 xs) % (nv 256 ms))).length) c68), (59, .string (str (dig 256 (((nv 256 xs) % (nv 256 ms)) % (nv 256 ms))))), (58, .slice A126 ((dig 256 (((nv 256 xs) % (nv 256 ms)) % (nv 256 ms))).length) c127), (57, .bool true), (56, .bool true), (55, .bool true), (54, .int .i64 (((dig 256 (((nv 256 xs) - ((nv 256 xs) % (nv 256 ms))) % (nv 256 ms))).length : Nat) : Int)), (53, .slice A106 ((dig 256 (((nv 256 xs) - ((nv 256 xs) % (nv 256 ms))) % (nv 256 ms))).length) c107), (52, .bool true), (51, .bool true), (50, .bool true), (49, .int .i64 0), (48, .bool true), (47, .bool true), (46, .bool true), (45, .int .i64 0), (44, .bool true), (43, .bool true), (10, .int .i64 0), (9, .slice A126 ((dig 256 (((nv 256 xs) % (nv 256 ms)) % (nv 256 ms))).length) c127), (8, .int .i64 0), (7, .slice A106 ((dig 256 (((nv 256 xs) - ((nv 256 xs) % (nv 256 ms))) % (nv 256 ms))).length) c107), (22, .bool false), (6, .int .i64 0), (5, .slice A67 ((dig 256 ((nv 256 xs) % (nv 256 ms))).length) c68), (14, .bool (!(decide ((xs.length ≤ 120 ∧ ms.length ≤ 120))))), (4, .bool false), (0, .slice Ax xs.length cx), (1, .slice Am ms.length cm)] := by rw [show ((decide ((cmpI ((nv 256 xs) % (nv 256 ms)) (nv 256 xs)) ≤ 0))) = true from (decide_eq_true (cmpI_le.2 (Nat.mod_le _ _)))] at hF186; exact hF186
      clear hF186
      refine pures_end hT 2 _ hF187 (F' := [(4, .bool true), (69, .bool true), (68, .bool true), (67, .int .i64 (cmpI ((nv 256 xs) % (nv 256 ms)) (nv 256 xs))), (66, .slice Ax xs.length cx), (65, .slice A67 ((dig 256 ((nv 256 xs) % (nv 256 ms))).length) c68), (64, .bool true), (63, .bool true), (62, .bool true), (61, .string (str (dig 256 ((nv 256 xs) % (nv 256 ms))))), (60, .slice A67 ((dig 256 ((nv 256 xs) % (nv 256 ms))).length) c68), (59, .string (str (dig 256 (((nv 256 xs) % (nv 256 ms)) % (nv 256 ms))))), (58, .slice A126 ((dig 256 (((nv 256 xs) % (nv 256 ms)) % (nv 256 ms))).length) c127), (57, .bool true), (56, .bool true), (55, .bool true), (54, .int .i64 (((dig 256 (((nv 256 xs) - ((nv 256 xs) % (nv 256 ms))) % (nv 256 ms))).length : Nat) : Int)), (53, .slice A106 ((dig 256 (((nv 256 xs) - ((nv 256 xs) % (nv 256 ms))) % (nv 256 ms))).length) c107), (52, .bool true), (51, .bool true), (50, .bool true), (49, .int .i64 0), (48, .bool true), (47, .bool true), (46, .bool true), (45, .int .i64 0), (44, .bool true), (43, .bool true), (10, .int .i64 0), (9, .slice A126 ((dig 256 (((nv 256 xs) % (nv 256 ms)) % (nv 256 ms))).length) c127), (8, .int .i64 0), (7, .slice A106 ((dig 256 (((nv 256 xs) - ((nv 256 xs) % (nv 256 ms))) % (nv 256 ms))).length) c107), (22, .bool false), (6, .int .i64 0), (5, .slice A67 ((dig 256 ((nv 256 xs) % (nv 256 ms))).length) c68), (14, .bool (!(decide ((xs.length ≤ 120 ∧ ms.length ≤ 120))))), (4, .bool false), (0, .slice Ax xs.length cx), (1, .slice Am ms.length cm)]) (cs := []) (by kernel_rfl) rfl trivial ?_
      intro a188 hF189; clear hF187 a185
      have hF190 := hF189.pick [4, 10, 9, 8, 7, 22, 6, 5, 14, 0, 1] (G := [(4, .bool true), (10, .int .i64 0), (9, .slice A126 ((dig 256 (((nv 256 xs) % (nv 256 ms)) % (nv 256 ms))).length) c127), (8, .int .i64 0), (7, .slice A106 ((dig 256 (((nv 256 xs) - ((nv 256 xs) % (nv 256 ms))) % (nv 256 ms))).length) c107), (22, .bool false), (6, .int .i64 0), (5, .slice A67 ((dig 256 ((nv 256 xs) % (nv 256 ms))).length) c68), (14, .bool (!(decide ((xs.length ≤ 120 ∧ ms.length ≤ 120))))), (0, .slice Ax xs.length cx), (1, .slice Am ms.length cm)]) (by kernel_rfl); clear hF189
      refine hK144 _ _ ?_
      refine wp_ret ?_
      refine ret1 hF190 rfl (v := .bool true) (by kernel_rfl) ?_
      exact ⟨rfl, HE⟩

set_option maxHeartbeats 4000000 in
theorem law15_squares (Ax : Option Addr) (cx : Nat) (xs : List Nat) (Ay : Option Addr) (cy : Nat) (ys : List Nat) (w : World) (hxs : Rd w Ax (vs .u8 xs)) (hbxs : By xs) (hmxs : xs.length ≤ 9223372036854775807) (hys : Rd w Ay (vs .u8 ys)) (hbys : By ys) (hmys : ys.length ≤ 9223372036854775807) :
    Calls Try.prog 4 [.slice Ax xs.length cx, .slice Ay ys.length cy].toArray w (Ret fun v w' => v = .bool true ∧ Ex w w') := by
  refine enter Try.func4 rfl (n := 60) Try.ntmps4 (by simp) ?_
  intro a hF
  have HE : Ex w w := Ex.refl w
  refine wp_seq_k (fun K1 hK2 => ?_)
  refine wp_region_lit ?_
  refine pures_end hT 1 _ hF (F' := [(4, .bool false), (0, .slice Ax xs.length cx), (1, .slice Ay ys.length cy)]) (cs := []) (by kernel_rfl) rfl trivial ?_
  intro a3 hF4; clear hF a
  refine hK2 _ _ ?_
  refine wp_seq_k (fun K5 hK6 => ?_)
  refine wp_seq_k (fun K7 hK8 => ?_)
  refine wp_region_lit ?_
  refine pures hT 2 _ hF4 (F' := [(11, .slice Ay ys.length cy), (10, .slice Ax xs.length cx), (4, .bool false), (0, .slice Ax xs.length cx), (1, .slice Ay ys.length cy)]) (cs := []) (by kernel_rfl) trivial ?_
  intro a9 hF10; clear hF4 a3
  have hz14 := HE.size
  refine wl (s_call (d := 12) (f := 12) (l := [.slice Ax xs.length cx, .slice Ay ys.length cy]) (by kernel_rfl) hF10 cl12 (law15_small Ax xs.length cx Ay ys.length cy _ (by omega) (by omega)) ?_)
  rintro a15 w11 v12 ⟨rfl, HX13⟩ ha17 hF16; clear ha17 hF10 a9
  replace HE := HE.thenN HX13.g
  refine pures_end hT 1 _ hF16 (F' := [(13, .bool (!(decide ((xs.length ≤ 120 ∧ ys.length ≤ 120))))), (12, .bool ((decide ((xs.length ≤ 120 ∧ ys.length ≤ 120))))), (11, .slice Ay ys.length cy), (10, .slice Ax xs.length cx), (4, .bool false), (0, .slice Ax xs.length cx), (1, .slice Ay ys.length cy)]) (cs := []) (by kernel_rfl) rfl trivial ?_
  intro a18 hF19; clear hF16 a15
  have hF20 := hF19.pick [13, 4, 0, 1] (G := [(13, .bool (!(decide ((xs.length ≤ 120 ∧ ys.length ≤ 120))))), (4, .bool false), (0, .slice Ax xs.length cx), (1, .slice Ay ys.length cy)]) (by kernel_rfl); clear hF19
  refine hK8 _ _ ?_
  refine condB hF20 (t := !(decide ((xs.length ≤ 120 ∧ ys.length ≤ 120)))) (by kernel_rfl) (fun h21 => ?_) (fun h21 => ?_)
  · -- h21
    replace h21 : ¬ ((xs.length ≤ 120 ∧ ys.length ≤ 120)) := of_decide_eq_false (Eq.mp (Bool.not_eq_true' _) h21)
    refine wp_seq_k (fun K22 hK23 => ?_)
    refine wp_region_lit ?_
    refine pures_end hT 1 _ hF20 (F' := [(4, .bool true), (13, .bool (!(decide ((xs.length ≤ 120 ∧ ys.length ≤ 120))))), (4, .bool false), (0, .slice Ax xs.length cx), (1, .slice Ay ys.length cy)]) (cs := []) (by kernel_rfl) rfl trivial ?_
    intro a24 hF25; clear hF20 a18
    have hF26 := hF25.pick [4, 13, 0, 1] (G := [(4, .bool true), (13, .bool (!(decide ((xs.length ≤ 120 ∧ ys.length ≤ 120))))), (0, .slice Ax xs.length cx), (1, .slice Ay ys.length cy)]) (by kernel_rfl); clear hF25
    refine hK23 _ _ ?_
    refine wp_ret ?_
    refine ret1 hF26 rfl (v := .bool true) (by kernel_rfl) ?_
    exact ⟨rfl, HE⟩
  · -- h21
    replace h21 : ((xs.length ≤ 120 ∧ ys.length ≤ 120)) := of_decide_eq_true (Eq.mp (Bool.not_eq_false' _) h21)
    refine wp_skip ?_
    refine hK6 _ _ ?_
    refine wp_seq_k (fun K27 hK28 => ?_)
    have hlxs : xs.length ≤ 120 := by omega
    have hlys : ys.length ≤ 120 := by omega
    refine wp_region_lit ?_
    refine pures hT 2 _ hF20 (F' := [(15, .slice Ay ys.length cy), (14, .slice Ax xs.length cx), (13, .bool (!(decide ((xs.length ≤ 120 ∧ ys.length ≤ 120))))), (4, .bool false), (0, .slice Ax xs.length cx), (1, .slice Ay ys.length cy)]) (cs := []) (by kernel_rfl) trivial ?_
    intro a29 hF30; clear hF20 a18
    have hz37 := HE.size
    refine wl (s_call (d := 16) (f := 17) (l := [.slice Ax xs.length cx, .slice Ay ys.length cy]) (by kernel_rfl) hF30 cl17 (Add' (A := Ax) (n := xs.length) (c := cx) (x := (nv 256 xs)) (xs := xs) (A2 := Ay) (n2 := ys.length) (c2 := cy) (y := (nv 256 ys)) (ys := ys) (w := _) rfl rfl  rfl rfl (hxs.ex HE) (hys.ex HE) hbxs hbys (Nat.le_trans hlxs (by decide)) (Nat.le_trans hlys (by decide))) ?_)
    rintro a38 w34 v35 ⟨A31, c32, rfl, HX36, HO33⟩ ha40 hF39; clear ha40 hF30 a29
    replace HE := HE.thenN HX36.g
    have hcp41 := HO33.cap
    refine pures_end hT 1 _ hF39 (F' := [(5, .slice A31 ((dig 256 ((nv 256 xs) + (nv 256 ys))).length) c32), (16, .slice A31 ((dig 256 ((nv 256 xs) + (nv 256 ys))).length) c32), (15, .slice Ay ys.length cy), (14, .slice Ax xs.length cx), (13, .bool (!(decide ((xs.length ≤ 120 ∧ ys.length ≤ 120))))), (4, .bool false), (0, .slice Ax xs.length cx), (1, .slice Ay ys.length cy)]) (cs := []) (by kernel_rfl) rfl trivial ?_
    intro a42 hF43; clear hF39 a38
    have hF44 := hF43.pick [5, 13, 4, 0, 1] (G := [(5, .slice A31 ((dig 256 ((nv 256 xs) + (nv 256 ys))).length) c32), (13, .bool (!(decide ((xs.length ≤ 120 ∧ ys.length ≤ 120))))), (4, .bool false), (0, .slice Ax xs.length cx), (1, .slice Ay ys.length cy)]) (by kernel_rfl); clear hF43
    refine hK28 _ _ ?_
    refine wp_seq_k (fun K45 hK46 => ?_)
    refine wp_region_lit ?_
    refine pures hT 2 _ hF44 (F' := [(18, .slice Ay ys.length cy), (17, .slice Ax xs.length cx), (5, .slice A31 ((dig 256 ((nv 256 xs) + (nv 256 ys))).length) c32), (13, .bool (!(decide ((xs.length ≤ 120 ∧ ys.length ≤ 120))))), (4, .bool false), (0, .slice Ax xs.length cx), (1, .slice Ay ys.length cy)]) (cs := []) (by kernel_rfl) trivial ?_
    intro a47 hF48; clear hF44 a42
    have hz55 := HE.size
    have hz56 := HO33.base
    refine wl (s_call (d := 19) (f := 18) (l := [.slice Ax xs.length cx, .slice Ay ys.length cy]) (by kernel_rfl) hF48 cl18 (Mul' (A := Ax) (n := xs.length) (c := cx) (x := (nv 256 xs)) (xs := xs) (A2 := Ay) (n2 := ys.length) (c2 := cy) (y := (nv 256 ys)) (ys := ys) (w := _) rfl rfl  rfl rfl (hxs.ex HE) (hys.ex HE) hbxs hbys (Nat.le_trans hlxs (by decide)) (Nat.le_trans hlys (by decide))) ?_)
    rintro a57 w52 v53 ⟨A49, c50, rfl, HX54, HO51⟩ ha59 hF58; clear ha59 hF48 a47
    replace HE := HE.thenN HX54.g
    replace HO33 := HO33.growN HX54.g
    have hcp60 := HO51.cap
    refine pures_end hT 1 _ hF58 (F' := [(6, .slice A49 ((dig 256 ((nv 256 xs) * (nv 256 ys))).length) c50), (19, .slice A49 ((dig 256 ((nv 256 xs) * (nv 256 ys))).length) c50), (18, .slice Ay ys.length cy), (17, .slice Ax xs.length cx), (5, .slice A31 ((dig 256 ((nv 256 xs) + (nv 256 ys))).length) c32), (13, .bool (!(decide ((xs.length ≤ 120 ∧ ys.length ≤ 120))))), (4, .bool false), (0, .slice Ax xs.length cx), (1, .slice Ay ys.length cy)]) (cs := []) (by kernel_rfl) rfl trivial ?_
    intro a61 hF62; clear hF58 a57
    have hF63 := hF62.pick [6, 5, 13, 4, 0, 1] (G := [(6, .slice A49 ((dig 256 ((nv 256 xs) * (nv 256 ys))).length) c50), (5, .slice A31 ((dig 256 ((nv 256 xs) + (nv 256 ys))).length) c32), (13, .bool (!(decide ((xs.length ≤ 120 ∧ ys.length ≤ 120))))), (4, .bool false), (0, .slice Ax xs.length cx), (1, .slice Ay ys.length cy)]) (by kernel_rfl); clear hF62
    refine hK46 _ _ ?_
    refine wp_seq_k (fun K64 hK65 => ?_)
    refine wp_region_lit ?_
    refine pures hT 2 _ hF63 (F' := [(21, .slice Ax xs.length cx), (20, .slice Ax xs.length cx), (6, .slice A49 ((dig 256 ((nv 256 xs) * (nv 256 ys))).length) c50), (5, .slice A31 ((dig 256 ((nv 256 xs) + (nv 256 ys))).length) c32), (13, .bool (!(decide ((xs.length ≤ 120 ∧ ys.length ≤ 120))))), (4, .bool false), (0, .slice Ax xs.length cx), (1, .slice Ay ys.length cy)]) (cs := []) (by kernel_rfl) trivial ?_
    intro a66 hF67; clear hF63 a61
    have hz74 := HE.size
    have hz75 := HO33.base
    have hz76 := HO51.base
    refine wl (s_call (d := 22) (f := 18) (l := [.slice Ax xs.length cx, .slice Ax xs.length cx]) (by kernel_rfl) hF67 cl18 (Mul' (A := Ax) (n := xs.length) (c := cx) (x := (nv 256 xs)) (xs := xs) (A2 := Ax) (n2 := xs.length) (c2 := cx) (y := (nv 256 xs)) (ys := xs) (w := _) rfl rfl  rfl rfl (hxs.ex HE) (hxs.ex HE) hbxs hbxs (Nat.le_trans hlxs (by decide)) (Nat.le_trans hlxs (by decide))) ?_)
    rintro a77 w71 v72 ⟨A68, c69, rfl, HX73, HO70⟩ ha79 hF78; clear ha79 hF67 a66
    replace HE := HE.thenN HX73.g
    replace HO33 := HO33.growN HX73.g
    replace HO51 := HO51.growN HX73.g
    have hcp80 := HO70.cap
    refine pures hT 2 _ hF78 (F' := [(24, .slice Ay ys.length cy), (23, .slice Ay ys.length cy), (22, .slice A68 ((dig 256 ((nv 256 xs) * (nv 256 xs))).length) c69), (21, .slice Ax xs.length cx), (20, .slice Ax xs.length cx), (6, .slice A49 ((dig 256 ((nv 256 xs) * (nv 256 ys))).length) c50), (5, .slice A31 ((dig 256 ((nv 256 xs) + (nv 256 ys))).length) c32), (13, .bool (!(decide ((xs.length ≤ 120 ∧ ys.length ≤ 120))))), (4, .bool false), (0, .slice Ax xs.length cx), (1, .slice Ay ys.length cy)]) (cs := []) (by kernel_rfl) trivial ?_
    intro a81 hF82; clear hF78 a77
    have hz89 := HE.size
    have hz90 := HO33.base
    have hz91 := HO51.base
    have hz92 := HO70.base
    refine wl (s_call (d := 25) (f := 18) (l := [.slice Ay ys.length cy, .slice Ay ys.length cy]) (by kernel_rfl) hF82 cl18 (Mul' (A := Ay) (n := ys.length) (c := cy) (x := (nv 256 ys)) (xs := ys) (A2 := Ay) (n2 := ys.length) (c2 := cy) (y := (nv 256 ys)) (ys := ys) (w := _) rfl rfl  rfl rfl (hys.ex HE) (hys.ex HE) hbys hbys (Nat.le_trans hlys (by decide)) (Nat.le_trans hlys (by decide))) ?_)
    rintro a93 w86 v87 ⟨A83, c84, rfl, HX88, HO85⟩ ha95 hF94; clear ha95 hF82 a81
    replace HE := HE.thenN HX88.g
    replace HO33 := HO33.growN HX88.g
    replace HO51 := HO51.growN HX88.g
    replace HO70 := HO70.growN HX88.g
    have hcp96 := HO85.cap
    have hz103 := HE.size
    have hz104 := HO33.base
    have hz105 := HO51.base
    have hz106 := HO70.base
    have hz107 := HO85.base
    refine wl (s_call (d := 26) (f := 17) (l := [.slice A68 ((dig 256 ((nv 256 xs) * (nv 256 xs))).length) c69, .slice A83 ((dig 256 ((nv 256 ys) * (nv 256 ys))).length) c84]) (by kernel_rfl) hF94 cl17 (Add' (A := A68) (n := ((dig 256 ((nv 256 xs) * (nv 256 xs))).length)) (c := c69) (x := ((nv 256 xs) * (nv 256 xs))) (xs := (dig 256 ((nv 256 xs) * (nv 256 xs)))) (A2 := A83) (n2 := ((dig 256 ((nv 256 ys) * (nv 256 ys))).length)) (c2 := c84) (y := ((nv 256 ys) * (nv 256 ys))) (ys := (dig 256 ((nv 256 ys) * (nv 256 ys)))) (w := _) (nvd _) (nvd _)  rfl rfl HO70.rd HO85.rd (by_dig _) (by_dig _) (Nat.le_trans (dlen (mul_lt (nlen hbxs hlxs) (nlen hbxs hlxs))) (by decide)) (Nat.le_trans (dlen (mul_lt (nlen hbys hlys) (nlen hbys hlys))) (by decide))) ?_)
    rintro a108 w100 v101 ⟨A97, c98, rfl, HX102, HO99⟩ ha110 hF109; clear ha110 hF94 a93
    replace HE := HE.thenN HX102.g
    replace HO33 := HO33.growN HX102.g
    replace HO51 := HO51.growN HX102.g
    replace HO70 := HO70.growN HX102.g
    replace HO85 := HO85.growN HX102.g
    have hcp111 := HO99.cap
    refine pures hT 2 _ hF109 (F' := [(28, .slice A49 ((dig 256 ((nv 256 xs) * (nv 256 ys))).length) c50), (27, .slice A49 ((dig 256 ((nv 256 xs) * (nv 256 ys))).length) c50), (26, .slice A97 ((dig 256 (((nv 256 xs) * (nv 256 xs)) + ((nv 256 ys) * (nv 256 ys)))).length) c98), (25, .slice A83 ((dig 256 ((nv 256 ys) * (nv 256 ys))).length) c84), (24, .slice Ay ys.length cy), (23, .slice Ay ys.length cy), (22, .slice A68 ((dig 256 ((nv 256 xs) * (nv 256 xs))).length) c69), (21, .slice Ax xs.length cx), (20, .slice Ax xs.length cx), (6, .slice A49 ((dig 256 ((nv 256 xs) * (nv 256 ys))).length) c50), (5, .slice A31 ((dig 256 ((nv 256 xs) + (nv 256 ys))).length) c32), (13, .bool (!(decide ((xs.length ≤ 120 ∧ ys.length ≤ 120))))), (4, .bool false), (0, .slice Ax xs.length cx), (1, .slice Ay ys.length cy)]) (cs := []) (by kernel_rfl) trivial ?_
    intro a112 hF113; clear hF109 a108
    have hz120 := HE.size
    have hz121 := HO33.base
    have hz122 := HO51.base
    have hz123 := HO70.base
    have hz124 := HO85.base
    have hz125 := HO99.base
    refine wl (s_call (d := 29) (f := 17) (l := [.slice A49 ((dig 256 ((nv 256 xs) * (nv 256 ys))).length) c50, .slice A49 ((dig 256 ((nv 256 xs) * (nv 256 ys))).length) c50]) (by kernel_rfl) hF113 cl17 (Add' (A := A49) (n := ((dig 256 ((nv 256 xs) * (nv 256 ys))).length)) (c := c50) (x := ((nv 256 xs) * (nv 256 ys))) (xs := (dig 256 ((nv 256 xs) * (nv 256 ys)))) (A2 := A49) (n2 := ((dig 256 ((nv 256 xs) * (nv 256 ys))).length)) (c2 := c50) (y := ((nv 256 xs) * (nv 256 ys))) (ys := (dig 256 ((nv 256 xs) * (nv 256 ys)))) (w := _) (nvd _) (nvd _)  rfl rfl HO51.rd HO51.rd (by_dig _) (by_dig _) (Nat.le_trans (dlen (mul_lt (nlen hbxs hlxs) (nlen hbys hlys))) (by decide)) (Nat.le_trans (dlen (mul_lt (nlen hbxs hlxs) (nlen hbys hlys))) (by decide))) ?_)
    rintro a126 w117 v118 ⟨A114, c115, rfl, HX119, HO116⟩ ha128 hF127; clear ha128 hF113 a112
    replace HE := HE.thenN HX119.g
    replace HO33 := HO33.growN HX119.g
    replace HO51 := HO51.growN HX119.g
    replace HO70 := HO70.growN HX119.g
    replace HO85 := HO85.growN HX119.g
    replace HO99 := HO99.growN HX119.g
    have hcp129 := HO116.cap
    have hz136 := HE.size
    have hz137 := HO33.base
    have hz138 := HO51.base
    have hz139 := HO70.base
    have hz140 := HO85.base
    have hz141 := HO99.base
    have hz142 := HO116.base
    refine wl (s_call (d := 30) (f := 17) (l := [.slice A97 ((dig 256 (((nv 256 xs) * (nv 256 xs)) + ((nv 256 ys) * (nv 256 ys)))).length) c98, .slice A114 ((dig 256 (((nv 256 xs) * (nv 256 ys)) + ((nv 256 xs) * (nv 256 ys)))).length) c115]) (by kernel_rfl) hF127 cl17 (Add' (A := A97) (n := ((dig 256 (((nv 256 xs) * (nv 256 xs)) + ((nv 256 ys) * (nv 256 ys)))).length)) (c := c98) (x := (((nv 256 xs) * (nv 256 xs)) + ((nv 256 ys) * (nv 256 ys)))) (xs := (dig 256 (((nv 256 xs) * (nv 256 xs)) + ((nv 256 ys) * (nv 256 ys))))) (A2 := A114) (n2 := ((dig 256 (((nv 256 xs) * (nv 256 ys)) + ((nv 256 xs) * (nv 256 ys)))).length)) (c2 := c115) (y := (((nv 256 xs) * (nv 256 ys)) + ((nv 256 xs) * (nv 256 ys)))) (ys := (dig 256 (((nv 256 xs) * (nv 256 ys)) + ((nv 256 xs) * (nv 256 ys))))) (w := _) (nvd _) (nvd _)  rfl rfl HO99.rd HO116.rd (by_dig _) (by_dig _) (Nat.le_trans (dlen (add_lt (m := 240) (mul_lt (nlen hbxs hlxs) (nlen hbxs hlxs)) (mul_lt (nlen hbys hlys) (nlen hbys hlys)) (by decide) (by decide))) (by decide)) (Nat.le_trans (dlen (add_lt (m := 240) (mul_lt (nlen hbxs hlxs) (nlen hbys hlys)) (mul_lt (nlen hbxs hlxs) (nlen hbys hlys)) (by decide) (by decide))) (by decide))) ?_)
    rintro a143 w133 v134 ⟨A130, c131, rfl, HX135, HO132⟩ ha145 hF144; clear ha145 hF127 a126
    replace HE := HE.thenN HX135.g
    replace HO33 := HO33.growN HX135.g
    replace HO51 := HO51.growN HX135.g
    replace HO70 := HO70.growN HX135.g
    replace HO85 := HO85.growN HX135.g
    replace HO99 := HO99.growN HX135.g
    replace HO116 := HO116.growN HX135.g
    have hcp146 := HO132.cap
    refine pures_end hT 1 _ hF144 (F' := [(7, .slice A130 ((dig 256 ((((nv 256 xs) * (nv 256 xs)) + ((nv 256 ys) * (nv 256 ys))) + (((nv 256 xs) * (nv 256 ys)) + ((nv 256 xs) * (nv 256 ys))))).length) c131), (30, .slice A130 ((dig 256 ((((nv 256 xs) * (nv 256 xs)) + ((nv 256 ys) * (nv 256 ys))) + (((nv 256 xs) * (nv 256 ys)) + ((nv 256 xs) * (nv 256 ys))))).length) c131), (29, .slice A114 ((dig 256 (((nv 256 xs) * (nv 256 ys)) + ((nv 256 xs) * (nv 256 ys)))).length) c115), (28, .slice A49 ((dig 256 ((nv 256 xs) * (nv 256 ys))).length) c50), (27, .slice A49 ((dig 256 ((nv 256 xs) * (nv 256 ys))).length) c50), (26, .slice A97 ((dig 256 (((nv 256 xs) * (nv 256 xs)) + ((nv 256 ys) * (nv 256 ys)))).length) c98), (25, .slice A83 ((dig 256 ((nv 256 ys) * (nv 256 ys))).length) c84), (24, .slice Ay ys.length cy), (23, .slice Ay ys.length cy), (22, .slice A68 ((dig 256 ((nv 256 xs) * (nv 256 xs))).length) c69), (21, .slice Ax xs.length cx), (20, .slice Ax xs.length cx), (6, .slice A49 ((dig 256 ((nv 256 xs) * (nv 256 ys))).length) c50), (5, .slice A31 ((dig 256 ((nv 256 xs) + (nv 256 ys))).length) c32), (13, .bool (!(decide ((xs.length ≤ 120 ∧ ys.length ≤ 120))))), (4, .bool false), (0, .slice Ax xs.length cx), (1, .slice Ay ys.length cy)]) (cs := []) (by kernel_rfl) rfl trivial ?_
    intro a147 hF148; clear hF144 a143
    have hF149 := hF148.pick [7, 6, 5, 13, 4, 0, 1] (G := [(7, .slice A130 ((dig 256 ((((nv 256 xs) * (nv 256 xs)) + ((nv 256 ys) * (nv 256 ys))) + (((nv 256 xs) * (nv 256 ys)) + ((nv 256 xs) * (nv 256 ys))))).length) c131), (6, .slice A49 ((dig 256 ((nv 256 xs) * (nv 256 ys))).length) c50), (5, .slice A31 ((dig 256 ((nv 256 xs) + (nv 256 ys))).length) c32), (13, .bool (!(decide ((xs.length ≤ 120 ∧ ys.length ≤ 120))))), (4, .bool false), (0, .slice Ax xs.length cx), (1, .slice Ay ys.length cy)]) (by kernel_rfl); clear hF148
    refine hK65 _ _ ?_
    refine wp_seq_k (fun K150 hK151 => ?_)
    refine wp_region_lit ?_
    refine pures hT 2 _ hF149 (F' := [(32, .slice Ax xs.length cx), (31, .slice Ax xs.length cx), (7, .slice A130 ((dig 256 ((((nv 256 xs) * (nv 256 xs)) + ((nv 256 ys) * (nv 256 ys))) + (((nv 256 xs) * (nv 256 ys)) + ((nv 256 xs) * (nv 256 ys))))).length) c131), (6, .slice A49 ((dig 256 ((nv 256 xs) * (nv 256 ys))).length) c50), (5, .slice A31 ((dig 256 ((nv 256 xs) + (nv 256 ys))).length) c32), (13, .bool (!(decide ((xs.length ≤ 120 ∧ ys.length ≤ 120))))), (4, .bool false), (0, .slice Ax xs.length cx), (1, .slice Ay ys.length cy)]) (cs := []) (by kernel_rfl) trivial ?_
    intro a152 hF153; clear hF149 a147
    have hz160 := HE.size
    have hz161 := HO33.base
    have hz162 := HO51.base
    have hz163 := HO70.base
    have hz164 := HO85.base
    have hz165 := HO99.base
    have hz166 := HO116.base
    have hz167 := HO132.base
    refine wl (s_call (d := 33) (f := 18) (l := [.slice Ax xs.length cx, .slice Ax xs.length cx]) (by kernel_rfl) hF153 cl18 (Mul' (A := Ax) (n := xs.length) (c := cx) (x := (nv 256 xs)) (xs := xs) (A2 := Ax) (n2 := xs.length) (c2 := cx) (y := (nv 256 xs)) (ys := xs) (w := _) rfl rfl  rfl rfl (hxs.ex HE) (hxs.ex HE) hbxs hbxs (Nat.le_trans hlxs (by decide)) (Nat.le_trans hlxs (by decide))) ?_)
    rintro a168 w157 v158 ⟨A154, c155, rfl, HX159, HO156⟩ ha170 hF169; clear ha170 hF153 a152
    replace HE := HE.thenN HX159.g
    replace HO33 := HO33.growN HX159.g
    replace HO51 := HO51.growN HX159.g
    replace HO70 := HO70.growN HX159.g
    replace HO85 := HO85.growN HX159.g
    replace HO99 := HO99.growN HX159.g
    replace HO116 := HO116.growN HX159.g
    replace HO132 := HO132.growN HX159.g
    have hcp171 := HO156.cap
    refine pures hT 1 _ hF169 (F' := [(34, .slice Ax xs.length cx), (33, .slice A154 ((dig 256 ((nv 256 xs) * (nv 256 xs))).length) c155), (32, .slice Ax xs.length cx), (31, .slice Ax xs.length cx), (7, .slice A130 ((dig 256 ((((nv 256 xs) * (nv 256 xs)) + ((nv 256 ys) * (nv 256 ys))) + (((nv 256 xs) * (nv 256 ys)) + ((nv 256 xs) * (nv 256 ys))))).length) c131), (6, .slice A49 ((dig 256 ((nv 256 xs) * (nv 256 ys))).length) c50), (5, .slice A31 ((dig 256 ((nv 256 xs) + (nv 256 ys))).length) c32), (13, .bool (!(decide ((xs.length ≤ 120 ∧ ys.length ≤ 120))))), (4, .bool false), (0, .slice Ax xs.length cx), (1, .slice Ay ys.length cy)]) (cs := []) (by kernel_rfl) trivial ?_
    intro a172 hF173; clear hF169 a168
    have hz177 := HE.size
    have hz178 := HO33.base
    have hz179 := HO51.base
    have hz180 := HO70.base
    have hz181 := HO85.base
    have hz182 := HO99.base
    have hz183 := HO116.base
    have hz184 := HO132.base
    have hz185 := HO156.base
    refine wl (s_call (d := 35) (f := 16) (l := [.slice A154 ((dig 256 ((nv 256 xs) * (nv 256 xs))).length) c155, .slice Ax xs.length cx]) (by kernel_rfl) hF173 cl16 (Cmp' (A := A154) (n := ((dig 256 ((nv 256 xs) * (nv 256 xs))).length)) (c := c155) (x := ((nv 256 xs) * (nv 256 xs))) (xs := (dig 256 ((nv 256 xs) * (nv 256 xs)))) (A2 := Ax) (n2 := xs.length) (c2 := cx) (y := (nv 256 xs)) (ys := xs) (w := _) (nvd _) rfl  rfl rfl HO156.rd (hxs.ex HE) (by_dig _) hbxs (Nat.le_trans (dlen (mul_lt (nlen hbxs hlxs) (nlen hbxs hlxs))) (by decide)) (Nat.le_trans hlxs (by decide))) ?_)
    rintro a186 w174 v175 ⟨rfl, HX176⟩ ha188 hF187; clear ha188 hF173 a172
    replace HE := HE.thenN HX176.g
    replace HO33 := HO33.growN HX176.g
    replace HO51 := HO51.growN HX176.g
    replace HO70 := HO70.growN HX176.g
    replace HO85 := HO85.growN HX176.g
    replace HO99 := HO99.growN HX176.g
    replace HO116 := HO116.growN HX176.g
    replace HO132 := HO132.growN HX176.g
    replace HO156 := HO156.growN HX176.g
    refine pures_end hT 1 _ hF187 (F' := [(8, .int .i64 (cmpI ((nv 256 xs) * (nv 256 xs)) (nv 256 xs))), (35, .int .i64 (cmpI ((nv 256 xs) * (nv 256 xs)) (nv 256 xs))), (34, .slice Ax xs.length cx), (33, .slice A154 ((dig 256 ((nv 256 xs) * (nv 256 xs))).length) c155), (32, .slice Ax xs.length cx), (31, .slice Ax xs.length cx), (7, .slice A130 ((dig 256 ((((nv 256 xs) * (nv 256 xs)) + ((nv 256 ys) * (nv 256 ys))) + (((nv 256 xs) * (nv 256 ys)) + ((nv 256 xs) * (nv 256 ys))))).length) c131), (6, .slice A49 ((dig 256 ((nv 256 xs) * (nv 256 ys))).length) c50), (5, .slice A31 ((dig 256 ((nv 256 xs) + (nv 256 ys))).length) c32), (13, .bool (!(decide ((xs.length ≤ 120 ∧ ys.length ≤ 120))))), (4, .bool false), (0, .slice Ax xs.length cx), (1, .slice Ay ys.length cy)]) (cs := []) (by kernel_rfl) rfl trivial ?_
    intro a189 hF190; clear hF187 a186
    have hF191 := hF190.pick [8, 7, 6, 5, 13, 4, 0, 1] (G := [(8, .int .i64 (cmpI ((nv 256 xs) * (nv 256 xs)) (nv 256 xs))), (7, .slice A130 ((dig 256 ((((nv 256 xs) * (nv 256 xs)) + ((nv 256 ys) * (nv 256 ys))) + (((nv 256 xs) * (nv 256 ys)) + ((nv 256 xs) * (nv 256 ys))))).length) c131), (6, .slice A49 ((dig 256 ((nv 256 xs) * (nv 256 ys))).length) c50), (5, .slice A31 ((dig 256 ((nv 256 xs) + (nv 256 ys))).length) c32), (13, .bool (!(decide ((xs.length ≤ 120 ∧ ys.length ≤ 120))))), (4, .bool false), (0, .slice Ax xs.length cx), (1, .slice Ay ys.length cy)]) (by kernel_rfl); clear hF190
    refine hK151 _ _ ?_
    refine wp_seq_k (fun K192 hK193 => ?_)
    refine wp_region_lit ?_
    refine pures hT 1 _ hF191 (F' := [(36, .slice Ax xs.length cx), (8, .int .i64 (cmpI ((nv 256 xs) * (nv 256 xs)) (nv 256 xs))), (7, .slice A130 ((dig 256 ((((nv 256 xs) * (nv 256 xs)) + ((nv 256 ys) * (nv 256 ys))) + (((nv 256 xs) * (nv 256 ys)) + ((nv 256 xs) * (nv 256 ys))))).length) c131), (6, .slice A49 ((dig 256 ((nv 256 xs) * (nv 256 ys))).length) c50), (5, .slice A31 ((dig 256 ((nv 256 xs) + (nv 256 ys))).length) c32), (13, .bool (!(decide ((xs.length ≤ 120 ∧ ys.length ≤ 120))))), (4, .bool false), (0, .slice Ax xs.length cx), (1, .slice Ay ys.length cy)]) (cs := []) (by kernel_rfl) trivial ?_
    intro a194 hF195; clear hF191 a189
    have hz202 := HE.size
    have hz203 := HO33.base
    have hz204 := HO51.base
    have hz205 := HO70.base
    have hz206 := HO85.base
    have hz207 := HO99.base
    have hz208 := HO116.base
    have hz209 := HO132.base
    have hz210 := HO156.base
    refine wl (s_lit hT (d := 37) (T := 5) (l := vs .u8 [1]) (by kernel_rfl) hF195 ?_)
    rintro a211 w197 b196 h200 h201 HB199 g198 ha213 hF212; clear ha213 hF195 a194
    replace HE := HE.thenN g198
    replace HO33 := HO33.growN g198
    replace HO51 := HO51.growN g198
    replace HO70 := HO70.growN g198
    replace HO85 := HO85.growN g198
    replace HO99 := HO99.growN g198
    replace HO116 := HO116.growN g198
    replace HO132 := HO132.growN g198
    replace HO156 := HO156.growN g198
    have hz217 := HE.size
    have hz218 := HO33.base
    have hz219 := HO51.base
    have hz220 := HO70.base
    have hz221 := HO85.base
    have hz222 := HO99.base
    have hz223 := HO116.base
    have hz224 := HO132.base
    have hz225 := HO156.base
    have hz226 := HB199.lt
    refine wl (s_call (d := 38) (f := 16) (l := [.slice Ax xs.length cx, .slice (some ⟨b196, 0, none⟩) 1 1]) (by kernel_rfl) hF212 cl16 (Cmp' (A := Ax) (n := xs.length) (c := cx) (x := (nv 256 xs)) (xs := xs) (A2 := (some ⟨b196, 0, none⟩)) (n2 := 1) (c2 := 1) (y := 1) (ys := [1]) (w := _) rfl (show nv 256 [1] = 1 from rfl)  rfl rfl (hxs.ex HE) HB199.rd hbxs (byL rfl) (Nat.le_trans hlxs (by decide)) (by decide)) ?_)
    rintro a227 w214 v215 ⟨rfl, HX216⟩ ha229 hF228; clear ha229 hF212 a211
    replace HE := HE.thenN HX216.g
    replace HO33 := HO33.growN HX216.g
    replace HO51 := HO51.growN HX216.g
    replace HO70 := HO70.growN HX216.g
    replace HO85 := HO85.growN HX216.g
    replace HO99 := HO99.growN HX216.g
    replace HO116 := HO116.growN HX216.g
    replace HO132 := HO132.growN HX216.g
    replace HO156 := HO156.growN HX216.g
    replace HB199 := HB199.growN HX216.g
    refine pures_end hT 2 _ hF228 (F' := [(9, .bool ((decide ((cmpI (nv 256 xs) 1) ≤ 0)))), (39, .bool ((decide ((cmpI (nv 256 xs) 1) ≤ 0)))), (38, .int .i64 (cmpI (nv 256 xs) 1)), (37, .slice (some ⟨b196, 0, none⟩) 1 1), (36, .slice Ax xs.length cx), (8, .int .i64 (cmpI ((nv 256 xs) * (nv 256 xs)) (nv 256 xs))), (7, .slice A130 ((dig 256 ((((nv 256 xs) * (nv 256 xs)) + ((nv 256 ys) * (nv 256 ys))) + (((nv 256 xs) * (nv 256 ys)) + ((nv 256 xs) * (nv 256 ys))))).length) c131), (6, .slice A49 ((dig 256 ((nv 256 xs) * (nv 256 ys))).length) c50), (5, .slice A31 ((dig 256 ((nv 256 xs) + (nv 256 ys))).length) c32), (13, .bool (!(decide ((xs.length ≤ 120 ∧ ys.length ≤ 120))))), (4, .bool false), (0, .slice Ax xs.length cx), (1, .slice Ay ys.length cy)]) (cs := []) (by kernel_rfl) rfl trivial ?_
    intro a230 hF231; clear hF228 a227
    have hF232 := hF231.pick [9, 8, 7, 6, 5, 13, 4, 0, 1] (G := [(9, .bool ((decide ((cmpI (nv 256 xs) 1) ≤ 0)))), (8, .int .i64 (cmpI ((nv 256 xs) * (nv 256 xs)) (nv 256 xs))), (7, .slice A130 ((dig 256 ((((nv 256 xs) * (nv 256 xs)) + ((nv 256 ys) * (nv 256 ys))) + (((nv 256 xs) * (nv 256 ys)) + ((nv 256 xs) * (nv 256 ys))))).length) c131), (6, .slice A49 ((dig 256 ((nv 256 xs) * (nv 256 ys))).length) c50), (5, .slice A31 ((dig 256 ((nv 256 xs) + (nv 256 ys))).length) c32), (13, .bool (!(decide ((xs.length ≤ 120 ∧ ys.length ≤ 120))))), (4, .bool false), (0, .slice Ax xs.length cx), (1, .slice Ay ys.length cy)]) (by kernel_rfl); clear hF231
    refine hK193 _ _ ?_
    refine wp_seq_k (fun K233 hK234 => ?_)
    have HE235 : Ex w214 w214 := Ex.refl _
    have HR236 := HO33.rd
    have HR236b := HO33.base
    clear HO33
    have HR237 := HO51.rd
    have HR237b := HO51.base
    clear HO51
    have HR238 := HO70.rd
    have HR238b := HO70.base
    clear HO70
    have HR239 := HO85.rd
    have HR239b := HO85.base
    clear HO85
    have HR240 := HO99.rd
    have HR240b := HO99.base
    clear HO99
    have HR241 := HO116.rd
    have HR241b := HO116.base
    clear HO116
    have HR242 := HO132.rd
    have HR242b := HO132.base
    clear HO132
    have HR243 := HO156.rd
    have HR243b := HO156.base
    clear HO156
    let SL_ : List SP := [SP.val (.bool true), SP.val (.bool true), SP.val (.slice A31 ((dig 256 ((nv 256 xs) + (nv 256 ys))).length) c32), SP.val (.slice A31 ((dig 256 ((nv 256 xs) + (nv 256 ys))).length) c32), SP.mk' (fun v W => ∃ A c, v = .slice A ((dig 256 (((nv 256 xs) + (nv 256 ys)) * ((nv 256 xs) + (nv 256 ys)))).length) c ∧ Rd W A (vs .u8 (dig 256 (((nv 256 xs) + (nv 256 ys)) * ((nv 256 xs) + (nv 256 ys)))))) (fun v w w' h g => by obtain ⟨A, c, e, h⟩ := h; exact ⟨A, c, e, h.grow g (by simp)⟩), SP.val (.string (str (dig 256 (((nv 256 xs) + (nv 256 ys)) * ((nv 256 xs) + (nv 256 ys)))))), SP.val (.slice A130 ((dig 256 ((((nv 256 xs) * (nv 256 xs)) + ((nv 256 ys) * (nv 256 ys))) + (((nv 256 xs) * (nv 256 ys)) + ((nv 256 xs) * (nv 256 ys))))).length) c131), SP.val (.string (str (dig 256 ((((nv 256 xs) * (nv 256 xs)) + ((nv 256 ys) * (nv 256 ys))) + (((nv 256 xs) * (nv 256 ys)) + ((nv 256 xs) * (nv 256 ys))))))), SP.val (.bool true), SP.val (.bool true), SP.val (.bool true), SP.val (.int .i64 (cmpI ((nv 256 xs) * (nv 256 xs)) (nv 256 xs))), SP.val (.bool ((decide ((cmpI ((nv 256 xs) * (nv 256 xs)) (nv 256 xs)) = 0)))), SP.val (.bool ((decide ((cmpI (nv 256 xs) 1) ≤ 0)))), SP.val (.bool true), SP.val (.bool true), SP.val (.bool true), SP.val (.int .i64 (cmpI ((nv 256 xs) * (nv 256 xs)) (nv 256 xs))), SP.val (.bool true), SP.val (.bool true), SP.val (.bool true)]
    refine region_rel (SL := SL_) (J := (fun (b : Bool) (W : World) => (Ex w W) ∧ (Blk W b196 5 (vs .u8 [1])) ∧ (Ex w214 W))) (m := 21) (bm := none) wide (by kernel_rfl) (by kernel_rfl) hF232 rfl ?_ ?_ ⟨HE, HB199, HE235⟩ ⟨?_, ?_, ?_, ?_, ?_, ?_, ?_, ?_, ?_, ?_, ?_, ?_, ?_, ?_, ?_, ?_, ?_, ?_, ?_, ?_, ?_, trivial⟩ [(4, some 20), (9, none), (8, none), (7, none), (6, none), (5, none), (13, none), (0, none), (1, none)] (by kernel_rfl) ?_
    · exact fun h => absurd h (by decide)
    · intro b W W' hj g; cases b <;> exact ⟨hj.1.thenN g, hj.2.1.growN g, hj.2.2.thenN g⟩
    · -- operation 0
      rintro a245 w244 b247 KK253 hs249 hd250 hJ251 hb252 hr254 hK248
      have hr254x : RD SL_ a245 a230 w244 [] := hr254 _ (by kernel_rfl)
      obtain ⟨HE, HB199, HE235⟩ := hJ251
      have hF246 : Fr 60 a245 [] := Fr.of hs249 hd250 trivial
      have hz258 := HE.size
      have hz259 := HB199.lt
      have hz260 := HE235.size
      refine s_call (d := 40) (f := 14) (l := []) (by kernel_rfl) hF246 cl14 (law15_awake _) ?_
      rintro a261 w255 v256 ⟨rfl, HX257⟩ ha263 hF262
      replace HE := HE.thenN HX257.g
      replace HB199 := HB199.growN HX257.g
      replace HE235 := HE235.thenN HX257.g
      rw [ha263]; exact hK248 _ _ rfl HX257.g
    · -- operation 1
      rintro a265 w264 b267 KK273 hs269 hd270 hJ271 hb272 hr277 hK268
      have hr277x : RD SL_ a265 a230 w264 [(40, some 0)] := hr277 _ (by kernel_rfl)
      obtain ⟨⟨v275, q274, s276⟩, -⟩ := hr277x
      obtain rfl : v275 = .bool true := s276
      obtain ⟨HE, HB199, HE235⟩ := hJ271
      have hF266 : Fr 60 a265 [(40, .bool true)] := Fr.of hs269 hd270 ⟨q274, trivial⟩
      refine s_pure hT (d := 41) (v := .bool true) (cs := []) (by kernel_rfl) (by kernel_rfl) trivial hF266 ?_
      rintro a2 ha2 hF2; rw [ha2]; exact hK268 _ _ rfl (grown_refl _ _)
    · -- operation 2
      rintro a279 w278 b281 KK287 hs283 hd284 hJ285 hb286 hr292 hK282
      have hr292x : RD SL_ a279 a230 w278 [(5, none), (41, some 1)] := hr292 _ (by kernel_rfl)
      obtain ⟨q288, ⟨v290, q289, s291⟩, -⟩ := hr292x
      obtain rfl : v290 = .bool true := s291
      obtain ⟨HE, HB199, HE235⟩ := hJ285
      have hF280 : Fr 60 a279 [(5, .slice A31 ((dig 256 ((nv 256 xs) + (nv 256 ys))).length) c32), (41, .bool true)] := Fr.of hs283 hd284 ⟨(Fr.init hF232 q288 (by kernel_rfl)), q289, trivial⟩
      refine One.bare hF280 (by kernel_rfl) (s_pure hT (d := 42) (v := .slice A31 ((dig 256 ((nv 256 xs) + (nv 256 ys))).length) c32) (cs := []) (by kernel_rfl) (by kernel_rfl) trivial hF280 ?_)
      rintro a2 ha2 hF2; rw [ha2]; exact hK282 _ _ rfl (grown_refl _ _)
    · -- operation 3
      rintro a294 w293 b296 KK302 hs298 hd299 hJ300 hb301 hr307 hK297
      have hr307x : RD SL_ a294 a230 w293 [(5, none), (41, some 1)] := hr307 _ (by kernel_rfl)
      obtain ⟨q303, ⟨v305, q304, s306⟩, -⟩ := hr307x
      obtain rfl : v305 = .bool true := s306
      obtain ⟨HE, HB199, HE235⟩ := hJ300
      have hF295 : Fr 60 a294 [(5, .slice A31 ((dig 256 ((nv 256 xs) + (nv 256 ys))).length) c32), (41, .bool true)] := Fr.of hs298 hd299 ⟨(Fr.init hF232 q303 (by kernel_rfl)), q304, trivial⟩
      refine One.bare hF295 (by kernel_rfl) (s_pure hT (d := 43) (v := .slice A31 ((dig 256 ((nv 256 xs) + (nv 256 ys))).length) c32) (cs := []) (by kernel_rfl) (by kernel_rfl) trivial hF295 ?_)
      rintro a2 ha2 hF2; rw [ha2]; exact hK297 _ _ rfl (grown_refl _ _)
    · -- operation 4
      rintro a309 w308 b311 KK317 hs313 hd314 hJ315 hb316 hr327 hK312
      have hr327x : RD SL_ a309 a230 w308 [(42, some 2), (43, some 3), (41, some 1)] := hr327 _ (by kernel_rfl)
      obtain ⟨⟨v319, q318, s320⟩, ⟨v322, q321, s323⟩, ⟨v325, q324, s326⟩, -⟩ := hr327x
      obtain rfl : v319 = .slice A31 ((dig 256 ((nv 256 xs) + (nv 256 ys))).length) c32 := s320
      obtain rfl : v322 = .slice A31 ((dig 256 ((nv 256 xs) + (nv 256 ys))).length) c32 := s323
      obtain rfl : v325 = .bool true := s326
      obtain ⟨HE, HB199, HE235⟩ := hJ315
      have hF310 : Fr 60 a309 [(42, .slice A31 ((dig 256 ((nv 256 xs) + (nv 256 ys))).length) c32), (43, .slice A31 ((dig 256 ((nv 256 xs) + (nv 256 ys))).length) c32), (41, .bool true)] := Fr.of hs313 hd314 ⟨q318, q321, q324, trivial⟩
      have hz334 := HE.size
      have hz335 := HB199.lt
      have hz336 := HE235.size
      refine One.bare hF310 (by kernel_rfl) (s_call (d := 44) (f := 18) (l := [.slice A31 ((dig 256 ((nv 256 xs) + (nv 256 ys))).length) c32, .slice A31 ((dig 256 ((nv 256 xs) + (nv 256 ys))).length) c32]) (by kernel_rfl) hF310 cl18 (Mul' (A := A31) (n := ((dig 256 ((nv 256 xs) + (nv 256 ys))).length)) (c := c32) (x := ((nv 256 xs) + (nv 256 ys))) (xs := (dig 256 ((nv 256 xs) + (nv 256 ys)))) (A2 := A31) (n2 := ((dig 256 ((nv 256 xs) + (nv 256 ys))).length)) (c2 := c32) (y := ((nv 256 xs) + (nv 256 ys))) (ys := (dig 256 ((nv 256 xs) + (nv 256 ys)))) (w := _) (nvd _) (nvd _)  rfl rfl (HR236.ex HE235) (HR236.ex HE235) (by_dig _) (by_dig _) (Nat.le_trans (dlen (add_lt (m := 120) (nlen hbxs hlxs) (nlen hbys hlys) (by decide) (by decide))) (by decide)) (Nat.le_trans (dlen (add_lt (m := 120) (nlen hbxs hlxs) (nlen hbys hlys) (by decide) (by decide))) (by decide))) ?_)
      rintro a337 w331 v332 ⟨A328, c329, rfl, HX333, HO330⟩ ha339 hF338
      replace HE := HE.thenN HX333.g
      replace HB199 := HB199.growN HX333.g
      replace HE235 := HE235.thenN HX333.g
      have hcp340 := HO330.cap
      rw [ha339]; exact hK312 _ _ ⟨_, _, rfl, HO330.rd⟩ HX333.g
    · -- operation 5
      rintro a342 w341 b344 KK350 hs346 hd347 hJ348 hb349 hr360 hK345
      have hr360x : RD SL_ a342 a230 w341 [(44, some 4), (41, some 1)] := hr360 _ (by kernel_rfl)
      obtain ⟨⟨v352, q351, s353⟩, ⟨v358, q357, s359⟩, -⟩ := hr360x
      obtain ⟨A354, c355, rfl, HR356⟩ := s353
      obtain rfl : v358 = .bool true := s359
      obtain ⟨HE, HB199, HE235⟩ := hJ348
      have hF343 : Fr 60 a342 [(44, .slice A354 ((dig 256 (((nv 256 xs) + (nv 256 ys)) * ((nv 256 xs) + (nv 256 ys)))).length) c355), (41, .bool true)] := Fr.of hs346 hd347 ⟨q351, q357, trivial⟩
      refine One.bare hF343 (by kernel_rfl) (s_str hT (d := 45) (A := A354) (m := (dig 256 (((nv 256 xs) + (nv 256 ys)) * ((nv 256 xs) + (nv 256 ys)))).length) (xs := (dig 256 (((nv 256 xs) + (nv 256 ys)) * ((nv 256 xs) + (nv 256 ys))))) (by kernel_rfl) hF343 HR356 (by (first | (simp only [vs_length, vi_length]; omega) | (simp; omega) | omega)) ?_)
      rintro a361 ha363 hF362
      rw [ha363]; exact hK345 _ _ rfl (grown_refl _ _)
    · -- operation 6
      rintro a365 w364 b367 KK373 hs369 hd370 hJ371 hb372 hr378 hK368
      have hr378x : RD SL_ a365 a230 w364 [(7, none), (41, some 1)] := hr378 _ (by kernel_rfl)
      obtain ⟨q374, ⟨v376, q375, s377⟩, -⟩ := hr378x
      obtain rfl : v376 = .bool true := s377
      obtain ⟨HE, HB199, HE235⟩ := hJ371
      have hF366 : Fr 60 a365 [(7, .slice A130 ((dig 256 ((((nv 256 xs) * (nv 256 xs)) + ((nv 256 ys) * (nv 256 ys))) + (((nv 256 xs) * (nv 256 ys)) + ((nv 256 xs) * (nv 256 ys))))).length) c131), (41, .bool true)] := Fr.of hs369 hd370 ⟨(Fr.init hF232 q374 (by kernel_rfl)), q375, trivial⟩
      refine One.bare hF366 (by kernel_rfl) (s_pure hT (d := 46) (v := .slice A130 ((dig 256 ((((nv 256 xs) * (nv 256 xs)) + ((nv 256 ys) * (nv 256 ys))) + (((nv 256 xs) * (nv 256 ys)) + ((nv 256 xs) * (nv 256 ys))))).length) c131) (cs := []) (by kernel_rfl) (by kernel_rfl) trivial hF366 ?_)
      rintro a2 ha2 hF2; rw [ha2]; exact hK368 _ _ rfl (grown_refl _ _)
    · -- operation 7
      rintro a380 w379 b382 KK388 hs384 hd385 hJ386 hb387 hr395 hK383
      have hr395x : RD SL_ a380 a230 w379 [(46, some 6), (41, some 1)] := hr395 _ (by kernel_rfl)
      obtain ⟨⟨v390, q389, s391⟩, ⟨v393, q392, s394⟩, -⟩ := hr395x
      obtain rfl : v390 = .slice A130 ((dig 256 ((((nv 256 xs) * (nv 256 xs)) + ((nv 256 ys) * (nv 256 ys))) + (((nv 256 xs) * (nv 256 ys)) + ((nv 256 xs) * (nv 256 ys))))).length) c131 := s391
      obtain rfl : v393 = .bool true := s394
      obtain ⟨HE, HB199, HE235⟩ := hJ386
      have hF381 : Fr 60 a380 [(46, .slice A130 ((dig 256 ((((nv 256 xs) * (nv 256 xs)) + ((nv 256 ys) * (nv 256 ys))) + (((nv 256 xs) * (nv 256 ys)) + ((nv 256 xs) * (nv 256 ys))))).length) c131), (41, .bool true)] := Fr.of hs384 hd385 ⟨q389, q392, trivial⟩
      refine One.bare hF381 (by kernel_rfl) (s_str hT (d := 47) (A := A130) (m := (dig 256 ((((nv 256 xs) * (nv 256 xs)) + ((nv 256 ys) * (nv 256 ys))) + (((nv 256 xs) * (nv 256 ys)) + ((nv 256 xs) * (nv 256 ys))))).length) (xs := (dig 256 ((((nv 256 xs) * (nv 256 xs)) + ((nv 256 ys) * (nv 256 ys))) + (((nv 256 xs) * (nv 256 ys)) + ((nv 256 xs) * (nv 256 ys)))))) (by kernel_rfl) hF381 (HR242.ex HE235) (by (first | (simp only [vs_length, vi_length]; omega) | (simp; omega) | omega)) ?_)
      rintro a396 ha398 hF397
      rw [ha398]; exact hK383 _ _ rfl (grown_refl _ _)
    · -- operation 8
      rintro a400 w399 b402 KK408 hs404 hd405 hJ406 hb407 hr418 hK403
      have hr418x : RD SL_ a400 a230 w399 [(45, some 5), (47, some 7), (41, some 1)] := hr418 _ (by kernel_rfl)
      obtain ⟨⟨v410, q409, s411⟩, ⟨v413, q412, s414⟩, ⟨v416, q415, s417⟩, -⟩ := hr418x
      obtain rfl : v410 = .string (str (dig 256 (((nv 256 xs) + (nv 256 ys)) * ((nv 256 xs) + (nv 256 ys))))) := s411
      obtain rfl : v413 = .string (str (dig 256 ((((nv 256 xs) * (nv 256 xs)) + ((nv 256 ys) * (nv 256 ys))) + (((nv 256 xs) * (nv 256 ys)) + ((nv 256 xs) * (nv 256 ys)))))) := s414
      obtain rfl : v416 = .bool true := s417
      obtain ⟨HE, HB199, HE235⟩ := hJ406
      have hF401 : Fr 60 a400 [(45, .string (str (dig 256 (((nv 256 xs) + (nv 256 ys)) * ((nv 256 xs) + (nv 256 ys)))))), (47, .string (str (dig 256 ((((nv 256 xs) * (nv 256 xs)) + ((nv 256 ys) * (nv 256 ys))) + (((nv 256 xs) * (nv 256 ys)) + ((nv 256 xs) * (nv 256 ys))))))), (41, .bool true)] := Fr.of hs404 hd405 ⟨q409, q412, q415, trivial⟩
      refine One.bare hF401 (by kernel_rfl) (s_pure hT (d := 48) (v := .bool ((ByteArray.toList (str (dig 256 (((nv 256 xs) + (nv 256 ys)) * ((nv 256 xs) + (nv 256 ys))))) == ByteArray.toList (str (dig 256 ((((nv 256 xs) * (nv 256 xs)) + ((nv 256 ys) * (nv 256 ys))) + (((nv 256 xs) * (nv 256 ys)) + ((nv 256 xs) * (nv 256 ys))))))))) (cs := []) (by kernel_rfl) (by kernel_rfl) trivial hF401 ?_)
      have htr : ((ByteArray.toList (str (dig 256 (((nv 256 xs) + (nv 256 ys)) * ((nv 256 xs) + (nv 256 ys))))) == ByteArray.toList (str (dig 256 ((((nv 256 xs) * (nv 256 xs)) + ((nv 256 ys) * (nv 256 ys))) + (((nv 256 xs) * (nv 256 ys)) + ((nv 256 xs) * (nv 256 ys)))))))) = true := (str_eqT (dig_congr (sq_sum _ _)))
      rintro a2 ha2 hF2; rw [ha2]; exact hK403 _ _ (congrArg Value.bool htr) (grown_refl _ _)
    · -- operation 9
      rintro a420 w419 b422 KK428 hs424 hd425 hJ426 hb427 hr435 hK423
      have hr435x : RD SL_ a420 a230 w419 [(41, some 1), (48, some 8)] := hr435 _ (by kernel_rfl)
      obtain ⟨⟨v430, q429, s431⟩, ⟨v433, q432, s434⟩, -⟩ := hr435x
      obtain rfl : v430 = .bool true := s431
      obtain rfl : v433 = .bool true := s434
      obtain ⟨HE, HB199, HE235⟩ := hJ426
      have hF421 : Fr 60 a420 [(41, .bool true), (48, .bool true)] := Fr.of hs424 hd425 ⟨q429, q432, trivial⟩
      refine s_pure hT (d := 49) (v := .bool true) (cs := []) (by kernel_rfl) (by kernel_rfl) trivial hF421 ?_
      rintro a2 ha2 hF2; rw [ha2]; exact hK423 _ _ rfl (grown_refl _ _)
    · -- operation 10
      rintro a437 w436 b439 KK445 hs441 hd442 hJ443 hb444 hr449 hK440
      have hr449x : RD SL_ a437 a230 w436 [(49, some 9)] := hr449 _ (by kernel_rfl)
      obtain ⟨⟨v447, q446, s448⟩, -⟩ := hr449x
      obtain rfl : v447 = .bool true := s448
      obtain ⟨HE, HB199, HE235⟩ := hJ443
      have hF438 : Fr 60 a437 [(49, .bool true)] := Fr.of hs441 hd442 ⟨q446, trivial⟩
      refine s_pure hT (d := 50) (v := .bool true) (cs := []) (by kernel_rfl) (by kernel_rfl) trivial hF438 ?_
      rintro a2 ha2 hF2; rw [ha2]; exact hK440 _ _ rfl (grown_refl _ _)
    · -- operation 11
      rintro a451 w450 b453 KK459 hs455 hd456 hJ457 hb458 hr464 hK454
      have hr464x : RD SL_ a451 a230 w450 [(8, none), (50, some 10)] := hr464 _ (by kernel_rfl)
      obtain ⟨q460, ⟨v462, q461, s463⟩, -⟩ := hr464x
      obtain rfl : v462 = .bool true := s463
      obtain ⟨HE, HB199, HE235⟩ := hJ457
      have hF452 : Fr 60 a451 [(8, .int .i64 (cmpI ((nv 256 xs) * (nv 256 xs)) (nv 256 xs))), (50, .bool true)] := Fr.of hs455 hd456 ⟨(Fr.init hF232 q460 (by kernel_rfl)), q461, trivial⟩
      refine One.bare hF452 (by kernel_rfl) (s_pure hT (d := 51) (v := .int .i64 (cmpI ((nv 256 xs) * (nv 256 xs)) (nv 256 xs))) (cs := []) (by kernel_rfl) (by kernel_rfl) trivial hF452 ?_)
      rintro a2 ha2 hF2; rw [ha2]; exact hK454 _ _ rfl (grown_refl _ _)
    · -- operation 12
      rintro a466 w465 b468 KK474 hs470 hd471 hJ472 hb473 hr481 hK469
      have hr481x : RD SL_ a466 a230 w465 [(51, some 11), (50, some 10)] := hr481 _ (by kernel_rfl)
      obtain ⟨⟨v476, q475, s477⟩, ⟨v479, q478, s480⟩, -⟩ := hr481x
      obtain rfl : v476 = .int .i64 (cmpI ((nv 256 xs) * (nv 256 xs)) (nv 256 xs)) := s477
      obtain rfl : v479 = .bool true := s480
      obtain ⟨HE, HB199, HE235⟩ := hJ472
      have hF467 : Fr 60 a466 [(51, .int .i64 (cmpI ((nv 256 xs) * (nv 256 xs)) (nv 256 xs))), (50, .bool true)] := Fr.of hs470 hd471 ⟨q475, q478, trivial⟩
      refine One.bare hF467 (by kernel_rfl) (s_pure hT (d := 52) (v := .bool ((decide ((cmpI ((nv 256 xs) * (nv 256 xs)) (nv 256 xs)) = 0)))) (cs := []) (by kernel_rfl) (by kernel_rfl) trivial hF467 ?_)
      rintro a2 ha2 hF2; rw [ha2]; exact hK469 _ _ rfl (grown_refl _ _)
    · -- operation 13
      rintro a483 w482 b485 KK491 hs487 hd488 hJ489 hb490 hr496 hK486
      have hr496x : RD SL_ a483 a230 w482 [(9, none), (50, some 10)] := hr496 _ (by kernel_rfl)
      obtain ⟨q492, ⟨v494, q493, s495⟩, -⟩ := hr496x
      obtain rfl : v494 = .bool true := s495
      obtain ⟨HE, HB199, HE235⟩ := hJ489
      have hF484 : Fr 60 a483 [(9, .bool ((decide ((cmpI (nv 256 xs) 1) ≤ 0)))), (50, .bool true)] := Fr.of hs487 hd488 ⟨(Fr.init hF232 q492 (by kernel_rfl)), q493, trivial⟩
      refine One.bare hF484 (by kernel_rfl) (s_pure hT (d := 53) (v := .bool ((decide ((cmpI (nv 256 xs) 1) ≤ 0)))) (cs := []) (by kernel_rfl) (by kernel_rfl) trivial hF484 ?_)
      rintro a2 ha2 hF2; rw [ha2]; exact hK486 _ _ rfl (grown_refl _ _)
    · -- operation 14
      rintro a498 w497 b500 KK506 hs502 hd503 hJ504 hb505 hr516 hK501
      have hr516x : RD SL_ a498 a230 w497 [(52, some 12), (53, some 13), (50, some 10)] := hr516 _ (by kernel_rfl)
      obtain ⟨⟨v508, q507, s509⟩, ⟨v511, q510, s512⟩, ⟨v514, q513, s515⟩, -⟩ := hr516x
      obtain rfl : v508 = .bool ((decide ((cmpI ((nv 256 xs) * (nv 256 xs)) (nv 256 xs)) = 0))) := s509
      obtain rfl : v511 = .bool ((decide ((cmpI (nv 256 xs) 1) ≤ 0))) := s512
      obtain rfl : v514 = .bool true := s515
      obtain ⟨HE, HB199, HE235⟩ := hJ504
      have hF499 : Fr 60 a498 [(52, .bool ((decide ((cmpI ((nv 256 xs) * (nv 256 xs)) (nv 256 xs)) = 0)))), (53, .bool ((decide ((cmpI (nv 256 xs) 1) ≤ 0)))), (50, .bool true)] := Fr.of hs502 hd503 ⟨q507, q510, q513, trivial⟩
      refine One.bare hF499 (by kernel_rfl) (s_beq hT (d := 54) (b := ((decide ((cmpI ((nv 256 xs) * (nv 256 xs)) (nv 256 xs)) = 0)) == (decide ((cmpI (nv 256 xs) 1) ≤ 0)))) (by kernel_rfl) hF499 ?_)
      rintro a517 ha519 hF518
      rw [ha519]; exact hK501 _ _ (congrArg Value.bool ((beq_dec (sq_one _)) : (((decide ((cmpI ((nv 256 xs) * (nv 256 xs)) (nv 256 xs)) = 0)) == (decide ((cmpI (nv 256 xs) 1) ≤ 0)))) = true)) (grown_refl _ _)
    · -- operation 15
      rintro a521 w520 b523 KK529 hs525 hd526 hJ527 hb528 hr536 hK524
      have hr536x : RD SL_ a521 a230 w520 [(50, some 10), (54, some 14)] := hr536 _ (by kernel_rfl)
      obtain ⟨⟨v531, q530, s532⟩, ⟨v534, q533, s535⟩, -⟩ := hr536x
      obtain rfl : v531 = .bool true := s532
      obtain rfl : v534 = .bool true := s535
      obtain ⟨HE, HB199, HE235⟩ := hJ527
      have hF522 : Fr 60 a521 [(50, .bool true), (54, .bool true)] := Fr.of hs525 hd526 ⟨q530, q533, trivial⟩
      refine s_pure hT (d := 55) (v := .bool true) (cs := []) (by kernel_rfl) (by kernel_rfl) trivial hF522 ?_
      rintro a2 ha2 hF2; rw [ha2]; exact hK524 _ _ rfl (grown_refl _ _)
    · -- operation 16
      rintro a538 w537 b540 KK546 hs542 hd543 hJ544 hb545 hr550 hK541
      have hr550x : RD SL_ a538 a230 w537 [(55, some 15)] := hr550 _ (by kernel_rfl)
      obtain ⟨⟨v548, q547, s549⟩, -⟩ := hr550x
      obtain rfl : v548 = .bool true := s549
      obtain ⟨HE, HB199, HE235⟩ := hJ544
      have hF539 : Fr 60 a538 [(55, .bool true)] := Fr.of hs542 hd543 ⟨q547, trivial⟩
      refine s_pure hT (d := 56) (v := .bool true) (cs := []) (by kernel_rfl) (by kernel_rfl) trivial hF539 ?_
      rintro a2 ha2 hF2; rw [ha2]; exact hK541 _ _ rfl (grown_refl _ _)
    · -- operation 17
      rintro a552 w551 b554 KK560 hs556 hd557 hJ558 hb559 hr565 hK555
      have hr565x : RD SL_ a552 a230 w551 [(8, none), (56, some 16)] := hr565 _ (by kernel_rfl)
      obtain ⟨q561, ⟨v563, q562, s564⟩, -⟩ := hr565x
      obtain rfl : v563 = .bool true := s564
      obtain ⟨HE, HB199, HE235⟩ := hJ558
      have hF553 : Fr 60 a552 [(8, .int .i64 (cmpI ((nv 256 xs) * (nv 256 xs)) (nv 256 xs))), (56, .bool true)] := Fr.of hs556 hd557 ⟨(Fr.init hF232 q561 (by kernel_rfl)), q562, trivial⟩
      refine One.bare hF553 (by kernel_rfl) (s_pure hT (d := 57) (v := .int .i64 (cmpI ((nv 256 xs) * (nv 256 xs)) (nv 256 xs))) (cs := []) (by kernel_rfl) (by kernel_rfl) trivial hF553 ?_)
      rintro a2 ha2 hF2; rw [ha2]; exact hK555 _ _ rfl (grown_refl _ _)
    · -- operation 18
      rintro a567 w566 b569 KK575 hs571 hd572 hJ573 hb574 hr582 hK570
      have hr582x : RD SL_ a567 a230 w566 [(57, some 17), (56, some 16)] := hr582 _ (by kernel_rfl)
      obtain ⟨⟨v577, q576, s578⟩, ⟨v580, q579, s581⟩, -⟩ := hr582x
      obtain rfl : v577 = .int .i64 (cmpI ((nv 256 xs) * (nv 256 xs)) (nv 256 xs)) := s578
      obtain rfl : v580 = .bool true := s581
      obtain ⟨HE, HB199, HE235⟩ := hJ573
      have hF568 : Fr 60 a567 [(57, .int .i64 (cmpI ((nv 256 xs) * (nv 256 xs)) (nv 256 xs))), (56, .bool true)] := Fr.of hs571 hd572 ⟨q576, q579, trivial⟩
      refine One.bare hF568 (by kernel_rfl) (s_pure hT (d := 58) (v := .bool ((decide (0 ≤ (cmpI ((nv 256 xs) * (nv 256 xs)) (nv 256 xs)))))) (cs := []) (by kernel_rfl) (by kernel_rfl) trivial hF568 ?_)
      have htr : ((decide (0 ≤ (cmpI ((nv 256 xs) * (nv 256 xs)) (nv 256 xs))))) = true := (decide_eq_true (cmpI_ge.2 (sq_ge _)))
      rintro a2 ha2 hF2; rw [ha2]; exact hK570 _ _ (congrArg Value.bool htr) (grown_refl _ _)
    · -- operation 19
      rintro a584 w583 b586 KK592 hs588 hd589 hJ590 hb591 hr599 hK587
      have hr599x : RD SL_ a584 a230 w583 [(56, some 16), (58, some 18)] := hr599 _ (by kernel_rfl)
      obtain ⟨⟨v594, q593, s595⟩, ⟨v597, q596, s598⟩, -⟩ := hr599x
      obtain rfl : v594 = .bool true := s595
      obtain rfl : v597 = .bool true := s598
      obtain ⟨HE, HB199, HE235⟩ := hJ590
      have hF585 : Fr 60 a584 [(56, .bool true), (58, .bool true)] := Fr.of hs588 hd589 ⟨q593, q596, trivial⟩
      refine s_pure hT (d := 59) (v := .bool true) (cs := []) (by kernel_rfl) (by kernel_rfl) trivial hF585 ?_
      rintro a2 ha2 hF2; rw [ha2]; exact hK587 _ _ rfl (grown_refl _ _)
    · -- operation 20
      rintro a601 w600 b603 KK609 hs605 hd606 hJ607 hb608 hr613 hK604
      have hr613x : RD SL_ a601 a230 w600 [(59, some 19)] := hr613 _ (by kernel_rfl)
      obtain ⟨⟨v611, q610, s612⟩, -⟩ := hr613x
      obtain rfl : v611 = .bool true := s612
      obtain ⟨HE, HB199, HE235⟩ := hJ607
      have hF602 : Fr 60 a601 [(59, .bool true)] := Fr.of hs605 hd606 ⟨q610, trivial⟩
      refine s_pure hT (d := 4) (v := .bool true) (cs := []) (by kernel_rfl) (by kernel_rfl) trivial hF602 ?_
      rintro a2 ha2 hF2; rw [ha2]; exact hK604 _ _ rfl (grown_refl _ _)
    · -- behind the region
      rintro a615 w616 hs617 hd618 ⟨⟨v620, q621, s622⟩, q623, q624, q625, q626, q627, q628, q629, q630, -⟩ ⟨HE, HB199, HE235⟩
      obtain rfl : v620 = .bool true := s622
      have hF631 : Fr 60 a615 [(4, .bool true), (9, .bool ((decide ((cmpI (nv 256 xs) 1) ≤ 0)))), (8, .int .i64 (cmpI ((nv 256 xs) * (nv 256 xs)) (nv 256 xs))), (7, .slice A130 ((dig 256 ((((nv 256 xs) * (nv 256 xs)) + ((nv 256 ys) * (nv 256 ys))) + (((nv 256 xs) * (nv 256 ys)) + ((nv 256 xs) * (nv 256 ys))))).length) c131), (6, .slice A49 ((dig 256 ((nv 256 xs) * (nv 256 ys))).length) c50), (5, .slice A31 ((dig 256 ((nv 256 xs) + (nv 256 ys))).length) c32), (13, .bool (!(decide ((xs.length ≤ 120 ∧ ys.length ≤ 120))))), (0, .slice Ax xs.length cx), (1, .slice Ay ys.length cy)] := Fr.of hs617 hd618 ⟨q621, (Fr.init hF232 q623 (by kernel_rfl)), (Fr.init hF232 q624 (by kernel_rfl)), (Fr.init hF232 q625 (by kernel_rfl)), (Fr.init hF232 q626 (by kernel_rfl)), (Fr.init hF232 q627 (by kernel_rfl)), (Fr.init hF232 q628 (by kernel_rfl)), (Fr.init hF232 q629 (by kernel_rfl)), (Fr.init hF232 q630 (by kernel_rfl)), trivial⟩
      clear hF232 hs617 hd618 q621 q623 q624 q625 q626 q627 q628 q629 q630
      refine hK234 _ _ ?_
      refine wp_ret ?_
      refine ret1 hF631 rfl (v := .bool true) (by kernel_rfl) ?_
      exact ⟨rfl, HE⟩

set_option maxHeartbeats 4000000 in
theorem law15_rests (Ax : Option Addr) (cx : Nat) (xs : List Nat) (Ay : Option Addr) (cy : Nat) (ys : List Nat) (Am : Option Addr) (cm : Nat) (ms : List Nat) (w : World) (hxs : Rd w Ax (vs .u8 xs)) (hbxs : By xs) (hmxs : xs.length ≤ 9223372036854775807) (hys : Rd w Ay (vs .u8 ys)) (hbys : By ys) (hmys : ys.length ≤ 9223372036854775807) (hms : Rd w Am (vs .u8 ms)) (hbms : By ms) (hmms : ms.length ≤ 9223372036854775807) :
    Calls Try.prog 7 [.slice Ax xs.length cx, .slice Ay ys.length cy, .slice Am ms.length cm].toArray w (Ret fun v w' => v = .bool true ∧ Ex w w') := by
  refine enter Try.func7 rfl (n := 151) Try.ntmps7 (by simp) ?_
  intro a hF
  have HE : Ex w w := Ex.refl w
  refine wp_seq_k (fun K1 hK2 => ?_)
  refine wp_region_lit ?_
  refine pures_end hT 1 _ hF (F' := [(6, .bool false), (0, .slice Ax xs.length cx), (1, .slice Ay ys.length cy), (2, .slice Am ms.length cm)]) (cs := []) (by kernel_rfl) rfl trivial ?_
  intro a3 hF4; clear hF a
  refine hK2 _ _ ?_
  refine wp_seq_k (fun K5 hK6 => ?_)
  refine wp_seq_k (fun K7 hK8 => ?_)
  refine wp_region_lit ?_
  refine pures hT 2 _ hF4 (F' := [(22, .slice Ay ys.length cy), (21, .slice Ax xs.length cx), (6, .bool false), (0, .slice Ax xs.length cx), (1, .slice Ay ys.length cy), (2, .slice Am ms.length cm)]) (cs := []) (by kernel_rfl) trivial ?_
  intro a9 hF10; clear hF4 a3
  have hz14 := HE.size
  refine wl (s_call (d := 23) (f := 12) (l := [.slice Ax xs.length cx, .slice Ay ys.length cy]) (by kernel_rfl) hF10 cl12 (law15_small Ax xs.length cx Ay ys.length cy _ (by omega) (by omega)) ?_)
  rintro a15 w11 v12 ⟨rfl, HX13⟩ ha17 hF16; clear ha17 hF10 a9
  replace HE := HE.thenN HX13.g
  refine pures hT 2 _ hF16 (F' := [(25, .bool (!(decide ((xs.length ≤ 120 ∧ ys.length ≤ 120))))), (24, .bool (!(decide ((xs.length ≤ 120 ∧ ys.length ≤ 120))))), (23, .bool ((decide ((xs.length ≤ 120 ∧ ys.length ≤ 120))))), (22, .slice Ay ys.length cy), (21, .slice Ax xs.length cx), (6, .bool false), (0, .slice Ax xs.length cx), (1, .slice Ay ys.length cy), (2, .slice Am ms.length cm)]) (cs := []) (by kernel_rfl) trivial ?_
  intro a18 hF19; clear hF16 a15
  rcases dec_cases ((xs.length ≤ 120 ∧ ys.length ≤ 120)) with ⟨h20, e21⟩ | ⟨h20, e21⟩
  · rw [e21] at hF19; clear e21; simp only [Bool.not_true, Bool.not_false] at hF19
    refine pures_end hT 4 _ hF19 (F' := [(29, .bool ((decide (120 < ((ms.length : Nat) : Int))))), (28, .bool ((decide (120 < ((ms.length : Nat) : Int))))), (27, .int .i64 ((ms.length : Nat) : Int)), (26, .slice Am ms.length cm), (25, .bool false), (24, .bool false), (23, .bool true), (22, .slice Ay ys.length cy), (21, .slice Ax xs.length cx), (6, .bool false), (0, .slice Ax xs.length cx), (1, .slice Ay ys.length cy), (2, .slice Am ms.length cm)]) (cs := []) (by kernel_rfl) rfl trivial ?_
    intro a22 hF23; clear hF19 a18
    have hF24 := hF23.pick [29, 6, 0, 1, 2] (G := [(29, .bool ((decide (120 < ((ms.length : Nat) : Int))))), (6, .bool false), (0, .slice Ax xs.length cx), (1, .slice Ay ys.length cy), (2, .slice Am ms.length cm)]) (by kernel_rfl); clear hF23
    refine hK8 _ _ ?_
    refine condK hF24 (p := 120 < ((ms.length : Nat) : Int)) (by kernel_rfl) (fun h25 => ?_) (fun h25 => ?_)
    · -- h25
      refine wp_seq_k (fun K26 hK27 => ?_)
      refine wp_region_lit ?_
      refine pures_end hT 1 _ hF24 (F' := [(6, .bool true), (29, .bool ((decide (120 < ((ms.length : Nat) : Int))))), (6, .bool false), (0, .slice Ax xs.length cx), (1, .slice Ay ys.length cy), (2, .slice Am ms.length cm)]) (cs := []) (by kernel_rfl) rfl trivial ?_
      intro a28 hF29; clear hF24 a22
      have hF30 := hF29.pick [6, 29, 0, 1, 2] (G := [(6, .bool true), (29, .bool ((decide (120 < ((ms.length : Nat) : Int))))), (0, .slice Ax xs.length cx), (1, .slice Ay ys.length cy), (2, .slice Am ms.length cm)]) (by kernel_rfl); clear hF29
      refine hK27 _ _ ?_
      refine wp_ret ?_
      refine ret1 hF30 rfl (v := .bool true) (by kernel_rfl) ?_
      exact ⟨rfl, HE⟩
    · -- h25
      refine wp_skip ?_
      refine hK6 _ _ ?_
      refine wp_seq_k (fun K31 hK32 => ?_)
      rcases Nat.eq_zero_or_pos (nv 256 ms) with hmod | hmod
      · -- side 0
        have hlxs : xs.length ≤ 120 := by omega
        have hlys : ys.length ≤ 120 := by omega
        have hlms : ms.length ≤ 120 := by omega
        refine wp_region_lit ?_
        refine pures hT 2 _ hF24 (F' := [(32, .slice Am ms.length cm), (31, .slice Ax xs.length cx), (29, .bool ((decide (120 < ((ms.length : Nat) : Int))))), (6, .bool false), (0, .slice Ax xs.length cx), (1, .slice Ay ys.length cy), (2, .slice Am ms.length cm)]) (cs := []) (by kernel_rfl) trivial ?_
        intro a33 hF34; clear hF24 a22
        have hz41 := HE.size
        refine wl (s_call (d := 33) (f := 13) (l := [.slice Ax xs.length cx, .slice Am ms.length cm]) (by kernel_rfl) hF34 cl13 (Mod0' (A := Ax) (n := xs.length) (c := cx) (x := (nv 256 xs)) (xs := xs) (A2 := Am) (n2 := ms.length) (c2 := cm) (y := (nv 256 ms)) (ys := ms) (w := _) rfl rfl hmod rfl rfl (hxs.ex HE) (hms.ex HE) hbxs hbms (Nat.le_trans hlxs (by decide)) (Nat.le_trans hlms (by decide))) ?_)
        rintro a42 w38 v39 ⟨A35, c36, rfl, HX40, HO37⟩ ha44 hF43; clear ha44 hF34 a33
        replace HE := HE.thenN HX40.g
        have hcp45 := HO37.cap
        refine pures_end hT 5 _ hF43 (F' := [(8, .int .i64 20), (7, .slice A35 0 c36), (35, .int .i64 20), (34, .slice A35 0 c36), (30, .tuple #[.slice A35 0 c36, .int .i64 20]), (33, .tuple #[.slice A35 0 c36, .int .i64 20]), (32, .slice Am ms.length cm), (31, .slice Ax xs.length cx), (29, .bool ((decide (120 < ((ms.length : Nat) : Int))))), (6, .bool false), (0, .slice Ax xs.length cx), (1, .slice Ay ys.length cy), (2, .slice Am ms.length cm)]) (cs := []) (by kernel_rfl) rfl trivial ?_
        intro a46 hF47; clear hF43 a42
        have hF48 := hF47.pick [8, 7, 29, 6, 0, 1, 2] (G := [(8, .int .i64 20), (7, .slice A35 0 c36), (29, .bool ((decide (120 < ((ms.length : Nat) : Int))))), (6, .bool false), (0, .slice Ax xs.length cx), (1, .slice Ay ys.length cy), (2, .slice Am ms.length cm)]) (by kernel_rfl); clear hF47
        refine hK32 _ _ ?_
        refine wp_seq_k (fun K49 hK50 => ?_)
        refine wp_seq_k (fun K51 hK52 => ?_)
        refine wp_region_lit ?_
        refine pures_end hT 2 _ hF48 (F' := [(37, .bool true), (36, .int .i64 20), (8, .int .i64 20), (7, .slice A35 0 c36), (29, .bool ((decide (120 < ((ms.length : Nat) : Int))))), (6, .bool false), (0, .slice Ax xs.length cx), (1, .slice Ay ys.length cy), (2, .slice Am ms.length cm)]) (cs := []) (by kernel_rfl) rfl trivial ?_
        intro a53 hF54; clear hF48 a46
        have hF55 := hF54.pick [37, 8, 7, 29, 6, 0, 1, 2] (G := [(37, .bool true), (8, .int .i64 20), (7, .slice A35 0 c36), (29, .bool ((decide (120 < ((ms.length : Nat) : Int))))), (6, .bool false), (0, .slice Ax xs.length cx), (1, .slice Ay ys.length cy), (2, .slice Am ms.length cm)]) (by kernel_rfl); clear hF54
        refine hK52 _ _ ?_
        refine condT hF55 (by kernel_rfl) ?_
        refine wp_seq_k (fun K56 hK57 => ?_)
        refine wp_region_lit ?_
        have hz61 := HE.size
        have hz62 := HO37.base
        refine wl (s_call (d := 38) (f := 14) (l := []) (by kernel_rfl) hF55 cl14 (law15_awake _) ?_)
        rintro a63 w58 v59 ⟨rfl, HX60⟩ ha65 hF64; clear ha65 hF55 a53
        replace HE := HE.thenN HX60.g
        replace HO37 := HO37.growN HX60.g
        refine pures hT 7 _ hF64 (F' := [(45, .slice Am ms.length cm), (44, .bool true), (43, .bool true), (42, .bool true), (41, .int .i64 0), (40, .slice A35 0 c36), (39, .bool true), (38, .bool true), (37, .bool true), (8, .int .i64 20), (7, .slice A35 0 c36), (29, .bool ((decide (120 < ((ms.length : Nat) : Int))))), (6, .bool false), (0, .slice Ax xs.length cx), (1, .slice Ay ys.length cy), (2, .slice Am ms.length cm)]) (cs := []) (by kernel_rfl) trivial ?_
        intro a66 hF67; clear hF64 a63
        have hz74 := HE.size
        have hz75 := HO37.base
        refine wl (One.bare hF67 (by kernel_rfl) (s_call (d := 46) (f := 19) (l := [.slice Am ms.length cm]) (by kernel_rfl) hF67 cl19 (Norm' (A := Am) (n := ms.length) (c := cm) (x := (nv 256 ms)) (xs := ms) (w := _) rfl rfl (hms.ex HE) hbms (Nat.le_trans hlms (by decide))) ?_))
        rintro a76 w71 v72 ⟨A68, c69, rfl, HX73, HO70⟩ ha78 hF77; clear ha78 hF67 a66
        replace HE := HE.thenN HX73.g
        replace HO37 := HO37.growN HX73.g
        have hcp79 := HO70.cap
        refine pures hT 2 _ hF77 (F' := [(48, .bool ((decide ((((dig 256 (nv 256 ms)).length : Nat) : Int) = 0)))), (47, .int .i64 (((dig 256 (nv 256 ms)).length : Nat) : Int)), (46, .slice A68 ((dig 256 (nv 256 ms)).length) c69), (45, .slice Am ms.length cm), (44, .bool true), (43, .bool true), (42, .bool true), (41, .int .i64 0), (40, .slice A35 0 c36), (39, .bool true), (38, .bool true), (37, .bool true), (8, .int .i64 20), (7, .slice A35 0 c36), (29, .bool ((decide (120 < ((ms.length : Nat) : Int))))), (6, .bool false), (0, .slice Ax xs.length cx), (1, .slice Ay ys.length cy), (2, .slice Am ms.length cm)]) (cs := []) (by kernel_rfl) trivial ?_
        intro a80 hF81; clear hF77 a76
        have hF82 : Fr 151 a80 [(48, .bool true), (47, .int .i64 (((dig 256 (nv 256 ms)).length : Nat) : Int)), (46, .slice A68 ((dig 256 (nv 256 ms)).length) c69), (45, .slice Am ms.length cm), (44, .bool true), (43, .bool true), (42, .bool true), (41, .int .i64 0), (40, .slice A35 0 c36), (39, .bool true), (38, .bool true), (37, .bool true), (8, .int .i64 20), (7, .slice A35 0 c36), (29, .bool ((decide (120 < ((ms.length : Nat) : Int))))), (6, .bool false), (0, .slice Ax xs.length cx), (1, .slice Ay ys.length cy), (2, .slice Am ms.length cm)] := by rw [show ((decide ((((dig 256 (nv 256 ms)).length : Nat) : Int) = 0))) = true from (decide_eq_true (by have := len0 (nv 256 ms) hmod; omega))] at hF81; exact hF81
        clear hF81
        refine pures_end hT 2 _ hF82 (F' := [(6, .bool true), (49, .bool true), (48, .bool true), (47, .int .i64 (((dig 256 (nv 256 ms)).length : Nat) : Int)), (46, .slice A68 ((dig 256 (nv 256 ms)).length) c69), (45, .slice Am ms.length cm), (44, .bool true), (43, .bool true), (42, .bool true), (41, .int .i64 0), (40, .slice A35 0 c36), (39, .bool true), (38, .bool true), (37, .bool true), (8, .int .i64 20), (7, .slice A35 0 c36), (29, .bool ((decide (120 < ((ms.length : Nat) : Int))))), (6, .bool false), (0, .slice Ax xs.length cx), (1, .slice Ay ys.length cy), (2, .slice Am ms.length cm)]) (cs := []) (by kernel_rfl) rfl trivial ?_
        intro a83 hF84; clear hF82 a80
        have hF85 := hF84.pick [6, 37, 8, 7, 29, 0, 1, 2] (G := [(6, .bool true), (37, .bool true), (8, .int .i64 20), (7, .slice A35 0 c36), (29, .bool ((decide (120 < ((ms.length : Nat) : Int))))), (0, .slice Ax xs.length cx), (1, .slice Ay ys.length cy), (2, .slice Am ms.length cm)]) (by kernel_rfl); clear hF84
        refine hK57 _ _ ?_
        refine wp_ret ?_
        refine ret1 hF85 rfl (v := .bool true) (by kernel_rfl) ?_
        exact ⟨rfl, HE⟩
      · -- side 1
        have hlxs : xs.length ≤ 120 := by omega
        have hlys : ys.length ≤ 120 := by omega
        have hlms : ms.length ≤ 120 := by omega
        refine wp_region_lit ?_
        refine pures hT 2 _ hF24 (F' := [(32, .slice Am ms.length cm), (31, .slice Ax xs.length cx), (29, .bool ((decide (120 < ((ms.length : Nat) : Int))))), (6, .bool false), (0, .slice Ax xs.length cx), (1, .slice Ay ys.length cy), (2, .slice Am ms.length cm)]) (cs := []) (by kernel_rfl) trivial ?_
        intro a86 hF87; clear hF24 a22
        have hz94 := HE.size
        refine wl (s_call (d := 33) (f := 13) (l := [.slice Ax xs.length cx, .slice Am ms.length cm]) (by kernel_rfl) hF87 cl13 (Mod1' (A := Ax) (n := xs.length) (c := cx) (x := (nv 256 xs)) (xs := xs) (A2 := Am) (n2 := ms.length) (c2 := cm) (y := (nv 256 ms)) (ys := ms) (w := _) rfl rfl hmod rfl rfl (hxs.ex HE) (hms.ex HE) hbxs hbms (Nat.le_trans hlxs (by decide)) (Nat.le_trans hlms (by decide))) ?_)
        rintro a95 w91 v92 ⟨A88, c89, rfl, HX93, HO90⟩ ha97 hF96; clear ha97 hF87 a86
        replace HE := HE.thenN HX93.g
        have hcp98 := HO90.cap
        refine pures_end hT 5 _ hF96 (F' := [(8, .int .i64 0), (7, .slice A88 ((dig 256 ((nv 256 xs) % (nv 256 ms))).length) c89), (35, .int .i64 0), (34, .slice A88 ((dig 256 ((nv 256 xs) % (nv 256 ms))).length) c89), (30, .tuple #[.slice A88 ((dig 256 ((nv 256 xs) % (nv 256 ms))).length) c89, .int .i64 0]), (33, .tuple #[.slice A88 ((dig 256 ((nv 256 xs) % (nv 256 ms))).length) c89, .int .i64 0]), (32, .slice Am ms.length cm), (31, .slice Ax xs.length cx), (29, .bool ((decide (120 < ((ms.length : Nat) : Int))))), (6, .bool false), (0, .slice Ax xs.length cx), (1, .slice Ay ys.length cy), (2, .slice Am ms.length cm)]) (cs := []) (by kernel_rfl) rfl trivial ?_
        intro a99 hF100; clear hF96 a95
        have hF101 := hF100.pick [8, 7, 29, 6, 0, 1, 2] (G := [(8, .int .i64 0), (7, .slice A88 ((dig 256 ((nv 256 xs) % (nv 256 ms))).length) c89), (29, .bool ((decide (120 < ((ms.length : Nat) : Int))))), (6, .bool false), (0, .slice Ax xs.length cx), (1, .slice Ay ys.length cy), (2, .slice Am ms.length cm)]) (by kernel_rfl); clear hF100
        refine hK32 _ _ ?_
        refine wp_seq_k (fun K102 hK103 => ?_)
        refine wp_seq_k (fun K104 hK105 => ?_)
        refine wp_region_lit ?_
        refine pures_end hT 2 _ hF101 (F' := [(37, .bool false), (36, .int .i64 0), (8, .int .i64 0), (7, .slice A88 ((dig 256 ((nv 256 xs) % (nv 256 ms))).length) c89), (29, .bool ((decide (120 < ((ms.length : Nat) : Int))))), (6, .bool false), (0, .slice Ax xs.length cx), (1, .slice Ay ys.length cy), (2, .slice Am ms.length cm)]) (cs := []) (by kernel_rfl) rfl trivial ?_
        intro a106 hF107; clear hF101 a99
        have hF108 := hF107.pick [37, 8, 7, 29, 6, 0, 1, 2] (G := [(37, .bool false), (8, .int .i64 0), (7, .slice A88 ((dig 256 ((nv 256 xs) % (nv 256 ms))).length) c89), (29, .bool ((decide (120 < ((ms.length : Nat) : Int))))), (6, .bool false), (0, .slice Ax xs.length cx), (1, .slice Ay ys.length cy), (2, .slice Am ms.length cm)]) (by kernel_rfl); clear hF107
        refine hK105 _ _ ?_
        refine condF hF108 (by kernel_rfl) ?_
        refine wp_skip ?_
        refine hK103 _ _ ?_
        refine wp_seq_k (fun K109 hK110 => ?_)
        refine wp_region_lit ?_
        refine pures hT 2 _ hF108 (F' := [(52, .slice Am ms.length cm), (51, .slice Ay ys.length cy), (37, .bool false), (8, .int .i64 0), (7, .slice A88 ((dig 256 ((nv 256 xs) % (nv 256 ms))).length) c89), (29, .bool ((decide (120 < ((ms.length : Nat) : Int))))), (6, .bool false), (0, .slice Ax xs.length cx), (1, .slice Ay ys.length cy), (2, .slice Am ms.length cm)]) (cs := []) (by kernel_rfl) trivial ?_
        intro a111 hF112; clear hF108 a106
        have hz119 := HE.size
        have hz120 := HO90.base
        refine wl (s_call (d := 53) (f := 13) (l := [.slice Ay ys.length cy, .slice Am ms.length cm]) (by kernel_rfl) hF112 cl13 (Mod1' (A := Ay) (n := ys.length) (c := cy) (x := (nv 256 ys)) (xs := ys) (A2 := Am) (n2 := ms.length) (c2 := cm) (y := (nv 256 ms)) (ys := ms) (w := _) rfl rfl hmod rfl rfl (hys.ex HE) (hms.ex HE) hbys hbms (Nat.le_trans hlys (by decide)) (Nat.le_trans hlms (by decide))) ?_)
        rintro a121 w116 v117 ⟨A113, c114, rfl, HX118, HO115⟩ ha123 hF122; clear ha123 hF112 a111
        replace HE := HE.thenN HX118.g
        replace HO90 := HO90.growN HX118.g
        have hcp124 := HO115.cap
        refine pures_end hT 5 _ hF122 (F' := [(10, .int .i64 0), (9, .slice A113 ((dig 256 ((nv 256 ys) % (nv 256 ms))).length) c114), (55, .int .i64 0), (54, .slice A113 ((dig 256 ((nv 256 ys) % (nv 256 ms))).length) c114), (50, .tuple #[.slice A113 ((dig 256 ((nv 256 ys) % (nv 256 ms))).length) c114, .int .i64 0]), (53, .tuple #[.slice A113 ((dig 256 ((nv 256 ys) % (nv 256 ms))).length) c114, .int .i64 0]), (52, .slice Am ms.length cm), (51, .slice Ay ys.length cy), (37, .bool false), (8, .int .i64 0), (7, .slice A88 ((dig 256 ((nv 256 xs) % (nv 256 ms))).length) c89), (29, .bool ((decide (120 < ((ms.length : Nat) : Int))))), (6, .bool false), (0, .slice Ax xs.length cx), (1, .slice Ay ys.length cy), (2, .slice Am ms.length cm)]) (cs := []) (by kernel_rfl) rfl trivial ?_
        intro a125 hF126; clear hF122 a121
        have hF127 := hF126.pick [10, 9, 37, 8, 7, 29, 6, 0, 1, 2] (G := [(10, .int .i64 0), (9, .slice A113 ((dig 256 ((nv 256 ys) % (nv 256 ms))).length) c114), (37, .bool false), (8, .int .i64 0), (7, .slice A88 ((dig 256 ((nv 256 xs) % (nv 256 ms))).length) c89), (29, .bool ((decide (120 < ((ms.length : Nat) : Int))))), (6, .bool false), (0, .slice Ax xs.length cx), (1, .slice Ay ys.length cy), (2, .slice Am ms.length cm)]) (by kernel_rfl); clear hF126
        refine hK110 _ _ ?_
        refine wp_seq_k (fun K128 hK129 => ?_)
        refine wp_region_lit ?_
        refine pures hT 2 _ hF127 (F' := [(58, .slice Ay ys.length cy), (57, .slice Ax xs.length cx), (10, .int .i64 0), (9, .slice A113 ((dig 256 ((nv 256 ys) % (nv 256 ms))).length) c114), (37, .bool false), (8, .int .i64 0), (7, .slice A88 ((dig 256 ((nv 256 xs) % (nv 256 ms))).length) c89), (29, .bool ((decide (120 < ((ms.length : Nat) : Int))))), (6, .bool false), (0, .slice Ax xs.length cx), (1, .slice Ay ys.length cy), (2, .slice Am ms.length cm)]) (cs := []) (by kernel_rfl) trivial ?_
        intro a130 hF131; clear hF127 a125
        have hz138 := HE.size
        have hz139 := HO90.base
        have hz140 := HO115.base
        refine wl (s_call (d := 59) (f := 17) (l := [.slice Ax xs.length cx, .slice Ay ys.length cy]) (by kernel_rfl) hF131 cl17 (Add' (A := Ax) (n := xs.length) (c := cx) (x := (nv 256 xs)) (xs := xs) (A2 := Ay) (n2 := ys.length) (c2 := cy) (y := (nv 256 ys)) (ys := ys) (w := _) rfl rfl  rfl rfl (hxs.ex HE) (hys.ex HE) hbxs hbys (Nat.le_trans hlxs (by decide)) (Nat.le_trans hlys (by decide))) ?_)
        rintro a141 w135 v136 ⟨A132, c133, rfl, HX137, HO134⟩ ha143 hF142; clear ha143 hF131 a130
        replace HE := HE.thenN HX137.g
        replace HO90 := HO90.growN HX137.g
        replace HO115 := HO115.growN HX137.g
        have hcp144 := HO134.cap
        refine pures hT 1 _ hF142 (F' := [(60, .slice Am ms.length cm), (59, .slice A132 ((dig 256 ((nv 256 xs) + (nv 256 ys))).length) c133), (58, .slice Ay ys.length cy), (57, .slice Ax xs.length cx), (10, .int .i64 0), (9, .slice A113 ((dig 256 ((nv 256 ys) % (nv 256 ms))).length) c114), (37, .bool false), (8, .int .i64 0), (7, .slice A88 ((dig 256 ((nv 256 xs) % (nv 256 ms))).length) c89), (29, .bool ((decide (120 < ((ms.length : Nat) : Int))))), (6, .bool false), (0, .slice Ax xs.length cx), (1, .slice Ay ys.length cy), (2, .slice Am ms.length cm)]) (cs := []) (by kernel_rfl) trivial ?_
        intro a145 hF146; clear hF142 a141
        have hz153 := HE.size
        have hz154 := HO90.base
        have hz155 := HO115.base
        have hz156 := HO134.base
        refine wl (s_call (d := 61) (f := 13) (l := [.slice A132 ((dig 256 ((nv 256 xs) + (nv 256 ys))).length) c133, .slice Am ms.length cm]) (by kernel_rfl) hF146 cl13 (Mod1' (A := A132) (n := ((dig 256 ((nv 256 xs) + (nv 256 ys))).length)) (c := c133) (x := ((nv 256 xs) + (nv 256 ys))) (xs := (dig 256 ((nv 256 xs) + (nv 256 ys)))) (A2 := Am) (n2 := ms.length) (c2 := cm) (y := (nv 256 ms)) (ys := ms) (w := _) (nvd _) rfl hmod rfl rfl HO134.rd (hms.ex HE) (by_dig _) hbms (Nat.le_trans (dlen (add_lt (m := 120) (nlen hbxs hlxs) (nlen hbys hlys) (by decide) (by decide))) (by decide)) (Nat.le_trans hlms (by decide))) ?_)
        rintro a157 w150 v151 ⟨A147, c148, rfl, HX152, HO149⟩ ha159 hF158; clear ha159 hF146 a145
        replace HE := HE.thenN HX152.g
        replace HO90 := HO90.growN HX152.g
        replace HO115 := HO115.growN HX152.g
        replace HO134 := HO134.growN HX152.g
        have hcp160 := HO149.cap
        refine pures_end hT 5 _ hF158 (F' := [(12, .int .i64 0), (11, .slice A147 ((dig 256 (((nv 256 xs) + (nv 256 ys)) % (nv 256 ms))).length) c148), (63, .int .i64 0), (62, .slice A147 ((dig 256 (((nv 256 xs) + (nv 256 ys)) % (nv 256 ms))).length) c148), (56, .tuple #[.slice A147 ((dig 256 (((nv 256 xs) + (nv 256 ys)) % (nv 256 ms))).length) c148, .int .i64 0]), (61, .tuple #[.slice A147 ((dig 256 (((nv 256 xs) + (nv 256 ys)) % (nv 256 ms))).length) c148, .int .i64 0]), (60, .slice Am ms.length cm), (59, .slice A132 ((dig 256 ((nv 256 xs) + (nv 256 ys))).length) c133), (58, .slice Ay ys.length cy), (57, .slice Ax xs.length cx), (10, .int .i64 0), (9, .slice A113 ((dig 256 ((nv 256 ys) % (nv 256 ms))).length) c114), (37, .bool false), (8, .int .i64 0), (7, .slice A88 ((dig 256 ((nv 256 xs) % (nv 256 ms))).length) c89), (29, .bool ((decide (120 < ((ms.length : Nat) : Int))))), (6, .bool false), (0, .slice Ax xs.length cx), (1, .slice Ay ys.length cy), (2, .slice Am ms.length cm)]) (cs := []) (by kernel_rfl) rfl trivial ?_
        intro a161 hF162; clear hF158 a157
        have hF163 := hF162.pick [12, 11, 10, 9, 37, 8, 7, 29, 6, 0, 1, 2] (G := [(12, .int .i64 0), (11, .slice A147 ((dig 256 (((nv 256 xs) + (nv 256 ys)) % (nv 256 ms))).length) c148), (10, .int .i64 0), (9, .slice A113 ((dig 256 ((nv 256 ys) % (nv 256 ms))).length) c114), (37, .bool false), (8, .int .i64 0), (7, .slice A88 ((dig 256 ((nv 256 xs) % (nv 256 ms))).length) c89), (29, .bool ((decide (120 < ((ms.length : Nat) : Int))))), (6, .bool false), (0, .slice Ax xs.length cx), (1, .slice Ay ys.length cy), (2, .slice Am ms.length cm)]) (by kernel_rfl); clear hF162
        refine hK129 _ _ ?_
        refine wp_seq_k (fun K164 hK165 => ?_)
        refine wp_region_lit ?_
        refine pures hT 2 _ hF163 (F' := [(66, .slice A113 ((dig 256 ((nv 256 ys) % (nv 256 ms))).length) c114), (65, .slice A88 ((dig 256 ((nv 256 xs) % (nv 256 ms))).length) c89), (12, .int .i64 0), (11, .slice A147 ((dig 256 (((nv 256 xs) + (nv 256 ys)) % (nv 256 ms))).length) c148), (10, .int .i64 0), (9, .slice A113 ((dig 256 ((nv 256 ys) % (nv 256 ms))).length) c114), (37, .bool false), (8, .int .i64 0), (7, .slice A88 ((dig 256 ((nv 256 xs) % (nv 256 ms))).length) c89), (29, .bool ((decide (120 < ((ms.length : Nat) : Int))))), (6, .bool false), (0, .slice Ax xs.length cx), (1, .slice Ay ys.length cy), (2, .slice Am ms.length cm)]) (cs := []) (by kernel_rfl) trivial ?_
        intro a166 hF167; clear hF163 a161
        have hz174 := HE.size
        have hz175 := HO90.base
        have hz176 := HO115.base
        have hz177 := HO134.base
        have hz178 := HO149.base
        refine wl (s_call (d := 67) (f := 17) (l := [.slice A88 ((dig 256 ((nv 256 xs) % (nv 256 ms))).length) c89, .slice A113 ((dig 256 ((nv 256 ys) % (nv 256 ms))).length) c114]) (by kernel_rfl) hF167 cl17 (Add' (A := A88) (n := ((dig 256 ((nv 256 xs) % (nv 256 ms))).length)) (c := c89) (x := ((nv 256 xs) % (nv 256 ms))) (xs := (dig 256 ((nv 256 xs) % (nv 256 ms)))) (A2 := A113) (n2 := ((dig 256 ((nv 256 ys) % (nv 256 ms))).length)) (c2 := c114) (y := ((nv 256 ys) % (nv 256 ms))) (ys := (dig 256 ((nv 256 ys) % (nv 256 ms)))) (w := _) (nvd _) (nvd _)  rfl rfl HO90.rd HO115.rd (by_dig _) (by_dig _) (Nat.le_trans (dlen (mod_lt (nlen hbxs hlxs))) (by decide)) (Nat.le_trans (dlen (mod_lt (nlen hbys hlys))) (by decide))) ?_)
        rintro a179 w171 v172 ⟨A168, c169, rfl, HX173, HO170⟩ ha181 hF180; clear ha181 hF167 a166
        replace HE := HE.thenN HX173.g
        replace HO90 := HO90.growN HX173.g
        replace HO115 := HO115.growN HX173.g
        replace HO134 := HO134.growN HX173.g
        replace HO149 := HO149.growN HX173.g
        have hcp182 := HO170.cap
        refine pures hT 1 _ hF180 (F' := [(68, .slice Am ms.length cm), (67, .slice A168 ((dig 256 (((nv 256 xs) % (nv 256 ms)) + ((nv 256 ys) % (nv 256 ms)))).length) c169), (66, .slice A113 ((dig 256 ((nv 256 ys) % (nv 256 ms))).length) c114), (65, .slice A88 ((dig 256 ((nv 256 xs) % (nv 256 ms))).length) c89), (12, .int .i64 0), (11, .slice A147 ((dig 256 (((nv 256 xs) + (nv 256 ys)) % (nv 256 ms))).length) c148), (10, .int .i64 0), (9, .slice A113 ((dig 256 ((nv 256 ys) % (nv 256 ms))).length) c114), (37, .bool false), (8, .int .i64 0), (7, .slice A88 ((dig 256 ((nv 256 xs) % (nv 256 ms))).length) c89), (29, .bool ((decide (120 < ((ms.length : Nat) : Int))))), (6, .bool false), (0, .slice Ax xs.length cx), (1, .slice Ay ys.length cy), (2, .slice Am ms.length cm)]) (cs := []) (by kernel_rfl) trivial ?_
        intro a183 hF184; clear hF180 a179
        have hz191 := HE.size
        have hz192 := HO90.base
        have hz193 := HO115.base
        have hz194 := HO134.base
        have hz195 := HO149.base
        have hz196 := HO170.base
        refine wl (s_call (d := 69) (f := 13) (l := [.slice A168 ((dig 256 (((nv 256 xs) % (nv 256 ms)) + ((nv 256 ys) % (nv 256 ms)))).length) c169, .slice Am ms.length cm]) (by kernel_rfl) hF184 cl13 (Mod1' (A := A168) (n := ((dig 256 (((nv 256 xs) % (nv 256 ms)) + ((nv 256 ys) % (nv 256 ms)))).length)) (c := c169) (x := (((nv 256 xs) % (nv 256 ms)) + ((nv 256 ys) % (nv 256 ms)))) (xs := (dig 256 (((nv 256 xs) % (nv 256 ms)) + ((nv 256 ys) % (nv 256 ms))))) (A2 := Am) (n2 := ms.length) (c2 := cm) (y := (nv 256 ms)) (ys := ms) (w := _) (nvd _) rfl hmod rfl rfl HO170.rd (hms.ex HE) (by_dig _) hbms (Nat.le_trans (dlen (add_lt (m := 120) (mod_lt (nlen hbxs hlxs)) (mod_lt (nlen hbys hlys)) (by decide) (by decide))) (by decide)) (Nat.le_trans hlms (by decide))) ?_)
        rintro a197 w188 v189 ⟨A185, c186, rfl, HX190, HO187⟩ ha199 hF198; clear ha199 hF184 a183
        replace HE := HE.thenN HX190.g
        replace HO90 := HO90.growN HX190.g
        replace HO115 := HO115.growN HX190.g
        replace HO134 := HO134.growN HX190.g
        replace HO149 := HO149.growN HX190.g
        replace HO170 := HO170.growN HX190.g
        have hcp200 := HO187.cap
        refine pures_end hT 5 _ hF198 (F' := [(14, .int .i64 0), (13, .slice A185 ((dig 256 ((((nv 256 xs) % (nv 256 ms)) + ((nv 256 ys) % (nv 256 ms))) % (nv 256 ms))).length) c186), (71, .int .i64 0), (70, .slice A185 ((dig 256 ((((nv 256 xs) % (nv 256 ms)) + ((nv 256 ys) % (nv 256 ms))) % (nv 256 ms))).length) c186), (64, .tuple #[.slice A185 ((dig 256 ((((nv 256 xs) % (nv 256 ms)) + ((nv 256 ys) % (nv 256 ms))) % (nv 256 ms))).length) c186, .int .i64 0]), (69, .tuple #[.slice A185 ((dig 256 ((((nv 256 xs) % (nv 256 ms)) + ((nv 256 ys) % (nv 256 ms))) % (nv 256 ms))).length) c186, .int .i64 0]), (68, .slice Am ms.length cm), (67, .slice A168 ((dig 256 (((nv 256 xs) % (nv 256 ms)) + ((nv 256 ys) % (nv 256 ms)))).length) c169), (66, .slice A113 ((dig 256 ((nv 256 ys) % (nv 256 ms))).length) c114), (65, .slice A88 ((dig 256 ((nv 256 xs) % (nv 256 ms))).length) c89), (12, .int .i64 0), (11, .slice A147 ((dig 256 (((nv 256 xs) + (nv 256 ys)) % (nv 256 ms))).length) c148), (10, .int .i64 0), (9, .slice A113 ((dig 256 ((nv 256 ys) % (nv 256 ms))).length) c114), (37, .bool false), (8, .int .i64 0), (7, .slice A88 ((dig 256 ((nv 256 xs) % (nv 256 ms))).length) c89), (29, .bool ((decide (120 < ((ms.length : Nat) : Int))))), (6, .bool false), (0, .slice Ax xs.length cx), (1, .slice Ay ys.length cy), (2, .slice Am ms.length cm)]) (cs := []) (by kernel_rfl) rfl trivial ?_
        intro a201 hF202; clear hF198 a197
        have hF203 := hF202.pick [14, 13, 12, 11, 10, 9, 37, 8, 7, 29, 6, 0, 1, 2] (G := [(14, .int .i64 0), (13, .slice A185 ((dig 256 ((((nv 256 xs) % (nv 256 ms)) + ((nv 256 ys) % (nv 256 ms))) % (nv 256 ms))).length) c186), (12, .int .i64 0), (11, .slice A147 ((dig 256 (((nv 256 xs) + (nv 256 ys)) % (nv 256 ms))).length) c148), (10, .int .i64 0), (9, .slice A113 ((dig 256 ((nv 256 ys) % (nv 256 ms))).length) c114), (37, .bool false), (8, .int .i64 0), (7, .slice A88 ((dig 256 ((nv 256 xs) % (nv 256 ms))).length) c89), (29, .bool ((decide (120 < ((ms.length : Nat) : Int))))), (6, .bool false), (0, .slice Ax xs.length cx), (1, .slice Ay ys.length cy), (2, .slice Am ms.length cm)]) (by kernel_rfl); clear hF202
        refine hK165 _ _ ?_
        refine wp_seq_k (fun K204 hK205 => ?_)
        refine wp_region_lit ?_
        refine pures hT 2 _ hF203 (F' := [(74, .slice Ay ys.length cy), (73, .slice Ax xs.length cx), (14, .int .i64 0), (13, .slice A185 ((dig 256 ((((nv 256 xs) % (nv 256 ms)) + ((nv 256 ys) % (nv 256 ms))) % (nv 256 ms))).length) c186), (12, .int .i64 0), (11, .slice A147 ((dig 256 (((nv 256 xs) + (nv 256 ys)) % (nv 256 ms))).length) c148), (10, .int .i64 0), (9, .slice A113 ((dig 256 ((nv 256 ys) % (nv 256 ms))).length) c114), (37, .bool false), (8, .int .i64 0), (7, .slice A88 ((dig 256 ((nv 256 xs) % (nv 256 ms))).length) c89), (29, .bool ((decide (120 < ((ms.length : Nat) : Int))))), (6, .bool false), (0, .slice Ax xs.length cx), (1, .slice Ay ys.length cy), (2, .slice Am ms.length cm)]) (cs := []) (by kernel_rfl) trivial ?_
        intro a206 hF207; clear hF203 a201
        have hz214 := HE.size
        have hz215 := HO90.base
        have hz216 := HO115.base
        have hz217 := HO134.base
        have hz218 := HO149.base
        have hz219 := HO170.base
        have hz220 := HO187.base
        refine wl (s_call (d := 75) (f := 18) (l := [.slice Ax xs.length cx, .slice Ay ys.length cy]) (by kernel_rfl) hF207 cl18 (Mul' (A := Ax) (n := xs.length) (c := cx) (x := (nv 256 xs)) (xs := xs) (A2 := Ay) (n2 := ys.length) (c2 := cy) (y := (nv 256 ys)) (ys := ys) (w := _) rfl rfl  rfl rfl (hxs.ex HE) (hys.ex HE) hbxs hbys (Nat.le_trans hlxs (by decide)) (Nat.le_trans hlys (by decide))) ?_)
        rintro a221 w211 v212 ⟨A208, c209, rfl, HX213, HO210⟩ ha223 hF222; clear ha223 hF207 a206
        replace HE := HE.thenN HX213.g
        replace HO90 := HO90.growN HX213.g
        replace HO115 := HO115.growN HX213.g
        replace HO134 := HO134.growN HX213.g
        replace HO149 := HO149.growN HX213.g
        replace HO170 := HO170.growN HX213.g
        replace HO187 := HO187.growN HX213.g
        have hcp224 := HO210.cap
        refine pures hT 1 _ hF222 (F' := [(76, .slice Am ms.length cm), (75, .slice A208 ((dig 256 ((nv 256 xs) * (nv 256 ys))).length) c209), (74, .slice Ay ys.length cy), (73, .slice Ax xs.length cx), (14, .int .i64 0), (13, .slice A185 ((dig 256 ((((nv 256 xs) % (nv 256 ms)) + ((nv 256 ys) % (nv 256 ms))) % (nv 256 ms))).length) c186), (12, .int .i64 0), (11, .slice A147 ((dig 256 (((nv 256 xs) + (nv 256 ys)) % (nv 256 ms))).length) c148), (10, .int .i64 0), (9, .slice A113 ((dig 256 ((nv 256 ys) % (nv 256 ms))).length) c114), (37, .bool false), (8, .int .i64 0), (7, .slice A88 ((dig 256 ((nv 256 xs) % (nv 256 ms))).length) c89), (29, .bool ((decide (120 < ((ms.length : Nat) : Int))))), (6, .bool false), (0, .slice Ax xs.length cx), (1, .slice Ay ys.length cy), (2, .slice Am ms.length cm)]) (cs := []) (by kernel_rfl) trivial ?_
        intro a225 hF226; clear hF222 a221
        have hz233 := HE.size
        have hz234 := HO90.base
        have hz235 := HO115.base
        have hz236 := HO134.base
        have hz237 := HO149.base
        have hz238 := HO170.base
        have hz239 := HO187.base
        have hz240 := HO210.base
        refine wl (s_call (d := 77) (f := 13) (l := [.slice A208 ((dig 256 ((nv 256 xs) * (nv 256 ys))).length) c209, .slice Am ms.length cm]) (by kernel_rfl) hF226 cl13 (Mod1' (A := A208) (n := ((dig 256 ((nv 256 xs) * (nv 256 ys))).length)) (c := c209) (x := ((nv 256 xs) * (nv 256 ys))) (xs := (dig 256 ((nv 256 xs) * (nv 256 ys)))) (A2 := Am) (n2 := ms.length) (c2 := cm) (y := (nv 256 ms)) (ys := ms) (w := _) (nvd _) rfl hmod rfl rfl HO210.rd (hms.ex HE) (by_dig _) hbms (Nat.le_trans (dlen (mul_lt (nlen hbxs hlxs) (nlen hbys hlys))) (by decide)) (Nat.le_trans hlms (by decide))) ?_)
        rintro a241 w230 v231 ⟨A227, c228, rfl, HX232, HO229⟩ ha243 hF242; clear ha243 hF226 a225
        replace HE := HE.thenN HX232.g
        replace HO90 := HO90.growN HX232.g
        replace HO115 := HO115.growN HX232.g
        replace HO134 := HO134.growN HX232.g
        replace HO149 := HO149.growN HX232.g
        replace HO170 := HO170.growN HX232.g
        replace HO187 := HO187.growN HX232.g
        replace HO210 := HO210.growN HX232.g
        have hcp244 := HO229.cap
        refine pures_end hT 5 _ hF242 (F' := [(16, .int .i64 0), (15, .slice A227 ((dig 256 (((nv 256 xs) * (nv 256 ys)) % (nv 256 ms))).length) c228), (79, .int .i64 0), (78, .slice A227 ((dig 256 (((nv 256 xs) * (nv 256 ys)) % (nv 256 ms))).length) c228), (72, .tuple #[.slice A227 ((dig 256 (((nv 256 xs) * (nv 256 ys)) % (nv 256 ms))).length) c228, .int .i64 0]), (77, .tuple #[.slice A227 ((dig 256 (((nv 256 xs) * (nv 256 ys)) % (nv 256 ms))).length) c228, .int .i64 0]), (76, .slice Am ms.length cm), (75, .slice A208 ((dig 256 ((nv 256 xs) * (nv 256 ys))).length) c209), (74, .slice Ay ys.length cy), (73, .slice Ax xs.length cx), (14, .int .i64 0), (13, .slice A185 ((dig 256 ((((nv 256 xs) % (nv 256 ms)) + ((nv 256 ys) % (nv 256 ms))) % (nv 256 ms))).length) c186), (12, .int .i64 0), (11, .slice A147 ((dig 256 (((nv 256 xs) + (nv 256 ys)) % (nv 256 ms))).length) c148), (10, .int .i64 0), (9, .slice A113 ((dig 256 ((nv 256 ys) % (nv 256 ms))).length) c114), (37, .bool false), (8, .int .i64 0), (7, .slice A88 ((dig 256 ((nv 256 xs) % (nv 256 ms))).length) c89), (29, .bool ((decide (120 < ((ms.length : Nat) : Int))))), (6, .bool false), (0, .slice Ax xs.length cx), (1, .slice Ay ys.length cy), (2, .slice Am ms.length cm)]) (cs := []) (by kernel_rfl) rfl trivial ?_
        intro a245 hF246; clear hF242 a241
        have hF247 := hF246.pick [16, 15, 14, 13, 12, 11, 10, 9, 37, 8, 7, 29, 6, 0, 1, 2] (G := [(16, .int .i64 0), (15, .slice A227 ((dig 256 (((nv 256 xs) * (nv 256 ys)) % (nv 256 ms))).length) c228), (14, .int .i64 0), (13, .slice A185 ((dig 256 ((((nv 256 xs) % (nv 256 ms)) + ((nv 256 ys) % (nv 256 ms))) % (nv 256 ms))).length) c186), (12, .int .i64 0), (11, .slice A147 ((dig 256 (((nv 256 xs) + (nv 256 ys)) % (nv 256 ms))).length) c148), (10, .int .i64 0), (9, .slice A113 ((dig 256 ((nv 256 ys) % (nv 256 ms))).length) c114), (37, .bool false), (8, .int .i64 0), (7, .slice A88 ((dig 256 ((nv 256 xs) % (nv 256 ms))).length) c89), (29, .bool ((decide (120 < ((ms.length : Nat) : Int))))), (6, .bool false), (0, .slice Ax xs.length cx), (1, .slice Ay ys.length cy), (2, .slice Am ms.length cm)]) (by kernel_rfl); clear hF246
        refine hK205 _ _ ?_
        refine wp_seq_k (fun K248 hK249 => ?_)
        refine wp_region_lit ?_
        refine pures hT 2 _ hF247 (F' := [(82, .slice A113 ((dig 256 ((nv 256 ys) % (nv 256 ms))).length) c114), (81, .slice A88 ((dig 256 ((nv 256 xs) % (nv 256 ms))).length) c89), (16, .int .i64 0), (15, .slice A227 ((dig 256 (((nv 256 xs) * (nv 256 ys)) % (nv 256 ms))).length) c228), (14, .int .i64 0), (13, .slice A185 ((dig 256 ((((nv 256 xs) % (nv 256 ms)) + ((nv 256 ys) % (nv 256 ms))) % (nv 256 ms))).length) c186), (12, .int .i64 0), (11, .slice A147 ((dig 256 (((nv 256 xs) + (nv 256 ys)) % (nv 256 ms))).length) c148), (10, .int .i64 0), (9, .slice A113 ((dig 256 ((nv 256 ys) % (nv 256 ms))).length) c114), (37, .bool false), (8, .int .i64 0), (7, .slice A88 ((dig 256 ((nv 256 xs) % (nv 256 ms))).length) c89), (29, .bool ((decide (120 < ((ms.length : Nat) : Int))))), (6, .bool false), (0, .slice Ax xs.length cx), (1, .slice Ay ys.length cy), (2, .slice Am ms.length cm)]) (cs := []) (by kernel_rfl) trivial ?_
        intro a250 hF251; clear hF247 a245
        have hz258 := HE.size
        have hz259 := HO90.base
        have hz260 := HO115.base
        have hz261 := HO134.base
        have hz262 := HO149.base
        have hz263 := HO170.base
        have hz264 := HO187.base
        have hz265 := HO210.base
        have hz266 := HO229.base
        refine wl (s_call (d := 83) (f := 18) (l := [.slice A88 ((dig 256 ((nv 256 xs) % (nv 256 ms))).length) c89, .slice A113 ((dig 256 ((nv 256 ys) % (nv 256 ms))).length) c114]) (by kernel_rfl) hF251 cl18 (Mul' (A := A88) (n := ((dig 256 ((nv 256 xs) % (nv 256 ms))).length)) (c := c89) (x := ((nv 256 xs) % (nv 256 ms))) (xs := (dig 256 ((nv 256 xs) % (nv 256 ms)))) (A2 := A113) (n2 := ((dig 256 ((nv 256 ys) % (nv 256 ms))).length)) (c2 := c114) (y := ((nv 256 ys) % (nv 256 ms))) (ys := (dig 256 ((nv 256 ys) % (nv 256 ms)))) (w := _) (nvd _) (nvd _)  rfl rfl HO90.rd HO115.rd (by_dig _) (by_dig _) (Nat.le_trans (dlen (mod_lt (nlen hbxs hlxs))) (by decide)) (Nat.le_trans (dlen (mod_lt (nlen hbys hlys))) (by decide))) ?_)
        rintro a267 w255 v256 ⟨A252, c253, rfl, HX257, HO254⟩ ha269 hF268; clear ha269 hF251 a250
        replace HE := HE.thenN HX257.g
        replace HO90 := HO90.growN HX257.g
        replace HO115 := HO115.growN HX257.g
        replace HO134 := HO134.growN HX257.g
        replace HO149 := HO149.growN HX257.g
        replace HO170 := HO170.growN HX257.g
        replace HO187 := HO187.growN HX257.g
        replace HO210 := HO210.growN HX257.g
        replace HO229 := HO229.growN HX257.g
        have hcp270 := HO254.cap
        refine pures hT 1 _ hF268 (F' := [(84, .slice Am ms.length cm), (83, .slice A252 ((dig 256 (((nv 256 xs) % (nv 256 ms)) * ((nv 256 ys) % (nv 256 ms)))).length) c253), (82, .slice A113 ((dig 256 ((nv 256 ys) % (nv 256 ms))).length) c114), (81, .slice A88 ((dig 256 ((nv 256 xs) % (nv 256 ms))).length) c89), (16, .int .i64 0), (15, .slice A227 ((dig 256 (((nv 256 xs) * (nv 256 ys)) % (nv 256 ms))).length) c228), (14, .int .i64 0), (13, .slice A185 ((dig 256 ((((nv 256 xs) % (nv 256 ms)) + ((nv 256 ys) % (nv 256 ms))) % (nv 256 ms))).length) c186), (12, .int .i64 0), (11, .slice A147 ((dig 256 (((nv 256 xs) + (nv 256 ys)) % (nv 256 ms))).length) c148), (10, .int .i64 0), (9, .slice A113 ((dig 256 ((nv 256 ys) % (nv 256 ms))).length) c114), (37, .bool false), (8, .int .i64 0), (7, .slice A88 ((dig 256 ((nv 256 xs) % (nv 256 ms))).length) c89), (29, .bool ((decide (120 < ((ms.length : Nat) : Int))))), (6, .bool false), (0, .slice Ax xs.length cx), (1, .slice Ay ys.length cy), (2, .slice Am ms.length cm)]) (cs := []) (by kernel_rfl) trivial ?_
        intro a271 hF272; clear hF268 a267
        have hz279 := HE.size
        have hz280 := HO90.base
        have hz281 := HO115.base
        have hz282 := HO134.base
        have hz283 := HO149.base
        have hz284 := HO170.base
        have hz285 := HO187.base
        have hz286 := HO210.base
        have hz287 := HO229.base
        have hz288 := HO254.base
        refine wl (s_call (d := 85) (f := 13) (l := [.slice A252 ((dig 256 (((nv 256 xs) % (nv 256 ms)) * ((nv 256 ys) % (nv 256 ms)))).length) c253, .slice Am ms.length cm]) (by kernel_rfl) hF272 cl13 (Mod1' (A := A252) (n := ((dig 256 (((nv 256 xs) % (nv 256 ms)) * ((nv 256 ys) % (nv 256 ms)))).length)) (c := c253) (x := (((nv 256 xs) % (nv 256 ms)) * ((nv 256 ys) % (nv 256 ms)))) (xs := (dig 256 (((nv 256 xs) % (nv 256 ms)) * ((nv 256 ys) % (nv 256 ms))))) (A2 := Am) (n2 := ms.length) (c2 := cm) (y := (nv 256 ms)) (ys := ms) (w := _) (nvd _) rfl hmod rfl rfl HO254.rd (hms.ex HE) (by_dig _) hbms (Nat.le_trans (dlen (mul_lt (mod_lt (nlen hbxs hlxs)) (mod_lt (nlen hbys hlys)))) (by decide)) (Nat.le_trans hlms (by decide))) ?_)
        rintro a289 w276 v277 ⟨A273, c274, rfl, HX278, HO275⟩ ha291 hF290; clear ha291 hF272 a271
        replace HE := HE.thenN HX278.g
        replace HO90 := HO90.growN HX278.g
        replace HO115 := HO115.growN HX278.g
        replace HO134 := HO134.growN HX278.g
        replace HO149 := HO149.growN HX278.g
        replace HO170 := HO170.growN HX278.g
        replace HO187 := HO187.growN HX278.g
        replace HO210 := HO210.growN HX278.g
        replace HO229 := HO229.growN HX278.g
        replace HO254 := HO254.growN HX278.g
        have hcp292 := HO275.cap
        refine pures_end hT 5 _ hF290 (F' := [(18, .int .i64 0), (17, .slice A273 ((dig 256 ((((nv 256 xs) % (nv 256 ms)) * ((nv 256 ys) % (nv 256 ms))) % (nv 256 ms))).length) c274), (87, .int .i64 0), (86, .slice A273 ((dig 256 ((((nv 256 xs) % (nv 256 ms)) * ((nv 256 ys) % (nv 256 ms))) % (nv 256 ms))).length) c274), (80, .tuple #[.slice A273 ((dig 256 ((((nv 256 xs) % (nv 256 ms)) * ((nv 256 ys) % (nv 256 ms))) % (nv 256 ms))).length) c274, .int .i64 0]), (85, .tuple #[.slice A273 ((dig 256 ((((nv 256 xs) % (nv 256 ms)) * ((nv 256 ys) % (nv 256 ms))) % (nv 256 ms))).length) c274, .int .i64 0]), (84, .slice Am ms.length cm), (83, .slice A252 ((dig 256 (((nv 256 xs) % (nv 256 ms)) * ((nv 256 ys) % (nv 256 ms)))).length) c253), (82, .slice A113 ((dig 256 ((nv 256 ys) % (nv 256 ms))).length) c114), (81, .slice A88 ((dig 256 ((nv 256 xs) % (nv 256 ms))).length) c89), (16, .int .i64 0), (15, .slice A227 ((dig 256 (((nv 256 xs) * (nv 256 ys)) % (nv 256 ms))).length) c228), (14, .int .i64 0), (13, .slice A185 ((dig 256 ((((nv 256 xs) % (nv 256 ms)) + ((nv 256 ys) % (nv 256 ms))) % (nv 256 ms))).length) c186), (12, .int .i64 0), (11, .slice A147 ((dig 256 (((nv 256 xs) + (nv 256 ys)) % (nv 256 ms))).length) c148), (10, .int .i64 0), (9, .slice A113 ((dig 256 ((nv 256 ys) % (nv 256 ms))).length) c114), (37, .bool false), (8, .int .i64 0), (7, .slice A88 ((dig 256 ((nv 256 xs) % (nv 256 ms))).length) c89), (29, .bool ((decide (120 < ((ms.length : Nat) : Int))))), (6, .bool false), (0, .slice Ax xs.length cx), (1, .slice Ay ys.length cy), (2, .slice Am ms.length cm)]) (cs := []) (by kernel_rfl) rfl trivial ?_
        intro a293 hF294; clear hF290 a289
        have hF295 := hF294.pick [18, 17, 16, 15, 14, 13, 12, 11, 10, 9, 37, 8, 7, 29, 6, 0, 1, 2] (G := [(18, .int .i64 0), (17, .slice A273 ((dig 256 ((((nv 256 xs) % (nv 256 ms)) * ((nv 256 ys) % (nv 256 ms))) % (nv 256 ms))).length) c274), (16, .int .i64 0), (15, .slice A227 ((dig 256 (((nv 256 xs) * (nv 256 ys)) % (nv 256 ms))).length) c228), (14, .int .i64 0), (13, .slice A185 ((dig 256 ((((nv 256 xs) % (nv 256 ms)) + ((nv 256 ys) % (nv 256 ms))) % (nv 256 ms))).length) c186), (12, .int .i64 0), (11, .slice A147 ((dig 256 (((nv 256 xs) + (nv 256 ys)) % (nv 256 ms))).length) c148), (10, .int .i64 0), (9, .slice A113 ((dig 256 ((nv 256 ys) % (nv 256 ms))).length) c114), (37, .bool false), (8, .int .i64 0), (7, .slice A88 ((dig 256 ((nv 256 xs) % (nv 256 ms))).length) c89), (29, .bool ((decide (120 < ((ms.length : Nat) : Int))))), (6, .bool false), (0, .slice Ax xs.length cx), (1, .slice Ay ys.length cy), (2, .slice Am ms.length cm)]) (by kernel_rfl); clear hF294
        refine hK249 _ _ ?_
        refine wp_seq_k (fun K296 hK297 => ?_)
        refine wp_region_lit ?_
        refine pures hT 2 _ hF295 (F' := [(90, .slice Am ms.length cm), (89, .slice Ax xs.length cx), (18, .int .i64 0), (17, .slice A273 ((dig 256 ((((nv 256 xs) % (nv 256 ms)) * ((nv 256 ys) % (nv 256 ms))) % (nv 256 ms))).length) c274), (16, .int .i64 0), (15, .slice A227 ((dig 256 (((nv 256 xs) * (nv 256 ys)) % (nv 256 ms))).length) c228), (14, .int .i64 0), (13, .slice A185 ((dig 256 ((((nv 256 xs) % (nv 256 ms)) + ((nv 256 ys) % (nv 256 ms))) % (nv 256 ms))).length) c186), (12, .int .i64 0), (11, .slice A147 ((dig 256 (((nv 256 xs) + (nv 256 ys)) % (nv 256 ms))).length) c148), (10, .int .i64 0), (9, .slice A113 ((dig 256 ((nv 256 ys) % (nv 256 ms))).length) c114), (37, .bool false), (8, .int .i64 0), (7, .slice A88 ((dig 256 ((nv 256 xs) % (nv 256 ms))).length) c89), (29, .bool ((decide (120 < ((ms.length : Nat) : Int))))), (6, .bool false), (0, .slice Ax xs.length cx), (1, .slice Ay ys.length cy), (2, .slice Am ms.length cm)]) (cs := []) (by kernel_rfl) trivial ?_
        intro a298 hF299; clear hF295 a293
        have hz306 := HE.size
        have hz307 := HO90.base
        have hz308 := HO115.base
        have hz309 := HO134.base
        have hz310 := HO149.base
        have hz311 := HO170.base
        have hz312 := HO187.base
        have hz313 := HO210.base
        have hz314 := HO229.base
        have hz315 := HO254.base
        have hz316 := HO275.base
        refine wl (s_call (d := 91) (f := 18) (l := [.slice Ax xs.length cx, .slice Am ms.length cm]) (by kernel_rfl) hF299 cl18 (Mul' (A := Ax) (n := xs.length) (c := cx) (x := (nv 256 xs)) (xs := xs) (A2 := Am) (n2 := ms.length) (c2 := cm) (y := (nv 256 ms)) (ys := ms) (w := _) rfl rfl  rfl rfl (hxs.ex HE) (hms.ex HE) hbxs hbms (Nat.le_trans hlxs (by decide)) (Nat.le_trans hlms (by decide))) ?_)
        rintro a317 w303 v304 ⟨A300, c301, rfl, HX305, HO302⟩ ha319 hF318; clear ha319 hF299 a298
        replace HE := HE.thenN HX305.g
        replace HO90 := HO90.growN HX305.g
        replace HO115 := HO115.growN HX305.g
        replace HO134 := HO134.growN HX305.g
        replace HO149 := HO149.growN HX305.g
        replace HO170 := HO170.growN HX305.g
        replace HO187 := HO187.growN HX305.g
        replace HO210 := HO210.growN HX305.g
        replace HO229 := HO229.growN HX305.g
        replace HO254 := HO254.growN HX305.g
        replace HO275 := HO275.growN HX305.g
        have hcp320 := HO302.cap
        refine pures hT 1 _ hF318 (F' := [(92, .slice Am ms.length cm), (91, .slice A300 ((dig 256 ((nv 256 xs) * (nv 256 ms))).length) c301), (90, .slice Am ms.length cm), (89, .slice Ax xs.length cx), (18, .int .i64 0), (17, .slice A273 ((dig 256 ((((nv 256 xs) % (nv 256 ms)) * ((nv 256 ys) % (nv 256 ms))) % (nv 256 ms))).length) c274), (16, .int .i64 0), (15, .slice A227 ((dig 256 (((nv 256 xs) * (nv 256 ys)) % (nv 256 ms))).length) c228), (14, .int .i64 0), (13, .slice A185 ((dig 256 ((((nv 256 xs) % (nv 256 ms)) + ((nv 256 ys) % (nv 256 ms))) % (nv 256 ms))).length) c186), (12, .int .i64 0), (11, .slice A147 ((dig 256 (((nv 256 xs) + (nv 256 ys)) % (nv 256 ms))).length) c148), (10, .int .i64 0), (9, .slice A113 ((dig 256 ((nv 256 ys) % (nv 256 ms))).length) c114), (37, .bool false), (8, .int .i64 0), (7, .slice A88 ((dig 256 ((nv 256 xs) % (nv 256 ms))).length) c89), (29, .bool ((decide (120 < ((ms.length : Nat) : Int))))), (6, .bool false), (0, .slice Ax xs.length cx), (1, .slice Ay ys.length cy), (2, .slice Am ms.length cm)]) (cs := []) (by kernel_rfl) trivial ?_
        intro a321 hF322; clear hF318 a317
        have hz329 := HE.size
        have hz330 := HO90.base
        have hz331 := HO115.base
        have hz332 := HO134.base
        have hz333 := HO149.base
        have hz334 := HO170.base
        have hz335 := HO187.base
        have hz336 := HO210.base
        have hz337 := HO229.base
        have hz338 := HO254.base
        have hz339 := HO275.base
        have hz340 := HO302.base
        refine wl (s_call (d := 93) (f := 13) (l := [.slice A300 ((dig 256 ((nv 256 xs) * (nv 256 ms))).length) c301, .slice Am ms.length cm]) (by kernel_rfl) hF322 cl13 (Mod1' (A := A300) (n := ((dig 256 ((nv 256 xs) * (nv 256 ms))).length)) (c := c301) (x := ((nv 256 xs) * (nv 256 ms))) (xs := (dig 256 ((nv 256 xs) * (nv 256 ms)))) (A2 := Am) (n2 := ms.length) (c2 := cm) (y := (nv 256 ms)) (ys := ms) (w := _) (nvd _) rfl hmod rfl rfl HO302.rd (hms.ex HE) (by_dig _) hbms (Nat.le_trans (dlen (mul_lt (nlen hbxs hlxs) (nlen hbms hlms))) (by decide)) (Nat.le_trans hlms (by decide))) ?_)
        rintro a341 w326 v327 ⟨A323, c324, rfl, HX328, HO325⟩ ha343 hF342; clear ha343 hF322 a321
        replace HE := HE.thenN HX328.g
        replace HO90 := HO90.growN HX328.g
        replace HO115 := HO115.growN HX328.g
        replace HO134 := HO134.growN HX328.g
        replace HO149 := HO149.growN HX328.g
        replace HO170 := HO170.growN HX328.g
        replace HO187 := HO187.growN HX328.g
        replace HO210 := HO210.growN HX328.g
        replace HO229 := HO229.growN HX328.g
        replace HO254 := HO254.growN HX328.g
        replace HO275 := HO275.growN HX328.g
        replace HO302 := HO302.growN HX328.g
        have hcp344 := HO325.cap
        refine pures_end hT 5 _ hF342 (F' := [(20, .int .i64 0), (19, .slice A323 ((dig 256 (((nv 256 xs) * (nv 256 ms)) % (nv 256 ms))).length) c324), (95, .int .i64 0), (94, .slice A323 ((dig 256 (((nv 256 xs) * (nv 256 ms)) % (nv 256 ms))).length) c324), (88, .tuple #[.slice A323 ((dig 256 (((nv 256 xs) * (nv 256 ms)) % (nv 256 ms))).length) c324, .int .i64 0]), (93, .tuple #[.slice A323 ((dig 256 (((nv 256 xs) * (nv 256 ms)) % (nv 256 ms))).length) c324, .int .i64 0]), (92, .slice Am ms.length cm), (91, .slice A300 ((dig 256 ((nv 256 xs) * (nv 256 ms))).length) c301), (90, .slice Am ms.length cm), (89, .slice Ax xs.length cx), (18, .int .i64 0), (17, .slice A273 ((dig 256 ((((nv 256 xs) % (nv 256 ms)) * ((nv 256 ys) % (nv 256 ms))) % (nv 256 ms))).length) c274), (16, .int .i64 0), (15, .slice A227 ((dig 256 (((nv 256 xs) * (nv 256 ys)) % (nv 256 ms))).length) c228), (14, .int .i64 0), (13, .slice A185 ((dig 256 ((((nv 256 xs) % (nv 256 ms)) + ((nv 256 ys) % (nv 256 ms))) % (nv 256 ms))).length) c186), (12, .int .i64 0), (11, .slice A147 ((dig 256 (((nv 256 xs) + (nv 256 ys)) % (nv 256 ms))).length) c148), (10, .int .i64 0), (9, .slice A113 ((dig 256 ((nv 256 ys) % (nv 256 ms))).length) c114), (37, .bool false), (8, .int .i64 0), (7, .slice A88 ((dig 256 ((nv 256 xs) % (nv 256 ms))).length) c89), (29, .bool ((decide (120 < ((ms.length : Nat) : Int))))), (6, .bool false), (0, .slice Ax xs.length cx), (1, .slice Ay ys.length cy), (2, .slice Am ms.length cm)]) (cs := []) (by kernel_rfl) rfl trivial ?_
        intro a345 hF346; clear hF342 a341
        have hF347 := hF346.pick [20, 19, 18, 17, 16, 15, 14, 13, 12, 11, 10, 9, 37, 8, 7, 29, 6, 0, 1, 2] (G := [(20, .int .i64 0), (19, .slice A323 ((dig 256 (((nv 256 xs) * (nv 256 ms)) % (nv 256 ms))).length) c324), (18, .int .i64 0), (17, .slice A273 ((dig 256 ((((nv 256 xs) % (nv 256 ms)) * ((nv 256 ys) % (nv 256 ms))) % (nv 256 ms))).length) c274), (16, .int .i64 0), (15, .slice A227 ((dig 256 (((nv 256 xs) * (nv 256 ys)) % (nv 256 ms))).length) c228), (14, .int .i64 0), (13, .slice A185 ((dig 256 ((((nv 256 xs) % (nv 256 ms)) + ((nv 256 ys) % (nv 256 ms))) % (nv 256 ms))).length) c186), (12, .int .i64 0), (11, .slice A147 ((dig 256 (((nv 256 xs) + (nv 256 ys)) % (nv 256 ms))).length) c148), (10, .int .i64 0), (9, .slice A113 ((dig 256 ((nv 256 ys) % (nv 256 ms))).length) c114), (37, .bool false), (8, .int .i64 0), (7, .slice A88 ((dig 256 ((nv 256 xs) % (nv 256 ms))).length) c89), (29, .bool ((decide (120 < ((ms.length : Nat) : Int))))), (6, .bool false), (0, .slice Ax xs.length cx), (1, .slice Ay ys.length cy), (2, .slice Am ms.length cm)]) (by kernel_rfl); clear hF346
        refine hK297 _ _ ?_
        refine wp_seq_k (fun K348 hK349 => ?_)
        refine wp_region_lit ?_
        have hz353 := HE.size
        have hz354 := HO90.base
        have hz355 := HO115.base
        have hz356 := HO134.base
        have hz357 := HO149.base
        have hz358 := HO170.base
        have hz359 := HO187.base
        have hz360 := HO210.base
        have hz361 := HO229.base
        have hz362 := HO254.base
        have hz363 := HO275.base
        have hz364 := HO302.base
        have hz365 := HO325.base
        refine wl (s_call (d := 96) (f := 14) (l := []) (by kernel_rfl) hF347 cl14 (law15_awake _) ?_)
        rintro a366 w350 v351 ⟨rfl, HX352⟩ ha368 hF367; clear ha368 hF347 a345
        replace HE := HE.thenN HX352.g
        replace HO90 := HO90.growN HX352.g
        replace HO115 := HO115.growN HX352.g
        replace HO134 := HO134.growN HX352.g
        replace HO149 := HO149.growN HX352.g
        replace HO170 := HO170.growN HX352.g
        replace HO187 := HO187.growN HX352.g
        replace HO210 := HO210.growN HX352.g
        replace HO229 := HO229.growN HX352.g
        replace HO254 := HO254.growN HX352.g
        replace HO275 := HO275.growN HX352.g
        replace HO302 := HO302.growN HX352.g
        replace HO325 := HO325.growN HX352.g
        refine pures hT 32 _ hF367 (F' := [(128, .slice Am ms.length cm), (127, .slice A88 ((dig 256 ((nv 256 xs) % (nv 256 ms))).length) c89), (126, .bool true), (125, .bool true), (124, .bool true), (123, .int .i64 0), (122, .int .i64 0), (121, .bool true), (120, .bool true), (119, .bool true), (118, .int .i64 0), (117, .int .i64 0), (116, .bool true), (115, .bool true), (114, .bool true), (113, .int .i64 0), (112, .int .i64 0), (111, .bool true), (110, .bool true), (109, .bool true), (108, .int .i64 0), (107, .int .i64 0), (106, .bool true), (105, .bool true), (104, .bool true), (103, .int .i64 0), (102, .int .i64 0), (101, .bool true), (100, .bool true), (99, .bool true), (98, .int .i64 0), (97, .bool true), (96, .bool true), (20, .int .i64 0), (19, .slice A323 ((dig 256 (((nv 256 xs) * (nv 256 ms)) % (nv 256 ms))).length) c324), (18, .int .i64 0), (17, .slice A273 ((dig 256 ((((nv 256 xs) % (nv 256 ms)) * ((nv 256 ys) % (nv 256 ms))) % (nv 256 ms))).length) c274), (16, .int .i64 0), (15, .slice A227 ((dig 256 (((nv 256 xs) * (nv 256 ys)) % (nv 256 ms))).length) c228), (14, .int .i64 0), (13, .slice A185 ((dig 256 ((((nv 256 xs) % (nv 256 ms)) + ((nv 256 ys) % (nv 256 ms))) % (nv 256 ms))).length) c186), (12, .int .i64 0), (11, .slice A147 ((dig 256 (((nv 256 xs) + (nv 256 ys)) % (nv 256 ms))).length) c148), (10, .int .i64 0), (9, .slice A113 ((dig 256 ((nv 256 ys) % (nv 256 ms))).length) c114), (37, .bool false), (8, .int .i64 0), (7, .slice A88 ((dig 256 ((nv 256 xs) % (nv 256 ms))).length) c89), (29, .bool ((decide (120 < ((ms.length : Nat) : Int))))), (6, .bool false), (0, .slice Ax xs.length cx), (1, .slice Ay ys.length cy), (2, .slice Am ms.length cm)]) (cs := []) (by kernel_rfl) trivial ?_
        intro a369 hF370; clear hF367 a366
        have hz374 := HE.size
        have hz375 := HO90.base
        have hz376 := HO115.base
        have hz377 := HO134.base
        have hz378 := HO149.base
        have hz379 := HO170.base
        have hz380 := HO187.base
        have hz381 := HO210.base
        have hz382 := HO229.base
        have hz383 := HO254.base
        have hz384 := HO275.base
        have hz385 := HO302.base
        have hz386 := HO325.base
        refine wl (One.bare hF370 (by kernel_rfl) (s_call (d := 129) (f := 16) (l := [.slice A88 ((dig 256 ((nv 256 xs) % (nv 256 ms))).length) c89, .slice Am ms.length cm]) (by kernel_rfl) hF370 cl16 (Cmp' (A := A88) (n := ((dig 256 ((nv 256 xs) % (nv 256 ms))).length)) (c := c89) (x := ((nv 256 xs) % (nv 256 ms))) (xs := (dig 256 ((nv 256 xs) % (nv 256 ms)))) (A2 := Am) (n2 := ms.length) (c2 := cm) (y := (nv 256 ms)) (ys := ms) (w := _) (nvd _) rfl  rfl rfl HO90.rd (hms.ex HE) (by_dig _) hbms (Nat.le_trans (dlen (mod_lt (nlen hbxs hlxs))) (by decide)) (Nat.le_trans hlms (by decide))) ?_))
        rintro a387 w371 v372 ⟨rfl, HX373⟩ ha389 hF388; clear ha389 hF370 a369
        replace HE := HE.thenN HX373.g
        replace HO90 := HO90.growN HX373.g
        replace HO115 := HO115.growN HX373.g
        replace HO134 := HO134.growN HX373.g
        replace HO149 := HO149.growN HX373.g
        replace HO170 := HO170.growN HX373.g
        replace HO187 := HO187.growN HX373.g
        replace HO210 := HO210.growN HX373.g
        replace HO229 := HO229.growN HX373.g
        replace HO254 := HO254.growN HX373.g
        replace HO275 := HO275.growN HX373.g
        replace HO302 := HO302.growN HX373.g
        replace HO325 := HO325.growN HX373.g
        refine pures hT 1 _ hF388 (F' := [(130, .bool ((decide ((cmpI ((nv 256 xs) % (nv 256 ms)) (nv 256 ms)) < 0)))), (129, .int .i64 (cmpI ((nv 256 xs) % (nv 256 ms)) (nv 256 ms))), (128, .slice Am ms.length cm), (127, .slice A88 ((dig 256 ((nv 256 xs) % (nv 256 ms))).length) c89), (126, .bool true), (125, .bool true), (124, .bool true), (123, .int .i64 0), (122, .int .i64 0), (121, .bool true), (120, .bool true), (119, .bool true), (118, .int .i64 0), (117, .int .i64 0), (116, .bool true), (115, .bool true), (114, .bool true), (113, .int .i64 0), (112, .int .i64 0), (111, .bool true), (110, .bool true), (109, .bool true), (108, .int .i64 0), (107, .int .i64 0), (106, .bool true), (105, .bool true), (104, .bool true), (103, .int .i64 0), (102, .int .i64 0), (101, .bool true), (100, .bool true), (99, .bool true), (98, .int .i64 0), (97, .bool true), (96, .bool true), (20, .int .i64 0), (19, .slice A323 ((dig 256 (((nv 256 xs) * (nv 256 ms)) % (nv 256 ms))).length) c324), (18, .int .i64 0), (17, .slice A273 ((dig 256 ((((nv 256 xs) % (nv 256 ms)) * ((nv 256 ys) % (nv 256 ms))) % (nv 256 ms))).length) c274), (16, .int .i64 0), (15, .slice A227 ((dig 256 (((nv 256 xs) * (nv 256 ys)) % (nv 256 ms))).length) c228), (14, .int .i64 0), (13, .slice A185 ((dig 256 ((((nv 256 xs) % (nv 256 ms)) + ((nv 256 ys) % (nv 256 ms))) % (nv 256 ms))).length) c186), (12, .int .i64 0), (11, .slice A147 ((dig 256 (((nv 256 xs) + (nv 256 ys)) % (nv 256 ms))).length) c148), (10, .int .i64 0), (9, .slice A113 ((dig 256 ((nv 256 ys) % (nv 256 ms))).length) c114), (37, .bool false), (8, .int .i64 0), (7, .slice A88 ((dig 256 ((nv 256 xs) % (nv 256 ms))).length) c89), (29, .bool ((decide (120 < ((ms.length : Nat) : Int))))), (6, .bool false), (0, .slice Ax xs.length cx), (1, .slice Ay ys.length cy), (2, .slice Am ms.length cm)]) (cs := []) (by kernel_rfl) trivial ?_
        intro a390 hF391; clear hF388 a387
        have hF392 : Fr 151 a390 [(130, .bool true), (129, .int .i64 (cmpI ((nv 256 xs) % (nv 256 ms)) (nv 256 ms))), (128, .slice Am ms.length cm), (127, .slice A88 ((dig 256 ((nv 256 xs) % (nv 256 ms))).length) c89), (126, .bool true), (125, .bool true), (124, .bool true), (123, .int .i64 0), (122, .int .i64 0), (121, .bool true), (120, .bool true), (119, .bool true), (118, .int .i64 0), (117, .int .i64 0), (116, .bool true), (115, .bool true), (114, .bool true), (113, .int .i64 0), (112, .int .i64 0), (111, .bool true), (110, .bool true), (109, .bool true), (108, .int .i64 0), (107, .int .i64 0), (106, .bool true), (105, .bool true), (104, .bool true), (103, .int .i64 0), (102, .int .i64 0), (101, .bool true), (100, .bool true), (99, .bool true), (98, .int .i64 0), (97, .bool true), (96, .bool true), (20, .int .i64 0), (19, .slice A323 ((dig 256 (((nv 256 xs) * (nv 256 ms)) % (nv 256 ms))).length) c324), (18, .int .i64 0), (17, .slice A273 ((dig 256 ((((nv 256 xs) % (nv 256 ms)) * ((nv 256 ys) % (nv 256 ms))) % (nv 256 ms))).length) c274), (16, .int .i64 0), (15, .slice A227 ((dig 256 (((nv 256 xs) * (nv 256 ys)) % (nv 256 ms))).length) c228), (14, .int .i64 0), (13, .slice A185 ((dig 256 ((((nv 256 xs) % (nv 256 ms)) + ((nv 256 ys) % (nv 256 ms))) % (nv 256 ms))).length) c186), (12, .int .i64 0), (11, .slice A147 ((dig 256 (((nv 256 xs) + (nv 256 ys)) % (nv 256 ms))).length) c148), (10, .int .i64 0), (9, .slice A113 ((dig 256 ((nv 256 ys) % (nv 256 ms))).length) c114), (37, .bool false), (8, .int .i64 0), (7, .slice A88 ((dig 256 ((nv 256 xs) % (nv 256 ms))).length) c89), (29, .bool ((decide (120 < ((ms.length : Nat) : Int))))), (6, .bool false), (0, .slice Ax xs.length cx), (1, .slice Ay ys.length cy), (2, .slice Am ms.length cm)] := by rw [show ((decide ((cmpI ((nv 256 xs) % (nv 256 ms)) (nv 256 ms)) < 0))) = true from (decide_eq_true (cmpI_lt0.2 (Nat.mod_lt _ hmod)))] at hF391; exact hF391
        clear hF391
        refine pures hT 3 _ hF392 (F' := [(133, .slice A147 ((dig 256 (((nv 256 xs) + (nv 256 ys)) % (nv 256 ms))).length) c148), (132, .bool true), (131, .bool true), (130, .bool true), (129, .int .i64 (cmpI ((nv 256 xs) % (nv 256 ms)) (nv 256 ms))), (128, .slice Am ms.length cm), (127, .slice A88 ((dig 256 ((nv 256 xs) % (nv 256 ms))).length) c89), (126, .bool true), (125, .bool true), (124, .bool true), (123, .int .i64 0), (122, .int .i64 0), (121, .bool true), (120, .bool true), (119, .bool true), (118, .int .i64 0), (117, .int .i64 0), (116, .bool true), (115, .bool true), (114, .bool true), (113, .int .i64 0), (112, .int .i64 0), (111, .bool true), (110, .bool true), (109, .bool true), (108, .int .i64 0), (107, .int .i64 0), (106, .bool true), (105, .bool true), (104, .bool true), (103, .int .i64 0), (102, .int .i64 0), (101, .bool true), (100, .bool true), (99, .bool true), (98, .int .i64 0), (97, .bool true), (96, .bool true), (20, .int .i64 0), (19, .slice A323 ((dig 256 (((nv 256 xs) * (nv 256 ms)) % (nv 256 ms))).length) c324), (18, .int .i64 0), (17, .slice A273 ((dig 256 ((((nv 256 xs) % (nv 256 ms)) * ((nv 256 ys) % (nv 256 ms))) % (nv 256 ms))).length) c274), (16, .int .i64 0), (15, .slice A227 ((dig 256 (((nv 256 xs) * (nv 256 ys)) % (nv 256 ms))).length) c228), (14, .int .i64 0), (13, .slice A185 ((dig 256 ((((nv 256 xs) % (nv 256 ms)) + ((nv 256 ys) % (nv 256 ms))) % (nv 256 ms))).length) c186), (12, .int .i64 0), (11, .slice A147 ((dig 256 (((nv 256 xs) + (nv 256 ys)) % (nv 256 ms))).length) c148), (10, .int .i64 0), (9, .slice A113 ((dig 256 ((nv 256 ys) % (nv 256 ms))).length) c114), (37, .bool false), (8, .int .i64 0), (7, .slice A88 ((dig 256 ((nv 256 xs) % (nv 256 ms))).length) c89), (29, .bool ((decide (120 < ((ms.length : Nat) : Int))))), (6, .bool false), (0, .slice Ax xs.length cx), (1, .slice Ay ys.length cy), (2, .slice Am ms.length cm)]) (cs := []) (by kernel_rfl) trivial ?_
        intro a393 hF394; clear hF392 a390
        refine wl (One.bare hF394 (by kernel_rfl) (s_str hT (d := 134) (A := A147) (m := (dig 256 (((nv 256 xs) + (nv 256 ys)) % (nv 256 ms))).length) (xs := (dig 256 (((nv 256 xs) + (nv 256 ys)) % (nv 256 ms)))) (by kernel_rfl) hF394 HO149.rd (by (first | (simp only [vs_length, vi_length]; omega) | (simp; omega) | omega)) ?_))
        rintro a395 ha397 hF396; clear ha397 hF394 a393
        refine pures hT 1 _ hF396 (F' := [(135, .slice A185 ((dig 256 ((((nv 256 xs) % (nv 256 ms)) + ((nv 256 ys) % (nv 256 ms))) % (nv 256 ms))).length) c186), (134, .string (str (dig 256 (((nv 256 xs) + (nv 256 ys)) % (nv 256 ms))))), (133, .slice A147 ((dig 256 (((nv 256 xs) + (nv 256 ys)) % (nv 256 ms))).length) c148), (132, .bool true), (131, .bool true), (130, .bool true), (129, .int .i64 (cmpI ((nv 256 xs) % (nv 256 ms)) (nv 256 ms))), (128, .slice Am ms.length cm), (127, .slice A88 ((dig 256 ((nv 256 xs) % (nv 256 ms))).length) c89), (126, .bool true), (125, .bool true), (124, .bool true), (123, .int .i64 0), (122, .int .i64 0), (121, .bool true), (120, .bool true), (119, .bool true), (118, .int .i64 0), (117, .int .i64 0), (116, .bool true), (115, .bool true), (114, .bool true), (113, .int .i64 0), (112, .int .i64 0), (111, .bool true), (110, .bool true), (109, .bool true), (108, .int .i64 0), (107, .int .i64 0), (106, .bool true), (105, .bool true), (104, .bool true), (103, .int .i64 0), (102, .int .i64 0), (101, .bool true), (100, .bool true), (99, .bool true), (98, .int .i64 0), (97, .bool true), (96, .bool true), (20, .int .i64 0), (19, .slice A323 ((dig 256 (((nv 256 xs) * (nv 256 ms)) % (nv 256 ms))).length) c324), (18, .int .i64 0), (17, .slice A273 ((dig 256 ((((nv 256 xs) % (nv 256 ms)) * ((nv 256 ys) % (nv 256 ms))) % (nv 256 ms))).length) c274), (16, .int .i64 0), (15, .slice A227 ((dig 256 (((nv 256 xs) * (nv 256 ys)) % (nv 256 ms))).length) c228), (14, .int .i64 0), (13, .slice A185 ((dig 256 ((((nv 256 xs) % (nv 256 ms)) + ((nv 256 ys) % (nv 256 ms))) % (nv 256 ms))).length) c186), (12, .int .i64 0), (11, .slice A147 ((dig 256 (((nv 256 xs) + (nv 256 ys)) % (nv 256 ms))).length) c148), (10, .int .i64 0), (9, .slice A113 ((dig 256 ((nv 256 ys) % (nv 256 ms))).length) c114), (37, .bool false), (8, .int .i64 0), (7, .slice A88 ((dig 256 ((nv 256 xs) % (nv 256 ms))).length) c89), (29, .bool ((decide (120 < ((ms.length : Nat) : Int))))), (6, .bool false), (0, .slice Ax xs.length cx), (1, .slice Ay ys.length cy), (2, .slice Am ms.length cm)]) (cs := []) (by kernel_rfl) trivial ?_
        intro a398 hF399; clear hF396 a395
        refine wl (One.bare hF399 (by kernel_rfl) (s_str hT (d := 136) (A := A185) (m := (dig 256 ((((nv 256 xs) % (nv 256 ms)) + ((nv 256 ys) % (nv 256 ms))) % (nv 256 ms))).length) (xs := (dig 256 ((((nv 256 xs) % (nv 256 ms)) + ((nv 256 ys) % (nv 256 ms))) % (nv 256 ms)))) (by kernel_rfl) hF399 HO187.rd (by (first | (simp only [vs_length, vi_length]; omega) | (simp; omega) | omega)) ?_))
        rintro a400 ha402 hF401; clear ha402 hF399 a398
        refine pures hT 1 _ hF401 (F' := [(137, .bool ((ByteArray.toList (str (dig 256 (((nv 256 xs) + (nv 256 ys)) % (nv 256 ms)))) == ByteArray.toList (str (dig 256 ((((nv 256 xs) % (nv 256 ms)) + ((nv 256 ys) % (nv 256 ms))) % (nv 256 ms))))))), (136, .string (str (dig 256 ((((nv 256 xs) % (nv 256 ms)) + ((nv 256 ys) % (nv 256 ms))) % (nv 256 ms))))), (135, .slice A185 ((dig 256 ((((nv 256 xs) % (nv 256 ms)) + ((nv 256 ys) % (nv 256 ms))) % (nv 256 ms))).length) c186), (134, .string (str (dig 256 (((nv 256 xs) + (nv 256 ys)) % (nv 256 ms))))), (133, .slice A147 ((dig 256 (((nv 256 xs) + (nv 256 ys)) % (nv 256 ms))).length) c148), (132, .bool true), (131, .bool true), (130, .bool true), (129, .int .i64 (cmpI ((nv 256 xs) % (nv 256 ms)) (nv 256 ms))), (128, .slice Am ms.length cm), (127, .slice A88 ((dig 256 ((nv 256 xs) % (nv 256 ms))).length) c89), (126, .bool true), (125, .bool true), (124, .bool true), (123, .int .i64 0), (122, .int .i64 0), (121, .bool true), (120, .bool true), (119, .bool true), (118, .int .i64 0), (117, .int .i64 0), (116, .bool true), (115, .bool true), (114, .bool true), (113, .int .i64 0), (112, .int .i64 0), (111, .bool true), (110, .bool true), (109, .bool true), (108, .int .i64 0), (107, .int .i64 0), (106, .bool true), (105, .bool true), (104, .bool true), (103, .int .i64 0), (102, .int .i64 0), (101, .bool true), (100, .bool true), (99, .bool true), (98, .int .i64 0), (97, .bool true), (96, .bool true), (20, .int .i64 0), (19, .slice A323 ((dig 256 (((nv 256 xs) * (nv 256 ms)) % (nv 256 ms))).length) c324), (18, .int .i64 0), (17, .slice A273 ((dig 256 ((((nv 256 xs) % (nv 256 ms)) * ((nv 256 ys) % (nv 256 ms))) % (nv 256 ms))).length) c274), (16, .int .i64 0), (15, .slice A227 ((dig 256 (((nv 256 xs) * (nv 256 ys)) % (nv 256 ms))).length) c228), (14, .int .i64 0), (13, .slice A185 ((dig 256 ((((nv 256 xs) % (nv 256 ms)) + ((nv 256 ys) % (nv 256 ms))) % (nv 256 ms))).length) c186), (12, .int .i64 0), (11, .slice A147 ((dig 256 (((nv 256 xs) + (nv 256 ys)) % (nv 256 ms))).length) c148), (10, .int .i64 0), (9, .slice A113 ((dig 256 ((nv 256 ys) % (nv 256 ms))).length) c114), (37, .bool false), (8, .int .i64 0), (7, .slice A88 ((dig 256 ((nv 256 xs) % (nv 256 ms))).length) c89), (29, .bool ((decide (120 < ((ms.length : Nat) : Int))))), (6, .bool false), (0, .slice Ax xs.length cx), (1, .slice Ay ys.length cy), (2, .slice Am ms.length cm)]) (cs := []) (by kernel_rfl) trivial ?_
        intro a403 hF404; clear hF401 a400
        have hF405 : Fr 151 a403 [(137, .bool true), (136, .string (str (dig 256 ((((nv 256 xs) % (nv 256 ms)) + ((nv 256 ys) % (nv 256 ms))) % (nv 256 ms))))), (135, .slice A185 ((dig 256 ((((nv 256 xs) % (nv 256 ms)) + ((nv 256 ys) % (nv 256 ms))) % (nv 256 ms))).length) c186), (134, .string (str (dig 256 (((nv 256 xs) + (nv 256 ys)) % (nv 256 ms))))), (133, .slice A147 ((dig 256 (((nv 256 xs) + (nv 256 ys)) % (nv 256 ms))).length) c148), (132, .bool true), (131, .bool true), (130, .bool true), (129, .int .i64 (cmpI ((nv 256 xs) % (nv 256 ms)) (nv 256 ms))), (128, .slice Am ms.length cm), (127, .slice A88 ((dig 256 ((nv 256 xs) % (nv 256 ms))).length) c89), (126, .bool true), (125, .bool true), (124, .bool true), (123, .int .i64 0), (122, .int .i64 0), (121, .bool true), (120, .bool true), (119, .bool true), (118, .int .i64 0), (117, .int .i64 0), (116, .bool true), (115, .bool true), (114, .bool true), (113, .int .i64 0), (112, .int .i64 0), (111, .bool true), (110, .bool true), (109, .bool true), (108, .int .i64 0), (107, .int .i64 0), (106, .bool true), (105, .bool true), (104, .bool true), (103, .int .i64 0), (102, .int .i64 0), (101, .bool true), (100, .bool true), (99, .bool true), (98, .int .i64 0), (97, .bool true), (96, .bool true), (20, .int .i64 0), (19, .slice A323 ((dig 256 (((nv 256 xs) * (nv 256 ms)) % (nv 256 ms))).length) c324), (18, .int .i64 0), (17, .slice A273 ((dig 256 ((((nv 256 xs) % (nv 256 ms)) * ((nv 256 ys) % (nv 256 ms))) % (nv 256 ms))).length) c274), (16, .int .i64 0), (15, .slice A227 ((dig 256 (((nv 256 xs) * (nv 256 ys)) % (nv 256 ms))).length) c228), (14, .int .i64 0), (13, .slice A185 ((dig 256 ((((nv 256 xs) % (nv 256 ms)) + ((nv 256 ys) % (nv 256 ms))) % (nv 256 ms))).length) c186), (12, .int .i64 0), (11, .slice A147 ((dig 256 (((nv 256 xs) + (nv 256 ys)) % (nv 256 ms))).length) c148), (10, .int .i64 0), (9, .slice A113 ((dig 256 ((nv 256 ys) % (nv 256 ms))).length) c114), (37, .bool false), (8, .int .i64 0), (7, .slice A88 ((dig 256 ((nv 256 xs) % (nv 256 ms))).length) c89), (29, .bool ((decide (120 < ((ms.length : Nat) : Int))))), (6, .bool false), (0, .slice Ax xs.length cx), (1, .slice Ay ys.length cy), (2, .slice Am ms.length cm)] := by rw [show ((ByteArray.toList (str (dig 256 (((nv 256 xs) + (nv 256 ys)) % (nv 256 ms)))) == ByteArray.toList (str (dig 256 ((((nv 256 xs) % (nv 256 ms)) + ((nv 256 ys) % (nv 256 ms))) % (nv 256 ms)))))) = true from (str_eqT (dig_congr (Nat.add_mod _ _ _)))] at hF404; exact hF404
        clear hF404
        refine pures hT 3 _ hF405 (F' := [(140, .slice A227 ((dig 256 (((nv 256 xs) * (nv 256 ys)) % (nv 256 ms))).length) c228), (139, .bool true), (138, .bool true), (137, .bool true), (136, .string (str (dig 256 ((((nv 256 xs) % (nv 256 ms)) + ((nv 256 ys) % (nv 256 ms))) % (nv 256 ms))))), (135, .slice A185 ((dig 256 ((((nv 256 xs) % (nv 256 ms)) + ((nv 256 ys) % (nv 256 ms))) % (nv 256 ms))).length) c186), (134, .string (str (dig 256 (((nv 256 xs) + (nv 256 ys)) % (nv 256 ms))))), (133, .slice A147 ((dig 256 (((nv 256 xs) + (nv 256 ys)) % (nv 256 ms))).length) c148), (132, .bool true), (131, .bool true), (130, .bool true), (129, .int .i64 (cmpI ((nv 256 xs) % (nv 256 ms)) (nv 256 ms))), (128, .slice Am ms.length cm), (127, .slice A88 ((dig 256 ((nv 256 xs) % (nv 256 ms))).length) c89), (126, .bool true), (125, .bool true), (124, .bool true), (123, .int .i64 0), (122, .int .i64 0), (121, .bool true), (120, .bool true), (119, .bool true), (118, .int .i64 0), (117, .int .i64 0), (116, .bool true), (115, .bool true), (114, .bool true), (113, .int .i64 0), (112, .int .i64 0), (111, .bool true), (110, .bool true), (109, .bool true), (108, .int .i64 0), (107, .int .i64 0), (106, .bool true), (105, .bool true), (104, .bool true), (103, .int .i64 0), (102, .int .i64 0), (101, .bool true), (100, .bool true), (99, .bool true), (98, .int .i64 0), (97, .bool true), (96, .bool true), (20, .int .i64 0), (19, .slice A323 ((dig 256 (((nv 256 xs) * (nv 256 ms)) % (nv 256 ms))).length) c324), (18, .int .i64 0), (17, .slice A273 ((dig 256 ((((nv 256 xs) % (nv 256 ms)) * ((nv 256 ys) % (nv 256 ms))) % (nv 256 ms))).length) c274), (16, .int .i64 0), (15, .slice A227 ((dig 256 (((nv 256 xs) * (nv 256 ys)) % (nv 256 ms))).length) c228), (14, .int .i64 0), (13, .slice A185 ((dig 256 ((((nv 256 xs) % (nv 256 ms)) + ((nv 256 ys) % (nv 256 ms))) % (nv 256 ms))).length) c186), (12, .int .i64 0), (11, .slice A147 ((dig 256 (((nv 256 xs) + (nv 256 ys)) % (nv 256 ms))).length) c148), (10, .int .i64 0), (9, .slice A113 ((dig 256 ((nv 256 ys) % (nv 256 ms))).length) c114), (37, .bool false), (8, .int .i64 0), (7, .slice A88 ((dig 256 ((nv 256 xs) % (nv 256 ms))).length) c89), (29, .bool ((decide (120 < ((ms.length : Nat) : Int))))), (6, .bool false), (0, .slice Ax xs.length cx), (1, .slice Ay ys.length cy), (2, .slice Am ms.length cm)]) (cs := []) (by kernel_rfl) trivial ?_
        intro a406 hF407; clear hF405 a403
        refine wl (One.bare hF407 (by kernel_rfl) (s_str hT (d := 141) (A := A227) (m := (dig 256 (((nv 256 xs) * (nv 256 ys)) % (nv 256 ms))).length) (xs := (dig 256 (((nv 256 xs) * (nv 256 ys)) % (nv 256 ms)))) (by kernel_rfl) hF407 HO229.rd (by (first | (simp only [vs_length, vi_length]; omega) | (simp; omega) | omega)) ?_))
        rintro a408 ha410 hF409; clear ha410 hF407 a406
        refine pures hT 1 _ hF409 (F' := [(142, .slice A273 ((dig 256 ((((nv 256 xs) % (nv 256 ms)) * ((nv 256 ys) % (nv 256 ms))) % (nv 256 ms))).length) c274), (141, .string (str (dig 256 (((nv 256 xs) * (nv 256 ys)) % (nv 256 ms))))), (140, .slice A227 ((dig 256 (((nv 256 xs) * (nv 256 ys)) % (nv 256 ms))).length) c228), (139, .bool true), (138, .bool true), (137, .bool true), (136, .string (str (dig 256 ((((nv 256 xs) % (nv 256 ms)) + ((nv 256 ys) % (nv 256 ms))) % (nv 256 ms))))), (135, .slice A185 ((dig 256 ((((nv 256 xs) % (nv 256 ms)) + ((nv 256 ys) % (nv 256 ms))) % (nv 256 ms))).length) c186), (134, .string (str (dig 256 (((nv 256 xs) + (nv 256 ys)) % (nv 256 ms))))), (133, .slice A147 ((dig 256 (((nv 256 xs) + (nv 256 ys)) % (nv 256 ms))).length) c148), (132, .bool true), (131, .bool true), (130, .bool true), (129, .int .i64 (cmpI ((nv 256 xs) % (nv 256 ms)) (nv 256 ms))), (128, .slice Am ms.length cm), (127, .slice A88 ((dig 256 ((nv 256 xs) % (nv 256 ms))).length) c89), (126, .bool true), (125, .bool true), (124, .bool true), (123, .int .i64 0), (122, .int .i64 0), (121, .bool true), (120, .bool true), (119, .bool true), (118, .int .i64 0), (117, .int .i64 0), (116, .bool true), (115, .bool true), (114, .bool true), (113, .int .i64 0), (112, .int .i64 0), (111, .bool true), (110, .bool true), (109, .bool true), (108, .int .i64 0), (107, .int .i64 0), (106, .bool true), (105, .bool true), (104, .bool true), (103, .int .i64 0), (102, .int .i64 0), (101, .bool true), (100, .bool true), (99, .bool true), (98, .int .i64 0), (97, .bool true), (96, .bool true), (20, .int .i64 0), (19, .slice A323 ((dig 256 (((nv 256 xs) * (nv 256 ms)) % (nv 256 ms))).length) c324), (18, .int .i64 0), (17, .slice A273 ((dig 256 ((((nv 256 xs) % (nv 256 ms)) * ((nv 256 ys) % (nv 256 ms))) % (nv 256 ms))).length) c274), (16, .int .i64 0), (15, .slice A227 ((dig 256 (((nv 256 xs) * (nv 256 ys)) % (nv 256 ms))).length) c228), (14, .int .i64 0), (13, .slice A185 ((dig 256 ((((nv 256 xs) % (nv 256 ms)) + ((nv 256 ys) % (nv 256 ms))) % (nv 256 ms))).length) c186), (12, .int .i64 0), (11, .slice A147 ((dig 256 (((nv 256 xs) + (nv 256 ys)) % (nv 256 ms))).length) c148), (10, .int .i64 0), (9, .slice A113 ((dig 256 ((nv 256 ys) % (nv 256 ms))).length) c114), (37, .bool false), (8, .int .i64 0), (7, .slice A88 ((dig 256 ((nv 256 xs) % (nv 256 ms))).length) c89), (29, .bool ((decide (120 < ((ms.length : Nat) : Int))))), (6, .bool false), (0, .slice Ax xs.length cx), (1, .slice Ay ys.length cy), (2, .slice Am ms.length cm)]) (cs := []) (by kernel_rfl) trivial ?_
        intro a411 hF412; clear hF409 a408
        refine wl (One.bare hF412 (by kernel_rfl) (s_str hT (d := 143) (A := A273) (m := (dig 256 ((((nv 256 xs) % (nv 256 ms)) * ((nv 256 ys) % (nv 256 ms))) % (nv 256 ms))).length) (xs := (dig 256 ((((nv 256 xs) % (nv 256 ms)) * ((nv 256 ys) % (nv 256 ms))) % (nv 256 ms)))) (by kernel_rfl) hF412 HO275.rd (by (first | (simp only [vs_length, vi_length]; omega) | (simp; omega) | omega)) ?_))
        rintro a413 ha415 hF414; clear ha415 hF412 a411
        refine pures hT 1 _ hF414 (F' := [(144, .bool ((ByteArray.toList (str (dig 256 (((nv 256 xs) * (nv 256 ys)) % (nv 256 ms)))) == ByteArray.toList (str (dig 256 ((((nv 256 xs) % (nv 256 ms)) * ((nv 256 ys) % (nv 256 ms))) % (nv 256 ms))))))), (143, .string (str (dig 256 ((((nv 256 xs) % (nv 256 ms)) * ((nv 256 ys) % (nv 256 ms))) % (nv 256 ms))))), (142, .slice A273 ((dig 256 ((((nv 256 xs) % (nv 256 ms)) * ((nv 256 ys) % (nv 256 ms))) % (nv 256 ms))).length) c274), (141, .string (str (dig 256 (((nv 256 xs) * (nv 256 ys)) % (nv 256 ms))))), (140, .slice A227 ((dig 256 (((nv 256 xs) * (nv 256 ys)) % (nv 256 ms))).length) c228), (139, .bool true), (138, .bool true), (137, .bool true), (136, .string (str (dig 256 ((((nv 256 xs) % (nv 256 ms)) + ((nv 256 ys) % (nv 256 ms))) % (nv 256 ms))))), (135, .slice A185 ((dig 256 ((((nv 256 xs) % (nv 256 ms)) + ((nv 256 ys) % (nv 256 ms))) % (nv 256 ms))).length) c186), (134, .string (str (dig 256 (((nv 256 xs) + (nv 256 ys)) % (nv 256 ms))))), (133, .slice A147 ((dig 256 (((nv 256 xs) + (nv 256 ys)) % (nv 256 ms))).length) c148), (132, .bool true), (131, .bool true), (130, .bool true), (129, .int .i64 (cmpI ((nv 256 xs) % (nv 256 ms)) (nv 256 ms))), (128, .slice Am ms.length cm), (127, .slice A88 ((dig 256 ((nv 256 xs) % (nv 256 ms))).length) c89), (126, .bool true), (125, .bool true), (124, .bool true), (123, .int .i64 0), (122, .int .i64 0), (121, .bool true), (120, .bool true), (119, .bool true), (118, .int .i64 0), (117, .int .i64 0), (116, .bool true), (115, .bool true), (114, .bool true), (113, .int .i64 0), (112, .int .i64 0), (111, .bool true), (110, .bool true), (109, .bool true), (108, .int .i64 0), (107, .int .i64 0), (106, .bool true), (105, .bool true), (104, .bool true), (103, .int .i64 0), (102, .int .i64 0), (101, .bool true), (100, .bool true), (99, .bool true), (98, .int .i64 0), (97, .bool true), (96, .bool true), (20, .int .i64 0), (19, .slice A323 ((dig 256 (((nv 256 xs) * (nv 256 ms)) % (nv 256 ms))).length) c324), (18, .int .i64 0), (17, .slice A273 ((dig 256 ((((nv 256 xs) % (nv 256 ms)) * ((nv 256 ys) % (nv 256 ms))) % (nv 256 ms))).length) c274), (16, .int .i64 0), (15, .slice A227 ((dig 256 (((nv 256 xs) * (nv 256 ys)) % (nv 256 ms))).length) c228), (14, .int .i64 0), (13, .slice A185 ((dig 256 ((((nv 256 xs) % (nv 256 ms)) + ((nv 256 ys) % (nv 256 ms))) % (nv 256 ms))).length) c186), (12, .int .i64 0), (11, .slice A147 ((dig 256 (((nv 256 xs) + (nv 256 ys)) % (nv 256 ms))).length) c148), (10, .int .i64 0), (9, .slice A113 ((dig 256 ((nv 256 ys) % (nv 256 ms))).length) c114), (37, .bool false), (8, .int .i64 0), (7, .slice A88 ((dig 256 ((nv 256 xs) % (nv 256 ms))).length) c89), (29, .bool ((decide (120 < ((ms.length : Nat) : Int))))), (6, .bool false), (0, .slice Ax xs.length cx), (1, .slice Ay ys.length cy), (2, .slice Am ms.length cm)]) (cs := []) (by kernel_rfl) trivial ?_
        intro a416 hF417; clear hF414 a413
        have hF418 : Fr 151 a416 [(144, .bool true), (143, .string (str (dig 256 ((((nv 256 xs) % (nv 256 ms)) * ((nv 256 ys) % (nv 256 ms))) % (nv 256 ms))))), (142, .slice A273 ((dig 256 ((((nv 256 xs) % (nv 256 ms)) * ((nv 256 ys) % (nv 256 ms))) % (nv 256 ms))).length) c274), (141, .string (str (dig 256 (((nv 256 xs) * (nv 256 ys)) % (nv 256 ms))))), (140, .slice A227 ((dig 256 (((nv 256 xs) * (nv 256 ys)) % (nv 256 ms))).length) c228), (139, .bool true), (138, .bool true), (137, .bool true), (136, .string (str (dig 256 ((((nv 256 xs) % (nv 256 ms)) + ((nv 256 ys) % (nv 256 ms))) % (nv 256 ms))))), (135, .slice A185 ((dig 256 ((((nv 256 xs) % (nv 256 ms)) + ((nv 256 ys) % (nv 256 ms))) % (nv 256 ms))).length) c186), (134, .string (str (dig 256 (((nv 256 xs) + (nv 256 ys)) % (nv 256 ms))))), (133, .slice A147 ((dig 256 (((nv 256 xs) + (nv 256 ys)) % (nv 256 ms))).length) c148), (132, .bool true), (131, .bool true), (130, .bool true), (129, .int .i64 (cmpI ((nv 256 xs) % (nv 256 ms)) (nv 256 ms))), (128, .slice Am ms.length cm), (127, .slice A88 ((dig 256 ((nv 256 xs) % (nv 256 ms))).length) c89), (126, .bool true), (125, .bool true), (124, .bool true), (123, .int .i64 0), (122, .int .i64 0), (121, .bool true), (120, .bool true), (119, .bool true), (118, .int .i64 0), (117, .int .i64 0), (116, .bool true), (115, .bool true), (114, .bool true), (113, .int .i64 0), (112, .int .i64 0), (111, .bool true), (110, .bool true), (109, .bool true), (108, .int .i64 0), (107, .int .i64 0), (106, .bool true), (105, .bool true), (104, .bool true), (103, .int .i64 0), (102, .int .i64 0), (101, .bool true), (100, .bool true), (99, .bool true), (98, .int .i64 0), (97, .bool true), (96, .bool true), (20, .int .i64 0), (19, .slice A323 ((dig 256 (((nv 256 xs) * (nv 256 ms)) % (nv 256 ms))).length) c324), (18, .int .i64 0), (17, .slice A273 ((dig 256 ((((nv 256 xs) % (nv 256 ms)) * ((nv 256 ys) % (nv 256 ms))) % (nv 256 ms))).length) c274), (16, .int .i64 0), (15, .slice A227 ((dig 256 (((nv 256 xs) * (nv 256 ys)) % (nv 256 ms))).length) c228), (14, .int .i64 0), (13, .slice A185 ((dig 256 ((((nv 256 xs) % (nv 256 ms)) + ((nv 256 ys) % (nv 256 ms))) % (nv 256 ms))).length) c186), (12, .int .i64 0), (11, .slice A147 ((dig 256 (((nv 256 xs) + (nv 256 ys)) % (nv 256 ms))).length) c148), (10, .int .i64 0), (9, .slice A113 ((dig 256 ((nv 256 ys) % (nv 256 ms))).length) c114), (37, .bool false), (8, .int .i64 0), (7, .slice A88 ((dig 256 ((nv 256 xs) % (nv 256 ms))).length) c89), (29, .bool ((decide (120 < ((ms.length : Nat) : Int))))), (6, .bool false), (0, .slice Ax xs.length cx), (1, .slice Ay ys.length cy), (2, .slice Am ms.length cm)] := by rw [show ((ByteArray.toList (str (dig 256 (((nv 256 xs) * (nv 256 ys)) % (nv 256 ms)))) == ByteArray.toList (str (dig 256 ((((nv 256 xs) % (nv 256 ms)) * ((nv 256 ys) % (nv 256 ms))) % (nv 256 ms)))))) = true from (str_eqT (dig_congr (Nat.mul_mod _ _ _)))] at hF417; exact hF417
        clear hF417
        refine pures hT 5 _ hF418 (F' := [(149, .bool ((decide ((((dig 256 (((nv 256 xs) * (nv 256 ms)) % (nv 256 ms))).length : Nat) : Int) = 0)))), (148, .int .i64 (((dig 256 (((nv 256 xs) * (nv 256 ms)) % (nv 256 ms))).length : Nat) : Int)), (147, .slice A323 ((dig 256 (((nv 256 xs) * (nv 256 ms)) % (nv 256 ms))).length) c324), (146, .bool true), (145, .bool true), (144, .bool true), (143, .string (str (dig 256 ((((nv 256 xs) % (nv 256 ms)) * ((nv 256 ys) % (nv 256 ms))) % (nv 256 ms))))), (142, .slice A273 ((dig 256 ((((nv 256 xs) % (nv 256 ms)) * ((nv 256 ys) % (nv 256 ms))) % (nv 256 ms))).length) c274), (141, .string (str (dig 256 (((nv 256 xs) * (nv 256 ys)) % (nv 256 ms))))), (140, .slice A227 ((dig 256 (((nv 256 xs) * (nv 256 ys)) % (nv 256 ms))).length) c228), (139, .bool true), (138, .bool true), (137, .bool true), (136, .string (str (dig 256 ((((nv 256 xs) % (nv 256 ms)) + ((nv 256 ys) % (nv 256 ms))) % (nv 256 ms))))), (135, .slice A185 ((dig 256 ((((nv 256 xs) % (nv 256 ms)) + ((nv 256 ys) % (nv 256 ms))) % (nv 256 ms))).length) c186), (134, .string (str (dig 256 (((nv 256 xs) + (nv 256 ys)) % (nv 256 ms))))), (133, .slice A147 ((dig 256 (((nv 256 xs) + (nv 256 ys)) % (nv 256 ms))).length) c148), (132, .bool true), (131, .bool true), (130, .bool true), (129, .int .i64 (cmpI ((nv 256 xs) % (nv 256 ms)) (nv 256 ms))), (128, .slice Am ms.length cm), (127, .slice A88 ((dig 256 ((nv 256 xs) % (nv 256 ms))).length) c89), (126, .bool true), (125, .bool true), (124, .bool true), (123, .int .i64 0), (122, .int .i64 0), (121, .bool true), (120, .bool true), (119, .bool true), (118, .int .i64 0), (117, .int .i64 0), (116, .bool true), (115, .bool true), (114, .bool true), (113, .int .i64 0), (112, .int .i64 0), (111, .bool true), (110, .bool true), (109, .bool true), (108, .int .i64 0), (107, .int .i64 0), (106, .bool true), (105, .bool true), (104, .bool true), (103, .int .i64 0), (102, .int .i64 0), (101, .bool true), (100, .bool true), (99, .bool true), (98, .int .i64 0), (97, .bool true), (96, .bool true), (20, .int .i64 0), (19, .slice A323 ((dig 256 (((nv 256 xs) * (nv 256 ms)) % (nv 256 ms))).length) c324), (18, .int .i64 0), (17, .slice A273 ((dig 256 ((((nv 256 xs) % (nv 256 ms)) * ((nv 256 ys) % (nv 256 ms))) % (nv 256 ms))).length) c274), (16, .int .i64 0), (15, .slice A227 ((dig 256 (((nv 256 xs) * (nv 256 ys)) % (nv 256 ms))).length) c228), (14, .int .i64 0), (13, .slice A185 ((dig 256 ((((nv 256 xs) % (nv 256 ms)) + ((nv 256 ys) % (nv 256 ms))) % (nv 256 ms))).length) c186), (12, .int .i64 0), (11, .slice A147 ((dig 256 (((nv 256 xs) + (nv 256 ys)) % (nv 256 ms))).length) c148), (10, .int .i64 0), (9, .slice A113 ((dig 256 ((nv 256 ys) % (nv 256 ms))).length) c114), (37, .bool false), (8, .int .i64 0), (7, .slice A88 ((dig 256 ((nv 256 xs) % (nv 256 ms))).length) c89), (29, .bool ((decide (120 < ((ms.length : Nat) : Int))))), (6, .bool false), (0, .slice Ax xs.length cx), (1, .slice Ay ys.length cy), (2, .slice Am ms.length cm)]) (cs := []) (by kernel_rfl) trivial ?_
        intro a419 hF420; clear hF418 a416
        have hF421 : Fr 151 a419 [(149, .bool true), (148, .int .i64 (((dig 256 (((nv 256 xs) * (nv 256 ms)) % (nv 256 ms))).length : Nat) : Int)), (147, .slice A323 ((dig 256 (((nv 256 xs) * (nv 256 ms)) % (nv 256 ms))).length) c324), (146, .bool true), (145, .bool true), (144, .bool true), (143, .string (str (dig 256 ((((nv 256 xs) % (nv 256 ms)) * ((nv 256 ys) % (nv 256 ms))) % (nv 256 ms))))), (142, .slice A273 ((dig 256 ((((nv 256 xs) % (nv 256 ms)) * ((nv 256 ys) % (nv 256 ms))) % (nv 256 ms))).length) c274), (141, .string (str (dig 256 (((nv 256 xs) * (nv 256 ys)) % (nv 256 ms))))), (140, .slice A227 ((dig 256 (((nv 256 xs) * (nv 256 ys)) % (nv 256 ms))).length) c228), (139, .bool true), (138, .bool true), (137, .bool true), (136, .string (str (dig 256 ((((nv 256 xs) % (nv 256 ms)) + ((nv 256 ys) % (nv 256 ms))) % (nv 256 ms))))), (135, .slice A185 ((dig 256 ((((nv 256 xs) % (nv 256 ms)) + ((nv 256 ys) % (nv 256 ms))) % (nv 256 ms))).length) c186), (134, .string (str (dig 256 (((nv 256 xs) + (nv 256 ys)) % (nv 256 ms))))), (133, .slice A147 ((dig 256 (((nv 256 xs) + (nv 256 ys)) % (nv 256 ms))).length) c148), (132, .bool true), (131, .bool true), (130, .bool true), (129, .int .i64 (cmpI ((nv 256 xs) % (nv 256 ms)) (nv 256 ms))), (128, .slice Am ms.length cm), (127, .slice A88 ((dig 256 ((nv 256 xs) % (nv 256 ms))).length) c89), (126, .bool true), (125, .bool true), (124, .bool true), (123, .int .i64 0), (122, .int .i64 0), (121, .bool true), (120, .bool true), (119, .bool true), (118, .int .i64 0), (117, .int .i64 0), (116, .bool true), (115, .bool true), (114, .bool true), (113, .int .i64 0), (112, .int .i64 0), (111, .bool true), (110, .bool true), (109, .bool true), (108, .int .i64 0), (107, .int .i64 0), (106, .bool true), (105, .bool true), (104, .bool true), (103, .int .i64 0), (102, .int .i64 0), (101, .bool true), (100, .bool true), (99, .bool true), (98, .int .i64 0), (97, .bool true), (96, .bool true), (20, .int .i64 0), (19, .slice A323 ((dig 256 (((nv 256 xs) * (nv 256 ms)) % (nv 256 ms))).length) c324), (18, .int .i64 0), (17, .slice A273 ((dig 256 ((((nv 256 xs) % (nv 256 ms)) * ((nv 256 ys) % (nv 256 ms))) % (nv 256 ms))).length) c274), (16, .int .i64 0), (15, .slice A227 ((dig 256 (((nv 256 xs) * (nv 256 ys)) % (nv 256 ms))).length) c228), (14, .int .i64 0), (13, .slice A185 ((dig 256 ((((nv 256 xs) % (nv 256 ms)) + ((nv 256 ys) % (nv 256 ms))) % (nv 256 ms))).length) c186), (12, .int .i64 0), (11, .slice A147 ((dig 256 (((nv 256 xs) + (nv 256 ys)) % (nv 256 ms))).length) c148), (10, .int .i64 0), (9, .slice A113 ((dig 256 ((nv 256 ys) % (nv 256 ms))).length) c114), (37, .bool false), (8, .int .i64 0), (7, .slice A88 ((dig 256 ((nv 256 xs) % (nv 256 ms))).length) c89), (29, .bool ((decide (120 < ((ms.length : Nat) : Int))))), (6, .bool false), (0, .slice Ax xs.length cx), (1, .slice Ay ys.length cy), (2, .slice Am ms.length cm)] := by rw [show ((decide ((((dig 256 (((nv 256 xs) * (nv 256 ms)) % (nv 256 ms))).length : Nat) : Int) = 0))) = true from (decide_eq_true (by have := len0 (nv 256 xs * nv 256 ms % nv 256 ms) (Nat.mul_mod_left _ _); omega))] at hF420; exact hF420
        clear hF420
        refine pures_end hT 2 _ hF421 (F' := [(6, .bool true), (150, .bool true), (149, .bool true), (148, .int .i64 (((dig 256 (((nv 256 xs) * (nv 256 ms)) % (nv 256 ms))).length : Nat) : Int)), (147, .slice A323 ((dig 256 (((nv 256 xs) * (nv 256 ms)) % (nv 256 ms))).length) c324), (146, .bool true), (145, .bool true), (144, .bool true), (143, .string (str (dig 256 ((((nv 256 xs) % (nv 256 ms)) * ((nv 256 ys) % (nv 256 ms))) % (nv 256 ms))))), (142, .slice A273 ((dig 256 ((((nv 256 xs) % (nv 256 ms)) * ((nv 256 ys) % (nv 256 ms))) % (nv 256 ms))).length) c274), (141, .string (str (dig 256 (((nv 256 xs) * (nv 256 ys)) % (nv 256 ms))))), (140, .slice A227 ((dig 256 (((nv 256 xs) * (nv 256 ys)) % (nv 256 ms))).length) c228), (139, .bool true), (138, .bool true), (137, .bool true), (136, .string (str (dig 256 ((((nv 256 xs) % (nv 256 ms)) + ((nv 256 ys) % (nv 256 ms))) % (nv 256 ms))))), (135, .slice A185 ((dig 256 ((((nv 256 xs) % (nv 256 ms)) + ((nv 256 ys) % (nv 256 ms))) % (nv 256 ms))).length) c186), (134, .string (str (dig 256 (((nv 256 xs) + (nv 256 ys)) % (nv 256 ms))))), (133, .slice A147 ((dig 256 (((nv 256 xs) + (nv 256 ys)) % (nv 256 ms))).length) c148), (132, .bool true), (131, .bool true), (130, .bool true), (129, .int .i64 (cmpI ((nv 256 xs) % (nv 256 ms)) (nv 256 ms))), (128, .slice Am ms.length cm), (127, .slice A88 ((dig 256 ((nv 256 xs) % (nv 256 ms))).length) c89), (126, .bool true), (125, .bool true), (124, .bool true), (123, .int .i64 0), (122, .int .i64 0), (121, .bool true), (120, .bool true), (119, .bool true), (118, .int .i64 0), (117, .int .i64 0), (116, .bool true), (115, .bool true), (114, .bool true), (113, .int .i64 0), (112, .int .i64 0), (111, .bool true), (110, .bool true), (109, .bool true), (108, .int .i64 0), (107, .int .i64 0), (106, .bool true), (105, .bool true), (104, .bool true), (103, .int .i64 0), (102, .int .i64 0), (101, .bool true), (100, .bool true), (99, .bool true), (98, .int .i64 0), (97, .bool true), (96, .bool true), (20, .int .i64 0), (19, .slice A323 ((dig 256 (((nv 256 xs) * (nv 256 ms)) % (nv 256 ms))).length) c324), (18, .int .i64 0), (17, .slice A273 ((dig 256 ((((nv 256 xs) % (nv 256 ms)) * ((nv 256 ys) % (nv 256 ms))) % (nv 256 ms))).length) c274), (16, .int .i64 0), (15, .slice A227 ((dig 256 (((nv 256 xs) * (nv 256 ys)) % (nv 256 ms))).length) c228), (14, .int .i64 0), (13, .slice A185 ((dig 256 ((((nv 256 xs) % (nv 256 ms)) + ((nv 256 ys) % (nv 256 ms))) % (nv 256 ms))).length) c186), (12, .int .i64 0), (11, .slice A147 ((dig 256 (((nv 256 xs) + (nv 256 ys)) % (nv 256 ms))).length) c148), (10, .int .i64 0), (9, .slice A113 ((dig 256 ((nv 256 ys) % (nv 256 ms))).length) c114), (37, .bool false), (8, .int .i64 0), (7, .slice A88 ((dig 256 ((nv 256 xs) % (nv 256 ms))).length) c89), (29, .bool ((decide (120 < ((ms.length : Nat) : Int))))), (6, .bool false), (0, .slice Ax xs.length cx), (1, .slice Ay ys.length cy), (2, .slice Am ms.length cm)]) (cs := []) (by kernel_rfl) rfl trivial ?_
        intro a422 hF423; clear hF421 a419
        have hF424 := hF423.pick [6, 20, 19, 18, 17, 16, 15, 14, 13, 12, 11, 10, 9, 37, 8, 7, 29, 0, 1, 2] (G := [(6, .bool true), (20, .int .i64 0), (19, .slice A323 ((dig 256 (((nv 256 xs) * (nv 256 ms)) % (nv 256 ms))).length) c324), (18, .int .i64 0), (17, .slice A273 ((dig 256 ((((nv 256 xs) % (nv 256 ms)) * ((nv 256 ys) % (nv 256 ms))) % (nv 256 ms))).length) c274), (16, .int .i64 0), (15, .slice A227 ((dig 256 (((nv 256 xs) * (nv 256 ys)) % (nv 256 ms))).length) c228), (14, .int .i64 0), (13, .slice A185 ((dig 256 ((((nv 256 xs) % (nv 256 ms)) + ((nv 256 ys) % (nv 256 ms))) % (nv 256 ms))).length) c186), (12, .int .i64 0), (11, .slice A147 ((dig 256 (((nv 256 xs) + (nv 256 ys)) % (nv 256 ms))).length) c148), (10, .int .i64 0), (9, .slice A113 ((dig 256 ((nv 256 ys) % (nv 256 ms))).length) c114), (37, .bool false), (8, .int .i64 0), (7, .slice A88 ((dig 256 ((nv 256 xs) % (nv 256 ms))).length) c89), (29, .bool ((decide (120 < ((ms.length : Nat) : Int))))), (0, .slice Ax xs.length cx), (1, .slice Ay ys.length cy), (2, .slice Am ms.length cm)]) (by kernel_rfl); clear hF423
        refine hK349 _ _ ?_
        refine wp_ret ?_
        refine ret1 hF424 rfl (v := .bool true) (by kernel_rfl) ?_
        exact ⟨rfl, HE⟩
  · rw [e21] at hF19; clear e21; simp only [Bool.not_true, Bool.not_false] at hF19
    refine pures_end hT 4 _ hF19 (F' := [(29, .bool true), (28, undef), (27, undef), (26, undef), (25, .bool true), (24, .bool true), (23, .bool false), (22, .slice Ay ys.length cy), (21, .slice Ax xs.length cx), (6, .bool false), (0, .slice Ax xs.length cx), (1, .slice Ay ys.length cy), (2, .slice Am ms.length cm)]) (cs := []) (by kernel_rfl) rfl trivial ?_
    intro a425 hF426; clear hF19 a18
    have hF427 := hF426.pick [29, 6, 0, 1, 2] (G := [(29, .bool true), (6, .bool false), (0, .slice Ax xs.length cx), (1, .slice Ay ys.length cy), (2, .slice Am ms.length cm)]) (by kernel_rfl); clear hF426
    refine hK8 _ _ ?_
    refine condT hF427 (by kernel_rfl) ?_
    refine wp_seq_k (fun K428 hK429 => ?_)
    refine wp_region_lit ?_
    refine pures_end hT 1 _ hF427 (F' := [(6, .bool true), (29, .bool true), (6, .bool false), (0, .slice Ax xs.length cx), (1, .slice Ay ys.length cy), (2, .slice Am ms.length cm)]) (cs := []) (by kernel_rfl) rfl trivial ?_
    intro a430 hF431; clear hF427 a425
    have hF432 := hF431.pick [6, 29, 0, 1, 2] (G := [(6, .bool true), (29, .bool true), (0, .slice Ax xs.length cx), (1, .slice Ay ys.length cy), (2, .slice Am ms.length cm)]) (by kernel_rfl); clear hF431
    refine hK429 _ _ ?_
    refine wp_ret ?_
    refine ret1 hF432 rfl (v := .bool true) (by kernel_rfl) ?_
    exact ⟨rfl, HE⟩

end Go.Proofs.Ytdabkjflpbbpeaa
