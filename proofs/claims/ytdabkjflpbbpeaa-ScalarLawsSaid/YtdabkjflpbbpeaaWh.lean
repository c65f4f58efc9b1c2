/- Walks of functions of the program: lemmas. -/
import Derived.Test.YtdabkjflpbbpeaaTi
import Derived.Test.YtdabkjflpbbpeaaLb
import Derived.Test.YtdabkjflpbbpeaaLc
set_option maxRecDepth 100000
set_option linter.unusedVariables false
set_option linter.unusedSimpArgs false
namespace Go.Proofs.Ytdabkjflpbbpeaa
open Go.Proofs Go.RowKit

theorem ref15_at (A : Option Addr) (n c : Nat) (xs : List Nat) (i : Nat) (w : World) (hn : xs.length = n) (hR : Rd w A (vs .u8 xs)) (hbx : By xs) :
    Calls Try.prog 45 [.slice A n c, .int .i64 ((i : Nat) : Int)].toArray w (Ret fun v w' => v = .int .i64 ((xs.getD i 0 : Nat) : Int) ∧ Ex w w') := by
  refine enter Try.func45 rfl (n := 14) Try.ntmps45 (by simp) ?_
  intro a hF
  have HE : Ex w w := Ex.refl w
  refine wp_seq_k (fun K1 hK2 => ?_)
  refine wp_region_lit ?_
  refine pures_end hT 1 _ hF (F' := [(4, .int .i64 0), (0, .slice A n c), (1, .int .i64 ((i : Nat) : Int))]) (cs := []) (by kernel_rfl) rfl trivial ?_
  intro a3 hF4; clear hF a
  refine hK2 _ _ ?_
  refine wp_seq_k (fun K5 hK6 => ?_)
  refine wp_seq_k (fun K7 hK8 => ?_)
  refine wp_region_lit ?_
  refine pures_end hT 4 _ hF4 (F' := [(8, .bool ((decide (((i : Nat) : Int) < ((n : Nat) : Int))))), (7, .int .i64 ((n : Nat) : Int)), (6, .slice A n c), (5, .int .i64 ((i : Nat) : Int)), (4, .int .i64 0), (0, .slice A n c), (1, .int .i64 ((i : Nat) : Int))]) (cs := []) (by kernel_rfl) rfl trivial ?_
  intro a9 hF10; clear hF4 a3
  have hF11 := hF10.pick [8, 4, 0, 1] (G := [(8, .bool ((decide (((i : Nat) : Int) < ((n : Nat) : Int))))), (4, .int .i64 0), (0, .slice A n c), (1, .int .i64 ((i : Nat) : Int))]) (by kernel_rfl); clear hF10
  refine hK8 _ _ ?_
  refine condK hF11 (p := ((i : Nat) : Int) < ((n : Nat) : Int)) (by kernel_rfl) (fun h12 => ?_) (fun h12 => ?_)
  · -- h12
    refine wp_seq_k (fun K13 hK14 => ?_)
    refine wp_region_lit ?_
    refine pures hT 3 _ hF11 (F' := [(11, .pointer (some ⟨(ablk A), ((aoff A) + i), none⟩)), (10, .int .i64 ((i : Nat) : Int)), (9, .slice A n c), (8, .bool ((decide (((i : Nat) : Int) < ((n : Nat) : Int))))), (4, .int .i64 0), (0, .slice A n c), (1, .int .i64 ((i : Nat) : Int))]) (cs := [0 ≤ ((i : Nat) : Int), ((i : Nat) : Int) < ((n : Nat) : Int), (A : Option Addr) = some ⟨ablk A, aoff A, none⟩]) (by kernel_rfl) (And.intro (by omega) (And.intro (by omega) (And.intro (hR.some' (by (first | (simp only [vs_length, vi_length]; omega) | (simp; omega) | omega))) trivial))) ?_
    intro a15 hF16; clear hF11 a9
    refine wl (s_load hT (d := 12) (A := ⟨(ablk A), ((aoff A) + i), none⟩) (by kernel_rfl) hF16 (hR.cells.at (vs_get .u8 xs (i := i) (by omega)) rfl) ?_)
    rintro a17 ha19 hF18; clear ha19 hF16 a15
    refine pures_end hT 2 _ hF18 (F' := [(4, .int .i64 (((xs.getD i 0) : Nat) : Int)), (13, .int .i64 (((xs.getD i 0) : Nat) : Int)), (12, .int .u8 (((xs.getD i 0) : Nat) : Int)), (11, .pointer (some ⟨(ablk A), ((aoff A) + i), none⟩)), (10, .int .i64 ((i : Nat) : Int)), (9, .slice A n c), (8, .bool ((decide (((i : Nat) : Int) < ((n : Nat) : Int))))), (4, .int .i64 0), (0, .slice A n c), (1, .int .i64 ((i : Nat) : Int))]) (cs := [(xs.getD i 0) ≤ 9223372036854775807]) (by kernel_rfl) rfl (And.intro (by have h1 := getD_lt (by decide) hbx i; omega) trivial) ?_
    intro a20 hF21; clear hF18 a17
    have hF22 := hF21.pick [4, 8, 0, 1] (G := [(4, .int .i64 (((xs.getD i 0) : Nat) : Int)), (8, .bool ((decide (((i : Nat) : Int) < ((n : Nat) : Int))))), (0, .slice A n c), (1, .int .i64 ((i : Nat) : Int))]) (by kernel_rfl); clear hF21
    refine hK14 _ _ ?_
    refine wp_ret ?_
    refine ret1 hF22 rfl (v := .int .i64 (((xs.getD i 0) : Nat) : Int)) (by kernel_rfl) ?_
    exact ⟨rfl, HE⟩
  · -- h12
    refine wp_skip ?_
    refine hK6 _ _ ?_
    refine wp_seq_k (fun K23 hK24 => ?_)
    refine wp_region_lit ?_
    refine pures_end hT 1 _ hF11 (F' := [(4, .int .i64 0), (8, .bool ((decide (((i : Nat) : Int) < ((n : Nat) : Int))))), (4, .int .i64 0), (0, .slice A n c), (1, .int .i64 ((i : Nat) : Int))]) (cs := []) (by kernel_rfl) rfl trivial ?_
    intro a25 hF26; clear hF11 a9
    have hF27 := hF26.pick [4, 8, 0, 1] (G := [(4, .int .i64 0), (8, .bool ((decide (((i : Nat) : Int) < ((n : Nat) : Int))))), (0, .slice A n c), (1, .int .i64 ((i : Nat) : Int))]) (by kernel_rfl); clear hF26
    refine hK24 _ _ ?_
    refine wp_ret ?_
    refine ret1 hF27 rfl (v := .int .i64 0) (by kernel_rfl) ?_
    exact ⟨by rw [getD_ge (by omega)]; rfl, HE⟩

theorem ref15_Norm (A : Option Addr) (n c : Nat) (xs : List Nat) (x : Nat) (w : World) (hx : nv 256 xs = x) (hn : xs.length = n) (hR : Rd w A (vs .u8 xs)) (hbx : By xs) (hl : n ≤ 4398046511104) (hc : n ≤ c) :
    Calls Try.prog 21 [.slice A n c].toArray w (Ret fun v w' => ∃ A' c', v = .slice A' (dig 256 (x)).length c' ∧ Ex w w' ∧ Own w' w.heap.size 5 1 A' (dig 256 (x)).length c' (vs .u8 (dig 256 (x)))) := by
  subst hx
  refine enter Try.func21 rfl (n := 25) Try.ntmps21 (by simp) ?_
  intro a hF
  have HE : Ex w w := Ex.refl w
  refine wp_seq_k (fun K1 hK2 => ?_)
  refine wp_region_lit ?_
  refine pures_end hT 1 _ hF (F' := [(2, .slice none 0 0), (0, .slice A n c)]) (cs := []) (by kernel_rfl) rfl trivial ?_
  intro a3 hF4; clear hF a
  refine hK2 _ _ ?_
  refine wp_seq_k (fun K5 hK6 => ?_)
  refine wp_region_lit ?_
  refine pures_end hT 3 _ hF4 (F' := [(3, .int .i64 ((n : Nat) : Int)), (6, .int .i64 ((n : Nat) : Int)), (5, .slice A n c), (2, .slice none 0 0), (0, .slice A n c)]) (cs := []) (by kernel_rfl) rfl trivial ?_
  intro a7 hF8; clear hF4 a3
  have hF9 := hF8.pick [3, 2, 0] (G := [(3, .int .i64 ((n : Nat) : Int)), (2, .slice none 0 0), (0, .slice A n c)]) (by kernel_rfl); clear hF8
  refine hK6 _ _ ?_
  refine wp_seq_k (fun K10 hK11 => ?_)
  have hK12 : ∀ (a : Act) (W : World), (∃ (k : Nat), (Fr 25 a [(0, .slice A n c), (3, .int .i64 ((k : Nat) : Int))]) ∧ (Ex w W) ∧ (tlen xs = k)) → K10 a W := by
    clear hF9 HE
    rintro a13 w14 ⟨k, hF15, HE, hk⟩
    refine hK11 _ _ ?_
    refine wp_seq_k (fun K16 hK17 => ?_)
    refine wp_region_lit ?_
    refine pures_end hT 1 _ hF15 (F' := [(4, .slice none 0 0), (0, .slice A n c), (3, .int .i64 ((k : Nat) : Int))]) (cs := []) (by kernel_rfl) rfl trivial ?_
    intro a18 hF19; clear hF15 a13
    refine hK17 _ _ ?_
    refine wp_seq_k (fun K20 hK21 => ?_)
    have htl := tlen_le xs
    refine wp_region_lit ?_
    refine pures hT 3 _ hF19 (F' := [(21, .int .i64 ((k : Nat) : Int)), (20, .slice A n c), (19, .slice none 0 0), (4, .slice none 0 0), (0, .slice A n c), (3, .int .i64 ((k : Nat) : Int))]) (cs := []) (by kernel_rfl) trivial ?_
    intro a22 hF23; clear hF19 a18
    refine wl (s_sliceLow hT (d := 22) (A := A) (m := n) (c := c) (sz := 1) (hi := k) (by kernel_rfl) hF23 (by omega) (by omega) ?_)
    rintro a24 ha26 hF25; clear ha26 hF23 a22
    have hz27 := HE.size
    refine wl (s_app hT (d := 23) (T := 5) (i := tr5) (B := w.heap.size) (m := 0) (c := 0) (m2 := k) (c2 := c) (by kernel_rfl) hF25 rfl (by decide) (Own.nil _ w.heap.size 5 1) (Rd.takeV (hR.ex HE) k) (by show _ = k * 1; simp only [vs_length, List.length_take]; omega) vs_one (by show (0 + k) * 1 ≤ 140737488355328; omega) (by decide) (by have := HE.size; omega) ?_)
    rintro a34 w28 A31 c32 HO30 g29 hat33 ha36 hF35; clear ha36 hF25 a24
    rw [Nat.zero_add] at hF35 HO30
    simp only [vs, List.map_nil, List.nil_append] at HO30; try change Own _ _ _ _ _ _ _ (vs _ _) at HO30
    replace HE := HE.thenN g29
    refine pures_end hT 1 _ hF35 (F' := [(4, .slice A31 k c32), (23, .slice A31 k c32), (22, .slice A k c), (21, .int .i64 ((k : Nat) : Int)), (20, .slice A n c), (19, .slice none 0 0), (4, .slice none 0 0), (0, .slice A n c), (3, .int .i64 ((k : Nat) : Int))]) (cs := []) (by kernel_rfl) rfl trivial ?_
    intro a37 hF38; clear hF35 a34
    have hF39 := hF38.pick [4, 0, 3] (G := [(4, .slice A31 k c32), (0, .slice A n c), (3, .int .i64 ((k : Nat) : Int))]) (by kernel_rfl); clear hF38
    refine hK21 _ _ ?_
    refine wp_seq_k (fun K40 hK41 => ?_)
    refine wp_region_lit ?_
    refine pures_end hT 2 _ hF39 (F' := [(2, .slice A31 k c32), (24, .slice A31 k c32), (4, .slice A31 k c32), (0, .slice A n c), (3, .int .i64 ((k : Nat) : Int))]) (cs := []) (by kernel_rfl) rfl trivial ?_
    intro a42 hF43; clear hF39 a37
    have hF44 := hF43.pick [2, 4, 0, 3] (G := [(2, .slice A31 k c32), (4, .slice A31 k c32), (0, .slice A n c), (3, .int .i64 ((k : Nat) : Int))]) (by kernel_rfl); clear hF43
    refine hK41 _ _ ?_
    refine wp_ret ?_
    refine ret1 hF44 rfl (v := .slice A31 k c32) (by kernel_rfl) ?_
    have ht := trimL_dig (b := 256) (by decide) hbx
    have hO := HO30
    rw [show xs.take k = dig 256 (nv 256 xs) by rw [← ht]; unfold trimL; rw [hk]] at hO
    have hll : k = (dig 256 (nv 256 xs)).length := by rw [← ht, trimL_length, hk]
    rw [hll] at hO ⊢
    exact ⟨_, _, rfl, HE, hO⟩
  clear hK11
  refine wp_block ?_
  refine loopK (fun mm_ a W => ∃ (k : Nat), (k) = mm_ ∧ (Fr 25 a [(0, .slice A n c), (3, .int .i64 ((k : Nat) : Int))]) ∧ (Ex w W) ∧ (k ≤ xs.length) ∧ (∀ j, k ≤ j → xs.getD j 0 = 0)) _ ⟨n, rfl, hF9.pick [0, 3] (by kernel_rfl), HE, (by omega), (fun j hj => getD_ge (by omega))⟩ ?_
  clear hF9 HE
  rintro mm_ a45 w46 ⟨k, rfl, hF49, HE, hk, hz⟩ K47 hK48
  refine wp_seq_k (fun K50 hK51 => ?_)
  refine wp_seq_k (fun K52 hK53 => ?_)
  refine wp_region_lit ?_
  refine pures hT 3 _ hF49 (F' := [(9, .bool ((decide (0 < ((k : Nat) : Int))))), (8, .bool ((decide (0 < ((k : Nat) : Int))))), (7, .int .i64 ((k : Nat) : Int)), (0, .slice A n c), (3, .int .i64 ((k : Nat) : Int))]) (cs := []) (by kernel_rfl) trivial ?_
  intro a54 hF55; clear hF49 a45
  rcases dec_cases (0 < ((k : Nat) : Int)) with ⟨h56, e57⟩ | ⟨h56, e57⟩
  · rw [e57] at hF55; clear e57
    refine pures hT 3 _ hF55 (F' := [(12, .int .i64 (((k : Nat) : Int) - 1)), (11, .int .i64 ((k : Nat) : Int)), (10, .slice A n c), (9, .bool true), (8, .bool true), (7, .int .i64 ((k : Nat) : Int)), (0, .slice A n c), (3, .int .i64 ((k : Nat) : Int))]) (cs := [-9223372036854775808 ≤ (((k : Nat) : Int) - 1), (((k : Nat) : Int) - 1) ≤ 9223372036854775807]) (by kernel_rfl) (And.intro (by omega) (And.intro (by omega) trivial)) ?_
    intro a58 hF59; clear hF55 a54
    rw [show (((k : Nat) : Int) - 1) = (((k - 1) : Nat) : Int) from by omega] at hF59
    refine pures hT 1 _ hF59 (F' := [(13, .pointer (some ⟨(ablk A), ((aoff A) + (k - 1)), none⟩)), (12, .int .i64 (((k - 1) : Nat) : Int)), (11, .int .i64 ((k : Nat) : Int)), (10, .slice A n c), (9, .bool true), (8, .bool true), (7, .int .i64 ((k : Nat) : Int)), (0, .slice A n c), (3, .int .i64 ((k : Nat) : Int))]) (cs := [0 ≤ (((k - 1) : Nat) : Int), (((k - 1) : Nat) : Int) < ((n : Nat) : Int), (A : Option Addr) = some ⟨ablk A, aoff A, none⟩]) (by kernel_rfl) (And.intro (by omega) (And.intro (by omega) (And.intro ((hR.ex HE).some' (by (first | (simp only [vs_length, vi_length]; omega) | (simp; omega) | omega))) trivial))) ?_
    intro a60 hF61; clear hF59 a58
    refine wl (One.bare hF61 (by kernel_rfl) (s_load hT (d := 14) (A := ⟨(ablk A), ((aoff A) + (k - 1)), none⟩) (by kernel_rfl) hF61 ((hR.ex HE).cells.at (vs_get .u8 xs (i := (k - 1)) (by omega)) rfl) ?_))
    rintro a62 ha64 hF63; clear ha64 hF61 a60
    refine pures_end hT 2 _ hF63 (F' := [(16, .bool ((decide ((((xs.getD (k - 1) 0) : Nat) : Int) = 0)))), (15, .bool ((decide ((((xs.getD (k - 1) 0) : Nat) : Int) = 0)))), (14, .int .u8 (((xs.getD (k - 1) 0) : Nat) : Int)), (13, .pointer (some ⟨(ablk A), ((aoff A) + (k - 1)), none⟩)), (12, .int .i64 (((k - 1) : Nat) : Int)), (11, .int .i64 ((k : Nat) : Int)), (10, .slice A n c), (9, .bool true), (8, .bool true), (7, .int .i64 ((k : Nat) : Int)), (0, .slice A n c), (3, .int .i64 ((k : Nat) : Int))]) (cs := []) (by kernel_rfl) rfl trivial ?_
    intro a65 hF66; clear hF63 a62
    have hF67 := hF66.pick [16, 0, 3] (G := [(16, .bool ((decide ((((xs.getD (k - 1) 0) : Nat) : Int) = 0)))), (0, .slice A n c), (3, .int .i64 ((k : Nat) : Int))]) (by kernel_rfl); clear hF66
    refine hK53 _ _ ?_
    refine condK hF67 (p := (((xs.getD (k - 1) 0) : Nat) : Int) = 0) (by kernel_rfl) (fun h68 => ?_) (fun h68 => ?_)
    · -- h68
      refine wp_skip ?_
      refine hK51 _ _ ?_
      refine wp_block ?_
      refine wp_region_lit ?_
      refine pures hT 2 _ hF67 (F' := [(18, .int .i64 (((k : Nat) : Int) - 1)), (17, .int .i64 ((k : Nat) : Int)), (16, .bool ((decide ((((xs.getD (k - 1) 0) : Nat) : Int) = 0)))), (0, .slice A n c), (3, .int .i64 ((k : Nat) : Int))]) (cs := [-9223372036854775808 ≤ (((k : Nat) : Int) - 1), (((k : Nat) : Int) - 1) ≤ 9223372036854775807]) (by kernel_rfl) (And.intro (by omega) (And.intro (by omega) trivial)) ?_
      intro a69 hF70; clear hF67 a65
      rw [show (((k : Nat) : Int) - 1) = (((k - 1) : Nat) : Int) from by omega] at hF70
      refine pures_end hT 1 _ hF70 (F' := [(3, .int .i64 (((k - 1) : Nat) : Int)), (18, .int .i64 (((k - 1) : Nat) : Int)), (17, .int .i64 ((k : Nat) : Int)), (16, .bool ((decide ((((xs.getD (k - 1) 0) : Nat) : Int) = 0)))), (0, .slice A n c), (3, .int .i64 ((k : Nat) : Int))]) (cs := []) (by kernel_rfl) rfl trivial ?_
      intro a71 hF72; clear hF70 a69
      have hF73 := hF72.pick [3, 16, 0] (G := [(3, .int .i64 (((k - 1) : Nat) : Int)), (16, .bool ((decide ((((xs.getD (k - 1) 0) : Nat) : Int) = 0)))), (0, .slice A n c)]) (by kernel_rfl); clear hF72
      refine hK48 _ _ _ (by omega) ⟨(k - 1), rfl, hF73.pick [0, 3] (by kernel_rfl), HE, (by omega), (trim_step hz (by omega))⟩
    · -- h68
      refine wp_exit ?_
      exact hK12 _ _ ⟨k, hF67.pick [0, 3] (by kernel_rfl), HE, (tlen_spec xs k hk hz (.inr (by omega)))⟩
  · rw [e57] at hF55; clear e57
    refine pures_end hT 7 _ hF55 (F' := [(16, .bool false), (15, undef), (14, undef), (13, undef), (12, undef), (11, undef), (10, undef), (9, .bool false), (8, .bool false), (7, .int .i64 ((k : Nat) : Int)), (0, .slice A n c), (3, .int .i64 ((k : Nat) : Int))]) (cs := []) (by kernel_rfl) rfl trivial ?_
    intro a74 hF75; clear hF55 a54
    have hF76 := hF75.pick [16, 0, 3] (G := [(16, .bool false), (0, .slice A n c), (3, .int .i64 ((k : Nat) : Int))]) (by kernel_rfl); clear hF75
    refine hK53 _ _ ?_
    refine condF hF76 (by kernel_rfl) ?_
    refine wp_exit ?_
    exact hK12 _ _ ⟨k, hF76.pick [0, 3] (by kernel_rfl), HE, (tlen_spec xs k hk hz (.inl (by omega)))⟩

theorem ref15_Cmp (A : Option Addr) (n c : Nat) (xs : List Nat) (x : Nat) (A2 : Option Addr) (n2 c2 : Nat) (ys : List Nat) (y : Nat) (w : World) (hx : nv 256 xs = x) (hy : nv 256 ys = y) (hn : xs.length = n) (hn2 : ys.length = n2) (hR : Rd w A (vs .u8 xs)) (hR2 : Rd w A2 (vs .u8 ys)) (hbx : By xs) (hby : By ys) (hl : n ≤ 1099511627776) (hl2 : n2 ≤ 1099511627776) :
    Calls Try.prog 20 [.slice A n c, .slice A2 n2 c2].toArray w (Ret fun v w' => v = .int .i64 (cmpI x y) ∧ Ex w w') := by
  subst hx hy
  have hmx : Nat.max n n2 ≤ 1099511627776 := Nat.max_le.2 ⟨hl, hl2⟩
  refine enter Try.func20 rfl (n := 30) Try.ntmps20 (by simp) ?_
  intro a hF
  have HE : Ex w w := Ex.refl w
  refine wp_seq_k (fun K1 hK2 => ?_)
  refine wp_region_lit ?_
  refine pures_end hT 1 _ hF (F' := [(4, .int .i64 0), (0, .slice A n c), (1, .slice A2 n2 c2)]) (cs := []) (by kernel_rfl) rfl trivial ?_
  intro a3 hF4; clear hF a
  refine hK2 _ _ ?_
  refine wp_seq_k (fun K5 hK6 => ?_)
  refine wp_seq_k (fun K7 hK8 => ?_)
  refine wp_region_lit ?_
  refine pures_end hT 7 _ hF4 (F' := [(5, .int .i64 ((((Nat.max n n2) : Nat) : Int) - 1)), (11, .int .i64 ((((Nat.max n n2) : Nat) : Int) - 1)), (10, .int .i64 (((Nat.max n n2) : Nat) : Int)), (9, .int .i64 ((n2 : Nat) : Int)), (8, .slice A2 n2 c2), (7, .int .i64 ((n : Nat) : Int)), (6, .slice A n c), (4, .int .i64 0), (0, .slice A n c), (1, .slice A2 n2 c2)]) (cs := [-9223372036854775808 ≤ ((((Nat.max n n2) : Nat) : Int) - 1), ((((Nat.max n n2) : Nat) : Int) - 1) ≤ 9223372036854775807]) (by kernel_rfl) rfl (And.intro (by omega) (And.intro (by omega) trivial)) ?_
  intro a9 hF10; clear hF4 a3
  have hF11 := hF10.pick [5, 4, 0, 1] (G := [(5, .int .i64 ((((Nat.max n n2) : Nat) : Int) - 1)), (4, .int .i64 0), (0, .slice A n c), (1, .slice A2 n2 c2)]) (by kernel_rfl); clear hF10
  refine hK8 _ _ ?_
  refine wp_block ?_
  refine loopK (fun mm_ a W => ∃ (k : Nat), (k) = mm_ ∧ (Fr 30 a [(0, .slice A n c), (1, .slice A2 n2 c2), (5, .int .i64 (((k : Nat) : Int) - 1))]) ∧ (Ex w W) ∧ (k ≤ Nat.max n n2) ∧ (∀ j, k ≤ j → xs.getD j 0 = ys.getD j 0)) _ ⟨(Nat.max n n2), rfl, hF11.pick [0, 1, 5] (by kernel_rfl), HE, (Nat.le_refl _), (fun j hj => by rw [getD_ge (by have := (max_ge hj).1; omega), getD_ge (by have := (max_ge hj).2; omega)])⟩ ?_
  clear hF11 HE
  rintro mm_ a12 w13 ⟨k, rfl, hF16, HE, hk, hz⟩ K14 hK15
  refine wp_seq_k (fun K17 hK18 => ?_)
  refine wp_seq_k (fun K19 hK20 => ?_)
  refine wp_region_lit ?_
  refine pures_end hT 2 _ hF16 (F' := [(13, .bool ((decide (0 ≤ (((k : Nat) : Int) - 1))))), (12, .int .i64 (((k : Nat) : Int) - 1)), (0, .slice A n c), (1, .slice A2 n2 c2), (5, .int .i64 (((k : Nat) : Int) - 1))]) (cs := []) (by kernel_rfl) rfl trivial ?_
  intro a21 hF22; clear hF16 a12
  have hF23 := hF22.pick [13, 0, 1, 5] (G := [(13, .bool ((decide (0 ≤ (((k : Nat) : Int) - 1))))), (0, .slice A n c), (1, .slice A2 n2 c2), (5, .int .i64 (((k : Nat) : Int) - 1))]) (by kernel_rfl); clear hF22
  refine hK20 _ _ ?_
  refine condK hF23 (p := 0 ≤ (((k : Nat) : Int) - 1)) (by kernel_rfl) (fun h24 => ?_) (fun h24 => ?_)
  · -- h24
    refine wp_skip ?_
    refine hK18 _ _ ?_
    refine wp_seq_k (fun K25 hK26 => ?_)
    refine wp_block ?_
    refine wp_seq_k (fun K27 hK28 => ?_)
    refine wp_seq_k (fun K29 hK30 => ?_)
    obtain ⟨j, rfl⟩ : ∃ j, k = j + 1 := ⟨k - 1, by omega⟩
    rw [show (((j + 1 : Nat) : Int) - 1) = ((j : Nat) : Int) from by omega] at hF23
    refine wp_region_lit ?_
    refine pures hT 2 _ hF23 (F' := [(17, .int .i64 ((j : Nat) : Int)), (16, .slice A n c), (13, .bool ((decide (0 ≤ ((j : Nat) : Int))))), (0, .slice A n c), (1, .slice A2 n2 c2), (5, .int .i64 ((j : Nat) : Int))]) (cs := []) (by kernel_rfl) trivial ?_
    intro a31 hF32; clear hF23 a21
    have hz36 := HE.size
    refine wl (s_call (d := 18) (f := 45) (l := [.slice A n c, .int .i64 ((j : Nat) : Int)]) (by kernel_rfl) hF32 cl45 (ref15_at A n c xs j _ (by first | omega | assumption | (simp; done) | (simp; omega) | decide) (hR.ex HE) (by first | assumption | exact by_dig _ | exact by_one (Nat.mod_lt _ (by decide)) | omega | simp | decide)) ?_)
    rintro a37 w33 v34 ⟨rfl, HX35⟩ ha39 hF38; clear ha39 hF32 a31
    replace HE := HE.thenN HX35.g
    refine pures hT 2 _ hF38 (F' := [(20, .int .i64 ((j : Nat) : Int)), (19, .slice A2 n2 c2), (18, .int .i64 (((xs.getD j 0) : Nat) : Int)), (17, .int .i64 ((j : Nat) : Int)), (16, .slice A n c), (13, .bool ((decide (0 ≤ ((j : Nat) : Int))))), (0, .slice A n c), (1, .slice A2 n2 c2), (5, .int .i64 ((j : Nat) : Int))]) (cs := []) (by kernel_rfl) trivial ?_
    intro a40 hF41; clear hF38 a37
    have hz45 := HE.size
    refine wl (s_call (d := 21) (f := 45) (l := [.slice A2 n2 c2, .int .i64 ((j : Nat) : Int)]) (by kernel_rfl) hF41 cl45 (ref15_at A2 n2 c2 ys j _ (by first | omega | assumption | (simp; done) | (simp; omega) | decide) (hR2.ex HE) (by first | assumption | exact by_dig _ | exact by_one (Nat.mod_lt _ (by decide)) | omega | simp | decide)) ?_)
    rintro a46 w42 v43 ⟨rfl, HX44⟩ ha48 hF47; clear ha48 hF41 a40
    replace HE := HE.thenN HX44.g
    refine pures_end hT 1 _ hF47 (F' := [(22, .bool ((decide ((((xs.getD j 0) : Nat) : Int) < (((ys.getD j 0) : Nat) : Int))))), (21, .int .i64 (((ys.getD j 0) : Nat) : Int)), (20, .int .i64 ((j : Nat) : Int)), (19, .slice A2 n2 c2), (18, .int .i64 (((xs.getD j 0) : Nat) : Int)), (17, .int .i64 ((j : Nat) : Int)), (16, .slice A n c), (13, .bool ((decide (0 ≤ ((j : Nat) : Int))))), (0, .slice A n c), (1, .slice A2 n2 c2), (5, .int .i64 ((j : Nat) : Int))]) (cs := []) (by kernel_rfl) rfl trivial ?_
    intro a49 hF50; clear hF47 a46
    have hF51 := hF50.pick [22, 13, 0, 1, 5] (G := [(22, .bool ((decide ((((xs.getD j 0) : Nat) : Int) < (((ys.getD j 0) : Nat) : Int))))), (13, .bool ((decide (0 ≤ ((j : Nat) : Int))))), (0, .slice A n c), (1, .slice A2 n2 c2), (5, .int .i64 ((j : Nat) : Int))]) (by kernel_rfl); clear hF50
    refine hK30 _ _ ?_
    refine condK hF51 (p := (((xs.getD j 0) : Nat) : Int) < (((ys.getD j 0) : Nat) : Int)) (by kernel_rfl) (fun h52 => ?_) (fun h52 => ?_)
    · -- h52
      refine wp_seq_k (fun K53 hK54 => ?_)
      refine wp_region_lit ?_
      refine pures_end hT 1 _ hF51 (F' := [(4, .int .i64 (-1)), (22, .bool ((decide ((((xs.getD j 0) : Nat) : Int) < (((ys.getD j 0) : Nat) : Int))))), (13, .bool ((decide (0 ≤ ((j : Nat) : Int))))), (0, .slice A n c), (1, .slice A2 n2 c2), (5, .int .i64 ((j : Nat) : Int))]) (cs := []) (by kernel_rfl) rfl trivial ?_
      intro a55 hF56; clear hF51 a49
      refine hK54 _ _ ?_
      refine wp_ret ?_
      refine ret1 hF56 rfl (v := .int .i64 (-1)) (by kernel_rfl) ?_
      exact ⟨by rw [cmpI_lt (nv_cmp hbx hby (i := j) (fun q hq => hz q (by omega)) (by omega))], HE⟩
    · -- h52
      refine wp_skip ?_
      refine hK28 _ _ ?_
      refine wp_seq_k (fun K57 hK58 => ?_)
      refine wp_region_lit ?_
      refine pures hT 2 _ hF51 (F' := [(24, .int .i64 ((j : Nat) : Int)), (23, .slice A n c), (22, .bool ((decide ((((xs.getD j 0) : Nat) : Int) < (((ys.getD j 0) : Nat) : Int))))), (13, .bool ((decide (0 ≤ ((j : Nat) : Int))))), (0, .slice A n c), (1, .slice A2 n2 c2), (5, .int .i64 ((j : Nat) : Int))]) (cs := []) (by kernel_rfl) trivial ?_
      intro a59 hF60; clear hF51 a49
      have hz64 := HE.size
      refine wl (s_call (d := 25) (f := 45) (l := [.slice A n c, .int .i64 ((j : Nat) : Int)]) (by kernel_rfl) hF60 cl45 (ref15_at A n c xs j _ (by first | omega | assumption | (simp; done) | (simp; omega) | decide) (hR.ex HE) (by first | assumption | exact by_dig _ | exact by_one (Nat.mod_lt _ (by decide)) | omega | simp | decide)) ?_)
      rintro a65 w61 v62 ⟨rfl, HX63⟩ ha67 hF66; clear ha67 hF60 a59
      replace HE := HE.thenN HX63.g
      refine pures hT 2 _ hF66 (F' := [(27, .int .i64 ((j : Nat) : Int)), (26, .slice A2 n2 c2), (25, .int .i64 (((xs.getD j 0) : Nat) : Int)), (24, .int .i64 ((j : Nat) : Int)), (23, .slice A n c), (22, .bool ((decide ((((xs.getD j 0) : Nat) : Int) < (((ys.getD j 0) : Nat) : Int))))), (13, .bool ((decide (0 ≤ ((j : Nat) : Int))))), (0, .slice A n c), (1, .slice A2 n2 c2), (5, .int .i64 ((j : Nat) : Int))]) (cs := []) (by kernel_rfl) trivial ?_
      intro a68 hF69; clear hF66 a65
      have hz73 := HE.size
      refine wl (s_call (d := 28) (f := 45) (l := [.slice A2 n2 c2, .int .i64 ((j : Nat) : Int)]) (by kernel_rfl) hF69 cl45 (ref15_at A2 n2 c2 ys j _ (by first | omega | assumption | (simp; done) | (simp; omega) | decide) (hR2.ex HE) (by first | assumption | exact by_dig _ | exact by_one (Nat.mod_lt _ (by decide)) | omega | simp | decide)) ?_)
      rintro a74 w70 v71 ⟨rfl, HX72⟩ ha76 hF75; clear ha76 hF69 a68
      replace HE := HE.thenN HX72.g
      refine pures_end hT 1 _ hF75 (F' := [(29, .bool ((decide ((((ys.getD j 0) : Nat) : Int) < (((xs.getD j 0) : Nat) : Int))))), (28, .int .i64 (((ys.getD j 0) : Nat) : Int)), (27, .int .i64 ((j : Nat) : Int)), (26, .slice A2 n2 c2), (25, .int .i64 (((xs.getD j 0) : Nat) : Int)), (24, .int .i64 ((j : Nat) : Int)), (23, .slice A n c), (22, .bool ((decide ((((xs.getD j 0) : Nat) : Int) < (((ys.getD j 0) : Nat) : Int))))), (13, .bool ((decide (0 ≤ ((j : Nat) : Int))))), (0, .slice A n c), (1, .slice A2 n2 c2), (5, .int .i64 ((j : Nat) : Int))]) (cs := []) (by kernel_rfl) rfl trivial ?_
      intro a77 hF78; clear hF75 a74
      have hF79 := hF78.pick [29, 22, 13, 0, 1, 5] (G := [(29, .bool ((decide ((((ys.getD j 0) : Nat) : Int) < (((xs.getD j 0) : Nat) : Int))))), (22, .bool ((decide ((((xs.getD j 0) : Nat) : Int) < (((ys.getD j 0) : Nat) : Int))))), (13, .bool ((decide (0 ≤ ((j : Nat) : Int))))), (0, .slice A n c), (1, .slice A2 n2 c2), (5, .int .i64 ((j : Nat) : Int))]) (by kernel_rfl); clear hF78
      refine hK58 _ _ ?_
      refine condK hF79 (p := (((ys.getD j 0) : Nat) : Int) < (((xs.getD j 0) : Nat) : Int)) (by kernel_rfl) (fun h80 => ?_) (fun h80 => ?_)
      · -- h80
        refine wp_seq_k (fun K81 hK82 => ?_)
        refine wp_region_lit ?_
        refine pures_end hT 1 _ hF79 (F' := [(4, .int .i64 1), (29, .bool ((decide ((((ys.getD j 0) : Nat) : Int) < (((xs.getD j 0) : Nat) : Int))))), (22, .bool ((decide ((((xs.getD j 0) : Nat) : Int) < (((ys.getD j 0) : Nat) : Int))))), (13, .bool ((decide (0 ≤ ((j : Nat) : Int))))), (0, .slice A n c), (1, .slice A2 n2 c2), (5, .int .i64 ((j : Nat) : Int))]) (cs := []) (by kernel_rfl) rfl trivial ?_
        intro a83 hF84; clear hF79 a77
        refine hK82 _ _ ?_
        refine wp_ret ?_
        refine ret1 hF84 rfl (v := .int .i64 1) (by kernel_rfl) ?_
        exact ⟨by rw [cmpI_gt (nv_cmp hby hbx (i := j) (fun q hq => (hz q (by omega)).symm) (by omega))], HE⟩
      · -- h80
        refine wp_skip ?_
        refine hK26 _ _ ?_
        refine wp_region_lit ?_
        refine pures_end hT 3 _ hF79 (F' := [(5, .int .i64 (((j : Nat) : Int) - 1)), (15, .int .i64 (((j : Nat) : Int) - 1)), (14, .int .i64 ((j : Nat) : Int)), (29, .bool ((decide ((((ys.getD j 0) : Nat) : Int) < (((xs.getD j 0) : Nat) : Int))))), (22, .bool ((decide ((((xs.getD j 0) : Nat) : Int) < (((ys.getD j 0) : Nat) : Int))))), (13, .bool ((decide (0 ≤ ((j : Nat) : Int))))), (0, .slice A n c), (1, .slice A2 n2 c2), (5, .int .i64 ((j : Nat) : Int))]) (cs := [-9223372036854775808 ≤ (((j : Nat) : Int) - 1), (((j : Nat) : Int) - 1) ≤ 9223372036854775807]) (by kernel_rfl) rfl (And.intro (by omega) (And.intro (by omega) trivial)) ?_
        intro a85 hF86; clear hF79 a77
        have hF87 := hF86.pick [5, 29, 22, 13, 0, 1] (G := [(5, .int .i64 (((j : Nat) : Int) - 1)), (29, .bool ((decide ((((ys.getD j 0) : Nat) : Int) < (((xs.getD j 0) : Nat) : Int))))), (22, .bool ((decide ((((xs.getD j 0) : Nat) : Int) < (((ys.getD j 0) : Nat) : Int))))), (13, .bool ((decide (0 ≤ ((j : Nat) : Int))))), (0, .slice A n c), (1, .slice A2 n2 c2)]) (by kernel_rfl); clear hF86
        refine hK15 _ _ _ (by omega) ⟨j, rfl, hF87.pick [0, 1, 5] (by kernel_rfl), HE, (by omega), (cmp_step hz (by omega))⟩
  · -- h24
    refine wp_exit ?_
    refine hK6 _ _ ?_
    refine wp_seq_k (fun K88 hK89 => ?_)
    refine wp_region_lit ?_
    refine pures_end hT 1 _ hF23 (F' := [(4, .int .i64 0), (13, .bool ((decide (0 ≤ (((k : Nat) : Int) - 1))))), (0, .slice A n c), (1, .slice A2 n2 c2), (5, .int .i64 (((k : Nat) : Int) - 1))]) (cs := []) (by kernel_rfl) rfl trivial ?_
    intro a90 hF91; clear hF23 a21
    refine hK89 _ _ ?_
    refine wp_ret ?_
    refine ret1 hF91 rfl (v := .int .i64 0) (by kernel_rfl) ?_
    exact ⟨by rw [cmpI_eq (nv_ext (fun q => hz q (by omega)))], HE⟩

end Go.Proofs.Ytdabkjflpbbpeaa
