/- Walks of functions of the program: lemmas. -/
import Derived.Test.YtdabkjflpbbpeaaWh
set_option maxRecDepth 100000
set_option linter.unusedVariables false
set_option linter.unusedSimpArgs false
namespace Go.Proofs.Ytdabkjflpbbpeaa
open Go.Proofs Go.RowKit

theorem ref15_Add (A : Option Addr) (n c : Nat) (xs : List Nat) (x : Nat) (A2 : Option Addr) (n2 c2 : Nat) (ys : List Nat) (y : Nat) (w : World) (hx : nv 256 xs = x) (hy : nv 256 ys = y) (hn : xs.length = n) (hn2 : ys.length = n2) (hR : Rd w A (vs .u8 xs)) (hR2 : Rd w A2 (vs .u8 ys)) (hbx : By xs) (hby : By ys) (hl : n ≤ 1099511627776) (hl2 : n2 ≤ 1099511627776) :
    Calls Try.prog 22 [.slice A n c, .slice A2 n2 c2].toArray w (Ret fun v w' => ∃ A' c', v = .slice A' (dig 256 (x + y)).length c' ∧ Ex w w' ∧ Own w' w.heap.size 5 1 A' (dig 256 (x + y)).length c' (vs .u8 (dig 256 (x + y)))) := by
  subst hx hy
  obtain ⟨M, hM1, hM2, hM3⟩ : ∃ M, n ≤ M ∧ n2 ≤ M ∧ M ≤ 1099511627776 := ⟨1099511627776, hl, hl2, Nat.le_refl _⟩
  refine enter Try.func22 rfl (n := 44) Try.ntmps22 (by simp) ?_
  intro a hF
  have HE : Ex w w := Ex.refl w
  refine wp_seq_k (fun K1 hK2 => ?_)
  refine wp_region_lit ?_
  refine pures_end hT 1 _ hF (F' := [(4, .slice none 0 0), (0, .slice A n c), (1, .slice A2 n2 c2)]) (cs := []) (by kernel_rfl) rfl trivial ?_
  intro a3 hF4; clear hF a
  refine hK2 _ _ ?_
  refine wp_seq_k (fun K5 hK6 => ?_)
  refine wp_region_lit ?_
  refine pures_end hT 1 _ hF4 (F' := [(5, .slice none 0 0), (4, .slice none 0 0), (0, .slice A n c), (1, .slice A2 n2 c2)]) (cs := []) (by kernel_rfl) rfl trivial ?_
  intro a7 hF8; clear hF4 a3
  refine hK6 _ _ ?_
  refine wp_seq_k (fun K9 hK10 => ?_)
  refine wp_region_lit ?_
  refine pures_end hT 1 _ hF8 (F' := [(6, .int .i64 0), (5, .slice none 0 0), (4, .slice none 0 0), (0, .slice A n c), (1, .slice A2 n2 c2)]) (cs := []) (by kernel_rfl) rfl trivial ?_
  intro a11 hF12; clear hF8 a7
  refine hK10 _ _ ?_
  refine wp_seq_k (fun K13 hK14 => ?_)
  refine wp_seq_k (fun K15 hK16 => ?_)
  refine wp_region_lit ?_
  refine pures_end hT 1 _ hF12 (F' := [(7, .int .i64 0), (6, .int .i64 0), (5, .slice none 0 0), (4, .slice none 0 0), (0, .slice A n c), (1, .slice A2 n2 c2)]) (cs := []) (by kernel_rfl) rfl trivial ?_
  intro a17 hF18; clear hF12 a11
  refine hK16 _ _ ?_
  refine wp_block ?_
  refine loopK (fun mm_ a W => ∃ (k : Nat), ∃ (A3 : Option Addr), ∃ (c3 : Nat), ∃ (zs : List Nat), ∃ (cy : Nat), (M + 1 - k) = mm_ ∧ (Fr 44 a [(0, .slice A n c), (1, .slice A2 n2 c2), (5, .slice A3 k c3), (6, .int .i64 ((cy : Nat) : Int)), (7, .int .i64 ((k : Nat) : Int))]) ∧ (Ex w W) ∧ (Own W (w.heap.size) 5 1 A3 k c3 (vs .u8 zs)) ∧ (k ≤ M ∨ (k = M + 1 ∧ cy = 0)) ∧ (zs.length = k) ∧ (By zs) ∧ (cy ≤ 1) ∧ (nv 256 zs + cy * 256 ^ k = nv 256 (xs.take k) + nv 256 (ys.take k))) _ ⟨0, none, 0, [], 0, rfl, hF18.pick [0, 1, 5, 6, 7] (by kernel_rfl), HE, Own.nil _ _ _ _, (by omega), rfl, (by intro x hx; cases hx), (by omega), (by simp)⟩ ?_
  clear hF18 HE
  rintro mm_ a19 w20 ⟨k, A3, c3, zs, cy, rfl, hF23, HE, HO, hk, hzl, hzb, hcy, hv⟩ K21 hK22
  refine wp_seq_k (fun K24 hK25 => ?_)
  refine wp_seq_k (fun K26 hK27 => ?_)
  refine wp_region_lit ?_
  refine pures hT 5 _ hF23 (F' := [(13, .bool ((decide (((k : Nat) : Int) < ((n : Nat) : Int))))), (12, .bool ((decide (((k : Nat) : Int) < ((n : Nat) : Int))))), (11, .int .i64 ((n : Nat) : Int)), (10, .slice A n c), (9, .int .i64 ((k : Nat) : Int)), (0, .slice A n c), (1, .slice A2 n2 c2), (5, .slice A3 k c3), (6, .int .i64 ((cy : Nat) : Int)), (7, .int .i64 ((k : Nat) : Int))]) (cs := []) (by kernel_rfl) trivial ?_
  intro a28 hF29; clear hF23 a19
  rcases dec_cases (((k : Nat) : Int) < ((n : Nat) : Int)) with ⟨h30, e31⟩ | ⟨h30, e31⟩
  · rw [e31] at hF29; clear e31
    refine pures_end hT 9 _ hF29 (F' := [(22, .bool true), (21, undef), (20, undef), (19, .bool true), (18, .bool true), (17, undef), (16, undef), (15, undef), (14, undef), (13, .bool true), (12, .bool true), (11, .int .i64 ((n : Nat) : Int)), (10, .slice A n c), (9, .int .i64 ((k : Nat) : Int)), (0, .slice A n c), (1, .slice A2 n2 c2), (5, .slice A3 k c3), (6, .int .i64 ((cy : Nat) : Int)), (7, .int .i64 ((k : Nat) : Int))]) (cs := []) (by kernel_rfl) rfl trivial ?_
    intro a32 hF33; clear hF29 a28
    have hF34 := hF33.pick [22, 0, 1, 5, 6, 7] (G := [(22, .bool true), (0, .slice A n c), (1, .slice A2 n2 c2), (5, .slice A3 k c3), (6, .int .i64 ((cy : Nat) : Int)), (7, .int .i64 ((k : Nat) : Int))]) (by kernel_rfl); clear hF33
    refine hK27 _ _ ?_
    refine condT hF34 (by kernel_rfl) ?_
    refine wp_skip ?_
    refine hK25 _ _ ?_
    refine wp_seq_k (fun K35 hK36 => ?_)
    refine wp_block ?_
    refine wp_seq_k (fun K37 hK38 => ?_)
    refine wp_region_lit ?_
    refine pures hT 2 _ hF34 (F' := [(26, .int .i64 ((k : Nat) : Int)), (25, .slice A n c), (22, .bool true), (0, .slice A n c), (1, .slice A2 n2 c2), (5, .slice A3 k c3), (6, .int .i64 ((cy : Nat) : Int)), (7, .int .i64 ((k : Nat) : Int))]) (cs := []) (by kernel_rfl) trivial ?_
    intro a39 hF40; clear hF34 a32
    have hz44 := HE.size
    have hz45 := HO.base
    refine wl (s_call (d := 27) (f := 45) (l := [.slice A n c, .int .i64 ((k : Nat) : Int)]) (by kernel_rfl) hF40 cl45 (ref15_at A n c xs k _ (by first | omega | assumption | (simp; done) | (simp; omega) | decide) (hR.ex HE) (by first | assumption | exact by_dig _ | exact by_one (Nat.mod_lt _ (by decide)) | omega | simp | decide)) ?_)
    rintro a46 w41 v42 ⟨rfl, HX43⟩ ha48 hF47; clear ha48 hF40 a39
    replace HE := HE.thenN HX43.g
    replace HO := HO.growN HX43.g
    refine pures hT 2 _ hF47 (F' := [(29, .int .i64 ((k : Nat) : Int)), (28, .slice A2 n2 c2), (27, .int .i64 (((xs.getD k 0) : Nat) : Int)), (26, .int .i64 ((k : Nat) : Int)), (25, .slice A n c), (22, .bool true), (0, .slice A n c), (1, .slice A2 n2 c2), (5, .slice A3 k c3), (6, .int .i64 ((cy : Nat) : Int)), (7, .int .i64 ((k : Nat) : Int))]) (cs := []) (by kernel_rfl) trivial ?_
    intro a49 hF50; clear hF47 a46
    have hz54 := HE.size
    have hz55 := HO.base
    refine wl (s_call (d := 30) (f := 45) (l := [.slice A2 n2 c2, .int .i64 ((k : Nat) : Int)]) (by kernel_rfl) hF50 cl45 (ref15_at A2 n2 c2 ys k _ (by first | omega | assumption | (simp; done) | (simp; omega) | decide) (hR2.ex HE) (by first | assumption | exact by_dig _ | exact by_one (Nat.mod_lt _ (by decide)) | omega | simp | decide)) ?_)
    rintro a56 w51 v52 ⟨rfl, HX53⟩ ha58 hF57; clear ha58 hF50 a49
    replace HE := HE.thenN HX53.g
    replace HO := HO.growN HX53.g
    refine pures_end hT 4 _ hF57 (F' := [(8, .int .i64 (((((xs.getD k 0) + (ys.getD k 0)) + cy) : Nat) : Int)), (33, .int .i64 (((((xs.getD k 0) + (ys.getD k 0)) + cy) : Nat) : Int)), (32, .int .i64 ((cy : Nat) : Int)), (31, .int .i64 ((((xs.getD k 0) + (ys.getD k 0)) : Nat) : Int)), (30, .int .i64 (((ys.getD k 0) : Nat) : Int)), (29, .int .i64 ((k : Nat) : Int)), (28, .slice A2 n2 c2), (27, .int .i64 (((xs.getD k 0) : Nat) : Int)), (26, .int .i64 ((k : Nat) : Int)), (25, .slice A n c), (22, .bool true), (0, .slice A n c), (1, .slice A2 n2 c2), (5, .slice A3 k c3), (6, .int .i64 ((cy : Nat) : Int)), (7, .int .i64 ((k : Nat) : Int))]) (cs := [-9223372036854775808 ≤ ((((xs.getD k 0) + (ys.getD k 0)) : Nat) : Int), ((((xs.getD k 0) + (ys.getD k 0)) : Nat) : Int) ≤ 9223372036854775807, -9223372036854775808 ≤ (((((xs.getD k 0) + (ys.getD k 0)) + cy) : Nat) : Int), (((((xs.getD k 0) + (ys.getD k 0)) + cy) : Nat) : Int) ≤ 9223372036854775807]) (by kernel_rfl) rfl (And.intro (by have h1 := getD_lt (by decide) hbx k; have h2 := getD_lt (by decide) hby k; omega) (And.intro (by have h1 := getD_lt (by decide) hbx k; have h2 := getD_lt (by decide) hby k; omega) (And.intro (by have h1 := getD_lt (by decide) hbx k; have h2 := getD_lt (by decide) hby k; omega) (And.intro (by have h1 := getD_lt (by decide) hbx k; have h2 := getD_lt (by decide) hby k; omega) trivial)))) ?_
    intro a59 hF60; clear hF57 a56
    have hF61 := hF60.pick [8, 22, 0, 1, 5, 6, 7] (G := [(8, .int .i64 (((((xs.getD k 0) + (ys.getD k 0)) + cy) : Nat) : Int)), (22, .bool true), (0, .slice A n c), (1, .slice A2 n2 c2), (5, .slice A3 k c3), (6, .int .i64 ((cy : Nat) : Int)), (7, .int .i64 ((k : Nat) : Int))]) (by kernel_rfl); clear hF60
    refine hK38 _ _ ?_
    refine wp_seq_k (fun K62 hK63 => ?_)
    refine wp_region_lit ?_
    refine pures hT 4 _ hF61 (F' := [(37, .int .u8 (((((((xs.getD k 0) + (ys.getD k 0)) + cy) % 256) % 256) : Nat) : Int)), (36, .int .i64 ((((((xs.getD k 0) + (ys.getD k 0)) + cy) % 256) : Nat) : Int)), (35, .int .i64 (((((xs.getD k 0) + (ys.getD k 0)) + cy) : Nat) : Int)), (34, .slice A3 k c3), (8, .int .i64 (((((xs.getD k 0) + (ys.getD k 0)) + cy) : Nat) : Int)), (22, .bool true), (0, .slice A n c), (1, .slice A2 n2 c2), (5, .slice A3 k c3), (6, .int .i64 ((cy : Nat) : Int)), (7, .int .i64 ((k : Nat) : Int))]) (cs := [0 ≤ (((((xs.getD k 0) + (ys.getD k 0)) + cy) : Nat) : Int), 0 < (256 : Int)]) (by kernel_rfl) (And.intro (by have h1 := getD_lt (by decide) hbx k; have h2 := getD_lt (by decide) hby k; omega) (And.intro (by omega) trivial)) ?_
    intro a64 hF65; clear hF61 a59
    have hz72 := HE.size
    have hz73 := HO.base
    refine wl (s_lit hT (d := 38) (T := 5) (l := vs .u8 [(((((xs.getD k 0) + (ys.getD k 0)) + cy) % 256) % 256)]) (by kernel_rfl) hF65 ?_)
    rintro a74 w67 b66 h70 h71 HB69 g68 ha76 hF75; clear ha76 hF65 a64
    replace HE := HE.thenN g68
    replace HO := HO.growN g68
    have hz77 := HE.size
    have hz78 := HO.base
    have hz79 := HB69.lt
    refine wl (s_app hT (d := 39) (T := 5) (i := tr5) (B := w.heap.size) (m := k) (c := c3) (m2 := 1) (c2 := 1) (by kernel_rfl) hF75 rfl (by decide) HO HB69.rd (by show _ = 1 * 1; simp) vs_one (by show (k + 1) * 1 ≤ 140737488355328; omega) (by decide) (by have := HE.size; omega) ?_)
    rintro a86 w80 A83 c84 HO82 g81 hat85 ha88 hF87; clear ha88 hF75 a74
    rw [← vs_append] at HO82
    replace HE := HE.thenR g81 (fun k hk => by have := (HO.base k hk).1; omega)
    replace HB69 := HB69.grow g81 (by intro h; have := (hz73 _ h).2; omega)
    clear HO
    refine pures_end hT 1 _ hF87 (F' := [(5, .slice A83 (k + 1) c84), (39, .slice A83 (k + 1) c84), (38, .slice (some ⟨b66, 0, none⟩) 1 1), (37, .int .u8 (((((((xs.getD k 0) + (ys.getD k 0)) + cy) % 256) % 256) : Nat) : Int)), (36, .int .i64 ((((((xs.getD k 0) + (ys.getD k 0)) + cy) % 256) : Nat) : Int)), (35, .int .i64 (((((xs.getD k 0) + (ys.getD k 0)) + cy) : Nat) : Int)), (34, .slice A3 k c3), (8, .int .i64 (((((xs.getD k 0) + (ys.getD k 0)) + cy) : Nat) : Int)), (22, .bool true), (0, .slice A n c), (1, .slice A2 n2 c2), (5, .slice A3 k c3), (6, .int .i64 ((cy : Nat) : Int)), (7, .int .i64 ((k : Nat) : Int))]) (cs := []) (by kernel_rfl) rfl trivial ?_
    intro a89 hF90; clear hF87 a86
    have hF91 := hF90.pick [5, 8, 22, 0, 1, 6, 7] (G := [(5, .slice A83 (k + 1) c84), (8, .int .i64 (((((xs.getD k 0) + (ys.getD k 0)) + cy) : Nat) : Int)), (22, .bool true), (0, .slice A n c), (1, .slice A2 n2 c2), (6, .int .i64 ((cy : Nat) : Int)), (7, .int .i64 ((k : Nat) : Int))]) (by kernel_rfl); clear hF90
    refine hK63 _ _ ?_
    refine wp_region_lit ?_
    refine pures_end hT 3 _ hF91 (F' := [(6, .int .i64 ((((((xs.getD k 0) + (ys.getD k 0)) + cy) / 256) : Nat) : Int)), (41, .int .i64 ((((((xs.getD k 0) + (ys.getD k 0)) + cy) / 256) : Nat) : Int)), (40, .int .i64 (((((xs.getD k 0) + (ys.getD k 0)) + cy) : Nat) : Int)), (5, .slice A83 (k + 1) c84), (8, .int .i64 (((((xs.getD k 0) + (ys.getD k 0)) + cy) : Nat) : Int)), (22, .bool true), (0, .slice A n c), (1, .slice A2 n2 c2), (6, .int .i64 ((cy : Nat) : Int)), (7, .int .i64 ((k : Nat) : Int))]) (cs := [0 ≤ (((((xs.getD k 0) + (ys.getD k 0)) + cy) : Nat) : Int), (((((xs.getD k 0) + (ys.getD k 0)) + cy) : Nat) : Int) ≤ 9223372036854775807, 0 < (256 : Int)]) (by kernel_rfl) rfl (And.intro (by have h1 := getD_lt (by decide) hbx k; have h2 := getD_lt (by decide) hby k; omega) (And.intro (by have h1 := getD_lt (by decide) hbx k; have h2 := getD_lt (by decide) hby k; omega) (And.intro (by omega) trivial))) ?_
    intro a92 hF93; clear hF91 a89
    have hF94 := hF93.pick [6, 5, 8, 22, 0, 1, 7] (G := [(6, .int .i64 ((((((xs.getD k 0) + (ys.getD k 0)) + cy) / 256) : Nat) : Int)), (5, .slice A83 (k + 1) c84), (8, .int .i64 (((((xs.getD k 0) + (ys.getD k 0)) + cy) : Nat) : Int)), (22, .bool true), (0, .slice A n c), (1, .slice A2 n2 c2), (7, .int .i64 ((k : Nat) : Int))]) (by kernel_rfl); clear hF93
    refine hK36 _ _ ?_
    refine wp_region_lit ?_
    refine pures_end hT 3 _ hF94 (F' := [(7, .int .i64 (((k + 1) : Nat) : Int)), (24, .int .i64 (((k + 1) : Nat) : Int)), (23, .int .i64 ((k : Nat) : Int)), (6, .int .i64 ((((((xs.getD k 0) + (ys.getD k 0)) + cy) / 256) : Nat) : Int)), (5, .slice A83 (k + 1) c84), (8, .int .i64 (((((xs.getD k 0) + (ys.getD k 0)) + cy) : Nat) : Int)), (22, .bool true), (0, .slice A n c), (1, .slice A2 n2 c2), (7, .int .i64 ((k : Nat) : Int))]) (cs := [-9223372036854775808 ≤ (((k + 1) : Nat) : Int), (((k + 1) : Nat) : Int) ≤ 9223372036854775807]) (by kernel_rfl) rfl (And.intro (by omega) (And.intro (by omega) trivial)) ?_
    intro a95 hF96; clear hF94 a92
    have hF97 := hF96.pick [7, 6, 5, 8, 22, 0, 1] (G := [(7, .int .i64 (((k + 1) : Nat) : Int)), (6, .int .i64 ((((((xs.getD k 0) + (ys.getD k 0)) + cy) / 256) : Nat) : Int)), (5, .slice A83 (k + 1) c84), (8, .int .i64 (((((xs.getD k 0) + (ys.getD k 0)) + cy) : Nat) : Int)), (22, .bool true), (0, .slice A n c), (1, .slice A2 n2 c2)]) (by kernel_rfl); clear hF96
    refine hK22 _ _ _ (by omega) ⟨(k + 1), _, _, _, ((((xs.getD k 0) + (ys.getD k 0)) + cy) / 256), rfl, hF97.pick [0, 1, 5, 6, 7] (by kernel_rfl), HE, HO82, (by rcases Nat.lt_or_ge k (M) with q | q; exact .inl q; have h1 : xs.getD k 0 = 0 := getD_ge (by omega); have h2 : ys.getD k 0 = 0 := getD_ge (by omega); rw [h1, h2]; exact .inr ⟨by omega, by omega⟩), (by simp [hzl]), (by_snoc hzb (Nat.mod_lt _ (by decide))), (by have h1 := getD_lt (by decide) hbx k; have h2 := getD_lt (by decide) hby k; omega), (ref_add_step hzl hv)⟩
  · rw [e31] at hF29; clear e31
    refine pures hT 6 _ hF29 (F' := [(19, .bool ((decide (((k : Nat) : Int) < ((n2 : Nat) : Int))))), (18, .bool ((decide (((k : Nat) : Int) < ((n2 : Nat) : Int))))), (17, .bool ((decide (((k : Nat) : Int) < ((n2 : Nat) : Int))))), (16, .int .i64 ((n2 : Nat) : Int)), (15, .slice A2 n2 c2), (14, .int .i64 ((k : Nat) : Int)), (13, .bool false), (12, .bool false), (11, .int .i64 ((n : Nat) : Int)), (10, .slice A n c), (9, .int .i64 ((k : Nat) : Int)), (0, .slice A n c), (1, .slice A2 n2 c2), (5, .slice A3 k c3), (6, .int .i64 ((cy : Nat) : Int)), (7, .int .i64 ((k : Nat) : Int))]) (cs := []) (by kernel_rfl) trivial ?_
    intro a98 hF99; clear hF29 a28
    rcases dec_cases (((k : Nat) : Int) < ((n2 : Nat) : Int)) with ⟨h100, e101⟩ | ⟨h100, e101⟩
    · rw [e101] at hF99; clear e101
      refine pures_end hT 3 _ hF99 (F' := [(22, .bool true), (21, undef), (20, undef), (19, .bool true), (18, .bool true), (17, .bool true), (16, .int .i64 ((n2 : Nat) : Int)), (15, .slice A2 n2 c2), (14, .int .i64 ((k : Nat) : Int)), (13, .bool false), (12, .bool false), (11, .int .i64 ((n : Nat) : Int)), (10, .slice A n c), (9, .int .i64 ((k : Nat) : Int)), (0, .slice A n c), (1, .slice A2 n2 c2), (5, .slice A3 k c3), (6, .int .i64 ((cy : Nat) : Int)), (7, .int .i64 ((k : Nat) : Int))]) (cs := []) (by kernel_rfl) rfl trivial ?_
      intro a102 hF103; clear hF99 a98
      have hF104 := hF103.pick [22, 0, 1, 5, 6, 7] (G := [(22, .bool true), (0, .slice A n c), (1, .slice A2 n2 c2), (5, .slice A3 k c3), (6, .int .i64 ((cy : Nat) : Int)), (7, .int .i64 ((k : Nat) : Int))]) (by kernel_rfl); clear hF103
      refine hK27 _ _ ?_
      refine condT hF104 (by kernel_rfl) ?_
      refine wp_skip ?_
      refine hK25 _ _ ?_
      refine wp_seq_k (fun K105 hK106 => ?_)
      refine wp_block ?_
      refine wp_seq_k (fun K107 hK108 => ?_)
      refine wp_region_lit ?_
      refine pures hT 2 _ hF104 (F' := [(26, .int .i64 ((k : Nat) : Int)), (25, .slice A n c), (22, .bool true), (0, .slice A n c), (1, .slice A2 n2 c2), (5, .slice A3 k c3), (6, .int .i64 ((cy : Nat) : Int)), (7, .int .i64 ((k : Nat) : Int))]) (cs := []) (by kernel_rfl) trivial ?_
      intro a109 hF110; clear hF104 a102
      have hz114 := HE.size
      have hz115 := HO.base
      refine wl (s_call (d := 27) (f := 45) (l := [.slice A n c, .int .i64 ((k : Nat) : Int)]) (by kernel_rfl) hF110 cl45 (ref15_at A n c xs k _ (by first | omega | assumption | (simp; done) | (simp; omega) | decide) (hR.ex HE) (by first | assumption | exact by_dig _ | exact by_one (Nat.mod_lt _ (by decide)) | omega | simp | decide)) ?_)
      rintro a116 w111 v112 ⟨rfl, HX113⟩ ha118 hF117; clear ha118 hF110 a109
      replace HE := HE.thenN HX113.g
      replace HO := HO.growN HX113.g
      refine pures hT 2 _ hF117 (F' := [(29, .int .i64 ((k : Nat) : Int)), (28, .slice A2 n2 c2), (27, .int .i64 (((xs.getD k 0) : Nat) : Int)), (26, .int .i64 ((k : Nat) : Int)), (25, .slice A n c), (22, .bool true), (0, .slice A n c), (1, .slice A2 n2 c2), (5, .slice A3 k c3), (6, .int .i64 ((cy : Nat) : Int)), (7, .int .i64 ((k : Nat) : Int))]) (cs := []) (by kernel_rfl) trivial ?_
      intro a119 hF120; clear hF117 a116
      have hz124 := HE.size
      have hz125 := HO.base
      refine wl (s_call (d := 30) (f := 45) (l := [.slice A2 n2 c2, .int .i64 ((k : Nat) : Int)]) (by kernel_rfl) hF120 cl45 (ref15_at A2 n2 c2 ys k _ (by first | omega | assumption | (simp; done) | (simp; omega) | decide) (hR2.ex HE) (by first | assumption | exact by_dig _ | exact by_one (Nat.mod_lt _ (by decide)) | omega | simp | decide)) ?_)
      rintro a126 w121 v122 ⟨rfl, HX123⟩ ha128 hF127; clear ha128 hF120 a119
      replace HE := HE.thenN HX123.g
      replace HO := HO.growN HX123.g
      refine pures_end hT 4 _ hF127 (F' := [(8, .int .i64 (((((xs.getD k 0) + (ys.getD k 0)) + cy) : Nat) : Int)), (33, .int .i64 (((((xs.getD k 0) + (ys.getD k 0)) + cy) : Nat) : Int)), (32, .int .i64 ((cy : Nat) : Int)), (31, .int .i64 ((((xs.getD k 0) + (ys.getD k 0)) : Nat) : Int)), (30, .int .i64 (((ys.getD k 0) : Nat) : Int)), (29, .int .i64 ((k : Nat) : Int)), (28, .slice A2 n2 c2), (27, .int .i64 (((xs.getD k 0) : Nat) : Int)), (26, .int .i64 ((k : Nat) : Int)), (25, .slice A n c), (22, .bool true), (0, .slice A n c), (1, .slice A2 n2 c2), (5, .slice A3 k c3), (6, .int .i64 ((cy : Nat) : Int)), (7, .int .i64 ((k : Nat) : Int))]) (cs := [-9223372036854775808 ≤ ((((xs.getD k 0) + (ys.getD k 0)) : Nat) : Int), ((((xs.getD k 0) + (ys.getD k 0)) : Nat) : Int) ≤ 9223372036854775807, -9223372036854775808 ≤ (((((xs.getD k 0) + (ys.getD k 0)) + cy) : Nat) : Int), (((((xs.getD k 0) + (ys.getD k 0)) + cy) : Nat) : Int) ≤ 9223372036854775807]) (by kernel_rfl) rfl (And.intro (by have h1 := getD_lt (by decide) hbx k; have h2 := getD_lt (by decide) hby k; omega) (And.intro (by have h1 := getD_lt (by decide) hbx k; have h2 := getD_lt (by decide) hby k; omega) (And.intro (by have h1 := getD_lt (by decide) hbx k; have h2 := getD_lt (by decide) hby k; omega) (And.intro (by have h1 := getD_lt (by decide) hbx k; have h2 := getD_lt (by decide) hby k; omega) trivial)))) ?_
      intro a129 hF130; clear hF127 a126
      have hF131 := hF130.pick [8, 22, 0, 1, 5, 6, 7] (G := [(8, .int .i64 (((((xs.getD k 0) + (ys.getD k 0)) + cy) : Nat) : Int)), (22, .bool true), (0, .slice A n c), (1, .slice A2 n2 c2), (5, .slice A3 k c3), (6, .int .i64 ((cy : Nat) : Int)), (7, .int .i64 ((k : Nat) : Int))]) (by kernel_rfl); clear hF130
      refine hK108 _ _ ?_
      refine wp_seq_k (fun K132 hK133 => ?_)
      refine wp_region_lit ?_
      refine pures hT 4 _ hF131 (F' := [(37, .int .u8 (((((((xs.getD k 0) + (ys.getD k 0)) + cy) % 256) % 256) : Nat) : Int)), (36, .int .i64 ((((((xs.getD k 0) + (ys.getD k 0)) + cy) % 256) : Nat) : Int)), (35, .int .i64 (((((xs.getD k 0) + (ys.getD k 0)) + cy) : Nat) : Int)), (34, .slice A3 k c3), (8, .int .i64 (((((xs.getD k 0) + (ys.getD k 0)) + cy) : Nat) : Int)), (22, .bool true), (0, .slice A n c), (1, .slice A2 n2 c2), (5, .slice A3 k c3), (6, .int .i64 ((cy : Nat) : Int)), (7, .int .i64 ((k : Nat) : Int))]) (cs := [0 ≤ (((((xs.getD k 0) + (ys.getD k 0)) + cy) : Nat) : Int), 0 < (256 : Int)]) (by kernel_rfl) (And.intro (by have h1 := getD_lt (by decide) hbx k; have h2 := getD_lt (by decide) hby k; omega) (And.intro (by omega) trivial)) ?_
      intro a134 hF135; clear hF131 a129
      have hz142 := HE.size
      have hz143 := HO.base
      refine wl (s_lit hT (d := 38) (T := 5) (l := vs .u8 [(((((xs.getD k 0) + (ys.getD k 0)) + cy) % 256) % 256)]) (by kernel_rfl) hF135 ?_)
      rintro a144 w137 b136 h140 h141 HB139 g138 ha146 hF145; clear ha146 hF135 a134
      replace HE := HE.thenN g138
      replace HO := HO.growN g138
      have hz147 := HE.size
      have hz148 := HO.base
      have hz149 := HB139.lt
      refine wl (s_app hT (d := 39) (T := 5) (i := tr5) (B := w.heap.size) (m := k) (c := c3) (m2 := 1) (c2 := 1) (by kernel_rfl) hF145 rfl (by decide) HO HB139.rd (by show _ = 1 * 1; simp) vs_one (by show (k + 1) * 1 ≤ 140737488355328; omega) (by decide) (by have := HE.size; omega) ?_)
      rintro a156 w150 A153 c154 HO152 g151 hat155 ha158 hF157; clear ha158 hF145 a144
      rw [← vs_append] at HO152
      replace HE := HE.thenR g151 (fun k hk => by have := (HO.base k hk).1; omega)
      replace HB139 := HB139.grow g151 (by intro h; have := (hz143 _ h).2; omega)
      clear HO
      refine pures_end hT 1 _ hF157 (F' := [(5, .slice A153 (k + 1) c154), (39, .slice A153 (k + 1) c154), (38, .slice (some ⟨b136, 0, none⟩) 1 1), (37, .int .u8 (((((((xs.getD k 0) + (ys.getD k 0)) + cy) % 256) % 256) : Nat) : Int)), (36, .int .i64 ((((((xs.getD k 0) + (ys.getD k 0)) + cy) % 256) : Nat) : Int)), (35, .int .i64 (((((xs.getD k 0) + (ys.getD k 0)) + cy) : Nat) : Int)), (34, .slice A3 k c3), (8, .int .i64 (((((xs.getD k 0) + (ys.getD k 0)) + cy) : Nat) : Int)), (22, .bool true), (0, .slice A n c), (1, .slice A2 n2 c2), (5, .slice A3 k c3), (6, .int .i64 ((cy : Nat) : Int)), (7, .int .i64 ((k : Nat) : Int))]) (cs := []) (by kernel_rfl) rfl trivial ?_
      intro a159 hF160; clear hF157 a156
      have hF161 := hF160.pick [5, 8, 22, 0, 1, 6, 7] (G := [(5, .slice A153 (k + 1) c154), (8, .int .i64 (((((xs.getD k 0) + (ys.getD k 0)) + cy) : Nat) : Int)), (22, .bool true), (0, .slice A n c), (1, .slice A2 n2 c2), (6, .int .i64 ((cy : Nat) : Int)), (7, .int .i64 ((k : Nat) : Int))]) (by kernel_rfl); clear hF160
      refine hK133 _ _ ?_
      refine wp_region_lit ?_
      refine pures_end hT 3 _ hF161 (F' := [(6, .int .i64 ((((((xs.getD k 0) + (ys.getD k 0)) + cy) / 256) : Nat) : Int)), (41, .int .i64 ((((((xs.getD k 0) + (ys.getD k 0)) + cy) / 256) : Nat) : Int)), (40, .int .i64 (((((xs.getD k 0) + (ys.getD k 0)) + cy) : Nat) : Int)), (5, .slice A153 (k + 1) c154), (8, .int .i64 (((((xs.getD k 0) + (ys.getD k 0)) + cy) : Nat) : Int)), (22, .bool true), (0, .slice A n c), (1, .slice A2 n2 c2), (6, .int .i64 ((cy : Nat) : Int)), (7, .int .i64 ((k : Nat) : Int))]) (cs := [0 ≤ (((((xs.getD k 0) + (ys.getD k 0)) + cy) : Nat) : Int), (((((xs.getD k 0) + (ys.getD k 0)) + cy) : Nat) : Int) ≤ 9223372036854775807, 0 < (256 : Int)]) (by kernel_rfl) rfl (And.intro (by have h1 := getD_lt (by decide) hbx k; have h2 := getD_lt (by decide) hby k; omega) (And.intro (by have h1 := getD_lt (by decide) hbx k; have h2 := getD_lt (by decide) hby k; omega) (And.intro (by omega) trivial))) ?_
      intro a162 hF163; clear hF161 a159
      have hF164 := hF163.pick [6, 5, 8, 22, 0, 1, 7] (G := [(6, .int .i64 ((((((xs.getD k 0) + (ys.getD k 0)) + cy) / 256) : Nat) : Int)), (5, .slice A153 (k + 1) c154), (8, .int .i64 (((((xs.getD k 0) + (ys.getD k 0)) + cy) : Nat) : Int)), (22, .bool true), (0, .slice A n c), (1, .slice A2 n2 c2), (7, .int .i64 ((k : Nat) : Int))]) (by kernel_rfl); clear hF163
      refine hK106 _ _ ?_
      refine wp_region_lit ?_
      refine pures_end hT 3 _ hF164 (F' := [(7, .int .i64 (((k + 1) : Nat) : Int)), (24, .int .i64 (((k + 1) : Nat) : Int)), (23, .int .i64 ((k : Nat) : Int)), (6, .int .i64 ((((((xs.getD k 0) + (ys.getD k 0)) + cy) / 256) : Nat) : Int)), (5, .slice A153 (k + 1) c154), (8, .int .i64 (((((xs.getD k 0) + (ys.getD k 0)) + cy) : Nat) : Int)), (22, .bool true), (0, .slice A n c), (1, .slice A2 n2 c2), (7, .int .i64 ((k : Nat) : Int))]) (cs := [-9223372036854775808 ≤ (((k + 1) : Nat) : Int), (((k + 1) : Nat) : Int) ≤ 9223372036854775807]) (by kernel_rfl) rfl (And.intro (by omega) (And.intro (by omega) trivial)) ?_
      intro a165 hF166; clear hF164 a162
      have hF167 := hF166.pick [7, 6, 5, 8, 22, 0, 1] (G := [(7, .int .i64 (((k + 1) : Nat) : Int)), (6, .int .i64 ((((((xs.getD k 0) + (ys.getD k 0)) + cy) / 256) : Nat) : Int)), (5, .slice A153 (k + 1) c154), (8, .int .i64 (((((xs.getD k 0) + (ys.getD k 0)) + cy) : Nat) : Int)), (22, .bool true), (0, .slice A n c), (1, .slice A2 n2 c2)]) (by kernel_rfl); clear hF166
      refine hK22 _ _ _ (by omega) ⟨(k + 1), _, _, _, ((((xs.getD k 0) + (ys.getD k 0)) + cy) / 256), rfl, hF167.pick [0, 1, 5, 6, 7] (by kernel_rfl), HE, HO152, (by rcases Nat.lt_or_ge k (M) with q | q; exact .inl q; have h1 : xs.getD k 0 = 0 := getD_ge (by omega); have h2 : ys.getD k 0 = 0 := getD_ge (by omega); rw [h1, h2]; exact .inr ⟨by omega, by omega⟩), (by simp [hzl]), (by_snoc hzb (Nat.mod_lt _ (by decide))), (by have h1 := getD_lt (by decide) hbx k; have h2 := getD_lt (by decide) hby k; omega), (ref_add_step hzl hv)⟩
    · rw [e101] at hF99; clear e101
      refine pures_end hT 3 _ hF99 (F' := [(22, .bool ((decide (0 < ((cy : Nat) : Int))))), (21, .bool ((decide (0 < ((cy : Nat) : Int))))), (20, .int .i64 ((cy : Nat) : Int)), (19, .bool false), (18, .bool false), (17, .bool false), (16, .int .i64 ((n2 : Nat) : Int)), (15, .slice A2 n2 c2), (14, .int .i64 ((k : Nat) : Int)), (13, .bool false), (12, .bool false), (11, .int .i64 ((n : Nat) : Int)), (10, .slice A n c), (9, .int .i64 ((k : Nat) : Int)), (0, .slice A n c), (1, .slice A2 n2 c2), (5, .slice A3 k c3), (6, .int .i64 ((cy : Nat) : Int)), (7, .int .i64 ((k : Nat) : Int))]) (cs := []) (by kernel_rfl) rfl trivial ?_
      intro a168 hF169; clear hF99 a98
      have hF170 := hF169.pick [22, 0, 1, 5, 6, 7] (G := [(22, .bool ((decide (0 < ((cy : Nat) : Int))))), (0, .slice A n c), (1, .slice A2 n2 c2), (5, .slice A3 k c3), (6, .int .i64 ((cy : Nat) : Int)), (7, .int .i64 ((k : Nat) : Int))]) (by kernel_rfl); clear hF169
      refine hK27 _ _ ?_
      refine condK hF170 (p := 0 < ((cy : Nat) : Int)) (by kernel_rfl) (fun h171 => ?_) (fun h171 => ?_)
      · -- h171
        refine wp_skip ?_
        refine hK25 _ _ ?_
        refine wp_seq_k (fun K172 hK173 => ?_)
        refine wp_block ?_
        refine wp_seq_k (fun K174 hK175 => ?_)
        refine wp_region_lit ?_
        refine pures hT 2 _ hF170 (F' := [(26, .int .i64 ((k : Nat) : Int)), (25, .slice A n c), (22, .bool ((decide (0 < ((cy : Nat) : Int))))), (0, .slice A n c), (1, .slice A2 n2 c2), (5, .slice A3 k c3), (6, .int .i64 ((cy : Nat) : Int)), (7, .int .i64 ((k : Nat) : Int))]) (cs := []) (by kernel_rfl) trivial ?_
        intro a176 hF177; clear hF170 a168
        have hz181 := HE.size
        have hz182 := HO.base
        refine wl (s_call (d := 27) (f := 45) (l := [.slice A n c, .int .i64 ((k : Nat) : Int)]) (by kernel_rfl) hF177 cl45 (ref15_at A n c xs k _ (by first | omega | assumption | (simp; done) | (simp; omega) | decide) (hR.ex HE) (by first | assumption | exact by_dig _ | exact by_one (Nat.mod_lt _ (by decide)) | omega | simp | decide)) ?_)
        rintro a183 w178 v179 ⟨rfl, HX180⟩ ha185 hF184; clear ha185 hF177 a176
        replace HE := HE.thenN HX180.g
        replace HO := HO.growN HX180.g
        refine pures hT 2 _ hF184 (F' := [(29, .int .i64 ((k : Nat) : Int)), (28, .slice A2 n2 c2), (27, .int .i64 (((xs.getD k 0) : Nat) : Int)), (26, .int .i64 ((k : Nat) : Int)), (25, .slice A n c), (22, .bool ((decide (0 < ((cy : Nat) : Int))))), (0, .slice A n c), (1, .slice A2 n2 c2), (5, .slice A3 k c3), (6, .int .i64 ((cy : Nat) : Int)), (7, .int .i64 ((k : Nat) : Int))]) (cs := []) (by kernel_rfl) trivial ?_
        intro a186 hF187; clear hF184 a183
        have hz191 := HE.size
        have hz192 := HO.base
        refine wl (s_call (d := 30) (f := 45) (l := [.slice A2 n2 c2, .int .i64 ((k : Nat) : Int)]) (by kernel_rfl) hF187 cl45 (ref15_at A2 n2 c2 ys k _ (by first | omega | assumption | (simp; done) | (simp; omega) | decide) (hR2.ex HE) (by first | assumption | exact by_dig _ | exact by_one (Nat.mod_lt _ (by decide)) | omega | simp | decide)) ?_)
        rintro a193 w188 v189 ⟨rfl, HX190⟩ ha195 hF194; clear ha195 hF187 a186
        replace HE := HE.thenN HX190.g
        replace HO := HO.growN HX190.g
        refine pures_end hT 4 _ hF194 (F' := [(8, .int .i64 (((((xs.getD k 0) + (ys.getD k 0)) + cy) : Nat) : Int)), (33, .int .i64 (((((xs.getD k 0) + (ys.getD k 0)) + cy) : Nat) : Int)), (32, .int .i64 ((cy : Nat) : Int)), (31, .int .i64 ((((xs.getD k 0) + (ys.getD k 0)) : Nat) : Int)), (30, .int .i64 (((ys.getD k 0) : Nat) : Int)), (29, .int .i64 ((k : Nat) : Int)), (28, .slice A2 n2 c2), (27, .int .i64 (((xs.getD k 0) : Nat) : Int)), (26, .int .i64 ((k : Nat) : Int)), (25, .slice A n c), (22, .bool ((decide (0 < ((cy : Nat) : Int))))), (0, .slice A n c), (1, .slice A2 n2 c2), (5, .slice A3 k c3), (6, .int .i64 ((cy : Nat) : Int)), (7, .int .i64 ((k : Nat) : Int))]) (cs := [-9223372036854775808 ≤ ((((xs.getD k 0) + (ys.getD k 0)) : Nat) : Int), ((((xs.getD k 0) + (ys.getD k 0)) : Nat) : Int) ≤ 9223372036854775807, -9223372036854775808 ≤ (((((xs.getD k 0) + (ys.getD k 0)) + cy) : Nat) : Int), (((((xs.getD k 0) + (ys.getD k 0)) + cy) : Nat) : Int) ≤ 9223372036854775807]) (by kernel_rfl) rfl (And.intro (by have h1 := getD_lt (by decide) hbx k; have h2 := getD_lt (by decide) hby k; omega) (And.intro (by have h1 := getD_lt (by decide) hbx k; have h2 := getD_lt (by decide) hby k; omega) (And.intro (by have h1 := getD_lt (by decide) hbx k; have h2 := getD_lt (by decide) hby k; omega) (And.intro (by have h1 := getD_lt (by decide) hbx k; have h2 := getD_lt (by decide) hby k; omega) trivial)))) ?_
        intro a196 hF197; clear hF194 a193
        have hF198 := hF197.pick [8, 22, 0, 1, 5, 6, 7] (G := [(8, .int .i64 (((((xs.getD k 0) + (ys.getD k 0)) + cy) : Nat) : Int)), (22, .bool ((decide (0 < ((cy : Nat) : Int))))), (0, .slice A n c), (1, .slice A2 n2 c2), (5, .slice A3 k c3), (6, .int .i64 ((cy : Nat) : Int)), (7, .int .i64 ((k : Nat) : Int))]) (by kernel_rfl); clear hF197
        refine hK175 _ _ ?_
        refine wp_seq_k (fun K199 hK200 => ?_)
        refine wp_region_lit ?_
        refine pures hT 4 _ hF198 (F' := [(37, .int .u8 (((((((xs.getD k 0) + (ys.getD k 0)) + cy) % 256) % 256) : Nat) : Int)), (36, .int .i64 ((((((xs.getD k 0) + (ys.getD k 0)) + cy) % 256) : Nat) : Int)), (35, .int .i64 (((((xs.getD k 0) + (ys.getD k 0)) + cy) : Nat) : Int)), (34, .slice A3 k c3), (8, .int .i64 (((((xs.getD k 0) + (ys.getD k 0)) + cy) : Nat) : Int)), (22, .bool ((decide (0 < ((cy : Nat) : Int))))), (0, .slice A n c), (1, .slice A2 n2 c2), (5, .slice A3 k c3), (6, .int .i64 ((cy : Nat) : Int)), (7, .int .i64 ((k : Nat) : Int))]) (cs := [0 ≤ (((((xs.getD k 0) + (ys.getD k 0)) + cy) : Nat) : Int), 0 < (256 : Int)]) (by kernel_rfl) (And.intro (by have h1 := getD_lt (by decide) hbx k; have h2 := getD_lt (by decide) hby k; omega) (And.intro (by omega) trivial)) ?_
        intro a201 hF202; clear hF198 a196
        have hz209 := HE.size
        have hz210 := HO.base
        refine wl (s_lit hT (d := 38) (T := 5) (l := vs .u8 [(((((xs.getD k 0) + (ys.getD k 0)) + cy) % 256) % 256)]) (by kernel_rfl) hF202 ?_)
        rintro a211 w204 b203 h207 h208 HB206 g205 ha213 hF212; clear ha213 hF202 a201
        replace HE := HE.thenN g205
        replace HO := HO.growN g205
        have hz214 := HE.size
        have hz215 := HO.base
        have hz216 := HB206.lt
        refine wl (s_app hT (d := 39) (T := 5) (i := tr5) (B := w.heap.size) (m := k) (c := c3) (m2 := 1) (c2 := 1) (by kernel_rfl) hF212 rfl (by decide) HO HB206.rd (by show _ = 1 * 1; simp) vs_one (by show (k + 1) * 1 ≤ 140737488355328; omega) (by decide) (by have := HE.size; omega) ?_)
        rintro a223 w217 A220 c221 HO219 g218 hat222 ha225 hF224; clear ha225 hF212 a211
        rw [← vs_append] at HO219
        replace HE := HE.thenR g218 (fun k hk => by have := (HO.base k hk).1; omega)
        replace HB206 := HB206.grow g218 (by intro h; have := (hz210 _ h).2; omega)
        clear HO
        refine pures_end hT 1 _ hF224 (F' := [(5, .slice A220 (k + 1) c221), (39, .slice A220 (k + 1) c221), (38, .slice (some ⟨b203, 0, none⟩) 1 1), (37, .int .u8 (((((((xs.getD k 0) + (ys.getD k 0)) + cy) % 256) % 256) : Nat) : Int)), (36, .int .i64 ((((((xs.getD k 0) + (ys.getD k 0)) + cy) % 256) : Nat) : Int)), (35, .int .i64 (((((xs.getD k 0) + (ys.getD k 0)) + cy) : Nat) : Int)), (34, .slice A3 k c3), (8, .int .i64 (((((xs.getD k 0) + (ys.getD k 0)) + cy) : Nat) : Int)), (22, .bool ((decide (0 < ((cy : Nat) : Int))))), (0, .slice A n c), (1, .slice A2 n2 c2), (5, .slice A3 k c3), (6, .int .i64 ((cy : Nat) : Int)), (7, .int .i64 ((k : Nat) : Int))]) (cs := []) (by kernel_rfl) rfl trivial ?_
        intro a226 hF227; clear hF224 a223
        have hF228 := hF227.pick [5, 8, 22, 0, 1, 6, 7] (G := [(5, .slice A220 (k + 1) c221), (8, .int .i64 (((((xs.getD k 0) + (ys.getD k 0)) + cy) : Nat) : Int)), (22, .bool ((decide (0 < ((cy : Nat) : Int))))), (0, .slice A n c), (1, .slice A2 n2 c2), (6, .int .i64 ((cy : Nat) : Int)), (7, .int .i64 ((k : Nat) : Int))]) (by kernel_rfl); clear hF227
        refine hK200 _ _ ?_
        refine wp_region_lit ?_
        refine pures_end hT 3 _ hF228 (F' := [(6, .int .i64 ((((((xs.getD k 0) + (ys.getD k 0)) + cy) / 256) : Nat) : Int)), (41, .int .i64 ((((((xs.getD k 0) + (ys.getD k 0)) + cy) / 256) : Nat) : Int)), (40, .int .i64 (((((xs.getD k 0) + (ys.getD k 0)) + cy) : Nat) : Int)), (5, .slice A220 (k + 1) c221), (8, .int .i64 (((((xs.getD k 0) + (ys.getD k 0)) + cy) : Nat) : Int)), (22, .bool ((decide (0 < ((cy : Nat) : Int))))), (0, .slice A n c), (1, .slice A2 n2 c2), (6, .int .i64 ((cy : Nat) : Int)), (7, .int .i64 ((k : Nat) : Int))]) (cs := [0 ≤ (((((xs.getD k 0) + (ys.getD k 0)) + cy) : Nat) : Int), (((((xs.getD k 0) + (ys.getD k 0)) + cy) : Nat) : Int) ≤ 9223372036854775807, 0 < (256 : Int)]) (by kernel_rfl) rfl (And.intro (by have h1 := getD_lt (by decide) hbx k; have h2 := getD_lt (by decide) hby k; omega) (And.intro (by have h1 := getD_lt (by decide) hbx k; have h2 := getD_lt (by decide) hby k; omega) (And.intro (by omega) trivial))) ?_
        intro a229 hF230; clear hF228 a226
        have hF231 := hF230.pick [6, 5, 8, 22, 0, 1, 7] (G := [(6, .int .i64 ((((((xs.getD k 0) + (ys.getD k 0)) + cy) / 256) : Nat) : Int)), (5, .slice A220 (k + 1) c221), (8, .int .i64 (((((xs.getD k 0) + (ys.getD k 0)) + cy) : Nat) : Int)), (22, .bool ((decide (0 < ((cy : Nat) : Int))))), (0, .slice A n c), (1, .slice A2 n2 c2), (7, .int .i64 ((k : Nat) : Int))]) (by kernel_rfl); clear hF230
        refine hK173 _ _ ?_
        refine wp_region_lit ?_
        refine pures_end hT 3 _ hF231 (F' := [(7, .int .i64 (((k + 1) : Nat) : Int)), (24, .int .i64 (((k + 1) : Nat) : Int)), (23, .int .i64 ((k : Nat) : Int)), (6, .int .i64 ((((((xs.getD k 0) + (ys.getD k 0)) + cy) / 256) : Nat) : Int)), (5, .slice A220 (k + 1) c221), (8, .int .i64 (((((xs.getD k 0) + (ys.getD k 0)) + cy) : Nat) : Int)), (22, .bool ((decide (0 < ((cy : Nat) : Int))))), (0, .slice A n c), (1, .slice A2 n2 c2), (7, .int .i64 ((k : Nat) : Int))]) (cs := [-9223372036854775808 ≤ (((k + 1) : Nat) : Int), (((k + 1) : Nat) : Int) ≤ 9223372036854775807]) (by kernel_rfl) rfl (And.intro (by omega) (And.intro (by omega) trivial)) ?_
        intro a232 hF233; clear hF231 a229
        have hF234 := hF233.pick [7, 6, 5, 8, 22, 0, 1] (G := [(7, .int .i64 (((k + 1) : Nat) : Int)), (6, .int .i64 ((((((xs.getD k 0) + (ys.getD k 0)) + cy) / 256) : Nat) : Int)), (5, .slice A220 (k + 1) c221), (8, .int .i64 (((((xs.getD k 0) + (ys.getD k 0)) + cy) : Nat) : Int)), (22, .bool ((decide (0 < ((cy : Nat) : Int))))), (0, .slice A n c), (1, .slice A2 n2 c2)]) (by kernel_rfl); clear hF233
        refine hK22 _ _ _ (by omega) ⟨(k + 1), _, _, _, ((((xs.getD k 0) + (ys.getD k 0)) + cy) / 256), rfl, hF234.pick [0, 1, 5, 6, 7] (by kernel_rfl), HE, HO219, (by rcases Nat.lt_or_ge k (M) with q | q; exact .inl q; have h1 : xs.getD k 0 = 0 := getD_ge (by omega); have h2 : ys.getD k 0 = 0 := getD_ge (by omega); rw [h1, h2]; exact .inr ⟨by omega, by omega⟩), (by simp [hzl]), (by_snoc hzb (Nat.mod_lt _ (by decide))), (by have h1 := getD_lt (by decide) hbx k; have h2 := getD_lt (by decide) hby k; omega), (ref_add_step hzl hv)⟩
      · -- h171
        refine wp_exit ?_
        refine hK14 _ _ ?_
        refine wp_seq_k (fun K235 hK236 => ?_)
        have hcap := HO.cap
        refine wp_region_lit ?_
        refine pures hT 1 _ hF170 (F' := [(42, .slice A3 k c3), (22, .bool ((decide (0 < ((cy : Nat) : Int))))), (0, .slice A n c), (1, .slice A2 n2 c2), (5, .slice A3 k c3), (6, .int .i64 ((cy : Nat) : Int)), (7, .int .i64 ((k : Nat) : Int))]) (cs := []) (by kernel_rfl) trivial ?_
        intro a237 hF238; clear hF170 a168
        have hz245 := HE.size
        have hz246 := HO.base
        refine wl (s_call (d := 43) (f := 21) (l := [.slice A3 k c3]) (by kernel_rfl) hF238 cl21 (ref15_Norm A3 k c3 zs (nv 256 zs) _ rfl (by first | omega | assumption | (simp; done) | (simp; omega) | decide) HO.rd (by first | assumption | exact by_dig _ | exact by_one (Nat.mod_lt _ (by decide)) | omega | simp | decide) (by first | omega | assumption | (simp; done) | (simp; omega) | decide) (by first | omega | assumption | (simp; done) | (simp; omega) | decide)) ?_)
        rintro a247 w242 v243 ⟨A239, c240, rfl, HX244, HO241⟩ ha249 hF248; clear ha249 hF238 a237
        replace HE := HE.thenN HX244.g
        replace HO := HO.growN HX244.g
        have hcp250 := HO241.cap
        refine pures_end hT 1 _ hF248 (F' := [(4, .slice A239 ((dig 256 (nv 256 zs)).length) c240), (43, .slice A239 ((dig 256 (nv 256 zs)).length) c240), (42, .slice A3 k c3), (22, .bool ((decide (0 < ((cy : Nat) : Int))))), (0, .slice A n c), (1, .slice A2 n2 c2), (5, .slice A3 k c3), (6, .int .i64 ((cy : Nat) : Int)), (7, .int .i64 ((k : Nat) : Int))]) (cs := []) (by kernel_rfl) rfl trivial ?_
        intro a251 hF252; clear hF248 a247
        have hF253 := hF252.pick [4, 22, 0, 1, 5, 6, 7] (G := [(4, .slice A239 ((dig 256 (nv 256 zs)).length) c240), (22, .bool ((decide (0 < ((cy : Nat) : Int))))), (0, .slice A n c), (1, .slice A2 n2 c2), (5, .slice A3 k c3), (6, .int .i64 ((cy : Nat) : Int)), (7, .int .i64 ((k : Nat) : Int))]) (by kernel_rfl); clear hF252
        refine hK236 _ _ ?_
        refine wp_ret ?_
        refine ret1 hF253 rfl (v := .slice A239 ((dig 256 (nv 256 zs)).length) c240) (by kernel_rfl) ?_
        have hO := HO241
        have hc0 : cy = 0 := by omega
        subst hc0
        have hres : nv 256 zs = nv 256 xs + nv 256 ys := by rw [show xs.take k = xs from List.take_of_length_le (by omega), show ys.take k = ys from List.take_of_length_le (by omega)] at hv; omega
        rw [hres] at hO ⊢
        exact ⟨_, _, rfl, HE, hO.rebase (by omega)⟩

theorem ref15_Sub (A : Option Addr) (n c : Nat) (xs : List Nat) (x : Nat) (A2 : Option Addr) (n2 c2 : Nat) (ys : List Nat) (y : Nat) (w : World) (hx : nv 256 xs = x) (hy : nv 256 ys = y) (hn : xs.length = n) (hn2 : ys.length = n2) (hR : Rd w A (vs .u8 xs)) (hR2 : Rd w A2 (vs .u8 ys)) (hbx : By xs) (hby : By ys) (hl : n ≤ 1099511627776) (hl2 : n2 ≤ 1099511627776) :
    Calls Try.prog 23 [.slice A n c, .slice A2 n2 c2].toArray w (Ret fun v w' => ∃ A' c', v = .slice A' (dig 256 (x - y)).length c' ∧ Ex w w' ∧ Own w' w.heap.size 5 1 A' (dig 256 (x - y)).length c' (vs .u8 (dig 256 (x - y)))) := by
  subst hx hy
  refine enter Try.func23 rfl (n := 39) Try.ntmps23 (by simp) ?_
  intro a hF
  have HE : Ex w w := Ex.refl w
  refine wp_seq_k (fun K1 hK2 => ?_)
  refine wp_region_lit ?_
  refine pures_end hT 1 _ hF (F' := [(4, .slice none 0 0), (0, .slice A n c), (1, .slice A2 n2 c2)]) (cs := []) (by kernel_rfl) rfl trivial ?_
  intro a3 hF4; clear hF a
  refine hK2 _ _ ?_
  refine wp_seq_k (fun K5 hK6 => ?_)
  refine wp_seq_k (fun K7 hK8 => ?_)
  refine wp_region_lit ?_
  refine pures hT 2 _ hF4 (F' := [(10, .slice A2 n2 c2), (9, .slice A n c), (4, .slice none 0 0), (0, .slice A n c), (1, .slice A2 n2 c2)]) (cs := []) (by kernel_rfl) trivial ?_
  intro a9 hF10; clear hF4 a3
  have hz14 := HE.size
  refine wl (s_call (d := 11) (f := 20) (l := [.slice A n c, .slice A2 n2 c2]) (by kernel_rfl) hF10 cl20 (ref15_Cmp A n c xs (nv 256 xs) A2 n2 c2 ys (nv 256 ys) _ rfl rfl (by first | omega | assumption | (simp; done) | (simp; omega) | decide) (by first | omega | assumption | (simp; done) | (simp; omega) | decide) hR hR2 (by first | assumption | exact by_dig _ | exact by_one (Nat.mod_lt _ (by decide)) | omega | simp | decide) (by first | assumption | exact by_dig _ | exact by_one (Nat.mod_lt _ (by decide)) | omega | simp | decide) (by first | omega | assumption | (simp; done) | (simp; omega) | decide) (by first | omega | assumption | (simp; done) | (simp; omega) | decide) ) ?_)
  rintro a15 w11 v12 ⟨rfl, HX13⟩ ha17 hF16; clear ha17 hF10 a9
  replace HE := HE.thenN HX13.g
  refine pures_end hT 1 _ hF16 (F' := [(12, .bool ((decide ((cmpI (nv 256 xs) (nv 256 ys)) < 0)))), (11, .int .i64 (cmpI (nv 256 xs) (nv 256 ys))), (10, .slice A2 n2 c2), (9, .slice A n c), (4, .slice none 0 0), (0, .slice A n c), (1, .slice A2 n2 c2)]) (cs := []) (by kernel_rfl) rfl trivial ?_
  intro a18 hF19; clear hF16 a15
  have hF20 := hF19.pick [12, 4, 0, 1] (G := [(12, .bool ((decide ((cmpI (nv 256 xs) (nv 256 ys)) < 0)))), (4, .slice none 0 0), (0, .slice A n c), (1, .slice A2 n2 c2)]) (by kernel_rfl); clear hF19
  refine hK8 _ _ ?_
  refine condK hF20 (p := (cmpI (nv 256 xs) (nv 256 ys)) < 0) (by kernel_rfl) (fun h21 => ?_) (fun h21 => ?_)
  · -- h21
    refine wp_seq_k (fun K22 hK23 => ?_)
    refine wp_region_lit ?_
    refine pures_end hT 1 _ hF20 (F' := [(4, .slice none 0 0), (12, .bool ((decide ((cmpI (nv 256 xs) (nv 256 ys)) < 0)))), (4, .slice none 0 0), (0, .slice A n c), (1, .slice A2 n2 c2)]) (cs := []) (by kernel_rfl) rfl trivial ?_
    intro a24 hF25; clear hF20 a18
    have hF26 := hF25.pick [4, 12, 0, 1] (G := [(4, .slice none 0 0), (12, .bool ((decide ((cmpI (nv 256 xs) (nv 256 ys)) < 0)))), (0, .slice A n c), (1, .slice A2 n2 c2)]) (by kernel_rfl); clear hF25
    refine hK23 _ _ ?_
    refine wp_ret ?_
    refine ret1 hF26 rfl (v := .slice none 0 0) (by kernel_rfl) ?_
    have hz : nv 256 xs - nv 256 ys = 0 := by have := cmpI_lt0.1 (by assumption); omega
    rw [hz]
    exact ⟨none, 0, rfl, HE, Own.nil _ _ _ _⟩
  · -- h21
    refine wp_skip ?_
    refine hK6 _ _ ?_
    refine wp_seq_k (fun K27 hK28 => ?_)
    refine wp_region_lit ?_
    refine pures_end hT 1 _ hF20 (F' := [(5, .slice none 0 0), (12, .bool ((decide ((cmpI (nv 256 xs) (nv 256 ys)) < 0)))), (4, .slice none 0 0), (0, .slice A n c), (1, .slice A2 n2 c2)]) (cs := []) (by kernel_rfl) rfl trivial ?_
    intro a29 hF30; clear hF20 a18
    refine hK28 _ _ ?_
    refine wp_seq_k (fun K31 hK32 => ?_)
    refine wp_region_lit ?_
    refine pures_end hT 1 _ hF30 (F' := [(6, .int .i64 0), (5, .slice none 0 0), (12, .bool ((decide ((cmpI (nv 256 xs) (nv 256 ys)) < 0)))), (4, .slice none 0 0), (0, .slice A n c), (1, .slice A2 n2 c2)]) (cs := []) (by kernel_rfl) rfl trivial ?_
    intro a33 hF34; clear hF30 a29
    refine hK32 _ _ ?_
    refine wp_seq_k (fun K35 hK36 => ?_)
    refine wp_seq_k (fun K37 hK38 => ?_)
    refine wp_region_lit ?_
    refine pures_end hT 1 _ hF34 (F' := [(7, .int .i64 0), (6, .int .i64 0), (5, .slice none 0 0), (12, .bool ((decide ((cmpI (nv 256 xs) (nv 256 ys)) < 0)))), (4, .slice none 0 0), (0, .slice A n c), (1, .slice A2 n2 c2)]) (cs := []) (by kernel_rfl) rfl trivial ?_
    intro a39 hF40; clear hF34 a33
    refine hK38 _ _ ?_
    refine wp_block ?_
    refine loopK (fun mm_ a W => ∃ (k : Nat), ∃ (A3 : Option Addr), ∃ (c3 : Nat), ∃ (zs : List Nat), ∃ (bw : Nat), (n - k) = mm_ ∧ (Fr 39 a [(0, .slice A n c), (1, .slice A2 n2 c2), (5, .slice A3 k c3), (6, .int .i64 ((bw : Nat) : Int)), (7, .int .i64 ((k : Nat) : Int))]) ∧ (Ex w W) ∧ (Own W (w.heap.size) 5 1 A3 k c3 (vs .u8 zs)) ∧ (k ≤ n) ∧ (zs.length = k) ∧ (By zs) ∧ (bw ≤ 1) ∧ (nv 256 zs + nv 256 (ys.take k) = nv 256 (xs.take k) + bw * 256 ^ k)) _ ⟨0, none, 0, [], 0, rfl, hF40.pick [0, 1, 5, 6, 7] (by kernel_rfl), HE, Own.nil _ _ _ _, (by omega), rfl, (by intro x hx; cases hx), (by omega), (by simp)⟩ ?_
    clear hF40 HE
    rintro mm_ a41 w42 ⟨k, A3, c3, zs, bw, rfl, hF45, HE, HO, hk, hzl, hzb, hbw, hv⟩ K43 hK44
    refine wp_seq_k (fun K46 hK47 => ?_)
    refine wp_seq_k (fun K48 hK49 => ?_)
    refine wp_region_lit ?_
    refine pures_end hT 4 _ hF45 (F' := [(16, .bool ((decide (((k : Nat) : Int) < ((n : Nat) : Int))))), (15, .int .i64 ((n : Nat) : Int)), (14, .slice A n c), (13, .int .i64 ((k : Nat) : Int)), (0, .slice A n c), (1, .slice A2 n2 c2), (5, .slice A3 k c3), (6, .int .i64 ((bw : Nat) : Int)), (7, .int .i64 ((k : Nat) : Int))]) (cs := []) (by kernel_rfl) rfl trivial ?_
    intro a50 hF51; clear hF45 a41
    have hF52 := hF51.pick [16, 0, 1, 5, 6, 7] (G := [(16, .bool ((decide (((k : Nat) : Int) < ((n : Nat) : Int))))), (0, .slice A n c), (1, .slice A2 n2 c2), (5, .slice A3 k c3), (6, .int .i64 ((bw : Nat) : Int)), (7, .int .i64 ((k : Nat) : Int))]) (by kernel_rfl); clear hF51
    refine hK49 _ _ ?_
    refine condK hF52 (p := ((k : Nat) : Int) < ((n : Nat) : Int)) (by kernel_rfl) (fun h53 => ?_) (fun h53 => ?_)
    · -- h53
      refine wp_skip ?_
      refine hK47 _ _ ?_
      refine wp_seq_k (fun K54 hK55 => ?_)
      refine wp_block ?_
      refine wp_seq_k (fun K56 hK57 => ?_)
      have hgx := getD_lt (by decide) hbx k
      have hgy := getD_lt (by decide) hby k
      refine wp_region_lit ?_
      refine pures hT 2 _ hF52 (F' := [(20, .int .i64 ((k : Nat) : Int)), (19, .slice A n c), (16, .bool ((decide (((k : Nat) : Int) < ((n : Nat) : Int))))), (0, .slice A n c), (1, .slice A2 n2 c2), (5, .slice A3 k c3), (6, .int .i64 ((bw : Nat) : Int)), (7, .int .i64 ((k : Nat) : Int))]) (cs := []) (by kernel_rfl) trivial ?_
      intro a58 hF59; clear hF52 a50
      have hz63 := HE.size
      have hz64 := HO.base
      refine wl (s_call (d := 21) (f := 45) (l := [.slice A n c, .int .i64 ((k : Nat) : Int)]) (by kernel_rfl) hF59 cl45 (ref15_at A n c xs k _ (by first | omega | assumption | (simp; done) | (simp; omega) | decide) (hR.ex HE) (by first | assumption | exact by_dig _ | exact by_one (Nat.mod_lt _ (by decide)) | omega | simp | decide)) ?_)
      rintro a65 w60 v61 ⟨rfl, HX62⟩ ha67 hF66; clear ha67 hF59 a58
      replace HE := HE.thenN HX62.g
      replace HO := HO.growN HX62.g
      refine pures hT 2 _ hF66 (F' := [(23, .int .i64 ((k : Nat) : Int)), (22, .slice A2 n2 c2), (21, .int .i64 (((xs.getD k 0) : Nat) : Int)), (20, .int .i64 ((k : Nat) : Int)), (19, .slice A n c), (16, .bool ((decide (((k : Nat) : Int) < ((n : Nat) : Int))))), (0, .slice A n c), (1, .slice A2 n2 c2), (5, .slice A3 k c3), (6, .int .i64 ((bw : Nat) : Int)), (7, .int .i64 ((k : Nat) : Int))]) (cs := []) (by kernel_rfl) trivial ?_
      intro a68 hF69; clear hF66 a65
      have hz73 := HE.size
      have hz74 := HO.base
      refine wl (s_call (d := 24) (f := 45) (l := [.slice A2 n2 c2, .int .i64 ((k : Nat) : Int)]) (by kernel_rfl) hF69 cl45 (ref15_at A2 n2 c2 ys k _ (by first | omega | assumption | (simp; done) | (simp; omega) | decide) (hR2.ex HE) (by first | assumption | exact by_dig _ | exact by_one (Nat.mod_lt _ (by decide)) | omega | simp | decide)) ?_)
      rintro a75 w70 v71 ⟨rfl, HX72⟩ ha77 hF76; clear ha77 hF69 a68
      replace HE := HE.thenN HX72.g
      replace HO := HO.growN HX72.g
      refine pures_end hT 4 _ hF76 (F' := [(8, .int .i64 (((((xs.getD k 0) : Nat) : Int) - (((ys.getD k 0) : Nat) : Int)) - ((bw : Nat) : Int))), (27, .int .i64 (((((xs.getD k 0) : Nat) : Int) - (((ys.getD k 0) : Nat) : Int)) - ((bw : Nat) : Int))), (26, .int .i64 ((bw : Nat) : Int)), (25, .int .i64 ((((xs.getD k 0) : Nat) : Int) - (((ys.getD k 0) : Nat) : Int))), (24, .int .i64 (((ys.getD k 0) : Nat) : Int)), (23, .int .i64 ((k : Nat) : Int)), (22, .slice A2 n2 c2), (21, .int .i64 (((xs.getD k 0) : Nat) : Int)), (20, .int .i64 ((k : Nat) : Int)), (19, .slice A n c), (16, .bool ((decide (((k : Nat) : Int) < ((n : Nat) : Int))))), (0, .slice A n c), (1, .slice A2 n2 c2), (5, .slice A3 k c3), (6, .int .i64 ((bw : Nat) : Int)), (7, .int .i64 ((k : Nat) : Int))]) (cs := [-9223372036854775808 ≤ ((((xs.getD k 0) : Nat) : Int) - (((ys.getD k 0) : Nat) : Int)), ((((xs.getD k 0) : Nat) : Int) - (((ys.getD k 0) : Nat) : Int)) ≤ 9223372036854775807, -9223372036854775808 ≤ (((((xs.getD k 0) : Nat) : Int) - (((ys.getD k 0) : Nat) : Int)) - ((bw : Nat) : Int)), (((((xs.getD k 0) : Nat) : Int) - (((ys.getD k 0) : Nat) : Int)) - ((bw : Nat) : Int)) ≤ 9223372036854775807]) (by kernel_rfl) rfl (And.intro (by omega) (And.intro (by omega) (And.intro (by omega) (And.intro (by omega) trivial)))) ?_
      intro a78 hF79; clear hF76 a75
      have hF80 := hF79.pick [8, 16, 0, 1, 5, 6, 7] (G := [(8, .int .i64 (((((xs.getD k 0) : Nat) : Int) - (((ys.getD k 0) : Nat) : Int)) - ((bw : Nat) : Int))), (16, .bool ((decide (((k : Nat) : Int) < ((n : Nat) : Int))))), (0, .slice A n c), (1, .slice A2 n2 c2), (5, .slice A3 k c3), (6, .int .i64 ((bw : Nat) : Int)), (7, .int .i64 ((k : Nat) : Int))]) (by kernel_rfl); clear hF79
      refine hK57 _ _ ?_
      refine wp_seq_k (fun K81 hK82 => ?_)
      refine wp_region_lit ?_
      refine pures_end hT 1 _ hF80 (F' := [(6, .int .i64 0), (8, .int .i64 (((((xs.getD k 0) : Nat) : Int) - (((ys.getD k 0) : Nat) : Int)) - ((bw : Nat) : Int))), (16, .bool ((decide (((k : Nat) : Int) < ((n : Nat) : Int))))), (0, .slice A n c), (1, .slice A2 n2 c2), (5, .slice A3 k c3), (6, .int .i64 ((bw : Nat) : Int)), (7, .int .i64 ((k : Nat) : Int))]) (cs := []) (by kernel_rfl) rfl trivial ?_
      intro a83 hF84; clear hF80 a78
      have hF85 := hF84.pick [6, 8, 16, 0, 1, 5, 7] (G := [(6, .int .i64 0), (8, .int .i64 (((((xs.getD k 0) : Nat) : Int) - (((ys.getD k 0) : Nat) : Int)) - ((bw : Nat) : Int))), (16, .bool ((decide (((k : Nat) : Int) < ((n : Nat) : Int))))), (0, .slice A n c), (1, .slice A2 n2 c2), (5, .slice A3 k c3), (7, .int .i64 ((k : Nat) : Int))]) (by kernel_rfl); clear hF84
      refine hK82 _ _ ?_
      refine wp_seq_k (fun K86 hK87 => ?_)
      refine wp_seq_k (fun K88 hK89 => ?_)
      refine wp_region_lit ?_
      refine pures_end hT 2 _ hF85 (F' := [(29, .bool ((decide ((((((xs.getD k 0) : Nat) : Int) - (((ys.getD k 0) : Nat) : Int)) - ((bw : Nat) : Int)) < 0)))), (28, .int .i64 (((((xs.getD k 0) : Nat) : Int) - (((ys.getD k 0) : Nat) : Int)) - ((bw : Nat) : Int))), (6, .int .i64 0), (8, .int .i64 (((((xs.getD k 0) : Nat) : Int) - (((ys.getD k 0) : Nat) : Int)) - ((bw : Nat) : Int))), (16, .bool ((decide (((k : Nat) : Int) < ((n : Nat) : Int))))), (0, .slice A n c), (1, .slice A2 n2 c2), (5, .slice A3 k c3), (7, .int .i64 ((k : Nat) : Int))]) (cs := []) (by kernel_rfl) rfl trivial ?_
      intro a90 hF91; clear hF85 a83
      have hF92 := hF91.pick [29, 6, 8, 16, 0, 1, 5, 7] (G := [(29, .bool ((decide ((((((xs.getD k 0) : Nat) : Int) - (((ys.getD k 0) : Nat) : Int)) - ((bw : Nat) : Int)) < 0)))), (6, .int .i64 0), (8, .int .i64 (((((xs.getD k 0) : Nat) : Int) - (((ys.getD k 0) : Nat) : Int)) - ((bw : Nat) : Int))), (16, .bool ((decide (((k : Nat) : Int) < ((n : Nat) : Int))))), (0, .slice A n c), (1, .slice A2 n2 c2), (5, .slice A3 k c3), (7, .int .i64 ((k : Nat) : Int))]) (by kernel_rfl); clear hF91
      refine hK89 _ _ ?_
      refine condK hF92 (p := (((((xs.getD k 0) : Nat) : Int) - (((ys.getD k 0) : Nat) : Int)) - ((bw : Nat) : Int)) < 0) (by kernel_rfl) (fun h93 => ?_) (fun h93 => ?_)
      · -- h93
        refine wp_seq_k (fun K94 hK95 => ?_)
        refine wp_region_lit ?_
        refine pures_end hT 3 _ hF92 (F' := [(8, .int .i64 ((((((xs.getD k 0) : Nat) : Int) - (((ys.getD k 0) : Nat) : Int)) - ((bw : Nat) : Int)) + 256)), (31, .int .i64 ((((((xs.getD k 0) : Nat) : Int) - (((ys.getD k 0) : Nat) : Int)) - ((bw : Nat) : Int)) + 256)), (30, .int .i64 (((((xs.getD k 0) : Nat) : Int) - (((ys.getD k 0) : Nat) : Int)) - ((bw : Nat) : Int))), (29, .bool ((decide ((((((xs.getD k 0) : Nat) : Int) - (((ys.getD k 0) : Nat) : Int)) - ((bw : Nat) : Int)) < 0)))), (6, .int .i64 0), (8, .int .i64 (((((xs.getD k 0) : Nat) : Int) - (((ys.getD k 0) : Nat) : Int)) - ((bw : Nat) : Int))), (16, .bool ((decide (((k : Nat) : Int) < ((n : Nat) : Int))))), (0, .slice A n c), (1, .slice A2 n2 c2), (5, .slice A3 k c3), (7, .int .i64 ((k : Nat) : Int))]) (cs := [-9223372036854775808 ≤ ((((((xs.getD k 0) : Nat) : Int) - (((ys.getD k 0) : Nat) : Int)) - ((bw : Nat) : Int)) + 256), ((((((xs.getD k 0) : Nat) : Int) - (((ys.getD k 0) : Nat) : Int)) - ((bw : Nat) : Int)) + 256) ≤ 9223372036854775807]) (by kernel_rfl) rfl (And.intro (by omega) (And.intro (by omega) trivial)) ?_
        intro a96 hF97; clear hF92 a90
        have hF98 := hF97.pick [8, 29, 6, 16, 0, 1, 5, 7] (G := [(8, .int .i64 ((((((xs.getD k 0) : Nat) : Int) - (((ys.getD k 0) : Nat) : Int)) - ((bw : Nat) : Int)) + 256)), (29, .bool ((decide ((((((xs.getD k 0) : Nat) : Int) - (((ys.getD k 0) : Nat) : Int)) - ((bw : Nat) : Int)) < 0)))), (6, .int .i64 0), (16, .bool ((decide (((k : Nat) : Int) < ((n : Nat) : Int))))), (0, .slice A n c), (1, .slice A2 n2 c2), (5, .slice A3 k c3), (7, .int .i64 ((k : Nat) : Int))]) (by kernel_rfl); clear hF97
        refine hK95 _ _ ?_
        refine wp_region_lit ?_
        refine pures_end hT 1 _ hF98 (F' := [(6, .int .i64 1), (8, .int .i64 ((((((xs.getD k 0) : Nat) : Int) - (((ys.getD k 0) : Nat) : Int)) - ((bw : Nat) : Int)) + 256)), (29, .bool ((decide ((((((xs.getD k 0) : Nat) : Int) - (((ys.getD k 0) : Nat) : Int)) - ((bw : Nat) : Int)) < 0)))), (6, .int .i64 0), (16, .bool ((decide (((k : Nat) : Int) < ((n : Nat) : Int))))), (0, .slice A n c), (1, .slice A2 n2 c2), (5, .slice A3 k c3), (7, .int .i64 ((k : Nat) : Int))]) (cs := []) (by kernel_rfl) rfl trivial ?_
        intro a99 hF100; clear hF98 a96
        have hF101 := hF100.pick [6, 8, 29, 16, 0, 1, 5, 7] (G := [(6, .int .i64 1), (8, .int .i64 ((((((xs.getD k 0) : Nat) : Int) - (((ys.getD k 0) : Nat) : Int)) - ((bw : Nat) : Int)) + 256)), (29, .bool ((decide ((((((xs.getD k 0) : Nat) : Int) - (((ys.getD k 0) : Nat) : Int)) - ((bw : Nat) : Int)) < 0)))), (16, .bool ((decide (((k : Nat) : Int) < ((n : Nat) : Int))))), (0, .slice A n c), (1, .slice A2 n2 c2), (5, .slice A3 k c3), (7, .int .i64 ((k : Nat) : Int))]) (by kernel_rfl); clear hF100
        refine hK87 _ _ ?_
        rw [show ((((((xs.getD k 0) : Nat) : Int) - (((ys.getD k 0) : Nat) : Int)) - ((bw : Nat) : Int)) + 256) = (((xs.getD k 0 + 256 - ys.getD k 0 - bw) : Nat) : Int) from by omega] at hF101
        refine wp_region_lit ?_
        refine pures hT 3 _ hF101 (F' := [(34, .int .u8 ((((xs.getD k 0 + 256 - ys.getD k 0 - bw) % 256) : Nat) : Int)), (33, .int .i64 (((xs.getD k 0 + 256 - ys.getD k 0 - bw) : Nat) : Int)), (32, .slice A3 k c3), (6, .int .i64 1), (8, .int .i64 (((xs.getD k 0 + 256 - ys.getD k 0 - bw) : Nat) : Int)), (29, .bool ((decide ((((((xs.getD k 0) : Nat) : Int) - (((ys.getD k 0) : Nat) : Int)) - ((bw : Nat) : Int)) < 0)))), (16, .bool ((decide (((k : Nat) : Int) < ((n : Nat) : Int))))), (0, .slice A n c), (1, .slice A2 n2 c2), (5, .slice A3 k c3), (7, .int .i64 ((k : Nat) : Int))]) (cs := []) (by kernel_rfl) trivial ?_
        intro a102 hF103; clear hF101 a99
        have hz110 := HE.size
        have hz111 := HO.base
        refine wl (s_lit hT (d := 35) (T := 5) (l := vs .u8 [((xs.getD k 0 + 256 - ys.getD k 0 - bw) % 256)]) (by kernel_rfl) hF103 ?_)
        rintro a112 w105 b104 h108 h109 HB107 g106 ha114 hF113; clear ha114 hF103 a102
        replace HE := HE.thenN g106
        replace HO := HO.growN g106
        have hz115 := HE.size
        have hz116 := HO.base
        have hz117 := HB107.lt
        refine wl (s_app hT (d := 36) (T := 5) (i := tr5) (B := w.heap.size) (m := k) (c := c3) (m2 := 1) (c2 := 1) (by kernel_rfl) hF113 rfl (by decide) HO HB107.rd (by show _ = 1 * 1; simp) vs_one (by show (k + 1) * 1 ≤ 140737488355328; omega) (by decide) (by have := HE.size; omega) ?_)
        rintro a124 w118 A121 c122 HO120 g119 hat123 ha126 hF125; clear ha126 hF113 a112
        rw [← vs_append] at HO120
        replace HE := HE.thenR g119 (fun k hk => by have := (HO.base k hk).1; omega)
        replace HB107 := HB107.grow g119 (by intro h; have := (hz111 _ h).2; omega)
        clear HO
        refine pures_end hT 1 _ hF125 (F' := [(5, .slice A121 (k + 1) c122), (36, .slice A121 (k + 1) c122), (35, .slice (some ⟨b104, 0, none⟩) 1 1), (34, .int .u8 ((((xs.getD k 0 + 256 - ys.getD k 0 - bw) % 256) : Nat) : Int)), (33, .int .i64 (((xs.getD k 0 + 256 - ys.getD k 0 - bw) : Nat) : Int)), (32, .slice A3 k c3), (6, .int .i64 1), (8, .int .i64 (((xs.getD k 0 + 256 - ys.getD k 0 - bw) : Nat) : Int)), (29, .bool ((decide ((((((xs.getD k 0) : Nat) : Int) - (((ys.getD k 0) : Nat) : Int)) - ((bw : Nat) : Int)) < 0)))), (16, .bool ((decide (((k : Nat) : Int) < ((n : Nat) : Int))))), (0, .slice A n c), (1, .slice A2 n2 c2), (5, .slice A3 k c3), (7, .int .i64 ((k : Nat) : Int))]) (cs := []) (by kernel_rfl) rfl trivial ?_
        intro a127 hF128; clear hF125 a124
        have hF129 := hF128.pick [5, 6, 8, 29, 16, 0, 1, 7] (G := [(5, .slice A121 (k + 1) c122), (6, .int .i64 1), (8, .int .i64 (((xs.getD k 0 + 256 - ys.getD k 0 - bw) : Nat) : Int)), (29, .bool ((decide ((((((xs.getD k 0) : Nat) : Int) - (((ys.getD k 0) : Nat) : Int)) - ((bw : Nat) : Int)) < 0)))), (16, .bool ((decide (((k : Nat) : Int) < ((n : Nat) : Int))))), (0, .slice A n c), (1, .slice A2 n2 c2), (7, .int .i64 ((k : Nat) : Int))]) (by kernel_rfl); clear hF128
        refine hK55 _ _ ?_
        refine wp_region_lit ?_
        refine pures_end hT 3 _ hF129 (F' := [(7, .int .i64 (((k + 1) : Nat) : Int)), (18, .int .i64 (((k + 1) : Nat) : Int)), (17, .int .i64 ((k : Nat) : Int)), (5, .slice A121 (k + 1) c122), (6, .int .i64 1), (8, .int .i64 (((xs.getD k 0 + 256 - ys.getD k 0 - bw) : Nat) : Int)), (29, .bool ((decide ((((((xs.getD k 0) : Nat) : Int) - (((ys.getD k 0) : Nat) : Int)) - ((bw : Nat) : Int)) < 0)))), (16, .bool ((decide (((k : Nat) : Int) < ((n : Nat) : Int))))), (0, .slice A n c), (1, .slice A2 n2 c2), (7, .int .i64 ((k : Nat) : Int))]) (cs := [-9223372036854775808 ≤ (((k + 1) : Nat) : Int), (((k + 1) : Nat) : Int) ≤ 9223372036854775807]) (by kernel_rfl) rfl (And.intro (by omega) (And.intro (by omega) trivial)) ?_
        intro a130 hF131; clear hF129 a127
        have hF132 := hF131.pick [7, 5, 6, 8, 29, 16, 0, 1] (G := [(7, .int .i64 (((k + 1) : Nat) : Int)), (5, .slice A121 (k + 1) c122), (6, .int .i64 1), (8, .int .i64 (((xs.getD k 0 + 256 - ys.getD k 0 - bw) : Nat) : Int)), (29, .bool ((decide ((((((xs.getD k 0) : Nat) : Int) - (((ys.getD k 0) : Nat) : Int)) - ((bw : Nat) : Int)) < 0)))), (16, .bool ((decide (((k : Nat) : Int) < ((n : Nat) : Int))))), (0, .slice A n c), (1, .slice A2 n2 c2)]) (by kernel_rfl); clear hF131
        refine hK44 _ _ _ (by omega) ⟨(k + 1), _, _, _, 1, rfl, hF132.pick [0, 1, 5, 6, 7] (by kernel_rfl), HE, HO120, (by omega), (by simp [hzl]), (by_snoc hzb (Nat.mod_lt _ (by decide))), (by omega), (ref_sub_step1 hzl hbw hgy (by omega) hv)⟩
      · -- h93
        refine wp_skip ?_
        refine hK87 _ _ ?_
        rw [show (((((xs.getD k 0) : Nat) : Int) - (((ys.getD k 0) : Nat) : Int)) - ((bw : Nat) : Int)) = (((xs.getD k 0 - ys.getD k 0 - bw) : Nat) : Int) from by omega] at hF92
        refine wp_region_lit ?_
        refine pures hT 3 _ hF92 (F' := [(34, .int .u8 ((((xs.getD k 0 - ys.getD k 0 - bw) % 256) : Nat) : Int)), (33, .int .i64 (((xs.getD k 0 - ys.getD k 0 - bw) : Nat) : Int)), (32, .slice A3 k c3), (29, .bool ((decide ((((xs.getD k 0 - ys.getD k 0 - bw) : Nat) : Int) < 0)))), (6, .int .i64 0), (8, .int .i64 (((xs.getD k 0 - ys.getD k 0 - bw) : Nat) : Int)), (16, .bool ((decide (((k : Nat) : Int) < ((n : Nat) : Int))))), (0, .slice A n c), (1, .slice A2 n2 c2), (5, .slice A3 k c3), (7, .int .i64 ((k : Nat) : Int))]) (cs := []) (by kernel_rfl) trivial ?_
        intro a133 hF134; clear hF92 a90
        have hz141 := HE.size
        have hz142 := HO.base
        refine wl (s_lit hT (d := 35) (T := 5) (l := vs .u8 [((xs.getD k 0 - ys.getD k 0 - bw) % 256)]) (by kernel_rfl) hF134 ?_)
        rintro a143 w136 b135 h139 h140 HB138 g137 ha145 hF144; clear ha145 hF134 a133
        replace HE := HE.thenN g137
        replace HO := HO.growN g137
        have hz146 := HE.size
        have hz147 := HO.base
        have hz148 := HB138.lt
        refine wl (s_app hT (d := 36) (T := 5) (i := tr5) (B := w.heap.size) (m := k) (c := c3) (m2 := 1) (c2 := 1) (by kernel_rfl) hF144 rfl (by decide) HO HB138.rd (by show _ = 1 * 1; simp) vs_one (by show (k + 1) * 1 ≤ 140737488355328; omega) (by decide) (by have := HE.size; omega) ?_)
        rintro a155 w149 A152 c153 HO151 g150 hat154 ha157 hF156; clear ha157 hF144 a143
        rw [← vs_append] at HO151
        replace HE := HE.thenR g150 (fun k hk => by have := (HO.base k hk).1; omega)
        replace HB138 := HB138.grow g150 (by intro h; have := (hz142 _ h).2; omega)
        clear HO
        refine pures_end hT 1 _ hF156 (F' := [(5, .slice A152 (k + 1) c153), (36, .slice A152 (k + 1) c153), (35, .slice (some ⟨b135, 0, none⟩) 1 1), (34, .int .u8 ((((xs.getD k 0 - ys.getD k 0 - bw) % 256) : Nat) : Int)), (33, .int .i64 (((xs.getD k 0 - ys.getD k 0 - bw) : Nat) : Int)), (32, .slice A3 k c3), (29, .bool ((decide ((((xs.getD k 0 - ys.getD k 0 - bw) : Nat) : Int) < 0)))), (6, .int .i64 0), (8, .int .i64 (((xs.getD k 0 - ys.getD k 0 - bw) : Nat) : Int)), (16, .bool ((decide (((k : Nat) : Int) < ((n : Nat) : Int))))), (0, .slice A n c), (1, .slice A2 n2 c2), (5, .slice A3 k c3), (7, .int .i64 ((k : Nat) : Int))]) (cs := []) (by kernel_rfl) rfl trivial ?_
        intro a158 hF159; clear hF156 a155
        have hF160 := hF159.pick [5, 29, 6, 8, 16, 0, 1, 7] (G := [(5, .slice A152 (k + 1) c153), (29, .bool ((decide ((((xs.getD k 0 - ys.getD k 0 - bw) : Nat) : Int) < 0)))), (6, .int .i64 0), (8, .int .i64 (((xs.getD k 0 - ys.getD k 0 - bw) : Nat) : Int)), (16, .bool ((decide (((k : Nat) : Int) < ((n : Nat) : Int))))), (0, .slice A n c), (1, .slice A2 n2 c2), (7, .int .i64 ((k : Nat) : Int))]) (by kernel_rfl); clear hF159
        refine hK55 _ _ ?_
        refine wp_region_lit ?_
        refine pures_end hT 3 _ hF160 (F' := [(7, .int .i64 (((k + 1) : Nat) : Int)), (18, .int .i64 (((k + 1) : Nat) : Int)), (17, .int .i64 ((k : Nat) : Int)), (5, .slice A152 (k + 1) c153), (29, .bool ((decide ((((xs.getD k 0 - ys.getD k 0 - bw) : Nat) : Int) < 0)))), (6, .int .i64 0), (8, .int .i64 (((xs.getD k 0 - ys.getD k 0 - bw) : Nat) : Int)), (16, .bool ((decide (((k : Nat) : Int) < ((n : Nat) : Int))))), (0, .slice A n c), (1, .slice A2 n2 c2), (7, .int .i64 ((k : Nat) : Int))]) (cs := [-9223372036854775808 ≤ (((k + 1) : Nat) : Int), (((k + 1) : Nat) : Int) ≤ 9223372036854775807]) (by kernel_rfl) rfl (And.intro (by omega) (And.intro (by omega) trivial)) ?_
        intro a161 hF162; clear hF160 a158
        have hF163 := hF162.pick [7, 5, 29, 6, 8, 16, 0, 1] (G := [(7, .int .i64 (((k + 1) : Nat) : Int)), (5, .slice A152 (k + 1) c153), (29, .bool ((decide ((((xs.getD k 0 - ys.getD k 0 - bw) : Nat) : Int) < 0)))), (6, .int .i64 0), (8, .int .i64 (((xs.getD k 0 - ys.getD k 0 - bw) : Nat) : Int)), (16, .bool ((decide (((k : Nat) : Int) < ((n : Nat) : Int))))), (0, .slice A n c), (1, .slice A2 n2 c2)]) (by kernel_rfl); clear hF162
        refine hK44 _ _ _ (by omega) ⟨(k + 1), _, _, _, 0, rfl, hF163.pick [0, 1, 5, 6, 7] (by kernel_rfl), HE, HO151, (by omega), (by simp [hzl]), (by_snoc hzb (Nat.mod_lt _ (by decide))), (by omega), (ref_sub_step0 hzl hgx (by omega) hv)⟩
    · -- h53
      refine wp_exit ?_
      refine hK36 _ _ ?_
      refine wp_seq_k (fun K164 hK165 => ?_)
      have hcap := HO.cap
      refine wp_region_lit ?_
      refine pures hT 1 _ hF52 (F' := [(37, .slice A3 k c3), (16, .bool ((decide (((k : Nat) : Int) < ((n : Nat) : Int))))), (0, .slice A n c), (1, .slice A2 n2 c2), (5, .slice A3 k c3), (6, .int .i64 ((bw : Nat) : Int)), (7, .int .i64 ((k : Nat) : Int))]) (cs := []) (by kernel_rfl) trivial ?_
      intro a166 hF167; clear hF52 a50
      have hz174 := HE.size
      have hz175 := HO.base
      refine wl (s_call (d := 38) (f := 21) (l := [.slice A3 k c3]) (by kernel_rfl) hF167 cl21 (ref15_Norm A3 k c3 zs (nv 256 zs) _ rfl (by first | omega | assumption | (simp; done) | (simp; omega) | decide) HO.rd (by first | assumption | exact by_dig _ | exact by_one (Nat.mod_lt _ (by decide)) | omega | simp | decide) (by first | omega | assumption | (simp; done) | (simp; omega) | decide) (by first | omega | assumption | (simp; done) | (simp; omega) | decide)) ?_)
      rintro a176 w171 v172 ⟨A168, c169, rfl, HX173, HO170⟩ ha178 hF177; clear ha178 hF167 a166
      replace HE := HE.thenN HX173.g
      replace HO := HO.growN HX173.g
      have hcp179 := HO170.cap
      refine pures_end hT 1 _ hF177 (F' := [(4, .slice A168 ((dig 256 (nv 256 zs)).length) c169), (38, .slice A168 ((dig 256 (nv 256 zs)).length) c169), (37, .slice A3 k c3), (16, .bool ((decide (((k : Nat) : Int) < ((n : Nat) : Int))))), (0, .slice A n c), (1, .slice A2 n2 c2), (5, .slice A3 k c3), (6, .int .i64 ((bw : Nat) : Int)), (7, .int .i64 ((k : Nat) : Int))]) (cs := []) (by kernel_rfl) rfl trivial ?_
      intro a180 hF181; clear hF177 a176
      have hF182 := hF181.pick [4, 16, 0, 1, 5, 6, 7] (G := [(4, .slice A168 ((dig 256 (nv 256 zs)).length) c169), (16, .bool ((decide (((k : Nat) : Int) < ((n : Nat) : Int))))), (0, .slice A n c), (1, .slice A2 n2 c2), (5, .slice A3 k c3), (6, .int .i64 ((bw : Nat) : Int)), (7, .int .i64 ((k : Nat) : Int))]) (by kernel_rfl); clear hF181
      refine hK165 _ _ ?_
      refine wp_ret ?_
      refine ret1 hF182 rfl (v := .slice A168 ((dig 256 (nv 256 zs)).length) c169) (by kernel_rfl) ?_
      have hO := HO170
      have hkn : k = n := by omega
      have hle : nv 256 ys ≤ nv 256 xs := by have h9 := @cmpI_lt0 (nv 256 xs) (nv 256 ys); omega
      have hres : nv 256 zs = nv 256 xs - nv 256 ys := sub_done8 hn (by omega) hzb hbx hby hle hkn (by rw [show zs.take k = zs from List.take_of_length_le (by omega)]; exact hv)
      rw [hres] at hO ⊢
      exact ⟨_, _, rfl, HE, hO.rebase (by omega)⟩

theorem ref15_Mul (A : Option Addr) (n c : Nat) (xs : List Nat) (x : Nat) (A2 : Option Addr) (n2 c2 : Nat) (ys : List Nat) (y : Nat) (w : World) (hx : nv 256 xs = x) (hy : nv 256 ys = y) (hn : xs.length = n) (hn2 : ys.length = n2) (hR : Rd w A (vs .u8 xs)) (hR2 : Rd w A2 (vs .u8 ys)) (hbx : By xs) (hby : By ys) (hl : n ≤ 1099511627776) (hl2 : n2 ≤ 1099511627776) :
    Calls Try.prog 24 [.slice A n c, .slice A2 n2 c2].toArray w (Ret fun v w' => ∃ A' c', v = .slice A' (dig 256 (x * y)).length c' ∧ Ex w w' ∧ Own w' w.heap.size 5 1 A' (dig 256 (x * y)).length c' (vs .u8 (dig 256 (x * y)))) := by
  subst hx hy
  refine enter Try.func24 rfl (n := 64) Try.ntmps24 (by simp) ?_
  intro a hF
  have HE : Ex w w := Ex.refl w
  refine wp_seq_k (fun K1 hK2 => ?_)
  refine wp_region_lit ?_
  refine pures_end hT 1 _ hF (F' := [(4, .slice none 0 0), (0, .slice A n c), (1, .slice A2 n2 c2)]) (cs := []) (by kernel_rfl) rfl trivial ?_
  intro a3 hF4; clear hF a
  refine hK2 _ _ ?_
  refine wp_seq_k (fun K5 hK6 => ?_)
  refine wp_region_lit ?_
  refine pures hT 6 _ hF4 (F' := [(15, .int .i64 ((((n + n2) + 1) : Nat) : Int)), (14, .int .i64 (((n + n2) : Nat) : Int)), (13, .int .i64 ((n2 : Nat) : Int)), (12, .slice A2 n2 c2), (11, .int .i64 ((n : Nat) : Int)), (10, .slice A n c), (4, .slice none 0 0), (0, .slice A n c), (1, .slice A2 n2 c2)]) (cs := [-9223372036854775808 ≤ (((n + n2) : Nat) : Int), (((n + n2) : Nat) : Int) ≤ 9223372036854775807, -9223372036854775808 ≤ ((((n + n2) + 1) : Nat) : Int), ((((n + n2) + 1) : Nat) : Int) ≤ 9223372036854775807]) (by kernel_rfl) (And.intro (by omega) (And.intro (by omega) (And.intro (by omega) (And.intro (by omega) trivial)))) ?_
  intro a7 hF8; clear hF4 a3
  have hz13 := HE.size
  refine wl (s_make hT (d := 16) (T := 5) (m := ((n + n2) + 1)) (i := tr5) (by kernel_rfl) (by intro t x y h; cases h; rfl) hF8 (by show ((n + n2) + 1) * 1 ≤ 281474976710656; omega) (by simp only [maxLen]; omega) ?_)
  rintro a14 w9 A12 HO11 g10 ha16 hF15; clear ha16 hF8 a7
  replace HO11 : Own w9 w.heap.size 5 1 A12 ((n + n2) + 1) ((n + n2) + 1) (vs .u8 (List.replicate ((n + n2) + 1) 0)) := (made_vs HO11 rfl rfl)
  replace HE := HE.thenN g10
  refine pures_end hT 1 _ hF15 (F' := [(5, .slice A12 ((n + n2) + 1) ((n + n2) + 1)), (16, .slice A12 ((n + n2) + 1) ((n + n2) + 1)), (15, .int .i64 ((((n + n2) + 1) : Nat) : Int)), (14, .int .i64 (((n + n2) : Nat) : Int)), (13, .int .i64 ((n2 : Nat) : Int)), (12, .slice A2 n2 c2), (11, .int .i64 ((n : Nat) : Int)), (10, .slice A n c), (4, .slice none 0 0), (0, .slice A n c), (1, .slice A2 n2 c2)]) (cs := []) (by kernel_rfl) rfl trivial ?_
  intro a17 hF18; clear hF15 a14
  have hF19 := hF18.pick [5, 4, 0, 1] (G := [(5, .slice A12 ((n + n2) + 1) ((n + n2) + 1)), (4, .slice none 0 0), (0, .slice A n c), (1, .slice A2 n2 c2)]) (by kernel_rfl); clear hF18
  refine hK6 _ _ ?_
  refine wp_seq_k (fun K20 hK21 => ?_)
  refine wp_seq_k (fun K22 hK23 => ?_)
  refine wp_region_lit ?_
  refine pures_end hT 1 _ hF19 (F' := [(6, .int .i64 0), (5, .slice A12 ((n + n2) + 1) ((n + n2) + 1)), (4, .slice none 0 0), (0, .slice A n c), (1, .slice A2 n2 c2)]) (cs := []) (by kernel_rfl) rfl trivial ?_
  intro a24 hF25; clear hF19 a17
  refine hK23 _ _ ?_
  refine wp_block ?_
  refine loopK (fun mm_ a W => ∃ (i : Nat), ∃ (zs : List Nat), (n - i) = mm_ ∧ (Fr 64 a [(0, .slice A n c), (1, .slice A2 n2 c2), (5, .slice A12 ((n + n2) + 1) ((n + n2) + 1)), (6, .int .i64 ((i : Nat) : Int))]) ∧ (Ex w W) ∧ (Own W (w.heap.size) 5 1 A12 ((n + n2) + 1) ((n + n2) + 1) (vs .u8 zs)) ∧ (i ≤ n) ∧ (zs.length = n + n2 + 1) ∧ (By zs) ∧ (∀ j, i + n2 ≤ j → zs.getD j 0 = 0) ∧ (nv 256 zs = nv 256 (xs.take i) * nv 256 ys)) _ ⟨0, (List.replicate ((n + n2) + 1) 0), rfl, hF25.pick [0, 1, 5, 6] (by kernel_rfl), HE, HO11, (by omega), (by simp), (by intro x hx; rw [(List.mem_replicate.1 hx).2]; decide), (fun j _ => rep_getD _ j), (by simp [nv_replicate])⟩ ?_
  clear hF25 HE HO11
  rintro mm_ a26 w27 ⟨i, zs, rfl, hF30, HE, HO11, hi, hzl, hzb, h0, hv⟩ K28 hK29
  refine wp_seq_k (fun K31 hK32 => ?_)
  refine wp_seq_k (fun K33 hK34 => ?_)
  refine wp_region_lit ?_
  refine pures_end hT 4 _ hF30 (F' := [(20, .bool ((decide (((i : Nat) : Int) < ((n : Nat) : Int))))), (19, .int .i64 ((n : Nat) : Int)), (18, .slice A n c), (17, .int .i64 ((i : Nat) : Int)), (0, .slice A n c), (1, .slice A2 n2 c2), (5, .slice A12 ((n + n2) + 1) ((n + n2) + 1)), (6, .int .i64 ((i : Nat) : Int))]) (cs := []) (by kernel_rfl) rfl trivial ?_
  intro a35 hF36; clear hF30 a26
  have hF37 := hF36.pick [20, 0, 1, 5, 6] (G := [(20, .bool ((decide (((i : Nat) : Int) < ((n : Nat) : Int))))), (0, .slice A n c), (1, .slice A2 n2 c2), (5, .slice A12 ((n + n2) + 1) ((n + n2) + 1)), (6, .int .i64 ((i : Nat) : Int))]) (by kernel_rfl); clear hF36
  refine hK34 _ _ ?_
  refine condK hF37 (p := ((i : Nat) : Int) < ((n : Nat) : Int)) (by kernel_rfl) (fun h38 => ?_) (fun h38 => ?_)
  · -- h38
    refine wp_skip ?_
    refine hK32 _ _ ?_
    refine wp_seq_k (fun K39 hK40 => ?_)
    refine wp_block ?_
    refine wp_seq_k (fun K41 hK42 => ?_)
    refine wp_region_lit ?_
    refine pures_end hT 1 _ hF37 (F' := [(7, .int .i64 0), (20, .bool ((decide (((i : Nat) : Int) < ((n : Nat) : Int))))), (0, .slice A n c), (1, .slice A2 n2 c2), (5, .slice A12 ((n + n2) + 1) ((n + n2) + 1)), (6, .int .i64 ((i : Nat) : Int))]) (cs := []) (by kernel_rfl) rfl trivial ?_
    intro a43 hF44; clear hF37 a35
    refine hK42 _ _ ?_
    refine wp_seq_k (fun K45 hK46 => ?_)
    refine wp_region_lit ?_
    refine pures_end hT 1 _ hF44 (F' := [(8, .int .i64 0), (7, .int .i64 0), (20, .bool ((decide (((i : Nat) : Int) < ((n : Nat) : Int))))), (0, .slice A n c), (1, .slice A2 n2 c2), (5, .slice A12 ((n + n2) + 1) ((n + n2) + 1)), (6, .int .i64 ((i : Nat) : Int))]) (cs := []) (by kernel_rfl) rfl trivial ?_
    intro a47 hF48; clear hF44 a43
    refine hK46 _ _ ?_
    refine wp_block ?_
    refine loopK (fun mm_ a W => ∃ (k : Nat), ∃ (zs : List Nat), ∃ (cy : Nat), (n2 + 1 - k) = mm_ ∧ (Fr 64 a [(0, .slice A n c), (1, .slice A2 n2 c2), (5, .slice A12 ((n + n2) + 1) ((n + n2) + 1)), (6, .int .i64 ((i : Nat) : Int)), (7, .int .i64 ((cy : Nat) : Int)), (8, .int .i64 ((k : Nat) : Int))]) ∧ (Ex w W) ∧ (Own W (w.heap.size) 5 1 A12 ((n + n2) + 1) ((n + n2) + 1) (vs .u8 zs)) ∧ (k ≤ n2 ∨ (k = n2 + 1 ∧ cy = 0)) ∧ (zs.length = n + n2 + 1) ∧ (By zs) ∧ (cy < 256) ∧ (∀ j, i + k ≤ j → i + n2 ≤ j → zs.getD j 0 = 0) ∧ (nv 256 zs + cy * 256 ^ (i + k) = nv 256 (xs.take i) * nv 256 ys + 256 ^ i * (xs.getD i 0 * nv 256 (ys.take k)))) _ ⟨0, zs, 0, rfl, hF48.pick [0, 1, 5, 6, 7, 8] (by kernel_rfl), HE, HO11, (by omega), hzl, hzb, (by decide), (fun j _ h => h0 j h), (by rw [hv, List.take_zero, nv_nil, Nat.mul_zero, Nat.mul_zero, Nat.zero_mul])⟩ ?_
    clear hF48 HE HO11 hzl hzb h0 hv zs
    rintro mm_ a49 w50 ⟨k, zs, cy, rfl, hF53, HE, HO11, hk, hzl, hzb, hcy, h0, hv⟩ K51 hK52
    refine wp_seq_k (fun K54 hK55 => ?_)
    refine wp_seq_k (fun K56 hK57 => ?_)
    refine wp_region_lit ?_
    refine pures hT 5 _ hF53 (F' := [(27, .bool ((decide (((k : Nat) : Int) < ((n2 : Nat) : Int))))), (26, .bool ((decide (((k : Nat) : Int) < ((n2 : Nat) : Int))))), (25, .int .i64 ((n2 : Nat) : Int)), (24, .slice A2 n2 c2), (23, .int .i64 ((k : Nat) : Int)), (0, .slice A n c), (1, .slice A2 n2 c2), (5, .slice A12 ((n + n2) + 1) ((n + n2) + 1)), (6, .int .i64 ((i : Nat) : Int)), (7, .int .i64 ((cy : Nat) : Int)), (8, .int .i64 ((k : Nat) : Int))]) (cs := []) (by kernel_rfl) trivial ?_
    intro a58 hF59; clear hF53 a49
    rcases dec_cases (((k : Nat) : Int) < ((n2 : Nat) : Int)) with ⟨h60, e61⟩ | ⟨h60, e61⟩
    · rw [e61] at hF59; clear e61
      refine pures_end hT 3 _ hF59 (F' := [(30, .bool true), (29, undef), (28, undef), (27, .bool true), (26, .bool true), (25, .int .i64 ((n2 : Nat) : Int)), (24, .slice A2 n2 c2), (23, .int .i64 ((k : Nat) : Int)), (0, .slice A n c), (1, .slice A2 n2 c2), (5, .slice A12 ((n + n2) + 1) ((n + n2) + 1)), (6, .int .i64 ((i : Nat) : Int)), (7, .int .i64 ((cy : Nat) : Int)), (8, .int .i64 ((k : Nat) : Int))]) (cs := []) (by kernel_rfl) rfl trivial ?_
      intro a62 hF63; clear hF59 a58
      have hF64 := hF63.pick [30, 0, 1, 5, 6, 7, 8] (G := [(30, .bool true), (0, .slice A n c), (1, .slice A2 n2 c2), (5, .slice A12 ((n + n2) + 1) ((n + n2) + 1)), (6, .int .i64 ((i : Nat) : Int)), (7, .int .i64 ((cy : Nat) : Int)), (8, .int .i64 ((k : Nat) : Int))]) (by kernel_rfl); clear hF63
      refine hK57 _ _ ?_
      refine condT hF64 (by kernel_rfl) ?_
      refine wp_skip ?_
      refine hK55 _ _ ?_
      refine wp_seq_k (fun K65 hK66 => ?_)
      refine wp_block ?_
      refine wp_seq_k (fun K67 hK68 => ?_)
      have hlt := ref_mul_lt (getD_lt (by decide) hbx i) (getD_lt (by decide) hby k) (getD_lt (by decide) hzb (i + k)) hcy
      have hg1 := getD_lt (by decide) hbx i
      have hg2 := getD_lt (by decide) hzb (i + k)
      have hg3 := getD_lt (by decide) hby k
      let SL_ : List SP := [SP.val (.slice A12 ((n + n2) + 1) ((n + n2) + 1)), SP.val (.int .i64 ((i : Nat) : Int)), SP.val (.int .i64 ((k : Nat) : Int)), SP.val (.int .i64 (((i + k) : Nat) : Int)), SP.val (.pointer (some ⟨(ablk A12), ((aoff A12) + (i + k)), none⟩)), SP.val (.int .u8 (((zs.getD (i + k) 0) : Nat) : Int)), SP.val (.int .i64 (((zs.getD (i + k) 0) : Nat) : Int)), SP.val (.slice A n c), SP.val (.int .i64 ((i : Nat) : Int)), SP.val (.pointer (some ⟨(ablk A), ((aoff A) + i), none⟩)), SP.val (.int .u8 (((xs.getD i 0) : Nat) : Int)), SP.val (.int .i64 (((xs.getD i 0) : Nat) : Int)), SP.val (.slice A2 n2 c2), SP.val (.int .i64 ((k : Nat) : Int)), SP.val (.int .i64 (((ys.getD k 0) : Nat) : Int)), SP.val (.int .i64 ((((xs.getD i 0) * (ys.getD k 0)) : Nat) : Int)), SP.val (.int .i64 ((((zs.getD (i + k) 0) + ((xs.getD i 0) * (ys.getD k 0))) : Nat) : Int)), SP.val (.int .i64 ((cy : Nat) : Int)), SP.val (.int .i64 (((((zs.getD (i + k) 0) + ((xs.getD i 0) * (ys.getD k 0))) + cy) : Nat) : Int)), SP.val (.int .i64 (((((zs.getD (i + k) 0) + ((xs.getD i 0) * (ys.getD k 0))) + cy) : Nat) : Int))]
      refine region_rel (SL := SL_) (J := (fun (b : Bool) (W : World) => (Ex w W) ∧ (Own W (w.heap.size) 5 1 A12 ((n + n2) + 1) ((n + n2) + 1) (vs .u8 zs)))) (m := 20) wide (by kernel_rfl) (by kernel_rfl) hF64 rfl ?_ ⟨HE, HO11⟩ ⟨?_, ?_, ?_, ?_, ?_, ?_, ?_, ?_, ?_, ?_, ?_, ?_, ?_, ?_, ?_, ?_, ?_, ?_, ?_, ?_, trivial⟩ [(9, some 19), (30, none), (0, none), (1, none), (5, none), (6, none), (7, none), (8, none)] (by kernel_rfl) ?_
      · intro b W W' hj g; cases b <;> exact ⟨hj.1.thenN g, hj.2.growN g⟩
      · -- operation 0
        rintro a70 w69 b72 KK78 hs74 hd75 hJ76 hb77 hr80 hK73
        have hr80x : RD SL_ b72 a70 a62 w69 [(5, none)] := hr80 _ (by kernel_rfl)
        obtain ⟨q79, -⟩ := hr80x
        obtain ⟨HE, HO11⟩ := hJ76
        have hF71 : Fr 64 a70 [(5, .slice A12 ((n + n2) + 1) ((n + n2) + 1))] := Fr.of hs74 hd75 ⟨(Fr.init hF64 q79 (by kernel_rfl)), trivial⟩
        refine s_pure hT (d := 33) (v := .slice A12 ((n + n2) + 1) ((n + n2) + 1)) (cs := []) (by kernel_rfl) (by kernel_rfl) trivial hF71 ?_
        rintro a2 ha2 hF2; rw [ha2]; exact hK73 _ _ rfl (grown_refl _ _)
      · -- operation 1
        rintro a82 w81 b84 KK90 hs86 hd87 hJ88 hb89 hr92 hK85
        have hr92x : RD SL_ b84 a82 a62 w81 [(6, none)] := hr92 _ (by kernel_rfl)
        obtain ⟨q91, -⟩ := hr92x
        obtain ⟨HE, HO11⟩ := hJ88
        have hF83 : Fr 64 a82 [(6, .int .i64 ((i : Nat) : Int))] := Fr.of hs86 hd87 ⟨(Fr.init hF64 q91 (by kernel_rfl)), trivial⟩
        refine s_pure hT (d := 34) (v := .int .i64 ((i : Nat) : Int)) (cs := []) (by kernel_rfl) (by kernel_rfl) trivial hF83 ?_
        rintro a2 ha2 hF2; rw [ha2]; exact hK85 _ _ rfl (grown_refl _ _)
      · -- operation 2
        rintro a94 w93 b96 KK102 hs98 hd99 hJ100 hb101 hr104 hK97
        have hr104x : RD SL_ b96 a94 a62 w93 [(8, none)] := hr104 _ (by kernel_rfl)
        obtain ⟨q103, -⟩ := hr104x
        obtain ⟨HE, HO11⟩ := hJ100
        have hF95 : Fr 64 a94 [(8, .int .i64 ((k : Nat) : Int))] := Fr.of hs98 hd99 ⟨(Fr.init hF64 q103 (by kernel_rfl)), trivial⟩
        refine s_pure hT (d := 35) (v := .int .i64 ((k : Nat) : Int)) (cs := []) (by kernel_rfl) (by kernel_rfl) trivial hF95 ?_
        rintro a2 ha2 hF2; rw [ha2]; exact hK97 _ _ rfl (grown_refl _ _)
      · -- operation 3
        rintro a106 w105 b108 KK114 hs110 hd111 hJ112 hb113 hr121 hK109
        have hr121x : RD SL_ b108 a106 a62 w105 [(34, some 1), (35, some 2)] := hr121 _ (by kernel_rfl)
        obtain ⟨⟨v116, q115, s117⟩, ⟨v119, q118, s120⟩, -⟩ := hr121x
        obtain rfl : v116 = .int .i64 ((i : Nat) : Int) := s117
        obtain rfl : v119 = .int .i64 ((k : Nat) : Int) := s120
        obtain ⟨HE, HO11⟩ := hJ112
        have hF107 : Fr 64 a106 [(34, .int .i64 ((i : Nat) : Int)), (35, .int .i64 ((k : Nat) : Int))] := Fr.of hs110 hd111 ⟨q115, q118, trivial⟩
        refine s_pure hT (d := 36) (v := .int .i64 (((i + k) : Nat) : Int)) (cs := [-9223372036854775808 ≤ (((i + k) : Nat) : Int), (((i + k) : Nat) : Int) ≤ 9223372036854775807]) (by kernel_rfl) (by kernel_rfl) (And.intro (by omega) (And.intro (by omega) trivial)) hF107 ?_
        rintro a2 ha2 hF2; rw [ha2]; exact hK109 _ _ rfl (grown_refl _ _)
      · -- operation 4
        rintro a123 w122 b125 KK131 hs127 hd128 hJ129 hb130 hr138 hK126
        have hr138x : RD SL_ b125 a123 a62 w122 [(33, some 0), (36, some 3)] := hr138 _ (by kernel_rfl)
        obtain ⟨⟨v133, q132, s134⟩, ⟨v136, q135, s137⟩, -⟩ := hr138x
        obtain rfl : v133 = .slice A12 ((n + n2) + 1) ((n + n2) + 1) := s134
        obtain rfl : v136 = .int .i64 (((i + k) : Nat) : Int) := s137
        obtain ⟨HE, HO11⟩ := hJ129
        have hF124 : Fr 64 a123 [(33, .slice A12 ((n + n2) + 1) ((n + n2) + 1)), (36, .int .i64 (((i + k) : Nat) : Int))] := Fr.of hs127 hd128 ⟨q132, q135, trivial⟩
        refine s_pure hT (d := 37) (v := .pointer (some ⟨(ablk A12), ((aoff A12) + (i + k)), none⟩)) (cs := [0 ≤ (((i + k) : Nat) : Int), (((i + k) : Nat) : Int) < ((((n + n2) + 1) : Nat) : Int), (A12 : Option Addr) = some ⟨ablk A12, aoff A12, none⟩]) (by kernel_rfl) (by kernel_rfl) (And.intro (by omega) (And.intro (by omega) (And.intro (HO11.rd.some' (by (first | (simp only [vs_length, vi_length]; omega) | (simp; omega) | omega))) trivial))) hF124 ?_
        rintro a2 ha2 hF2; rw [ha2]; exact hK126 _ _ rfl (grown_refl _ _)
      · -- operation 5
        rintro a140 w139 b142 KK148 hs144 hd145 hJ146 hb147 hr152 hK143
        have hr152x : RD SL_ b142 a140 a62 w139 [(37, some 4)] := hr152 _ (by kernel_rfl)
        obtain ⟨⟨v150, q149, s151⟩, -⟩ := hr152x
        obtain rfl : v150 = .pointer (some ⟨(ablk A12), ((aoff A12) + (i + k)), none⟩) := s151
        obtain ⟨HE, HO11⟩ := hJ146
        have hF141 : Fr 64 a140 [(37, .pointer (some ⟨(ablk A12), ((aoff A12) + (i + k)), none⟩))] := Fr.of hs144 hd145 ⟨q149, trivial⟩
        refine s_load hT (d := 38) (A := ⟨(ablk A12), ((aoff A12) + (i + k)), none⟩) (by kernel_rfl) hF141 (HO11.rd.cells.at (vs_get .u8 zs (i := (i + k)) (by omega)) rfl) ?_
        rintro a153 ha155 hF154
        rw [ha155]; exact hK143 _ _ rfl (grown_refl _ _)
      · -- operation 6
        rintro a157 w156 b159 KK165 hs161 hd162 hJ163 hb164 hr169 hK160
        have hr169x : RD SL_ b159 a157 a62 w156 [(38, some 5)] := hr169 _ (by kernel_rfl)
        obtain ⟨⟨v167, q166, s168⟩, -⟩ := hr169x
        obtain rfl : v167 = .int .u8 (((zs.getD (i + k) 0) : Nat) : Int) := s168
        obtain ⟨HE, HO11⟩ := hJ163
        have hF158 : Fr 64 a157 [(38, .int .u8 (((zs.getD (i + k) 0) : Nat) : Int))] := Fr.of hs161 hd162 ⟨q166, trivial⟩
        refine s_pure hT (d := 39) (v := .int .i64 (((zs.getD (i + k) 0) : Nat) : Int)) (cs := [(zs.getD (i + k) 0) ≤ 9223372036854775807]) (by kernel_rfl) (by kernel_rfl) (And.intro (by omega) trivial) hF158 ?_
        rintro a2 ha2 hF2; rw [ha2]; exact hK160 _ _ rfl (grown_refl _ _)
      · -- operation 7
        rintro a171 w170 b173 KK179 hs175 hd176 hJ177 hb178 hr181 hK174
        have hr181x : RD SL_ b173 a171 a62 w170 [(0, none)] := hr181 _ (by kernel_rfl)
        obtain ⟨q180, -⟩ := hr181x
        obtain ⟨HE, HO11⟩ := hJ177
        have hF172 : Fr 64 a171 [(0, .slice A n c)] := Fr.of hs175 hd176 ⟨(Fr.init hF64 q180 (by kernel_rfl)), trivial⟩
        refine s_pure hT (d := 40) (v := .slice A n c) (cs := []) (by kernel_rfl) (by kernel_rfl) trivial hF172 ?_
        rintro a2 ha2 hF2; rw [ha2]; exact hK174 _ _ rfl (grown_refl _ _)
      · -- operation 8
        rintro a183 w182 b185 KK191 hs187 hd188 hJ189 hb190 hr193 hK186
        have hr193x : RD SL_ b185 a183 a62 w182 [(6, none)] := hr193 _ (by kernel_rfl)
        obtain ⟨q192, -⟩ := hr193x
        obtain ⟨HE, HO11⟩ := hJ189
        have hF184 : Fr 64 a183 [(6, .int .i64 ((i : Nat) : Int))] := Fr.of hs187 hd188 ⟨(Fr.init hF64 q192 (by kernel_rfl)), trivial⟩
        refine s_pure hT (d := 41) (v := .int .i64 ((i : Nat) : Int)) (cs := []) (by kernel_rfl) (by kernel_rfl) trivial hF184 ?_
        rintro a2 ha2 hF2; rw [ha2]; exact hK186 _ _ rfl (grown_refl _ _)
      · -- operation 9
        rintro a195 w194 b197 KK203 hs199 hd200 hJ201 hb202 hr210 hK198
        have hr210x : RD SL_ b197 a195 a62 w194 [(40, some 7), (41, some 8)] := hr210 _ (by kernel_rfl)
        obtain ⟨⟨v205, q204, s206⟩, ⟨v208, q207, s209⟩, -⟩ := hr210x
        obtain rfl : v205 = .slice A n c := s206
        obtain rfl : v208 = .int .i64 ((i : Nat) : Int) := s209
        obtain ⟨HE, HO11⟩ := hJ201
        have hF196 : Fr 64 a195 [(40, .slice A n c), (41, .int .i64 ((i : Nat) : Int))] := Fr.of hs199 hd200 ⟨q204, q207, trivial⟩
        refine s_pure hT (d := 42) (v := .pointer (some ⟨(ablk A), ((aoff A) + i), none⟩)) (cs := [0 ≤ ((i : Nat) : Int), ((i : Nat) : Int) < ((n : Nat) : Int), (A : Option Addr) = some ⟨ablk A, aoff A, none⟩]) (by kernel_rfl) (by kernel_rfl) (And.intro (by omega) (And.intro (by omega) (And.intro ((hR.ex HE).some' (by (first | (simp only [vs_length, vi_length]; omega) | (simp; omega) | omega))) trivial))) hF196 ?_
        rintro a2 ha2 hF2; rw [ha2]; exact hK198 _ _ rfl (grown_refl _ _)
      · -- operation 10
        rintro a212 w211 b214 KK220 hs216 hd217 hJ218 hb219 hr224 hK215
        have hr224x : RD SL_ b214 a212 a62 w211 [(42, some 9)] := hr224 _ (by kernel_rfl)
        obtain ⟨⟨v222, q221, s223⟩, -⟩ := hr224x
        obtain rfl : v222 = .pointer (some ⟨(ablk A), ((aoff A) + i), none⟩) := s223
        obtain ⟨HE, HO11⟩ := hJ218
        have hF213 : Fr 64 a212 [(42, .pointer (some ⟨(ablk A), ((aoff A) + i), none⟩))] := Fr.of hs216 hd217 ⟨q221, trivial⟩
        refine s_load hT (d := 43) (A := ⟨(ablk A), ((aoff A) + i), none⟩) (by kernel_rfl) hF213 ((hR.ex HE).cells.at (vs_get .u8 xs (i := i) (by omega)) rfl) ?_
        rintro a225 ha227 hF226
        rw [ha227]; exact hK215 _ _ rfl (grown_refl _ _)
      · -- operation 11
        rintro a229 w228 b231 KK237 hs233 hd234 hJ235 hb236 hr241 hK232
        have hr241x : RD SL_ b231 a229 a62 w228 [(43, some 10)] := hr241 _ (by kernel_rfl)
        obtain ⟨⟨v239, q238, s240⟩, -⟩ := hr241x
        obtain rfl : v239 = .int .u8 (((xs.getD i 0) : Nat) : Int) := s240
        obtain ⟨HE, HO11⟩ := hJ235
        have hF230 : Fr 64 a229 [(43, .int .u8 (((xs.getD i 0) : Nat) : Int))] := Fr.of hs233 hd234 ⟨q238, trivial⟩
        refine s_pure hT (d := 44) (v := .int .i64 (((xs.getD i 0) : Nat) : Int)) (cs := [(xs.getD i 0) ≤ 9223372036854775807]) (by kernel_rfl) (by kernel_rfl) (And.intro (by omega) trivial) hF230 ?_
        rintro a2 ha2 hF2; rw [ha2]; exact hK232 _ _ rfl (grown_refl _ _)
      · -- operation 12
        rintro a243 w242 b245 KK251 hs247 hd248 hJ249 hb250 hr253 hK246
        have hr253x : RD SL_ b245 a243 a62 w242 [(1, none)] := hr253 _ (by kernel_rfl)
        obtain ⟨q252, -⟩ := hr253x
        obtain ⟨HE, HO11⟩ := hJ249
        have hF244 : Fr 64 a243 [(1, .slice A2 n2 c2)] := Fr.of hs247 hd248 ⟨(Fr.init hF64 q252 (by kernel_rfl)), trivial⟩
        refine s_pure hT (d := 45) (v := .slice A2 n2 c2) (cs := []) (by kernel_rfl) (by kernel_rfl) trivial hF244 ?_
        rintro a2 ha2 hF2; rw [ha2]; exact hK246 _ _ rfl (grown_refl _ _)
      · -- operation 13
        rintro a255 w254 b257 KK263 hs259 hd260 hJ261 hb262 hr265 hK258
        have hr265x : RD SL_ b257 a255 a62 w254 [(8, none)] := hr265 _ (by kernel_rfl)
        obtain ⟨q264, -⟩ := hr265x
        obtain ⟨HE, HO11⟩ := hJ261
        have hF256 : Fr 64 a255 [(8, .int .i64 ((k : Nat) : Int))] := Fr.of hs259 hd260 ⟨(Fr.init hF64 q264 (by kernel_rfl)), trivial⟩
        refine s_pure hT (d := 46) (v := .int .i64 ((k : Nat) : Int)) (cs := []) (by kernel_rfl) (by kernel_rfl) trivial hF256 ?_
        rintro a2 ha2 hF2; rw [ha2]; exact hK258 _ _ rfl (grown_refl _ _)
      · -- operation 14
        rintro a267 w266 b269 KK275 hs271 hd272 hJ273 hb274 hr282 hK270
        have hr282x : RD SL_ b269 a267 a62 w266 [(45, some 12), (46, some 13)] := hr282 _ (by kernel_rfl)
        obtain ⟨⟨v277, q276, s278⟩, ⟨v280, q279, s281⟩, -⟩ := hr282x
        obtain rfl : v277 = .slice A2 n2 c2 := s278
        obtain rfl : v280 = .int .i64 ((k : Nat) : Int) := s281
        obtain ⟨HE, HO11⟩ := hJ273
        have hF268 : Fr 64 a267 [(45, .slice A2 n2 c2), (46, .int .i64 ((k : Nat) : Int))] := Fr.of hs271 hd272 ⟨q276, q279, trivial⟩
        have hz286 := HE.size
        have hz287 := HO11.base
        refine s_call (d := 47) (f := 45) (l := [.slice A2 n2 c2, .int .i64 ((k : Nat) : Int)]) (by kernel_rfl) hF268 cl45 (ref15_at A2 n2 c2 ys k _ (by first | omega | assumption | (simp; done) | (simp; omega) | decide) (hR2.ex HE) (by first | assumption | exact by_dig _ | exact by_one (Nat.mod_lt _ (by decide)) | omega | simp | decide)) ?_
        rintro a288 w283 v284 ⟨rfl, HX285⟩ ha290 hF289
        replace HE := HE.thenN HX285.g
        replace HO11 := HO11.growN HX285.g
        rw [ha290]; exact hK270 _ _ rfl HX285.g
      · -- operation 15
        rintro a292 w291 b294 KK300 hs296 hd297 hJ298 hb299 hr307 hK295
        have hr307x : RD SL_ b294 a292 a62 w291 [(44, some 11), (47, some 14)] := hr307 _ (by kernel_rfl)
        obtain ⟨⟨v302, q301, s303⟩, ⟨v305, q304, s306⟩, -⟩ := hr307x
        obtain rfl : v302 = .int .i64 (((xs.getD i 0) : Nat) : Int) := s303
        obtain rfl : v305 = .int .i64 (((ys.getD k 0) : Nat) : Int) := s306
        obtain ⟨HE, HO11⟩ := hJ298
        have hF293 : Fr 64 a292 [(44, .int .i64 (((xs.getD i 0) : Nat) : Int)), (47, .int .i64 (((ys.getD k 0) : Nat) : Int))] := Fr.of hs296 hd297 ⟨q301, q304, trivial⟩
        refine s_pure hT (d := 48) (v := .int .i64 ((((xs.getD i 0) * (ys.getD k 0)) : Nat) : Int)) (cs := [-9223372036854775808 ≤ ((((xs.getD i 0) * (ys.getD k 0)) : Nat) : Int), ((((xs.getD i 0) * (ys.getD k 0)) : Nat) : Int) ≤ 9223372036854775807]) (by kernel_rfl) (by kernel_rfl) (And.intro (by have h5 : xs.getD i 0 * ys.getD k 0 ≤ 255 * 255 := Nat.mul_le_mul (by omega) (by omega); omega) (And.intro (by have h5 : xs.getD i 0 * ys.getD k 0 ≤ 255 * 255 := Nat.mul_le_mul (by omega) (by omega); omega) trivial)) hF293 ?_
        rintro a2 ha2 hF2; rw [ha2]; exact hK295 _ _ rfl (grown_refl _ _)
      · -- operation 16
        rintro a309 w308 b311 KK317 hs313 hd314 hJ315 hb316 hr324 hK312
        have hr324x : RD SL_ b311 a309 a62 w308 [(39, some 6), (48, some 15)] := hr324 _ (by kernel_rfl)
        obtain ⟨⟨v319, q318, s320⟩, ⟨v322, q321, s323⟩, -⟩ := hr324x
        obtain rfl : v319 = .int .i64 (((zs.getD (i + k) 0) : Nat) : Int) := s320
        obtain rfl : v322 = .int .i64 ((((xs.getD i 0) * (ys.getD k 0)) : Nat) : Int) := s323
        obtain ⟨HE, HO11⟩ := hJ315
        have hF310 : Fr 64 a309 [(39, .int .i64 (((zs.getD (i + k) 0) : Nat) : Int)), (48, .int .i64 ((((xs.getD i 0) * (ys.getD k 0)) : Nat) : Int))] := Fr.of hs313 hd314 ⟨q318, q321, trivial⟩
        refine s_pure hT (d := 49) (v := .int .i64 ((((zs.getD (i + k) 0) + ((xs.getD i 0) * (ys.getD k 0))) : Nat) : Int)) (cs := [-9223372036854775808 ≤ ((((zs.getD (i + k) 0) + ((xs.getD i 0) * (ys.getD k 0))) : Nat) : Int), ((((zs.getD (i + k) 0) + ((xs.getD i 0) * (ys.getD k 0))) : Nat) : Int) ≤ 9223372036854775807]) (by kernel_rfl) (by kernel_rfl) (And.intro (by have h5 : xs.getD i 0 * ys.getD k 0 ≤ 255 * 255 := Nat.mul_le_mul (by omega) (by omega); omega) (And.intro (by have h5 : xs.getD i 0 * ys.getD k 0 ≤ 255 * 255 := Nat.mul_le_mul (by omega) (by omega); omega) trivial)) hF310 ?_
        rintro a2 ha2 hF2; rw [ha2]; exact hK312 _ _ rfl (grown_refl _ _)
      · -- operation 17
        rintro a326 w325 b328 KK334 hs330 hd331 hJ332 hb333 hr336 hK329
        have hr336x : RD SL_ b328 a326 a62 w325 [(7, none)] := hr336 _ (by kernel_rfl)
        obtain ⟨q335, -⟩ := hr336x
        obtain ⟨HE, HO11⟩ := hJ332
        have hF327 : Fr 64 a326 [(7, .int .i64 ((cy : Nat) : Int))] := Fr.of hs330 hd331 ⟨(Fr.init hF64 q335 (by kernel_rfl)), trivial⟩
        refine s_pure hT (d := 50) (v := .int .i64 ((cy : Nat) : Int)) (cs := []) (by kernel_rfl) (by kernel_rfl) trivial hF327 ?_
        rintro a2 ha2 hF2; rw [ha2]; exact hK329 _ _ rfl (grown_refl _ _)
      · -- operation 18
        rintro a338 w337 b340 KK346 hs342 hd343 hJ344 hb345 hr353 hK341
        have hr353x : RD SL_ b340 a338 a62 w337 [(49, some 16), (50, some 17)] := hr353 _ (by kernel_rfl)
        obtain ⟨⟨v348, q347, s349⟩, ⟨v351, q350, s352⟩, -⟩ := hr353x
        obtain rfl : v348 = .int .i64 ((((zs.getD (i + k) 0) + ((xs.getD i 0) * (ys.getD k 0))) : Nat) : Int) := s349
        obtain rfl : v351 = .int .i64 ((cy : Nat) : Int) := s352
        obtain ⟨HE, HO11⟩ := hJ344
        have hF339 : Fr 64 a338 [(49, .int .i64 ((((zs.getD (i + k) 0) + ((xs.getD i 0) * (ys.getD k 0))) : Nat) : Int)), (50, .int .i64 ((cy : Nat) : Int))] := Fr.of hs342 hd343 ⟨q347, q350, trivial⟩
        refine s_pure hT (d := 51) (v := .int .i64 (((((zs.getD (i + k) 0) + ((xs.getD i 0) * (ys.getD k 0))) + cy) : Nat) : Int)) (cs := [-9223372036854775808 ≤ (((((zs.getD (i + k) 0) + ((xs.getD i 0) * (ys.getD k 0))) + cy) : Nat) : Int), (((((zs.getD (i + k) 0) + ((xs.getD i 0) * (ys.getD k 0))) + cy) : Nat) : Int) ≤ 9223372036854775807]) (by kernel_rfl) (by kernel_rfl) (And.intro (by have h5 : xs.getD i 0 * ys.getD k 0 ≤ 255 * 255 := Nat.mul_le_mul (by omega) (by omega); omega) (And.intro (by have h5 : xs.getD i 0 * ys.getD k 0 ≤ 255 * 255 := Nat.mul_le_mul (by omega) (by omega); omega) trivial)) hF339 ?_
        rintro a2 ha2 hF2; rw [ha2]; exact hK341 _ _ rfl (grown_refl _ _)
      · -- operation 19
        rintro a355 w354 b357 KK363 hs359 hd360 hJ361 hb362 hr367 hK358
        have hr367x : RD SL_ b357 a355 a62 w354 [(51, some 18)] := hr367 _ (by kernel_rfl)
        obtain ⟨⟨v365, q364, s366⟩, -⟩ := hr367x
        obtain rfl : v365 = .int .i64 (((((zs.getD (i + k) 0) + ((xs.getD i 0) * (ys.getD k 0))) + cy) : Nat) : Int) := s366
        obtain ⟨HE, HO11⟩ := hJ361
        have hF356 : Fr 64 a355 [(51, .int .i64 (((((zs.getD (i + k) 0) + ((xs.getD i 0) * (ys.getD k 0))) + cy) : Nat) : Int))] := Fr.of hs359 hd360 ⟨q364, trivial⟩
        refine s_pure hT (d := 9) (v := .int .i64 (((((zs.getD (i + k) 0) + ((xs.getD i 0) * (ys.getD k 0))) + cy) : Nat) : Int)) (cs := []) (by kernel_rfl) (by kernel_rfl) trivial hF356 ?_
        rintro a2 ha2 hF2; rw [ha2]; exact hK358 _ _ rfl (grown_refl _ _)
      · -- behind the region
        rintro a369 w370 hs371 hd372 ⟨⟨v374, q375, s376⟩, q377, q378, q379, q380, q381, q382, q383, -⟩ ⟨HE, HO11⟩
        obtain rfl : v374 = .int .i64 (((((zs.getD (i + k) 0) + ((xs.getD i 0) * (ys.getD k 0))) + cy) : Nat) : Int) := s376
        have hF384 : Fr 64 a369 [(9, .int .i64 (((((zs.getD (i + k) 0) + ((xs.getD i 0) * (ys.getD k 0))) + cy) : Nat) : Int)), (30, .bool true), (0, .slice A n c), (1, .slice A2 n2 c2), (5, .slice A12 ((n + n2) + 1) ((n + n2) + 1)), (6, .int .i64 ((i : Nat) : Int)), (7, .int .i64 ((cy : Nat) : Int)), (8, .int .i64 ((k : Nat) : Int))] := Fr.of hs371 hd372 ⟨q375, (Fr.init hF64 q377 (by kernel_rfl)), (Fr.init hF64 q378 (by kernel_rfl)), (Fr.init hF64 q379 (by kernel_rfl)), (Fr.init hF64 q380 (by kernel_rfl)), (Fr.init hF64 q381 (by kernel_rfl)), (Fr.init hF64 q382 (by kernel_rfl)), (Fr.init hF64 q383 (by kernel_rfl)), trivial⟩
        clear hF64 hs371 hd372 q375 q377 q378 q379 q380 q381 q382 q383
        refine hK68 _ _ ?_
        refine wp_seq_k (fun K385 hK386 => ?_)
        refine wp_region_lit ?_
        refine pures hT 8 _ hF384 (F' := [(59, .pointer (some ⟨(ablk A12), ((aoff A12) + (i + k)), none⟩)), (58, .int .u8 (((((((zs.getD (i + k) 0) + ((xs.getD i 0) * (ys.getD k 0))) + cy) % 256) % 256) : Nat) : Int)), (57, .int .i64 ((((((zs.getD (i + k) 0) + ((xs.getD i 0) * (ys.getD k 0))) + cy) % 256) : Nat) : Int)), (56, .int .i64 (((((zs.getD (i + k) 0) + ((xs.getD i 0) * (ys.getD k 0))) + cy) : Nat) : Int)), (55, .int .i64 (((i + k) : Nat) : Int)), (54, .int .i64 ((k : Nat) : Int)), (53, .int .i64 ((i : Nat) : Int)), (52, .slice A12 ((n + n2) + 1) ((n + n2) + 1)), (9, .int .i64 (((((zs.getD (i + k) 0) + ((xs.getD i 0) * (ys.getD k 0))) + cy) : Nat) : Int)), (30, .bool true), (0, .slice A n c), (1, .slice A2 n2 c2), (5, .slice A12 ((n + n2) + 1) ((n + n2) + 1)), (6, .int .i64 ((i : Nat) : Int)), (7, .int .i64 ((cy : Nat) : Int)), (8, .int .i64 ((k : Nat) : Int))]) (cs := [-9223372036854775808 ≤ (((i + k) : Nat) : Int), (((i + k) : Nat) : Int) ≤ 9223372036854775807, 0 ≤ (((((zs.getD (i + k) 0) + ((xs.getD i 0) * (ys.getD k 0))) + cy) : Nat) : Int), 0 < (256 : Int), 0 ≤ (((i + k) : Nat) : Int), (((i + k) : Nat) : Int) < ((((n + n2) + 1) : Nat) : Int), (A12 : Option Addr) = some ⟨ablk A12, aoff A12, none⟩]) (by kernel_rfl) (And.intro (by omega) (And.intro (by omega) (And.intro (by have h5 : xs.getD i 0 * ys.getD k 0 ≤ 255 * 255 := Nat.mul_le_mul (by omega) (by omega); omega) (And.intro (by omega) (And.intro (by omega) (And.intro (by omega) (And.intro (HO11.rd.some' (by (first | (simp only [vs_length, vi_length]; omega) | (simp; omega) | omega))) trivial))))))) ?_
        intro a387 hF388; clear hF384 a369
        refine wl (s_storeO hT (off := (i + k)) (p := ⟨(ablk A12), ((aoff A12) + (i + k)), none⟩) (v := .int .u8 (((((((zs.getD (i + k) 0) + ((xs.getD i 0) * (ys.getD k 0))) + cy) % 256) % 256) : Nat) : Int)) (by kernel_rfl) hF388 HO11 (by (first | (simp only [vs_length, vi_length]; omega) | (simp; omega) | omega)) rfl ?_)
        have HO11b := HO11.base
        rintro a391 w389 ha393 hF392 HO11x g390; clear ha393 hF388 a387; replace HO11 := HO11x
        rw [vs_set] at HO11
        replace HE := HE.thenR g390 (fun k hk => by have := (HO11b k hk).1; omega)
        refine wpList_nil ?_
        have hF394 := hF392.pick [9, 30, 0, 1, 5, 6, 7, 8] (G := [(9, .int .i64 (((((zs.getD (i + k) 0) + ((xs.getD i 0) * (ys.getD k 0))) + cy) : Nat) : Int)), (30, .bool true), (0, .slice A n c), (1, .slice A2 n2 c2), (5, .slice A12 ((n + n2) + 1) ((n + n2) + 1)), (6, .int .i64 ((i : Nat) : Int)), (7, .int .i64 ((cy : Nat) : Int)), (8, .int .i64 ((k : Nat) : Int))]) (by kernel_rfl); clear hF392
        refine hK386 _ _ ?_
        refine wp_region_lit ?_
        refine pures_end hT 3 _ hF394 (F' := [(7, .int .i64 ((((((zs.getD (i + k) 0) + ((xs.getD i 0) * (ys.getD k 0))) + cy) / 256) : Nat) : Int)), (61, .int .i64 ((((((zs.getD (i + k) 0) + ((xs.getD i 0) * (ys.getD k 0))) + cy) / 256) : Nat) : Int)), (60, .int .i64 (((((zs.getD (i + k) 0) + ((xs.getD i 0) * (ys.getD k 0))) + cy) : Nat) : Int)), (9, .int .i64 (((((zs.getD (i + k) 0) + ((xs.getD i 0) * (ys.getD k 0))) + cy) : Nat) : Int)), (30, .bool true), (0, .slice A n c), (1, .slice A2 n2 c2), (5, .slice A12 ((n + n2) + 1) ((n + n2) + 1)), (6, .int .i64 ((i : Nat) : Int)), (7, .int .i64 ((cy : Nat) : Int)), (8, .int .i64 ((k : Nat) : Int))]) (cs := [0 ≤ (((((zs.getD (i + k) 0) + ((xs.getD i 0) * (ys.getD k 0))) + cy) : Nat) : Int), (((((zs.getD (i + k) 0) + ((xs.getD i 0) * (ys.getD k 0))) + cy) : Nat) : Int) ≤ 9223372036854775807, 0 < (256 : Int)]) (by kernel_rfl) rfl (And.intro (by have h5 : xs.getD i 0 * ys.getD k 0 ≤ 255 * 255 := Nat.mul_le_mul (by omega) (by omega); omega) (And.intro (by have h5 : xs.getD i 0 * ys.getD k 0 ≤ 255 * 255 := Nat.mul_le_mul (by omega) (by omega); omega) (And.intro (by omega) trivial))) ?_
        intro a395 hF396; clear hF394 a391
        have hF397 := hF396.pick [7, 9, 30, 0, 1, 5, 6, 8] (G := [(7, .int .i64 ((((((zs.getD (i + k) 0) + ((xs.getD i 0) * (ys.getD k 0))) + cy) / 256) : Nat) : Int)), (9, .int .i64 (((((zs.getD (i + k) 0) + ((xs.getD i 0) * (ys.getD k 0))) + cy) : Nat) : Int)), (30, .bool true), (0, .slice A n c), (1, .slice A2 n2 c2), (5, .slice A12 ((n + n2) + 1) ((n + n2) + 1)), (6, .int .i64 ((i : Nat) : Int)), (8, .int .i64 ((k : Nat) : Int))]) (by kernel_rfl); clear hF396
        refine hK66 _ _ ?_
        refine wp_region_lit ?_
        refine pures_end hT 3 _ hF397 (F' := [(8, .int .i64 (((k + 1) : Nat) : Int)), (32, .int .i64 (((k + 1) : Nat) : Int)), (31, .int .i64 ((k : Nat) : Int)), (7, .int .i64 ((((((zs.getD (i + k) 0) + ((xs.getD i 0) * (ys.getD k 0))) + cy) / 256) : Nat) : Int)), (9, .int .i64 (((((zs.getD (i + k) 0) + ((xs.getD i 0) * (ys.getD k 0))) + cy) : Nat) : Int)), (30, .bool true), (0, .slice A n c), (1, .slice A2 n2 c2), (5, .slice A12 ((n + n2) + 1) ((n + n2) + 1)), (6, .int .i64 ((i : Nat) : Int)), (8, .int .i64 ((k : Nat) : Int))]) (cs := [-9223372036854775808 ≤ (((k + 1) : Nat) : Int), (((k + 1) : Nat) : Int) ≤ 9223372036854775807]) (by kernel_rfl) rfl (And.intro (by omega) (And.intro (by omega) trivial)) ?_
        intro a398 hF399; clear hF397 a395
        have hF400 := hF399.pick [8, 7, 9, 30, 0, 1, 5, 6] (G := [(8, .int .i64 (((k + 1) : Nat) : Int)), (7, .int .i64 ((((((zs.getD (i + k) 0) + ((xs.getD i 0) * (ys.getD k 0))) + cy) / 256) : Nat) : Int)), (9, .int .i64 (((((zs.getD (i + k) 0) + ((xs.getD i 0) * (ys.getD k 0))) + cy) : Nat) : Int)), (30, .bool true), (0, .slice A n c), (1, .slice A2 n2 c2), (5, .slice A12 ((n + n2) + 1) ((n + n2) + 1)), (6, .int .i64 ((i : Nat) : Int))]) (by kernel_rfl); clear hF399
        refine hK52 _ _ _ (by omega) ⟨(k + 1), (zs.set (i + k) (((((zs.getD (i + k) 0) + ((xs.getD i 0) * (ys.getD k 0))) + cy) % 256) % 256)), ((((zs.getD (i + k) 0) + ((xs.getD i 0) * (ys.getD k 0))) + cy) / 256), rfl, hF400.pick [0, 1, 5, 6, 7, 8] (by kernel_rfl), HE, HO11, (by rcases Nat.lt_or_ge k n2 with q | q; exact .inl q; have h1 : ys.getD k 0 = 0 := getD_ge (by omega); have h2 := h0 (i + k) (by omega) (by omega); rw [h1, h2]; exact .inr ⟨by omega, by omega⟩), (by simpa using hzl), (set_lt hzb (Nat.mod_lt _ (by decide)) _), (by omega), (fun j hj h => by rw [getD_set _ _ _ _ (by omega), if_neg (by omega)]; exact h0 j (by omega) h), (ref_mul_step (by omega) hv)⟩
    · rw [e61] at hF59; clear e61
      refine pures_end hT 3 _ hF59 (F' := [(30, .bool ((decide (0 < ((cy : Nat) : Int))))), (29, .bool ((decide (0 < ((cy : Nat) : Int))))), (28, .int .i64 ((cy : Nat) : Int)), (27, .bool false), (26, .bool false), (25, .int .i64 ((n2 : Nat) : Int)), (24, .slice A2 n2 c2), (23, .int .i64 ((k : Nat) : Int)), (0, .slice A n c), (1, .slice A2 n2 c2), (5, .slice A12 ((n + n2) + 1) ((n + n2) + 1)), (6, .int .i64 ((i : Nat) : Int)), (7, .int .i64 ((cy : Nat) : Int)), (8, .int .i64 ((k : Nat) : Int))]) (cs := []) (by kernel_rfl) rfl trivial ?_
      intro a401 hF402; clear hF59 a58
      have hF403 := hF402.pick [30, 0, 1, 5, 6, 7, 8] (G := [(30, .bool ((decide (0 < ((cy : Nat) : Int))))), (0, .slice A n c), (1, .slice A2 n2 c2), (5, .slice A12 ((n + n2) + 1) ((n + n2) + 1)), (6, .int .i64 ((i : Nat) : Int)), (7, .int .i64 ((cy : Nat) : Int)), (8, .int .i64 ((k : Nat) : Int))]) (by kernel_rfl); clear hF402
      refine hK57 _ _ ?_
      refine condK hF403 (p := 0 < ((cy : Nat) : Int)) (by kernel_rfl) (fun h404 => ?_) (fun h404 => ?_)
      · -- h404
        refine wp_skip ?_
        refine hK55 _ _ ?_
        refine wp_seq_k (fun K405 hK406 => ?_)
        refine wp_block ?_
        refine wp_seq_k (fun K407 hK408 => ?_)
        have hlt := ref_mul_lt (getD_lt (by decide) hbx i) (getD_lt (by decide) hby k) (getD_lt (by decide) hzb (i + k)) hcy
        have hg1 := getD_lt (by decide) hbx i
        have hg2 := getD_lt (by decide) hzb (i + k)
        have hg3 := getD_lt (by decide) hby k
        let SL_ : List SP := [SP.val (.slice A12 ((n + n2) + 1) ((n + n2) + 1)), SP.val (.int .i64 ((i : Nat) : Int)), SP.val (.int .i64 ((k : Nat) : Int)), SP.val (.int .i64 (((i + k) : Nat) : Int)), SP.val (.pointer (some ⟨(ablk A12), ((aoff A12) + (i + k)), none⟩)), SP.val (.int .u8 (((zs.getD (i + k) 0) : Nat) : Int)), SP.val (.int .i64 (((zs.getD (i + k) 0) : Nat) : Int)), SP.val (.slice A n c), SP.val (.int .i64 ((i : Nat) : Int)), SP.val (.pointer (some ⟨(ablk A), ((aoff A) + i), none⟩)), SP.val (.int .u8 (((xs.getD i 0) : Nat) : Int)), SP.val (.int .i64 (((xs.getD i 0) : Nat) : Int)), SP.val (.slice A2 n2 c2), SP.val (.int .i64 ((k : Nat) : Int)), SP.val (.int .i64 (((ys.getD k 0) : Nat) : Int)), SP.val (.int .i64 ((((xs.getD i 0) * (ys.getD k 0)) : Nat) : Int)), SP.val (.int .i64 ((((zs.getD (i + k) 0) + ((xs.getD i 0) * (ys.getD k 0))) : Nat) : Int)), SP.val (.int .i64 ((cy : Nat) : Int)), SP.val (.int .i64 (((((zs.getD (i + k) 0) + ((xs.getD i 0) * (ys.getD k 0))) + cy) : Nat) : Int)), SP.val (.int .i64 (((((zs.getD (i + k) 0) + ((xs.getD i 0) * (ys.getD k 0))) + cy) : Nat) : Int))]
        refine region_rel (SL := SL_) (J := (fun (b : Bool) (W : World) => (Ex w W) ∧ (Own W (w.heap.size) 5 1 A12 ((n + n2) + 1) ((n + n2) + 1) (vs .u8 zs)))) (m := 20) wide (by kernel_rfl) (by kernel_rfl) hF403 rfl ?_ ⟨HE, HO11⟩ ⟨?_, ?_, ?_, ?_, ?_, ?_, ?_, ?_, ?_, ?_, ?_, ?_, ?_, ?_, ?_, ?_, ?_, ?_, ?_, ?_, trivial⟩ [(9, some 19), (30, none), (0, none), (1, none), (5, none), (6, none), (7, none), (8, none)] (by kernel_rfl) ?_
        · intro b W W' hj g; cases b <;> exact ⟨hj.1.thenN g, hj.2.growN g⟩
        · -- operation 0
          rintro a410 w409 b412 KK418 hs414 hd415 hJ416 hb417 hr420 hK413
          have hr420x : RD SL_ b412 a410 a401 w409 [(5, none)] := hr420 _ (by kernel_rfl)
          obtain ⟨q419, -⟩ := hr420x
          obtain ⟨HE, HO11⟩ := hJ416
          have hF411 : Fr 64 a410 [(5, .slice A12 ((n + n2) + 1) ((n + n2) + 1))] := Fr.of hs414 hd415 ⟨(Fr.init hF403 q419 (by kernel_rfl)), trivial⟩
          refine s_pure hT (d := 33) (v := .slice A12 ((n + n2) + 1) ((n + n2) + 1)) (cs := []) (by kernel_rfl) (by kernel_rfl) trivial hF411 ?_
          rintro a2 ha2 hF2; rw [ha2]; exact hK413 _ _ rfl (grown_refl _ _)
        · -- operation 1
          rintro a422 w421 b424 KK430 hs426 hd427 hJ428 hb429 hr432 hK425
          have hr432x : RD SL_ b424 a422 a401 w421 [(6, none)] := hr432 _ (by kernel_rfl)
          obtain ⟨q431, -⟩ := hr432x
          obtain ⟨HE, HO11⟩ := hJ428
          have hF423 : Fr 64 a422 [(6, .int .i64 ((i : Nat) : Int))] := Fr.of hs426 hd427 ⟨(Fr.init hF403 q431 (by kernel_rfl)), trivial⟩
          refine s_pure hT (d := 34) (v := .int .i64 ((i : Nat) : Int)) (cs := []) (by kernel_rfl) (by kernel_rfl) trivial hF423 ?_
          rintro a2 ha2 hF2; rw [ha2]; exact hK425 _ _ rfl (grown_refl _ _)
        · -- operation 2
          rintro a434 w433 b436 KK442 hs438 hd439 hJ440 hb441 hr444 hK437
          have hr444x : RD SL_ b436 a434 a401 w433 [(8, none)] := hr444 _ (by kernel_rfl)
          obtain ⟨q443, -⟩ := hr444x
          obtain ⟨HE, HO11⟩ := hJ440
          have hF435 : Fr 64 a434 [(8, .int .i64 ((k : Nat) : Int))] := Fr.of hs438 hd439 ⟨(Fr.init hF403 q443 (by kernel_rfl)), trivial⟩
          refine s_pure hT (d := 35) (v := .int .i64 ((k : Nat) : Int)) (cs := []) (by kernel_rfl) (by kernel_rfl) trivial hF435 ?_
          rintro a2 ha2 hF2; rw [ha2]; exact hK437 _ _ rfl (grown_refl _ _)
        · -- operation 3
          rintro a446 w445 b448 KK454 hs450 hd451 hJ452 hb453 hr461 hK449
          have hr461x : RD SL_ b448 a446 a401 w445 [(34, some 1), (35, some 2)] := hr461 _ (by kernel_rfl)
          obtain ⟨⟨v456, q455, s457⟩, ⟨v459, q458, s460⟩, -⟩ := hr461x
          obtain rfl : v456 = .int .i64 ((i : Nat) : Int) := s457
          obtain rfl : v459 = .int .i64 ((k : Nat) : Int) := s460
          obtain ⟨HE, HO11⟩ := hJ452
          have hF447 : Fr 64 a446 [(34, .int .i64 ((i : Nat) : Int)), (35, .int .i64 ((k : Nat) : Int))] := Fr.of hs450 hd451 ⟨q455, q458, trivial⟩
          refine s_pure hT (d := 36) (v := .int .i64 (((i + k) : Nat) : Int)) (cs := [-9223372036854775808 ≤ (((i + k) : Nat) : Int), (((i + k) : Nat) : Int) ≤ 9223372036854775807]) (by kernel_rfl) (by kernel_rfl) (And.intro (by omega) (And.intro (by omega) trivial)) hF447 ?_
          rintro a2 ha2 hF2; rw [ha2]; exact hK449 _ _ rfl (grown_refl _ _)
        · -- operation 4
          rintro a463 w462 b465 KK471 hs467 hd468 hJ469 hb470 hr478 hK466
          have hr478x : RD SL_ b465 a463 a401 w462 [(33, some 0), (36, some 3)] := hr478 _ (by kernel_rfl)
          obtain ⟨⟨v473, q472, s474⟩, ⟨v476, q475, s477⟩, -⟩ := hr478x
          obtain rfl : v473 = .slice A12 ((n + n2) + 1) ((n + n2) + 1) := s474
          obtain rfl : v476 = .int .i64 (((i + k) : Nat) : Int) := s477
          obtain ⟨HE, HO11⟩ := hJ469
          have hF464 : Fr 64 a463 [(33, .slice A12 ((n + n2) + 1) ((n + n2) + 1)), (36, .int .i64 (((i + k) : Nat) : Int))] := Fr.of hs467 hd468 ⟨q472, q475, trivial⟩
          refine s_pure hT (d := 37) (v := .pointer (some ⟨(ablk A12), ((aoff A12) + (i + k)), none⟩)) (cs := [0 ≤ (((i + k) : Nat) : Int), (((i + k) : Nat) : Int) < ((((n + n2) + 1) : Nat) : Int), (A12 : Option Addr) = some ⟨ablk A12, aoff A12, none⟩]) (by kernel_rfl) (by kernel_rfl) (And.intro (by omega) (And.intro (by omega) (And.intro (HO11.rd.some' (by (first | (simp only [vs_length, vi_length]; omega) | (simp; omega) | omega))) trivial))) hF464 ?_
          rintro a2 ha2 hF2; rw [ha2]; exact hK466 _ _ rfl (grown_refl _ _)
        · -- operation 5
          rintro a480 w479 b482 KK488 hs484 hd485 hJ486 hb487 hr492 hK483
          have hr492x : RD SL_ b482 a480 a401 w479 [(37, some 4)] := hr492 _ (by kernel_rfl)
          obtain ⟨⟨v490, q489, s491⟩, -⟩ := hr492x
          obtain rfl : v490 = .pointer (some ⟨(ablk A12), ((aoff A12) + (i + k)), none⟩) := s491
          obtain ⟨HE, HO11⟩ := hJ486
          have hF481 : Fr 64 a480 [(37, .pointer (some ⟨(ablk A12), ((aoff A12) + (i + k)), none⟩))] := Fr.of hs484 hd485 ⟨q489, trivial⟩
          refine s_load hT (d := 38) (A := ⟨(ablk A12), ((aoff A12) + (i + k)), none⟩) (by kernel_rfl) hF481 (HO11.rd.cells.at (vs_get .u8 zs (i := (i + k)) (by omega)) rfl) ?_
          rintro a493 ha495 hF494
          rw [ha495]; exact hK483 _ _ rfl (grown_refl _ _)
        · -- operation 6
          rintro a497 w496 b499 KK505 hs501 hd502 hJ503 hb504 hr509 hK500
          have hr509x : RD SL_ b499 a497 a401 w496 [(38, some 5)] := hr509 _ (by kernel_rfl)
          obtain ⟨⟨v507, q506, s508⟩, -⟩ := hr509x
          obtain rfl : v507 = .int .u8 (((zs.getD (i + k) 0) : Nat) : Int) := s508
          obtain ⟨HE, HO11⟩ := hJ503
          have hF498 : Fr 64 a497 [(38, .int .u8 (((zs.getD (i + k) 0) : Nat) : Int))] := Fr.of hs501 hd502 ⟨q506, trivial⟩
          refine s_pure hT (d := 39) (v := .int .i64 (((zs.getD (i + k) 0) : Nat) : Int)) (cs := [(zs.getD (i + k) 0) ≤ 9223372036854775807]) (by kernel_rfl) (by kernel_rfl) (And.intro (by omega) trivial) hF498 ?_
          rintro a2 ha2 hF2; rw [ha2]; exact hK500 _ _ rfl (grown_refl _ _)
        · -- operation 7
          rintro a511 w510 b513 KK519 hs515 hd516 hJ517 hb518 hr521 hK514
          have hr521x : RD SL_ b513 a511 a401 w510 [(0, none)] := hr521 _ (by kernel_rfl)
          obtain ⟨q520, -⟩ := hr521x
          obtain ⟨HE, HO11⟩ := hJ517
          have hF512 : Fr 64 a511 [(0, .slice A n c)] := Fr.of hs515 hd516 ⟨(Fr.init hF403 q520 (by kernel_rfl)), trivial⟩
          refine s_pure hT (d := 40) (v := .slice A n c) (cs := []) (by kernel_rfl) (by kernel_rfl) trivial hF512 ?_
          rintro a2 ha2 hF2; rw [ha2]; exact hK514 _ _ rfl (grown_refl _ _)
        · -- operation 8
          rintro a523 w522 b525 KK531 hs527 hd528 hJ529 hb530 hr533 hK526
          have hr533x : RD SL_ b525 a523 a401 w522 [(6, none)] := hr533 _ (by kernel_rfl)
          obtain ⟨q532, -⟩ := hr533x
          obtain ⟨HE, HO11⟩ := hJ529
          have hF524 : Fr 64 a523 [(6, .int .i64 ((i : Nat) : Int))] := Fr.of hs527 hd528 ⟨(Fr.init hF403 q532 (by kernel_rfl)), trivial⟩
          refine s_pure hT (d := 41) (v := .int .i64 ((i : Nat) : Int)) (cs := []) (by kernel_rfl) (by kernel_rfl) trivial hF524 ?_
          rintro a2 ha2 hF2; rw [ha2]; exact hK526 _ _ rfl (grown_refl _ _)
        · -- operation 9
          rintro a535 w534 b537 KK543 hs539 hd540 hJ541 hb542 hr550 hK538
          have hr550x : RD SL_ b537 a535 a401 w534 [(40, some 7), (41, some 8)] := hr550 _ (by kernel_rfl)
          obtain ⟨⟨v545, q544, s546⟩, ⟨v548, q547, s549⟩, -⟩ := hr550x
          obtain rfl : v545 = .slice A n c := s546
          obtain rfl : v548 = .int .i64 ((i : Nat) : Int) := s549
          obtain ⟨HE, HO11⟩ := hJ541
          have hF536 : Fr 64 a535 [(40, .slice A n c), (41, .int .i64 ((i : Nat) : Int))] := Fr.of hs539 hd540 ⟨q544, q547, trivial⟩
          refine s_pure hT (d := 42) (v := .pointer (some ⟨(ablk A), ((aoff A) + i), none⟩)) (cs := [0 ≤ ((i : Nat) : Int), ((i : Nat) : Int) < ((n : Nat) : Int), (A : Option Addr) = some ⟨ablk A, aoff A, none⟩]) (by kernel_rfl) (by kernel_rfl) (And.intro (by omega) (And.intro (by omega) (And.intro ((hR.ex HE).some' (by (first | (simp only [vs_length, vi_length]; omega) | (simp; omega) | omega))) trivial))) hF536 ?_
          rintro a2 ha2 hF2; rw [ha2]; exact hK538 _ _ rfl (grown_refl _ _)
        · -- operation 10
          rintro a552 w551 b554 KK560 hs556 hd557 hJ558 hb559 hr564 hK555
          have hr564x : RD SL_ b554 a552 a401 w551 [(42, some 9)] := hr564 _ (by kernel_rfl)
          obtain ⟨⟨v562, q561, s563⟩, -⟩ := hr564x
          obtain rfl : v562 = .pointer (some ⟨(ablk A), ((aoff A) + i), none⟩) := s563
          obtain ⟨HE, HO11⟩ := hJ558
          have hF553 : Fr 64 a552 [(42, .pointer (some ⟨(ablk A), ((aoff A) + i), none⟩))] := Fr.of hs556 hd557 ⟨q561, trivial⟩
          refine s_load hT (d := 43) (A := ⟨(ablk A), ((aoff A) + i), none⟩) (by kernel_rfl) hF553 ((hR.ex HE).cells.at (vs_get .u8 xs (i := i) (by omega)) rfl) ?_
          rintro a565 ha567 hF566
          rw [ha567]; exact hK555 _ _ rfl (grown_refl _ _)
        · -- operation 11
          rintro a569 w568 b571 KK577 hs573 hd574 hJ575 hb576 hr581 hK572
          have hr581x : RD SL_ b571 a569 a401 w568 [(43, some 10)] := hr581 _ (by kernel_rfl)
          obtain ⟨⟨v579, q578, s580⟩, -⟩ := hr581x
          obtain rfl : v579 = .int .u8 (((xs.getD i 0) : Nat) : Int) := s580
          obtain ⟨HE, HO11⟩ := hJ575
          have hF570 : Fr 64 a569 [(43, .int .u8 (((xs.getD i 0) : Nat) : Int))] := Fr.of hs573 hd574 ⟨q578, trivial⟩
          refine s_pure hT (d := 44) (v := .int .i64 (((xs.getD i 0) : Nat) : Int)) (cs := [(xs.getD i 0) ≤ 9223372036854775807]) (by kernel_rfl) (by kernel_rfl) (And.intro (by omega) trivial) hF570 ?_
          rintro a2 ha2 hF2; rw [ha2]; exact hK572 _ _ rfl (grown_refl _ _)
        · -- operation 12
          rintro a583 w582 b585 KK591 hs587 hd588 hJ589 hb590 hr593 hK586
          have hr593x : RD SL_ b585 a583 a401 w582 [(1, none)] := hr593 _ (by kernel_rfl)
          obtain ⟨q592, -⟩ := hr593x
          obtain ⟨HE, HO11⟩ := hJ589
          have hF584 : Fr 64 a583 [(1, .slice A2 n2 c2)] := Fr.of hs587 hd588 ⟨(Fr.init hF403 q592 (by kernel_rfl)), trivial⟩
          refine s_pure hT (d := 45) (v := .slice A2 n2 c2) (cs := []) (by kernel_rfl) (by kernel_rfl) trivial hF584 ?_
          rintro a2 ha2 hF2; rw [ha2]; exact hK586 _ _ rfl (grown_refl _ _)
        · -- operation 13
          rintro a595 w594 b597 KK603 hs599 hd600 hJ601 hb602 hr605 hK598
          have hr605x : RD SL_ b597 a595 a401 w594 [(8, none)] := hr605 _ (by kernel_rfl)
          obtain ⟨q604, -⟩ := hr605x
          obtain ⟨HE, HO11⟩ := hJ601
          have hF596 : Fr 64 a595 [(8, .int .i64 ((k : Nat) : Int))] := Fr.of hs599 hd600 ⟨(Fr.init hF403 q604 (by kernel_rfl)), trivial⟩
          refine s_pure hT (d := 46) (v := .int .i64 ((k : Nat) : Int)) (cs := []) (by kernel_rfl) (by kernel_rfl) trivial hF596 ?_
          rintro a2 ha2 hF2; rw [ha2]; exact hK598 _ _ rfl (grown_refl _ _)
        · -- operation 14
          rintro a607 w606 b609 KK615 hs611 hd612 hJ613 hb614 hr622 hK610
          have hr622x : RD SL_ b609 a607 a401 w606 [(45, some 12), (46, some 13)] := hr622 _ (by kernel_rfl)
          obtain ⟨⟨v617, q616, s618⟩, ⟨v620, q619, s621⟩, -⟩ := hr622x
          obtain rfl : v617 = .slice A2 n2 c2 := s618
          obtain rfl : v620 = .int .i64 ((k : Nat) : Int) := s621
          obtain ⟨HE, HO11⟩ := hJ613
          have hF608 : Fr 64 a607 [(45, .slice A2 n2 c2), (46, .int .i64 ((k : Nat) : Int))] := Fr.of hs611 hd612 ⟨q616, q619, trivial⟩
          have hz626 := HE.size
          have hz627 := HO11.base
          refine s_call (d := 47) (f := 45) (l := [.slice A2 n2 c2, .int .i64 ((k : Nat) : Int)]) (by kernel_rfl) hF608 cl45 (ref15_at A2 n2 c2 ys k _ (by first | omega | assumption | (simp; done) | (simp; omega) | decide) (hR2.ex HE) (by first | assumption | exact by_dig _ | exact by_one (Nat.mod_lt _ (by decide)) | omega | simp | decide)) ?_
          rintro a628 w623 v624 ⟨rfl, HX625⟩ ha630 hF629
          replace HE := HE.thenN HX625.g
          replace HO11 := HO11.growN HX625.g
          rw [ha630]; exact hK610 _ _ rfl HX625.g
        · -- operation 15
          rintro a632 w631 b634 KK640 hs636 hd637 hJ638 hb639 hr647 hK635
          have hr647x : RD SL_ b634 a632 a401 w631 [(44, some 11), (47, some 14)] := hr647 _ (by kernel_rfl)
          obtain ⟨⟨v642, q641, s643⟩, ⟨v645, q644, s646⟩, -⟩ := hr647x
          obtain rfl : v642 = .int .i64 (((xs.getD i 0) : Nat) : Int) := s643
          obtain rfl : v645 = .int .i64 (((ys.getD k 0) : Nat) : Int) := s646
          obtain ⟨HE, HO11⟩ := hJ638
          have hF633 : Fr 64 a632 [(44, .int .i64 (((xs.getD i 0) : Nat) : Int)), (47, .int .i64 (((ys.getD k 0) : Nat) : Int))] := Fr.of hs636 hd637 ⟨q641, q644, trivial⟩
          refine s_pure hT (d := 48) (v := .int .i64 ((((xs.getD i 0) * (ys.getD k 0)) : Nat) : Int)) (cs := [-9223372036854775808 ≤ ((((xs.getD i 0) * (ys.getD k 0)) : Nat) : Int), ((((xs.getD i 0) * (ys.getD k 0)) : Nat) : Int) ≤ 9223372036854775807]) (by kernel_rfl) (by kernel_rfl) (And.intro (by have h5 : xs.getD i 0 * ys.getD k 0 ≤ 255 * 255 := Nat.mul_le_mul (by omega) (by omega); omega) (And.intro (by have h5 : xs.getD i 0 * ys.getD k 0 ≤ 255 * 255 := Nat.mul_le_mul (by omega) (by omega); omega) trivial)) hF633 ?_
          rintro a2 ha2 hF2; rw [ha2]; exact hK635 _ _ rfl (grown_refl _ _)
        · -- operation 16
          rintro a649 w648 b651 KK657 hs653 hd654 hJ655 hb656 hr664 hK652
          have hr664x : RD SL_ b651 a649 a401 w648 [(39, some 6), (48, some 15)] := hr664 _ (by kernel_rfl)
          obtain ⟨⟨v659, q658, s660⟩, ⟨v662, q661, s663⟩, -⟩ := hr664x
          obtain rfl : v659 = .int .i64 (((zs.getD (i + k) 0) : Nat) : Int) := s660
          obtain rfl : v662 = .int .i64 ((((xs.getD i 0) * (ys.getD k 0)) : Nat) : Int) := s663
          obtain ⟨HE, HO11⟩ := hJ655
          have hF650 : Fr 64 a649 [(39, .int .i64 (((zs.getD (i + k) 0) : Nat) : Int)), (48, .int .i64 ((((xs.getD i 0) * (ys.getD k 0)) : Nat) : Int))] := Fr.of hs653 hd654 ⟨q658, q661, trivial⟩
          refine s_pure hT (d := 49) (v := .int .i64 ((((zs.getD (i + k) 0) + ((xs.getD i 0) * (ys.getD k 0))) : Nat) : Int)) (cs := [-9223372036854775808 ≤ ((((zs.getD (i + k) 0) + ((xs.getD i 0) * (ys.getD k 0))) : Nat) : Int), ((((zs.getD (i + k) 0) + ((xs.getD i 0) * (ys.getD k 0))) : Nat) : Int) ≤ 9223372036854775807]) (by kernel_rfl) (by kernel_rfl) (And.intro (by have h5 : xs.getD i 0 * ys.getD k 0 ≤ 255 * 255 := Nat.mul_le_mul (by omega) (by omega); omega) (And.intro (by have h5 : xs.getD i 0 * ys.getD k 0 ≤ 255 * 255 := Nat.mul_le_mul (by omega) (by omega); omega) trivial)) hF650 ?_
          rintro a2 ha2 hF2; rw [ha2]; exact hK652 _ _ rfl (grown_refl _ _)
        · -- operation 17
          rintro a666 w665 b668 KK674 hs670 hd671 hJ672 hb673 hr676 hK669
          have hr676x : RD SL_ b668 a666 a401 w665 [(7, none)] := hr676 _ (by kernel_rfl)
          obtain ⟨q675, -⟩ := hr676x
          obtain ⟨HE, HO11⟩ := hJ672
          have hF667 : Fr 64 a666 [(7, .int .i64 ((cy : Nat) : Int))] := Fr.of hs670 hd671 ⟨(Fr.init hF403 q675 (by kernel_rfl)), trivial⟩
          refine s_pure hT (d := 50) (v := .int .i64 ((cy : Nat) : Int)) (cs := []) (by kernel_rfl) (by kernel_rfl) trivial hF667 ?_
          rintro a2 ha2 hF2; rw [ha2]; exact hK669 _ _ rfl (grown_refl _ _)
        · -- operation 18
          rintro a678 w677 b680 KK686 hs682 hd683 hJ684 hb685 hr693 hK681
          have hr693x : RD SL_ b680 a678 a401 w677 [(49, some 16), (50, some 17)] := hr693 _ (by kernel_rfl)
          obtain ⟨⟨v688, q687, s689⟩, ⟨v691, q690, s692⟩, -⟩ := hr693x
          obtain rfl : v688 = .int .i64 ((((zs.getD (i + k) 0) + ((xs.getD i 0) * (ys.getD k 0))) : Nat) : Int) := s689
          obtain rfl : v691 = .int .i64 ((cy : Nat) : Int) := s692
          obtain ⟨HE, HO11⟩ := hJ684
          have hF679 : Fr 64 a678 [(49, .int .i64 ((((zs.getD (i + k) 0) + ((xs.getD i 0) * (ys.getD k 0))) : Nat) : Int)), (50, .int .i64 ((cy : Nat) : Int))] := Fr.of hs682 hd683 ⟨q687, q690, trivial⟩
          refine s_pure hT (d := 51) (v := .int .i64 (((((zs.getD (i + k) 0) + ((xs.getD i 0) * (ys.getD k 0))) + cy) : Nat) : Int)) (cs := [-9223372036854775808 ≤ (((((zs.getD (i + k) 0) + ((xs.getD i 0) * (ys.getD k 0))) + cy) : Nat) : Int), (((((zs.getD (i + k) 0) + ((xs.getD i 0) * (ys.getD k 0))) + cy) : Nat) : Int) ≤ 9223372036854775807]) (by kernel_rfl) (by kernel_rfl) (And.intro (by have h5 : xs.getD i 0 * ys.getD k 0 ≤ 255 * 255 := Nat.mul_le_mul (by omega) (by omega); omega) (And.intro (by have h5 : xs.getD i 0 * ys.getD k 0 ≤ 255 * 255 := Nat.mul_le_mul (by omega) (by omega); omega) trivial)) hF679 ?_
          rintro a2 ha2 hF2; rw [ha2]; exact hK681 _ _ rfl (grown_refl _ _)
        · -- operation 19
          rintro a695 w694 b697 KK703 hs699 hd700 hJ701 hb702 hr707 hK698
          have hr707x : RD SL_ b697 a695 a401 w694 [(51, some 18)] := hr707 _ (by kernel_rfl)
          obtain ⟨⟨v705, q704, s706⟩, -⟩ := hr707x
          obtain rfl : v705 = .int .i64 (((((zs.getD (i + k) 0) + ((xs.getD i 0) * (ys.getD k 0))) + cy) : Nat) : Int) := s706
          obtain ⟨HE, HO11⟩ := hJ701
          have hF696 : Fr 64 a695 [(51, .int .i64 (((((zs.getD (i + k) 0) + ((xs.getD i 0) * (ys.getD k 0))) + cy) : Nat) : Int))] := Fr.of hs699 hd700 ⟨q704, trivial⟩
          refine s_pure hT (d := 9) (v := .int .i64 (((((zs.getD (i + k) 0) + ((xs.getD i 0) * (ys.getD k 0))) + cy) : Nat) : Int)) (cs := []) (by kernel_rfl) (by kernel_rfl) trivial hF696 ?_
          rintro a2 ha2 hF2; rw [ha2]; exact hK698 _ _ rfl (grown_refl _ _)
        · -- behind the region
          rintro a709 w710 hs711 hd712 ⟨⟨v714, q715, s716⟩, q717, q718, q719, q720, q721, q722, q723, -⟩ ⟨HE, HO11⟩
          obtain rfl : v714 = .int .i64 (((((zs.getD (i + k) 0) + ((xs.getD i 0) * (ys.getD k 0))) + cy) : Nat) : Int) := s716
          have hF724 : Fr 64 a709 [(9, .int .i64 (((((zs.getD (i + k) 0) + ((xs.getD i 0) * (ys.getD k 0))) + cy) : Nat) : Int)), (30, .bool ((decide (0 < ((cy : Nat) : Int))))), (0, .slice A n c), (1, .slice A2 n2 c2), (5, .slice A12 ((n + n2) + 1) ((n + n2) + 1)), (6, .int .i64 ((i : Nat) : Int)), (7, .int .i64 ((cy : Nat) : Int)), (8, .int .i64 ((k : Nat) : Int))] := Fr.of hs711 hd712 ⟨q715, (Fr.init hF403 q717 (by kernel_rfl)), (Fr.init hF403 q718 (by kernel_rfl)), (Fr.init hF403 q719 (by kernel_rfl)), (Fr.init hF403 q720 (by kernel_rfl)), (Fr.init hF403 q721 (by kernel_rfl)), (Fr.init hF403 q722 (by kernel_rfl)), (Fr.init hF403 q723 (by kernel_rfl)), trivial⟩
          clear hF403 hs711 hd712 q715 q717 q718 q719 q720 q721 q722 q723
          refine hK408 _ _ ?_
          refine wp_seq_k (fun K725 hK726 => ?_)
          refine wp_region_lit ?_
          refine pures hT 8 _ hF724 (F' := [(59, .pointer (some ⟨(ablk A12), ((aoff A12) + (i + k)), none⟩)), (58, .int .u8 (((((((zs.getD (i + k) 0) + ((xs.getD i 0) * (ys.getD k 0))) + cy) % 256) % 256) : Nat) : Int)), (57, .int .i64 ((((((zs.getD (i + k) 0) + ((xs.getD i 0) * (ys.getD k 0))) + cy) % 256) : Nat) : Int)), (56, .int .i64 (((((zs.getD (i + k) 0) + ((xs.getD i 0) * (ys.getD k 0))) + cy) : Nat) : Int)), (55, .int .i64 (((i + k) : Nat) : Int)), (54, .int .i64 ((k : Nat) : Int)), (53, .int .i64 ((i : Nat) : Int)), (52, .slice A12 ((n + n2) + 1) ((n + n2) + 1)), (9, .int .i64 (((((zs.getD (i + k) 0) + ((xs.getD i 0) * (ys.getD k 0))) + cy) : Nat) : Int)), (30, .bool ((decide (0 < ((cy : Nat) : Int))))), (0, .slice A n c), (1, .slice A2 n2 c2), (5, .slice A12 ((n + n2) + 1) ((n + n2) + 1)), (6, .int .i64 ((i : Nat) : Int)), (7, .int .i64 ((cy : Nat) : Int)), (8, .int .i64 ((k : Nat) : Int))]) (cs := [-9223372036854775808 ≤ (((i + k) : Nat) : Int), (((i + k) : Nat) : Int) ≤ 9223372036854775807, 0 ≤ (((((zs.getD (i + k) 0) + ((xs.getD i 0) * (ys.getD k 0))) + cy) : Nat) : Int), 0 < (256 : Int), 0 ≤ (((i + k) : Nat) : Int), (((i + k) : Nat) : Int) < ((((n + n2) + 1) : Nat) : Int), (A12 : Option Addr) = some ⟨ablk A12, aoff A12, none⟩]) (by kernel_rfl) (And.intro (by omega) (And.intro (by omega) (And.intro (by have h5 : xs.getD i 0 * ys.getD k 0 ≤ 255 * 255 := Nat.mul_le_mul (by omega) (by omega); omega) (And.intro (by omega) (And.intro (by omega) (And.intro (by omega) (And.intro (HO11.rd.some' (by (first | (simp only [vs_length, vi_length]; omega) | (simp; omega) | omega))) trivial))))))) ?_
          intro a727 hF728; clear hF724 a709
          refine wl (s_storeO hT (off := (i + k)) (p := ⟨(ablk A12), ((aoff A12) + (i + k)), none⟩) (v := .int .u8 (((((((zs.getD (i + k) 0) + ((xs.getD i 0) * (ys.getD k 0))) + cy) % 256) % 256) : Nat) : Int)) (by kernel_rfl) hF728 HO11 (by (first | (simp only [vs_length, vi_length]; omega) | (simp; omega) | omega)) rfl ?_)
          have HO11b := HO11.base
          rintro a731 w729 ha733 hF732 HO11x g730; clear ha733 hF728 a727; replace HO11 := HO11x
          rw [vs_set] at HO11
          replace HE := HE.thenR g730 (fun k hk => by have := (HO11b k hk).1; omega)
          refine wpList_nil ?_
          have hF734 := hF732.pick [9, 30, 0, 1, 5, 6, 7, 8] (G := [(9, .int .i64 (((((zs.getD (i + k) 0) + ((xs.getD i 0) * (ys.getD k 0))) + cy) : Nat) : Int)), (30, .bool ((decide (0 < ((cy : Nat) : Int))))), (0, .slice A n c), (1, .slice A2 n2 c2), (5, .slice A12 ((n + n2) + 1) ((n + n2) + 1)), (6, .int .i64 ((i : Nat) : Int)), (7, .int .i64 ((cy : Nat) : Int)), (8, .int .i64 ((k : Nat) : Int))]) (by kernel_rfl); clear hF732
          refine hK726 _ _ ?_
          refine wp_region_lit ?_
          refine pures_end hT 3 _ hF734 (F' := [(7, .int .i64 ((((((zs.getD (i + k) 0) + ((xs.getD i 0) * (ys.getD k 0))) + cy) / 256) : Nat) : Int)), (61, .int .i64 ((((((zs.getD (i + k) 0) + ((xs.getD i 0) * (ys.getD k 0))) + cy) / 256) : Nat) : Int)), (60, .int .i64 (((((zs.getD (i + k) 0) + ((xs.getD i 0) * (ys.getD k 0))) + cy) : Nat) : Int)), (9, .int .i64 (((((zs.getD (i + k) 0) + ((xs.getD i 0) * (ys.getD k 0))) + cy) : Nat) : Int)), (30, .bool ((decide (0 < ((cy : Nat) : Int))))), (0, .slice A n c), (1, .slice A2 n2 c2), (5, .slice A12 ((n + n2) + 1) ((n + n2) + 1)), (6, .int .i64 ((i : Nat) : Int)), (7, .int .i64 ((cy : Nat) : Int)), (8, .int .i64 ((k : Nat) : Int))]) (cs := [0 ≤ (((((zs.getD (i + k) 0) + ((xs.getD i 0) * (ys.getD k 0))) + cy) : Nat) : Int), (((((zs.getD (i + k) 0) + ((xs.getD i 0) * (ys.getD k 0))) + cy) : Nat) : Int) ≤ 9223372036854775807, 0 < (256 : Int)]) (by kernel_rfl) rfl (And.intro (by have h5 : xs.getD i 0 * ys.getD k 0 ≤ 255 * 255 := Nat.mul_le_mul (by omega) (by omega); omega) (And.intro (by have h5 : xs.getD i 0 * ys.getD k 0 ≤ 255 * 255 := Nat.mul_le_mul (by omega) (by omega); omega) (And.intro (by omega) trivial))) ?_
          intro a735 hF736; clear hF734 a731
          have hF737 := hF736.pick [7, 9, 30, 0, 1, 5, 6, 8] (G := [(7, .int .i64 ((((((zs.getD (i + k) 0) + ((xs.getD i 0) * (ys.getD k 0))) + cy) / 256) : Nat) : Int)), (9, .int .i64 (((((zs.getD (i + k) 0) + ((xs.getD i 0) * (ys.getD k 0))) + cy) : Nat) : Int)), (30, .bool ((decide (0 < ((cy : Nat) : Int))))), (0, .slice A n c), (1, .slice A2 n2 c2), (5, .slice A12 ((n + n2) + 1) ((n + n2) + 1)), (6, .int .i64 ((i : Nat) : Int)), (8, .int .i64 ((k : Nat) : Int))]) (by kernel_rfl); clear hF736
          refine hK406 _ _ ?_
          refine wp_region_lit ?_
          refine pures_end hT 3 _ hF737 (F' := [(8, .int .i64 (((k + 1) : Nat) : Int)), (32, .int .i64 (((k + 1) : Nat) : Int)), (31, .int .i64 ((k : Nat) : Int)), (7, .int .i64 ((((((zs.getD (i + k) 0) + ((xs.getD i 0) * (ys.getD k 0))) + cy) / 256) : Nat) : Int)), (9, .int .i64 (((((zs.getD (i + k) 0) + ((xs.getD i 0) * (ys.getD k 0))) + cy) : Nat) : Int)), (30, .bool ((decide (0 < ((cy : Nat) : Int))))), (0, .slice A n c), (1, .slice A2 n2 c2), (5, .slice A12 ((n + n2) + 1) ((n + n2) + 1)), (6, .int .i64 ((i : Nat) : Int)), (8, .int .i64 ((k : Nat) : Int))]) (cs := [-9223372036854775808 ≤ (((k + 1) : Nat) : Int), (((k + 1) : Nat) : Int) ≤ 9223372036854775807]) (by kernel_rfl) rfl (And.intro (by omega) (And.intro (by omega) trivial)) ?_
          intro a738 hF739; clear hF737 a735
          have hF740 := hF739.pick [8, 7, 9, 30, 0, 1, 5, 6] (G := [(8, .int .i64 (((k + 1) : Nat) : Int)), (7, .int .i64 ((((((zs.getD (i + k) 0) + ((xs.getD i 0) * (ys.getD k 0))) + cy) / 256) : Nat) : Int)), (9, .int .i64 (((((zs.getD (i + k) 0) + ((xs.getD i 0) * (ys.getD k 0))) + cy) : Nat) : Int)), (30, .bool ((decide (0 < ((cy : Nat) : Int))))), (0, .slice A n c), (1, .slice A2 n2 c2), (5, .slice A12 ((n + n2) + 1) ((n + n2) + 1)), (6, .int .i64 ((i : Nat) : Int))]) (by kernel_rfl); clear hF739
          refine hK52 _ _ _ (by omega) ⟨(k + 1), (zs.set (i + k) (((((zs.getD (i + k) 0) + ((xs.getD i 0) * (ys.getD k 0))) + cy) % 256) % 256)), ((((zs.getD (i + k) 0) + ((xs.getD i 0) * (ys.getD k 0))) + cy) / 256), rfl, hF740.pick [0, 1, 5, 6, 7, 8] (by kernel_rfl), HE, HO11, (by rcases Nat.lt_or_ge k n2 with q | q; exact .inl q; have h1 : ys.getD k 0 = 0 := getD_ge (by omega); have h2 := h0 (i + k) (by omega) (by omega); rw [h1, h2]; exact .inr ⟨by omega, by omega⟩), (by simpa using hzl), (set_lt hzb (Nat.mod_lt _ (by decide)) _), (by omega), (fun j hj h => by rw [getD_set _ _ _ _ (by omega), if_neg (by omega)]; exact h0 j (by omega) h), (ref_mul_step (by omega) hv)⟩
      · -- h404
        refine wp_exit ?_
        refine hK40 _ _ ?_
        refine wp_region_lit ?_
        refine pures_end hT 3 _ hF403 (F' := [(6, .int .i64 (((i + 1) : Nat) : Int)), (22, .int .i64 (((i + 1) : Nat) : Int)), (21, .int .i64 ((i : Nat) : Int)), (30, .bool ((decide (0 < ((cy : Nat) : Int))))), (0, .slice A n c), (1, .slice A2 n2 c2), (5, .slice A12 ((n + n2) + 1) ((n + n2) + 1)), (6, .int .i64 ((i : Nat) : Int)), (7, .int .i64 ((cy : Nat) : Int)), (8, .int .i64 ((k : Nat) : Int))]) (cs := [-9223372036854775808 ≤ (((i + 1) : Nat) : Int), (((i + 1) : Nat) : Int) ≤ 9223372036854775807]) (by kernel_rfl) rfl (And.intro (by omega) (And.intro (by omega) trivial)) ?_
        intro a741 hF742; clear hF403 a401
        have hF743 := hF742.pick [6, 30, 0, 1, 5, 7, 8] (G := [(6, .int .i64 (((i + 1) : Nat) : Int)), (30, .bool ((decide (0 < ((cy : Nat) : Int))))), (0, .slice A n c), (1, .slice A2 n2 c2), (5, .slice A12 ((n + n2) + 1) ((n + n2) + 1)), (7, .int .i64 ((cy : Nat) : Int)), (8, .int .i64 ((k : Nat) : Int))]) (by kernel_rfl); clear hF742
        refine hK29 _ _ _ (by omega) ⟨(i + 1), zs, rfl, hF743.pick [0, 1, 5, 6] (by kernel_rfl), HE, HO11, (by omega), hzl, hzb, (fun j hj => h0 j (by omega) (by omega)), (ref_mul_row (by omega) (by omega) hv)⟩
  · -- h38
    refine wp_exit ?_
    refine hK21 _ _ ?_
    refine wp_seq_k (fun K744 hK745 => ?_)
    refine wp_region_lit ?_
    refine pures hT 1 _ hF37 (F' := [(62, .slice A12 ((n + n2) + 1) ((n + n2) + 1)), (20, .bool ((decide (((i : Nat) : Int) < ((n : Nat) : Int))))), (0, .slice A n c), (1, .slice A2 n2 c2), (5, .slice A12 ((n + n2) + 1) ((n + n2) + 1)), (6, .int .i64 ((i : Nat) : Int))]) (cs := []) (by kernel_rfl) trivial ?_
    intro a746 hF747; clear hF37 a35
    have hz754 := HE.size
    have hz755 := HO11.base
    refine wl (s_call (d := 63) (f := 21) (l := [.slice A12 ((n + n2) + 1) ((n + n2) + 1)]) (by kernel_rfl) hF747 cl21 (ref15_Norm A12 ((n + n2) + 1) ((n + n2) + 1) zs (nv 256 zs) _ rfl (by first | omega | assumption | (simp; done) | (simp; omega) | decide) HO11.rd (by first | assumption | exact by_dig _ | exact by_one (Nat.mod_lt _ (by decide)) | omega | simp | decide) (by first | omega | assumption | (simp; done) | (simp; omega) | decide) (by first | omega | assumption | (simp; done) | (simp; omega) | decide)) ?_)
    rintro a756 w751 v752 ⟨A748, c749, rfl, HX753, HO750⟩ ha758 hF757; clear ha758 hF747 a746
    replace HE := HE.thenN HX753.g
    replace HO11 := HO11.growN HX753.g
    have hcp759 := HO750.cap
    refine pures_end hT 1 _ hF757 (F' := [(4, .slice A748 ((dig 256 (nv 256 zs)).length) c749), (63, .slice A748 ((dig 256 (nv 256 zs)).length) c749), (62, .slice A12 ((n + n2) + 1) ((n + n2) + 1)), (20, .bool ((decide (((i : Nat) : Int) < ((n : Nat) : Int))))), (0, .slice A n c), (1, .slice A2 n2 c2), (5, .slice A12 ((n + n2) + 1) ((n + n2) + 1)), (6, .int .i64 ((i : Nat) : Int))]) (cs := []) (by kernel_rfl) rfl trivial ?_
    intro a760 hF761; clear hF757 a756
    have hF762 := hF761.pick [4, 20, 0, 1, 5, 6] (G := [(4, .slice A748 ((dig 256 (nv 256 zs)).length) c749), (20, .bool ((decide (((i : Nat) : Int) < ((n : Nat) : Int))))), (0, .slice A n c), (1, .slice A2 n2 c2), (5, .slice A12 ((n + n2) + 1) ((n + n2) + 1)), (6, .int .i64 ((i : Nat) : Int))]) (by kernel_rfl); clear hF761
    refine hK745 _ _ ?_
    refine wp_ret ?_
    refine ret1 hF762 rfl (v := .slice A748 ((dig 256 (nv 256 zs)).length) c749) (by kernel_rfl) ?_
    have hO := HO750
    have hres : nv 256 zs = nv 256 xs * nv 256 ys := by rw [hv, show xs.take i = xs from List.take_of_length_le (by omega)]
    rw [hres] at hO ⊢
    exact ⟨_, _, rfl, HE, hO.rebase (by omega)⟩

end Go.Proofs.Ytdabkjflpbbpeaa
