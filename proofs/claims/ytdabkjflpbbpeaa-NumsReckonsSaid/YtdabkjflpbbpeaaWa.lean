/- Walks of functions of the program: lemmas. -/
import Derived.Test.YtdabkjflpbbpeaaKx
import Derived.Test.YtdabkjflpbbpeaaNc
set_option maxRecDepth 100000
set_option linter.unusedVariables false
set_option linter.unusedSimpArgs false
namespace Go.Proofs.Ytdabkjflpbbpeaa
open Go.Proofs Go.RowKit

theorem bits_mul64 (x y : Nat) (w : World) (hx : x < 18446744073709551616) (hy : y < 18446744073709551616) :
    Calls Try.prog 44 [.int .u64 ((x : Nat) : Int), .int .u64 ((y : Nat) : Int)].toArray w (Ret fun v w' => v = .tuple #[.int .u64 ((x * y / 18446744073709551616 : Nat) : Int), .int .u64 ((x * y % 18446744073709551616 : Nat) : Int)] ∧ Ex w w') := by
  refine enter Try.func44 rfl (n := 51) Try.ntmps44 (by simp) ?_
  intro a hF
  have HE : Ex w w := Ex.refl w
  refine wp_seq_k (fun K1 hK2 => ?_)
  refine wp_region_lit ?_
  refine pures_end hT 2 _ hF (F' := [(5, .int .u64 0), (4, .int .u64 0), (0, .int .u64 ((x : Nat) : Int)), (1, .int .u64 ((y : Nat) : Int))]) (cs := []) (by kernel_rfl) rfl trivial ?_
  intro a3 hF4; clear hF a
  refine hK2 _ _ ?_
  refine wp_seq_k (fun K5 hK6 => ?_)
  refine wp_region_lit ?_
  refine pures_end hT 3 _ hF4 (F' := [(6, .int .u64 (((x &&& 4294967295) : Nat) : Int)), (15, .int .u64 (((x &&& 4294967295) : Nat) : Int)), (14, .int .u64 ((x : Nat) : Int)), (5, .int .u64 0), (4, .int .u64 0), (0, .int .u64 ((x : Nat) : Int)), (1, .int .u64 ((y : Nat) : Int))]) (cs := [x < 18446744073709551616, 4294967295 < 18446744073709551616]) (by kernel_rfl) rfl (And.intro (by first | omega | (have := Nat.and_le_right (n := x) (m := 4294967295); omega)) (And.intro (by first | omega | (have := Nat.and_le_right (n := x) (m := 4294967295); omega)) trivial)) ?_
  intro a7 hF8; clear hF4 a3
  have hF9 := hF8.pick [6, 5, 4, 0, 1] (G := [(6, .int .u64 (((x &&& 4294967295) : Nat) : Int)), (5, .int .u64 0), (4, .int .u64 0), (0, .int .u64 ((x : Nat) : Int)), (1, .int .u64 ((y : Nat) : Int))]) (by kernel_rfl); clear hF8
  refine hK6 _ _ ?_
  refine wp_seq_k (fun K10 hK11 => ?_)
  refine wp_region_lit ?_
  refine pures_end hT 3 _ hF9 (F' := [(7, .int .u64 (((x / 2 ^ 32) : Nat) : Int)), (17, .int .u64 (((x / 2 ^ 32) : Nat) : Int)), (16, .int .u64 ((x : Nat) : Int)), (6, .int .u64 (((x &&& 4294967295) : Nat) : Int)), (5, .int .u64 0), (4, .int .u64 0), (0, .int .u64 ((x : Nat) : Int)), (1, .int .u64 ((y : Nat) : Int))]) (cs := [x < 18446744073709551616]) (by kernel_rfl) rfl (And.intro (by first | omega | (have := Nat.and_le_right (n := x) (m := 4294967295); omega)) trivial) ?_
  intro a12 hF13; clear hF9 a7
  have hF14 := hF13.pick [7, 6, 5, 4, 0, 1] (G := [(7, .int .u64 (((x / 2 ^ 32) : Nat) : Int)), (6, .int .u64 (((x &&& 4294967295) : Nat) : Int)), (5, .int .u64 0), (4, .int .u64 0), (0, .int .u64 ((x : Nat) : Int)), (1, .int .u64 ((y : Nat) : Int))]) (by kernel_rfl); clear hF13
  refine hK11 _ _ ?_
  refine wp_seq_k (fun K15 hK16 => ?_)
  refine wp_region_lit ?_
  refine pures_end hT 3 _ hF14 (F' := [(8, .int .u64 (((y &&& 4294967295) : Nat) : Int)), (19, .int .u64 (((y &&& 4294967295) : Nat) : Int)), (18, .int .u64 ((y : Nat) : Int)), (7, .int .u64 (((x / 2 ^ 32) : Nat) : Int)), (6, .int .u64 (((x &&& 4294967295) : Nat) : Int)), (5, .int .u64 0), (4, .int .u64 0), (0, .int .u64 ((x : Nat) : Int)), (1, .int .u64 ((y : Nat) : Int))]) (cs := [y < 18446744073709551616, 4294967295 < 18446744073709551616]) (by kernel_rfl) rfl (And.intro (by first | omega | (have := Nat.and_le_right (n := x) (m := 4294967295); omega)) (And.intro (by first | omega | (have := Nat.and_le_right (n := x) (m := 4294967295); omega)) trivial)) ?_
  intro a17 hF18; clear hF14 a12
  have hF19 := hF18.pick [8, 7, 6, 5, 4, 0, 1] (G := [(8, .int .u64 (((y &&& 4294967295) : Nat) : Int)), (7, .int .u64 (((x / 2 ^ 32) : Nat) : Int)), (6, .int .u64 (((x &&& 4294967295) : Nat) : Int)), (5, .int .u64 0), (4, .int .u64 0), (0, .int .u64 ((x : Nat) : Int)), (1, .int .u64 ((y : Nat) : Int))]) (by kernel_rfl); clear hF18
  refine hK16 _ _ ?_
  refine wp_seq_k (fun K20 hK21 => ?_)
  refine wp_region_lit ?_
  refine pures_end hT 3 _ hF19 (F' := [(9, .int .u64 (((y / 2 ^ 32) : Nat) : Int)), (21, .int .u64 (((y / 2 ^ 32) : Nat) : Int)), (20, .int .u64 ((y : Nat) : Int)), (8, .int .u64 (((y &&& 4294967295) : Nat) : Int)), (7, .int .u64 (((x / 2 ^ 32) : Nat) : Int)), (6, .int .u64 (((x &&& 4294967295) : Nat) : Int)), (5, .int .u64 0), (4, .int .u64 0), (0, .int .u64 ((x : Nat) : Int)), (1, .int .u64 ((y : Nat) : Int))]) (cs := [y < 18446744073709551616]) (by kernel_rfl) rfl (And.intro (by first | omega | (have := Nat.and_le_right (n := x) (m := 4294967295); omega)) trivial) ?_
  intro a22 hF23; clear hF19 a17
  have hF24 := hF23.pick [9, 8, 7, 6, 5, 4, 0, 1] (G := [(9, .int .u64 (((y / 2 ^ 32) : Nat) : Int)), (8, .int .u64 (((y &&& 4294967295) : Nat) : Int)), (7, .int .u64 (((x / 2 ^ 32) : Nat) : Int)), (6, .int .u64 (((x &&& 4294967295) : Nat) : Int)), (5, .int .u64 0), (4, .int .u64 0), (0, .int .u64 ((x : Nat) : Int)), (1, .int .u64 ((y : Nat) : Int))]) (by kernel_rfl); clear hF23
  refine hK21 _ _ ?_
  refine wp_seq_k (fun K25 hK26 => ?_)
  refine wp_region_lit ?_
  refine pures_end hT 4 _ hF24 (F' := [(10, .int .u64 ((((x &&& 4294967295) * (y &&& 4294967295) % 18446744073709551616) : Nat) : Int)), (24, .int .u64 ((((x &&& 4294967295) * (y &&& 4294967295) % 18446744073709551616) : Nat) : Int)), (23, .int .u64 (((y &&& 4294967295) : Nat) : Int)), (22, .int .u64 (((x &&& 4294967295) : Nat) : Int)), (9, .int .u64 (((y / 2 ^ 32) : Nat) : Int)), (8, .int .u64 (((y &&& 4294967295) : Nat) : Int)), (7, .int .u64 (((x / 2 ^ 32) : Nat) : Int)), (6, .int .u64 (((x &&& 4294967295) : Nat) : Int)), (5, .int .u64 0), (4, .int .u64 0), (0, .int .u64 ((x : Nat) : Int)), (1, .int .u64 ((y : Nat) : Int))]) (cs := []) (by kernel_rfl) rfl trivial ?_
  intro a27 hF28; clear hF24 a22
  have hF29 := hF28.pick [10, 9, 8, 7, 6, 5, 4, 0, 1] (G := [(10, .int .u64 ((((x &&& 4294967295) * (y &&& 4294967295) % 18446744073709551616) : Nat) : Int)), (9, .int .u64 (((y / 2 ^ 32) : Nat) : Int)), (8, .int .u64 (((y &&& 4294967295) : Nat) : Int)), (7, .int .u64 (((x / 2 ^ 32) : Nat) : Int)), (6, .int .u64 (((x &&& 4294967295) : Nat) : Int)), (5, .int .u64 0), (4, .int .u64 0), (0, .int .u64 ((x : Nat) : Int)), (1, .int .u64 ((y : Nat) : Int))]) (by kernel_rfl); clear hF28
  refine hK26 _ _ ?_
  refine wp_seq_k (fun K30 hK31 => ?_)
  refine wp_region_lit ?_
  refine pures_end hT 7 _ hF29 (F' := [(11, .int .u64 ((((((x / 2 ^ 32) * (y &&& 4294967295) % 18446744073709551616) + (((x &&& 4294967295) * (y &&& 4294967295) % 18446744073709551616) / 2 ^ 32)) % 18446744073709551616) : Nat) : Int)), (30, .int .u64 ((((((x / 2 ^ 32) * (y &&& 4294967295) % 18446744073709551616) + (((x &&& 4294967295) * (y &&& 4294967295) % 18446744073709551616) / 2 ^ 32)) % 18446744073709551616) : Nat) : Int)), (29, .int .u64 (((((x &&& 4294967295) * (y &&& 4294967295) % 18446744073709551616) / 2 ^ 32) : Nat) : Int)), (28, .int .u64 ((((x &&& 4294967295) * (y &&& 4294967295) % 18446744073709551616) : Nat) : Int)), (27, .int .u64 ((((x / 2 ^ 32) * (y &&& 4294967295) % 18446744073709551616) : Nat) : Int)), (26, .int .u64 (((y &&& 4294967295) : Nat) : Int)), (25, .int .u64 (((x / 2 ^ 32) : Nat) : Int)), (10, .int .u64 ((((x &&& 4294967295) * (y &&& 4294967295) % 18446744073709551616) : Nat) : Int)), (9, .int .u64 (((y / 2 ^ 32) : Nat) : Int)), (8, .int .u64 (((y &&& 4294967295) : Nat) : Int)), (7, .int .u64 (((x / 2 ^ 32) : Nat) : Int)), (6, .int .u64 (((x &&& 4294967295) : Nat) : Int)), (5, .int .u64 0), (4, .int .u64 0), (0, .int .u64 ((x : Nat) : Int)), (1, .int .u64 ((y : Nat) : Int))]) (cs := [((x &&& 4294967295) * (y &&& 4294967295) % 18446744073709551616) < 18446744073709551616]) (by kernel_rfl) rfl (And.intro (by first | omega | (have := Nat.and_le_right (n := x) (m := 4294967295); omega)) trivial) ?_
  intro a32 hF33; clear hF29 a27
  have hF34 := hF33.pick [11, 10, 9, 8, 7, 6, 5, 4, 0, 1] (G := [(11, .int .u64 ((((((x / 2 ^ 32) * (y &&& 4294967295) % 18446744073709551616) + (((x &&& 4294967295) * (y &&& 4294967295) % 18446744073709551616) / 2 ^ 32)) % 18446744073709551616) : Nat) : Int)), (10, .int .u64 ((((x &&& 4294967295) * (y &&& 4294967295) % 18446744073709551616) : Nat) : Int)), (9, .int .u64 (((y / 2 ^ 32) : Nat) : Int)), (8, .int .u64 (((y &&& 4294967295) : Nat) : Int)), (7, .int .u64 (((x / 2 ^ 32) : Nat) : Int)), (6, .int .u64 (((x &&& 4294967295) : Nat) : Int)), (5, .int .u64 0), (4, .int .u64 0), (0, .int .u64 ((x : Nat) : Int)), (1, .int .u64 ((y : Nat) : Int))]) (by kernel_rfl); clear hF33
  refine hK31 _ _ ?_
  refine wp_seq_k (fun K35 hK36 => ?_)
  refine wp_region_lit ?_
  refine pures_end hT 3 _ hF34 (F' := [(12, .int .u64 (((((((x / 2 ^ 32) * (y &&& 4294967295) % 18446744073709551616) + (((x &&& 4294967295) * (y &&& 4294967295) % 18446744073709551616) / 2 ^ 32)) % 18446744073709551616) &&& 4294967295) : Nat) : Int)), (32, .int .u64 (((((((x / 2 ^ 32) * (y &&& 4294967295) % 18446744073709551616) + (((x &&& 4294967295) * (y &&& 4294967295) % 18446744073709551616) / 2 ^ 32)) % 18446744073709551616) &&& 4294967295) : Nat) : Int)), (31, .int .u64 ((((((x / 2 ^ 32) * (y &&& 4294967295) % 18446744073709551616) + (((x &&& 4294967295) * (y &&& 4294967295) % 18446744073709551616) / 2 ^ 32)) % 18446744073709551616) : Nat) : Int)), (11, .int .u64 ((((((x / 2 ^ 32) * (y &&& 4294967295) % 18446744073709551616) + (((x &&& 4294967295) * (y &&& 4294967295) % 18446744073709551616) / 2 ^ 32)) % 18446744073709551616) : Nat) : Int)), (10, .int .u64 ((((x &&& 4294967295) * (y &&& 4294967295) % 18446744073709551616) : Nat) : Int)), (9, .int .u64 (((y / 2 ^ 32) : Nat) : Int)), (8, .int .u64 (((y &&& 4294967295) : Nat) : Int)), (7, .int .u64 (((x / 2 ^ 32) : Nat) : Int)), (6, .int .u64 (((x &&& 4294967295) : Nat) : Int)), (5, .int .u64 0), (4, .int .u64 0), (0, .int .u64 ((x : Nat) : Int)), (1, .int .u64 ((y : Nat) : Int))]) (cs := [((((x / 2 ^ 32) * (y &&& 4294967295) % 18446744073709551616) + (((x &&& 4294967295) * (y &&& 4294967295) % 18446744073709551616) / 2 ^ 32)) % 18446744073709551616) < 18446744073709551616, 4294967295 < 18446744073709551616]) (by kernel_rfl) rfl (And.intro (by first | omega | (have := Nat.and_le_right (n := x) (m := 4294967295); omega)) (And.intro (by first | omega | (have := Nat.and_le_right (n := x) (m := 4294967295); omega)) trivial)) ?_
  intro a37 hF38; clear hF34 a32
  have hF39 := hF38.pick [12, 11, 10, 9, 8, 7, 6, 5, 4, 0, 1] (G := [(12, .int .u64 (((((((x / 2 ^ 32) * (y &&& 4294967295) % 18446744073709551616) + (((x &&& 4294967295) * (y &&& 4294967295) % 18446744073709551616) / 2 ^ 32)) % 18446744073709551616) &&& 4294967295) : Nat) : Int)), (11, .int .u64 ((((((x / 2 ^ 32) * (y &&& 4294967295) % 18446744073709551616) + (((x &&& 4294967295) * (y &&& 4294967295) % 18446744073709551616) / 2 ^ 32)) % 18446744073709551616) : Nat) : Int)), (10, .int .u64 ((((x &&& 4294967295) * (y &&& 4294967295) % 18446744073709551616) : Nat) : Int)), (9, .int .u64 (((y / 2 ^ 32) : Nat) : Int)), (8, .int .u64 (((y &&& 4294967295) : Nat) : Int)), (7, .int .u64 (((x / 2 ^ 32) : Nat) : Int)), (6, .int .u64 (((x &&& 4294967295) : Nat) : Int)), (5, .int .u64 0), (4, .int .u64 0), (0, .int .u64 ((x : Nat) : Int)), (1, .int .u64 ((y : Nat) : Int))]) (by kernel_rfl); clear hF38
  refine hK36 _ _ ?_
  refine wp_seq_k (fun K40 hK41 => ?_)
  refine wp_region_lit ?_
  refine pures_end hT 3 _ hF39 (F' := [(13, .int .u64 (((((((x / 2 ^ 32) * (y &&& 4294967295) % 18446744073709551616) + (((x &&& 4294967295) * (y &&& 4294967295) % 18446744073709551616) / 2 ^ 32)) % 18446744073709551616) / 2 ^ 32) : Nat) : Int)), (34, .int .u64 (((((((x / 2 ^ 32) * (y &&& 4294967295) % 18446744073709551616) + (((x &&& 4294967295) * (y &&& 4294967295) % 18446744073709551616) / 2 ^ 32)) % 18446744073709551616) / 2 ^ 32) : Nat) : Int)), (33, .int .u64 ((((((x / 2 ^ 32) * (y &&& 4294967295) % 18446744073709551616) + (((x &&& 4294967295) * (y &&& 4294967295) % 18446744073709551616) / 2 ^ 32)) % 18446744073709551616) : Nat) : Int)), (12, .int .u64 (((((((x / 2 ^ 32) * (y &&& 4294967295) % 18446744073709551616) + (((x &&& 4294967295) * (y &&& 4294967295) % 18446744073709551616) / 2 ^ 32)) % 18446744073709551616) &&& 4294967295) : Nat) : Int)), (11, .int .u64 ((((((x / 2 ^ 32) * (y &&& 4294967295) % 18446744073709551616) + (((x &&& 4294967295) * (y &&& 4294967295) % 18446744073709551616) / 2 ^ 32)) % 18446744073709551616) : Nat) : Int)), (10, .int .u64 ((((x &&& 4294967295) * (y &&& 4294967295) % 18446744073709551616) : Nat) : Int)), (9, .int .u64 (((y / 2 ^ 32) : Nat) : Int)), (8, .int .u64 (((y &&& 4294967295) : Nat) : Int)), (7, .int .u64 (((x / 2 ^ 32) : Nat) : Int)), (6, .int .u64 (((x &&& 4294967295) : Nat) : Int)), (5, .int .u64 0), (4, .int .u64 0), (0, .int .u64 ((x : Nat) : Int)), (1, .int .u64 ((y : Nat) : Int))]) (cs := [((((x / 2 ^ 32) * (y &&& 4294967295) % 18446744073709551616) + (((x &&& 4294967295) * (y &&& 4294967295) % 18446744073709551616) / 2 ^ 32)) % 18446744073709551616) < 18446744073709551616]) (by kernel_rfl) rfl (And.intro (by first | omega | (have := Nat.and_le_right (n := x) (m := 4294967295); omega)) trivial) ?_
  intro a42 hF43; clear hF39 a37
  have hF44 := hF43.pick [13, 12, 11, 10, 9, 8, 7, 6, 5, 4, 0, 1] (G := [(13, .int .u64 (((((((x / 2 ^ 32) * (y &&& 4294967295) % 18446744073709551616) + (((x &&& 4294967295) * (y &&& 4294967295) % 18446744073709551616) / 2 ^ 32)) % 18446744073709551616) / 2 ^ 32) : Nat) : Int)), (12, .int .u64 (((((((x / 2 ^ 32) * (y &&& 4294967295) % 18446744073709551616) + (((x &&& 4294967295) * (y &&& 4294967295) % 18446744073709551616) / 2 ^ 32)) % 18446744073709551616) &&& 4294967295) : Nat) : Int)), (11, .int .u64 ((((((x / 2 ^ 32) * (y &&& 4294967295) % 18446744073709551616) + (((x &&& 4294967295) * (y &&& 4294967295) % 18446744073709551616) / 2 ^ 32)) % 18446744073709551616) : Nat) : Int)), (10, .int .u64 ((((x &&& 4294967295) * (y &&& 4294967295) % 18446744073709551616) : Nat) : Int)), (9, .int .u64 (((y / 2 ^ 32) : Nat) : Int)), (8, .int .u64 (((y &&& 4294967295) : Nat) : Int)), (7, .int .u64 (((x / 2 ^ 32) : Nat) : Int)), (6, .int .u64 (((x &&& 4294967295) : Nat) : Int)), (5, .int .u64 0), (4, .int .u64 0), (0, .int .u64 ((x : Nat) : Int)), (1, .int .u64 ((y : Nat) : Int))]) (by kernel_rfl); clear hF43
  refine hK41 _ _ ?_
  refine wp_seq_k (fun K45 hK46 => ?_)
  refine wp_region_lit ?_
  refine pures_end hT 6 _ hF44 (F' := [(12, .int .u64 (((((((((x / 2 ^ 32) * (y &&& 4294967295) % 18446744073709551616) + (((x &&& 4294967295) * (y &&& 4294967295) % 18446744073709551616) / 2 ^ 32)) % 18446744073709551616) &&& 4294967295) + ((x &&& 4294967295) * (y / 2 ^ 32) % 18446744073709551616)) % 18446744073709551616) : Nat) : Int)), (39, .int .u64 (((((((((x / 2 ^ 32) * (y &&& 4294967295) % 18446744073709551616) + (((x &&& 4294967295) * (y &&& 4294967295) % 18446744073709551616) / 2 ^ 32)) % 18446744073709551616) &&& 4294967295) + ((x &&& 4294967295) * (y / 2 ^ 32) % 18446744073709551616)) % 18446744073709551616) : Nat) : Int)), (38, .int .u64 ((((x &&& 4294967295) * (y / 2 ^ 32) % 18446744073709551616) : Nat) : Int)), (37, .int .u64 (((y / 2 ^ 32) : Nat) : Int)), (36, .int .u64 (((x &&& 4294967295) : Nat) : Int)), (35, .int .u64 (((((((x / 2 ^ 32) * (y &&& 4294967295) % 18446744073709551616) + (((x &&& 4294967295) * (y &&& 4294967295) % 18446744073709551616) / 2 ^ 32)) % 18446744073709551616) &&& 4294967295) : Nat) : Int)), (13, .int .u64 (((((((x / 2 ^ 32) * (y &&& 4294967295) % 18446744073709551616) + (((x &&& 4294967295) * (y &&& 4294967295) % 18446744073709551616) / 2 ^ 32)) % 18446744073709551616) / 2 ^ 32) : Nat) : Int)), (12, .int .u64 (((((((x / 2 ^ 32) * (y &&& 4294967295) % 18446744073709551616) + (((x &&& 4294967295) * (y &&& 4294967295) % 18446744073709551616) / 2 ^ 32)) % 18446744073709551616) &&& 4294967295) : Nat) : Int)), (11, .int .u64 ((((((x / 2 ^ 32) * (y &&& 4294967295) % 18446744073709551616) + (((x &&& 4294967295) * (y &&& 4294967295) % 18446744073709551616) / 2 ^ 32)) % 18446744073709551616) : Nat) : Int)), (10, .int .u64 ((((x &&& 4294967295) * (y &&& 4294967295) % 18446744073709551616) : Nat) : Int)), (9, .int .u64 (((y / 2 ^ 32) : Nat) : Int)), (8, .int .u64 (((y &&& 4294967295) : Nat) : Int)), (7, .int .u64 (((x / 2 ^ 32) : Nat) : Int)), (6, .int .u64 (((x &&& 4294967295) : Nat) : Int)), (5, .int .u64 0), (4, .int .u64 0), (0, .int .u64 ((x : Nat) : Int)), (1, .int .u64 ((y : Nat) : Int))]) (cs := []) (by kernel_rfl) rfl trivial ?_
  intro a47 hF48; clear hF44 a42
  have hF49 := hF48.pick [12, 13, 11, 10, 9, 8, 7, 6, 5, 4, 0, 1] (G := [(12, .int .u64 (((((((((x / 2 ^ 32) * (y &&& 4294967295) % 18446744073709551616) + (((x &&& 4294967295) * (y &&& 4294967295) % 18446744073709551616) / 2 ^ 32)) % 18446744073709551616) &&& 4294967295) + ((x &&& 4294967295) * (y / 2 ^ 32) % 18446744073709551616)) % 18446744073709551616) : Nat) : Int)), (13, .int .u64 (((((((x / 2 ^ 32) * (y &&& 4294967295) % 18446744073709551616) + (((x &&& 4294967295) * (y &&& 4294967295) % 18446744073709551616) / 2 ^ 32)) % 18446744073709551616) / 2 ^ 32) : Nat) : Int)), (11, .int .u64 ((((((x / 2 ^ 32) * (y &&& 4294967295) % 18446744073709551616) + (((x &&& 4294967295) * (y &&& 4294967295) % 18446744073709551616) / 2 ^ 32)) % 18446744073709551616) : Nat) : Int)), (10, .int .u64 ((((x &&& 4294967295) * (y &&& 4294967295) % 18446744073709551616) : Nat) : Int)), (9, .int .u64 (((y / 2 ^ 32) : Nat) : Int)), (8, .int .u64 (((y &&& 4294967295) : Nat) : Int)), (7, .int .u64 (((x / 2 ^ 32) : Nat) : Int)), (6, .int .u64 (((x &&& 4294967295) : Nat) : Int)), (5, .int .u64 0), (4, .int .u64 0), (0, .int .u64 ((x : Nat) : Int)), (1, .int .u64 ((y : Nat) : Int))]) (by kernel_rfl); clear hF48
  refine hK46 _ _ ?_
  refine wp_seq_k (fun K50 hK51 => ?_)
  refine wp_region_lit ?_
  refine pures_end hT 9 _ hF49 (F' := [(4, .int .u64 ((((((((x / 2 ^ 32) * (y / 2 ^ 32) % 18446744073709551616) + (((((x / 2 ^ 32) * (y &&& 4294967295) % 18446744073709551616) + (((x &&& 4294967295) * (y &&& 4294967295) % 18446744073709551616) / 2 ^ 32)) % 18446744073709551616) / 2 ^ 32)) % 18446744073709551616) + ((((((((x / 2 ^ 32) * (y &&& 4294967295) % 18446744073709551616) + (((x &&& 4294967295) * (y &&& 4294967295) % 18446744073709551616) / 2 ^ 32)) % 18446744073709551616) &&& 4294967295) + ((x &&& 4294967295) * (y / 2 ^ 32) % 18446744073709551616)) % 18446744073709551616) / 2 ^ 32)) % 18446744073709551616) : Nat) : Int)), (47, .int .u64 ((((((((x / 2 ^ 32) * (y / 2 ^ 32) % 18446744073709551616) + (((((x / 2 ^ 32) * (y &&& 4294967295) % 18446744073709551616) + (((x &&& 4294967295) * (y &&& 4294967295) % 18446744073709551616) / 2 ^ 32)) % 18446744073709551616) / 2 ^ 32)) % 18446744073709551616) + ((((((((x / 2 ^ 32) * (y &&& 4294967295) % 18446744073709551616) + (((x &&& 4294967295) * (y &&& 4294967295) % 18446744073709551616) / 2 ^ 32)) % 18446744073709551616) &&& 4294967295) + ((x &&& 4294967295) * (y / 2 ^ 32) % 18446744073709551616)) % 18446744073709551616) / 2 ^ 32)) % 18446744073709551616) : Nat) : Int)), (46, .int .u64 ((((((((((x / 2 ^ 32) * (y &&& 4294967295) % 18446744073709551616) + (((x &&& 4294967295) * (y &&& 4294967295) % 18446744073709551616) / 2 ^ 32)) % 18446744073709551616) &&& 4294967295) + ((x &&& 4294967295) * (y / 2 ^ 32) % 18446744073709551616)) % 18446744073709551616) / 2 ^ 32) : Nat) : Int)), (45, .int .u64 (((((((((x / 2 ^ 32) * (y &&& 4294967295) % 18446744073709551616) + (((x &&& 4294967295) * (y &&& 4294967295) % 18446744073709551616) / 2 ^ 32)) % 18446744073709551616) &&& 4294967295) + ((x &&& 4294967295) * (y / 2 ^ 32) % 18446744073709551616)) % 18446744073709551616) : Nat) : Int)), (44, .int .u64 ((((((x / 2 ^ 32) * (y / 2 ^ 32) % 18446744073709551616) + (((((x / 2 ^ 32) * (y &&& 4294967295) % 18446744073709551616) + (((x &&& 4294967295) * (y &&& 4294967295) % 18446744073709551616) / 2 ^ 32)) % 18446744073709551616) / 2 ^ 32)) % 18446744073709551616) : Nat) : Int)), (43, .int .u64 (((((((x / 2 ^ 32) * (y &&& 4294967295) % 18446744073709551616) + (((x &&& 4294967295) * (y &&& 4294967295) % 18446744073709551616) / 2 ^ 32)) % 18446744073709551616) / 2 ^ 32) : Nat) : Int)), (42, .int .u64 ((((x / 2 ^ 32) * (y / 2 ^ 32) % 18446744073709551616) : Nat) : Int)), (41, .int .u64 (((y / 2 ^ 32) : Nat) : Int)), (40, .int .u64 (((x / 2 ^ 32) : Nat) : Int)), (12, .int .u64 (((((((((x / 2 ^ 32) * (y &&& 4294967295) % 18446744073709551616) + (((x &&& 4294967295) * (y &&& 4294967295) % 18446744073709551616) / 2 ^ 32)) % 18446744073709551616) &&& 4294967295) + ((x &&& 4294967295) * (y / 2 ^ 32) % 18446744073709551616)) % 18446744073709551616) : Nat) : Int)), (13, .int .u64 (((((((x / 2 ^ 32) * (y &&& 4294967295) % 18446744073709551616) + (((x &&& 4294967295) * (y &&& 4294967295) % 18446744073709551616) / 2 ^ 32)) % 18446744073709551616) / 2 ^ 32) : Nat) : Int)), (11, .int .u64 ((((((x / 2 ^ 32) * (y &&& 4294967295) % 18446744073709551616) + (((x &&& 4294967295) * (y &&& 4294967295) % 18446744073709551616) / 2 ^ 32)) % 18446744073709551616) : Nat) : Int)), (10, .int .u64 ((((x &&& 4294967295) * (y &&& 4294967295) % 18446744073709551616) : Nat) : Int)), (9, .int .u64 (((y / 2 ^ 32) : Nat) : Int)), (8, .int .u64 (((y &&& 4294967295) : Nat) : Int)), (7, .int .u64 (((x / 2 ^ 32) : Nat) : Int)), (6, .int .u64 (((x &&& 4294967295) : Nat) : Int)), (5, .int .u64 0), (4, .int .u64 0), (0, .int .u64 ((x : Nat) : Int)), (1, .int .u64 ((y : Nat) : Int))]) (cs := [(((((((x / 2 ^ 32) * (y &&& 4294967295) % 18446744073709551616) + (((x &&& 4294967295) * (y &&& 4294967295) % 18446744073709551616) / 2 ^ 32)) % 18446744073709551616) &&& 4294967295) + ((x &&& 4294967295) * (y / 2 ^ 32) % 18446744073709551616)) % 18446744073709551616) < 18446744073709551616]) (by kernel_rfl) rfl (And.intro (by first | omega | (have := Nat.and_le_right (n := x) (m := 4294967295); omega)) trivial) ?_
  intro a52 hF53; clear hF49 a47
  have hF54 := hF53.pick [4, 12, 13, 11, 10, 9, 8, 7, 6, 5, 0, 1] (G := [(4, .int .u64 ((((((((x / 2 ^ 32) * (y / 2 ^ 32) % 18446744073709551616) + (((((x / 2 ^ 32) * (y &&& 4294967295) % 18446744073709551616) + (((x &&& 4294967295) * (y &&& 4294967295) % 18446744073709551616) / 2 ^ 32)) % 18446744073709551616) / 2 ^ 32)) % 18446744073709551616) + ((((((((x / 2 ^ 32) * (y &&& 4294967295) % 18446744073709551616) + (((x &&& 4294967295) * (y &&& 4294967295) % 18446744073709551616) / 2 ^ 32)) % 18446744073709551616) &&& 4294967295) + ((x &&& 4294967295) * (y / 2 ^ 32) % 18446744073709551616)) % 18446744073709551616) / 2 ^ 32)) % 18446744073709551616) : Nat) : Int)), (12, .int .u64 (((((((((x / 2 ^ 32) * (y &&& 4294967295) % 18446744073709551616) + (((x &&& 4294967295) * (y &&& 4294967295) % 18446744073709551616) / 2 ^ 32)) % 18446744073709551616) &&& 4294967295) + ((x &&& 4294967295) * (y / 2 ^ 32) % 18446744073709551616)) % 18446744073709551616) : Nat) : Int)), (13, .int .u64 (((((((x / 2 ^ 32) * (y &&& 4294967295) % 18446744073709551616) + (((x &&& 4294967295) * (y &&& 4294967295) % 18446744073709551616) / 2 ^ 32)) % 18446744073709551616) / 2 ^ 32) : Nat) : Int)), (11, .int .u64 ((((((x / 2 ^ 32) * (y &&& 4294967295) % 18446744073709551616) + (((x &&& 4294967295) * (y &&& 4294967295) % 18446744073709551616) / 2 ^ 32)) % 18446744073709551616) : Nat) : Int)), (10, .int .u64 ((((x &&& 4294967295) * (y &&& 4294967295) % 18446744073709551616) : Nat) : Int)), (9, .int .u64 (((y / 2 ^ 32) : Nat) : Int)), (8, .int .u64 (((y &&& 4294967295) : Nat) : Int)), (7, .int .u64 (((x / 2 ^ 32) : Nat) : Int)), (6, .int .u64 (((x &&& 4294967295) : Nat) : Int)), (5, .int .u64 0), (0, .int .u64 ((x : Nat) : Int)), (1, .int .u64 ((y : Nat) : Int))]) (by kernel_rfl); clear hF53
  refine hK51 _ _ ?_
  refine wp_seq_k (fun K55 hK56 => ?_)
  refine wp_region_lit ?_
  refine pures_end hT 4 _ hF54 (F' := [(5, .int .u64 (((x * y % 18446744073709551616) : Nat) : Int)), (50, .int .u64 (((x * y % 18446744073709551616) : Nat) : Int)), (49, .int .u64 ((y : Nat) : Int)), (48, .int .u64 ((x : Nat) : Int)), (4, .int .u64 ((((((((x / 2 ^ 32) * (y / 2 ^ 32) % 18446744073709551616) + (((((x / 2 ^ 32) * (y &&& 4294967295) % 18446744073709551616) + (((x &&& 4294967295) * (y &&& 4294967295) % 18446744073709551616) / 2 ^ 32)) % 18446744073709551616) / 2 ^ 32)) % 18446744073709551616) + ((((((((x / 2 ^ 32) * (y &&& 4294967295) % 18446744073709551616) + (((x &&& 4294967295) * (y &&& 4294967295) % 18446744073709551616) / 2 ^ 32)) % 18446744073709551616) &&& 4294967295) + ((x &&& 4294967295) * (y / 2 ^ 32) % 18446744073709551616)) % 18446744073709551616) / 2 ^ 32)) % 18446744073709551616) : Nat) : Int)), (12, .int .u64 (((((((((x / 2 ^ 32) * (y &&& 4294967295) % 18446744073709551616) + (((x &&& 4294967295) * (y &&& 4294967295) % 18446744073709551616) / 2 ^ 32)) % 18446744073709551616) &&& 4294967295) + ((x &&& 4294967295) * (y / 2 ^ 32) % 18446744073709551616)) % 18446744073709551616) : Nat) : Int)), (13, .int .u64 (((((((x / 2 ^ 32) * (y &&& 4294967295) % 18446744073709551616) + (((x &&& 4294967295) * (y &&& 4294967295) % 18446744073709551616) / 2 ^ 32)) % 18446744073709551616) / 2 ^ 32) : Nat) : Int)), (11, .int .u64 ((((((x / 2 ^ 32) * (y &&& 4294967295) % 18446744073709551616) + (((x &&& 4294967295) * (y &&& 4294967295) % 18446744073709551616) / 2 ^ 32)) % 18446744073709551616) : Nat) : Int)), (10, .int .u64 ((((x &&& 4294967295) * (y &&& 4294967295) % 18446744073709551616) : Nat) : Int)), (9, .int .u64 (((y / 2 ^ 32) : Nat) : Int)), (8, .int .u64 (((y &&& 4294967295) : Nat) : Int)), (7, .int .u64 (((x / 2 ^ 32) : Nat) : Int)), (6, .int .u64 (((x &&& 4294967295) : Nat) : Int)), (5, .int .u64 0), (0, .int .u64 ((x : Nat) : Int)), (1, .int .u64 ((y : Nat) : Int))]) (cs := []) (by kernel_rfl) rfl trivial ?_
  intro a57 hF58; clear hF54 a52
  have hF59 := hF58.pick [5, 4, 12, 13, 11, 10, 9, 8, 7, 6, 0, 1] (G := [(5, .int .u64 (((x * y % 18446744073709551616) : Nat) : Int)), (4, .int .u64 ((((((((x / 2 ^ 32) * (y / 2 ^ 32) % 18446744073709551616) + (((((x / 2 ^ 32) * (y &&& 4294967295) % 18446744073709551616) + (((x &&& 4294967295) * (y &&& 4294967295) % 18446744073709551616) / 2 ^ 32)) % 18446744073709551616) / 2 ^ 32)) % 18446744073709551616) + ((((((((x / 2 ^ 32) * (y &&& 4294967295) % 18446744073709551616) + (((x &&& 4294967295) * (y &&& 4294967295) % 18446744073709551616) / 2 ^ 32)) % 18446744073709551616) &&& 4294967295) + ((x &&& 4294967295) * (y / 2 ^ 32) % 18446744073709551616)) % 18446744073709551616) / 2 ^ 32)) % 18446744073709551616) : Nat) : Int)), (12, .int .u64 (((((((((x / 2 ^ 32) * (y &&& 4294967295) % 18446744073709551616) + (((x &&& 4294967295) * (y &&& 4294967295) % 18446744073709551616) / 2 ^ 32)) % 18446744073709551616) &&& 4294967295) + ((x &&& 4294967295) * (y / 2 ^ 32) % 18446744073709551616)) % 18446744073709551616) : Nat) : Int)), (13, .int .u64 (((((((x / 2 ^ 32) * (y &&& 4294967295) % 18446744073709551616) + (((x &&& 4294967295) * (y &&& 4294967295) % 18446744073709551616) / 2 ^ 32)) % 18446744073709551616) / 2 ^ 32) : Nat) : Int)), (11, .int .u64 ((((((x / 2 ^ 32) * (y &&& 4294967295) % 18446744073709551616) + (((x &&& 4294967295) * (y &&& 4294967295) % 18446744073709551616) / 2 ^ 32)) % 18446744073709551616) : Nat) : Int)), (10, .int .u64 ((((x &&& 4294967295) * (y &&& 4294967295) % 18446744073709551616) : Nat) : Int)), (9, .int .u64 (((y / 2 ^ 32) : Nat) : Int)), (8, .int .u64 (((y &&& 4294967295) : Nat) : Int)), (7, .int .u64 (((x / 2 ^ 32) : Nat) : Int)), (6, .int .u64 (((x &&& 4294967295) : Nat) : Int)), (0, .int .u64 ((x : Nat) : Int)), (1, .int .u64 ((y : Nat) : Int))]) (by kernel_rfl); clear hF58
  refine hK56 _ _ ?_
  refine wp_ret ?_
  refine ret2 hF59 rfl (v := .int .u64 ((((((((x / 2 ^ 32) * (y / 2 ^ 32) % 18446744073709551616) + (((((x / 2 ^ 32) * (y &&& 4294967295) % 18446744073709551616) + (((x &&& 4294967295) * (y &&& 4294967295) % 18446744073709551616) / 2 ^ 32)) % 18446744073709551616) / 2 ^ 32)) % 18446744073709551616) + ((((((((x / 2 ^ 32) * (y &&& 4294967295) % 18446744073709551616) + (((x &&& 4294967295) * (y &&& 4294967295) % 18446744073709551616) / 2 ^ 32)) % 18446744073709551616) &&& 4294967295) + ((x &&& 4294967295) * (y / 2 ^ 32) % 18446744073709551616)) % 18446744073709551616) / 2 ^ 32)) % 18446744073709551616) : Nat) : Int)) (v2 := .int .u64 (((x * y % 18446744073709551616) : Nat) : Int)) (by kernel_rfl) (by kernel_rfl) ?_
  exact ⟨by rw [mul64_hi hx hy], HE⟩

theorem nums_trim (A : Option Addr) (n c : Nat) (xs : List Nat) (w : World) (hn : xs.length = n) (hR : Rd w A (vs .u64 xs)) (hc : n ≤ c) (hl : n ≤ 1152921504606846976) :
    Calls Try.prog 48 [.slice A n c].toArray w (Ret fun v w' => v = .slice A (tlen xs) c ∧ Ex w w') := by
  refine enter Try.func48 rfl (n := 21) Try.ntmps48 (by simp) ?_
  intro a hF
  have HE : Ex w w := Ex.refl w
  refine wp_seq_k (fun K1 hK2 => ?_)
  refine wp_region_lit ?_
  refine pures_end hT 1 _ hF (F' := [(2, .slice none 0 0), (0, .slice A n c)]) (cs := []) (by kernel_rfl) rfl trivial ?_
  intro a3 hF4; clear hF a
  refine hK2 _ _ ?_
  refine wp_seq_k (fun K5 hK6 => ?_)
  have hK7 : ∀ (a : Act) (W : World), (∃ (k : Nat), (Fr 21 a [(0, .slice A k c)]) ∧ (Ex w W) ∧ (tlen xs = k)) → K5 a W := by
    clear hF4 HE
    rintro a8 w9 ⟨k, hF10, HE, hk⟩
    refine hK6 _ _ ?_
    refine wp_seq_k (fun K11 hK12 => ?_)
    refine wp_region_lit ?_
    refine pures_end hT 2 _ hF10 (F' := [(2, .slice A k c), (20, .slice A k c), (0, .slice A k c)]) (cs := []) (by kernel_rfl) rfl trivial ?_
    intro a13 hF14; clear hF10 a8
    have hF15 := hF14.pick [2, 0] (G := [(2, .slice A k c), (0, .slice A k c)]) (by kernel_rfl); clear hF14
    refine hK12 _ _ ?_
    refine wp_ret ?_
    refine ret1 hF15 rfl (v := .slice A k c) (by kernel_rfl) ?_
    exact ⟨by rw [hk], HE⟩
  clear hK6
  refine wp_block ?_
  refine loopK (fun mm_ a W => ∃ (k : Nat), (k) = mm_ ∧ (Fr 21 a [(0, .slice A k c)]) ∧ (Ex w W) ∧ (k ≤ xs.length) ∧ (∀ j, k ≤ j → xs.getD j 0 = 0)) _ ⟨n, rfl, hF4.pick [0] (by kernel_rfl), HE, (by omega), (fun j hj => getD_ge (by omega))⟩ ?_
  clear hF4 HE
  rintro mm_ a16 w17 ⟨k, rfl, hF20, HE, hk, hz⟩ K18 hK19
  refine wp_seq_k (fun K21 hK22 => ?_)
  refine wp_seq_k (fun K23 hK24 => ?_)
  refine wp_region_lit ?_
  refine pures hT 4 _ hF20 (F' := [(6, .bool ((decide (0 < ((k : Nat) : Int))))), (5, .bool ((decide (0 < ((k : Nat) : Int))))), (4, .int .i64 ((k : Nat) : Int)), (3, .slice A k c), (0, .slice A k c)]) (cs := []) (by kernel_rfl) trivial ?_
  intro a25 hF26; clear hF20 a16
  rcases dec_cases (0 < ((k : Nat) : Int)) with ⟨h27, e28⟩ | ⟨h27, e28⟩
  · rw [e28] at hF26; clear e28
    refine pures hT 4 _ hF26 (F' := [(10, .int .i64 (((k : Nat) : Int) - 1)), (9, .int .i64 ((k : Nat) : Int)), (8, .slice A k c), (7, .slice A k c), (6, .bool true), (5, .bool true), (4, .int .i64 ((k : Nat) : Int)), (3, .slice A k c), (0, .slice A k c)]) (cs := [-9223372036854775808 ≤ (((k : Nat) : Int) - 1), (((k : Nat) : Int) - 1) ≤ 9223372036854775807]) (by kernel_rfl) (And.intro (by omega) (And.intro (by omega) trivial)) ?_
    intro a29 hF30; clear hF26 a25
    rw [show (((k : Nat) : Int) - 1) = (((k - 1) : Nat) : Int) from by omega] at hF30
    refine pures hT 1 _ hF30 (F' := [(11, .pointer (some ⟨(ablk A), ((aoff A) + (k - 1)), none⟩)), (10, .int .i64 (((k - 1) : Nat) : Int)), (9, .int .i64 ((k : Nat) : Int)), (8, .slice A k c), (7, .slice A k c), (6, .bool true), (5, .bool true), (4, .int .i64 ((k : Nat) : Int)), (3, .slice A k c), (0, .slice A k c)]) (cs := [0 ≤ (((k - 1) : Nat) : Int), (((k - 1) : Nat) : Int) < ((k : Nat) : Int), A = some ⟨ablk A, aoff A, none⟩]) (by kernel_rfl) (And.intro (by omega) (And.intro (by omega) (And.intro ((hR.ex HE).some' (by (first | (simp only [vs_length, vi_length]; omega) | (simp; omega) | omega))) trivial))) ?_
    intro a31 hF32; clear hF30 a29
    refine wl (One.bare hF32 (by kernel_rfl) (s_load hT (d := 12) (A := ⟨(ablk A), ((aoff A) + (k - 1)), none⟩) (by kernel_rfl) hF32 ((hR.ex HE).cells.at (vs_get .u64 xs (i := (k - 1)) (by omega)) rfl) ?_))
    rintro a33 ha35 hF34; clear ha35 hF32 a31
    refine pures_end hT 2 _ hF34 (F' := [(14, .bool ((decide ((((xs.getD (k - 1) 0) : Nat) : Int) = 0)))), (13, .bool ((decide ((((xs.getD (k - 1) 0) : Nat) : Int) = 0)))), (12, .int .u64 (((xs.getD (k - 1) 0) : Nat) : Int)), (11, .pointer (some ⟨(ablk A), ((aoff A) + (k - 1)), none⟩)), (10, .int .i64 (((k - 1) : Nat) : Int)), (9, .int .i64 ((k : Nat) : Int)), (8, .slice A k c), (7, .slice A k c), (6, .bool true), (5, .bool true), (4, .int .i64 ((k : Nat) : Int)), (3, .slice A k c), (0, .slice A k c)]) (cs := []) (by kernel_rfl) rfl trivial ?_
    intro a36 hF37; clear hF34 a33
    have hF38 := hF37.pick [14, 0] (G := [(14, .bool ((decide ((((xs.getD (k - 1) 0) : Nat) : Int) = 0)))), (0, .slice A k c)]) (by kernel_rfl); clear hF37
    refine hK24 _ _ ?_
    refine condK hF38 (p := (((xs.getD (k - 1) 0) : Nat) : Int) = 0) (by kernel_rfl) (fun h39 => ?_) (fun h39 => ?_)
    · -- h39
      refine wp_skip ?_
      refine hK22 _ _ ?_
      refine wp_block ?_
      refine wp_region_lit ?_
      refine pures hT 4 _ hF38 (F' := [(18, .int .i64 (((k : Nat) : Int) - 1)), (17, .int .i64 ((k : Nat) : Int)), (16, .slice A k c), (15, .slice A k c), (14, .bool ((decide ((((xs.getD (k - 1) 0) : Nat) : Int) = 0)))), (0, .slice A k c)]) (cs := [-9223372036854775808 ≤ (((k : Nat) : Int) - 1), (((k : Nat) : Int) - 1) ≤ 9223372036854775807]) (by kernel_rfl) (And.intro (by omega) (And.intro (by omega) trivial)) ?_
      intro a40 hF41; clear hF38 a36
      rw [show (((k : Nat) : Int) - 1) = (((k - 1) : Nat) : Int) from by omega] at hF41
      refine wl (s_sliceLow hT (d := 19) (A := A) (m := k) (c := c) (sz := 1) (hi := (k - 1)) (by kernel_rfl) hF41 (by omega) (by omega) ?_)
      rintro a42 ha44 hF43; clear ha44 hF41 a40
      refine pures_end hT 1 _ hF43 (F' := [(0, .slice A (k - 1) c), (19, .slice A (k - 1) c), (18, .int .i64 (((k - 1) : Nat) : Int)), (17, .int .i64 ((k : Nat) : Int)), (16, .slice A k c), (15, .slice A k c), (14, .bool ((decide ((((xs.getD (k - 1) 0) : Nat) : Int) = 0)))), (0, .slice A k c)]) (cs := []) (by kernel_rfl) rfl trivial ?_
      intro a45 hF46; clear hF43 a42
      have hF47 := hF46.pick [0, 14] (G := [(0, .slice A (k - 1) c), (14, .bool ((decide ((((xs.getD (k - 1) 0) : Nat) : Int) = 0))))]) (by kernel_rfl); clear hF46
      refine hK19 _ _ _ (by omega) ⟨(k - 1), rfl, hF47.pick [0] (by kernel_rfl), HE, (by omega), (trim_step hz (by omega))⟩
    · -- h39
      refine wp_exit ?_
      exact hK7 _ _ ⟨k, hF38.pick [0] (by kernel_rfl), HE, (tlen_spec xs k hk hz (.inr (by omega)))⟩
  · rw [e28] at hF26; clear e28
    refine pures_end hT 8 _ hF26 (F' := [(14, .bool false), (13, undef), (12, undef), (11, undef), (10, undef), (9, undef), (8, undef), (7, undef), (6, .bool false), (5, .bool false), (4, .int .i64 ((k : Nat) : Int)), (3, .slice A k c), (0, .slice A k c)]) (cs := []) (by kernel_rfl) rfl trivial ?_
    intro a48 hF49; clear hF26 a25
    have hF50 := hF49.pick [14, 0] (G := [(14, .bool false), (0, .slice A k c)]) (by kernel_rfl); clear hF49
    refine hK24 _ _ ?_
    refine condF hF50 (by kernel_rfl) ?_
    refine wp_exit ?_
    exact hK7 _ _ ⟨k, hF50.pick [0] (by kernel_rfl), HE, (tlen_spec xs k hk hz (.inl (by omega)))⟩

theorem nums_at (A : Option Addr) (n c : Nat) (xs : List Nat) (i : Nat) (w : World) (hn : xs.length = n) (hR : Rd w A (vs .u64 xs)) :
    Calls Try.prog 43 [.slice A n c, .int .i64 ((i : Nat) : Int)].toArray w (Ret fun v w' => v = .int .u64 ((xs.getD i 0 : Nat) : Int) ∧ Ex w w') := by
  refine enter Try.func43 rfl (n := 13) Try.ntmps43 (by simp) ?_
  intro a hF
  have HE : Ex w w := Ex.refl w
  refine wp_seq_k (fun K1 hK2 => ?_)
  refine wp_region_lit ?_
  refine pures_end hT 1 _ hF (F' := [(4, .int .u64 0), (0, .slice A n c), (1, .int .i64 ((i : Nat) : Int))]) (cs := []) (by kernel_rfl) rfl trivial ?_
  intro a3 hF4; clear hF a
  refine hK2 _ _ ?_
  refine wp_seq_k (fun K5 hK6 => ?_)
  refine wp_seq_k (fun K7 hK8 => ?_)
  refine wp_region_lit ?_
  refine pures_end hT 4 _ hF4 (F' := [(8, .bool ((decide (((i : Nat) : Int) < ((n : Nat) : Int))))), (7, .int .i64 ((n : Nat) : Int)), (6, .slice A n c), (5, .int .i64 ((i : Nat) : Int)), (4, .int .u64 0), (0, .slice A n c), (1, .int .i64 ((i : Nat) : Int))]) (cs := []) (by kernel_rfl) rfl trivial ?_
  intro a9 hF10; clear hF4 a3
  have hF11 := hF10.pick [8, 4, 0, 1] (G := [(8, .bool ((decide (((i : Nat) : Int) < ((n : Nat) : Int))))), (4, .int .u64 0), (0, .slice A n c), (1, .int .i64 ((i : Nat) : Int))]) (by kernel_rfl); clear hF10
  refine hK8 _ _ ?_
  refine condK hF11 (p := ((i : Nat) : Int) < ((n : Nat) : Int)) (by kernel_rfl) (fun h12 => ?_) (fun h12 => ?_)
  · -- h12
    refine wp_seq_k (fun K13 hK14 => ?_)
    refine wp_region_lit ?_
    refine pures hT 3 _ hF11 (F' := [(11, .pointer (some ⟨(ablk A), ((aoff A) + i), none⟩)), (10, .int .i64 ((i : Nat) : Int)), (9, .slice A n c), (8, .bool ((decide (((i : Nat) : Int) < ((n : Nat) : Int))))), (4, .int .u64 0), (0, .slice A n c), (1, .int .i64 ((i : Nat) : Int))]) (cs := [0 ≤ ((i : Nat) : Int), ((i : Nat) : Int) < ((n : Nat) : Int), A = some ⟨ablk A, aoff A, none⟩]) (by kernel_rfl) (And.intro (by omega) (And.intro (by omega) (And.intro (hR.some' (by (first | (simp only [vs_length, vi_length]; omega) | (simp; omega) | omega))) trivial))) ?_
    intro a15 hF16; clear hF11 a9
    refine wl (s_load hT (d := 12) (A := ⟨(ablk A), ((aoff A) + i), none⟩) (by kernel_rfl) hF16 (hR.cells.at (vs_get .u64 xs (i := i) (by omega)) rfl) ?_)
    rintro a17 ha19 hF18; clear ha19 hF16 a15
    refine pures_end hT 1 _ hF18 (F' := [(4, .int .u64 (((xs.getD i 0) : Nat) : Int)), (12, .int .u64 (((xs.getD i 0) : Nat) : Int)), (11, .pointer (some ⟨(ablk A), ((aoff A) + i), none⟩)), (10, .int .i64 ((i : Nat) : Int)), (9, .slice A n c), (8, .bool ((decide (((i : Nat) : Int) < ((n : Nat) : Int))))), (4, .int .u64 0), (0, .slice A n c), (1, .int .i64 ((i : Nat) : Int))]) (cs := []) (by kernel_rfl) rfl trivial ?_
    intro a20 hF21; clear hF18 a17
    have hF22 := hF21.pick [4, 8, 0, 1] (G := [(4, .int .u64 (((xs.getD i 0) : Nat) : Int)), (8, .bool ((decide (((i : Nat) : Int) < ((n : Nat) : Int))))), (0, .slice A n c), (1, .int .i64 ((i : Nat) : Int))]) (by kernel_rfl); clear hF21
    refine hK14 _ _ ?_
    refine wp_ret ?_
    refine ret1 hF22 rfl (v := .int .u64 (((xs.getD i 0) : Nat) : Int)) (by kernel_rfl) ?_
    exact ⟨rfl, HE⟩
  · -- h12
    refine wp_skip ?_
    refine hK6 _ _ ?_
    refine wp_seq_k (fun K23 hK24 => ?_)
    refine wp_region_lit ?_
    refine pures_end hT 1 _ hF11 (F' := [(4, .int .u64 0), (8, .bool ((decide (((i : Nat) : Int) < ((n : Nat) : Int))))), (4, .int .u64 0), (0, .slice A n c), (1, .int .i64 ((i : Nat) : Int))]) (cs := []) (by kernel_rfl) rfl trivial ?_
    intro a25 hF26; clear hF11 a9
    have hF27 := hF26.pick [4, 8, 0, 1] (G := [(4, .int .u64 0), (8, .bool ((decide (((i : Nat) : Int) < ((n : Nat) : Int))))), (0, .slice A n c), (1, .int .i64 ((i : Nat) : Int))]) (by kernel_rfl); clear hF26
    refine hK24 _ _ ?_
    refine wp_ret ?_
    refine ret1 hF27 rfl (v := .int .u64 0) (by kernel_rfl) ?_
    exact ⟨by rw [getD_ge (by omega)]; rfl, HE⟩

theorem nums_read (A : Option Addr) (n c : Nat) (xs : List Nat) (w : World) (hn : xs.length = n) (hR : Rd w A (vs .u8 xs)) (hb : By xs) (hl : n ≤ 1099511627776) :
    Calls Try.prog 37 [.slice A n c].toArray w (Ret fun v w' => ∃ A' c', v = .slice A' (dig 18446744073709551616 (nv 256 xs)).length c' ∧ Ex w w' ∧ Own w' w.heap.size 47 1 A' (dig 18446744073709551616 (nv 256 xs)).length c' (vs .u64 (dig 18446744073709551616 (nv 256 xs)))) := by
  refine enter Try.func37 rfl (n := 34) Try.ntmps37 (by simp) ?_
  intro a hF
  have HE : Ex w w := Ex.refl w
  refine wp_seq_k (fun K1 hK2 => ?_)
  refine wp_region_lit ?_
  refine pures_end hT 1 _ hF (F' := [(2, .slice none 0 0), (0, .slice A n c)]) (cs := []) (by kernel_rfl) rfl trivial ?_
  intro a3 hF4; clear hF a
  refine hK2 _ _ ?_
  refine wp_seq_k (fun K5 hK6 => ?_)
  refine wp_region_lit ?_
  refine pures hT 4 _ hF4 (F' := [(9, .int .i64 ((((n + 7) / 8) : Nat) : Int)), (8, .int .i64 (((n + 7) : Nat) : Int)), (7, .int .i64 ((n : Nat) : Int)), (6, .slice A n c), (2, .slice none 0 0), (0, .slice A n c)]) (cs := [-9223372036854775808 ≤ (((n + 7) : Nat) : Int), (((n + 7) : Nat) : Int) ≤ 9223372036854775807, 0 ≤ (((n + 7) : Nat) : Int), (((n + 7) : Nat) : Int) ≤ 9223372036854775807, 0 < (8 : Int)]) (by kernel_rfl) (And.intro (by omega) (And.intro (by omega) (And.intro (by omega) (And.intro (by omega) (And.intro (by omega) trivial))))) ?_
  intro a7 hF8; clear hF4 a3
  have hz13 := HE.size
  refine wl (s_make hT (d := 10) (T := 47) (m := ((n + 7) / 8)) (i := tr47) (by kernel_rfl) (by intro t x y h; cases h; rfl) hF8 (by show ((n + 7) / 8) * 8 ≤ 281474976710656; omega) (by simp only [maxLen]; omega) ?_)
  rintro a14 w9 A12 HO11 g10 ha16 hF15; clear ha16 hF8 a7
  replace HO11 : Own w9 w.heap.size 47 1 A12 ((n + 7) / 8) ((n + 7) / 8) (vs .u64 (List.replicate ((n + 7) / 8) 0)) := (made_vs HO11 rfl rfl)
  replace HE := HE.thenN g10
  refine pures_end hT 1 _ hF15 (F' := [(3, .slice A12 ((n + 7) / 8) ((n + 7) / 8)), (10, .slice A12 ((n + 7) / 8) ((n + 7) / 8)), (9, .int .i64 ((((n + 7) / 8) : Nat) : Int)), (8, .int .i64 (((n + 7) : Nat) : Int)), (7, .int .i64 ((n : Nat) : Int)), (6, .slice A n c), (2, .slice none 0 0), (0, .slice A n c)]) (cs := []) (by kernel_rfl) rfl trivial ?_
  intro a17 hF18; clear hF15 a14
  have hF19 := hF18.pick [3, 2, 0] (G := [(3, .slice A12 ((n + 7) / 8) ((n + 7) / 8)), (2, .slice none 0 0), (0, .slice A n c)]) (by kernel_rfl); clear hF18
  refine hK6 _ _ ?_
  refine wp_seq_k (fun K20 hK21 => ?_)
  refine wp_seq_k (fun K22 hK23 => ?_)
  refine wp_region_lit ?_
  refine pures_end hT 3 _ hF19 (F' := [(13, .int .i64 0), (12, .int .i64 ((n : Nat) : Int)), (11, .slice A n c), (3, .slice A12 ((n + 7) / 8) ((n + 7) / 8)), (2, .slice none 0 0), (0, .slice A n c)]) (cs := []) (by kernel_rfl) rfl trivial ?_
  intro a24 hF25; clear hF19 a17
  refine hK23 _ _ ?_
  refine wp_block ?_
  refine loopK (fun mm_ a W => ∃ (k : Nat), ∃ (out : List Nat), (n - k) = mm_ ∧ (Fr 34 a [(0, .slice A n c), (3, .slice A12 ((n + 7) / 8) ((n + 7) / 8)), (11, .slice A n c), (12, .int .i64 ((n : Nat) : Int)), (13, .int .i64 ((k : Nat) : Int))]) ∧ (Ex w W) ∧ (Own W (w.heap.size) 47 1 A12 ((n + 7) / 8) ((n + 7) / 8) (vs .u64 out)) ∧ (k ≤ n) ∧ (out.length = (xs.length + 7) / 8) ∧ (∀ x, x ∈ out → x < 18446744073709551616) ∧ (nv 18446744073709551616 out = nv 256 (xs.take k))) _ ⟨0, (List.replicate ((n + 7) / 8) 0), rfl, hF25.pick [0, 3, 11, 12, 13] (by kernel_rfl), HE, HO11, (by omega), (by simp [hn]), (by intro x hx; rw [(List.mem_replicate.1 hx).2]; decide), (by rw [nv_replicate]; rfl)⟩ ?_
  clear hF25 HE HO11
  rintro mm_ a26 w27 ⟨k, out, rfl, hF30, HE, HO11, hk, hol, hob, hv⟩ K28 hK29
  refine wp_seq_k (fun K31 hK32 => ?_)
  refine wp_region_lit ?_
  refine pures_end hT 1 _ hF30 (F' := [(14, .bool ((decide (((k : Nat) : Int) < ((n : Nat) : Int))))), (0, .slice A n c), (3, .slice A12 ((n + 7) / 8) ((n + 7) / 8)), (11, .slice A n c), (12, .int .i64 ((n : Nat) : Int)), (13, .int .i64 ((k : Nat) : Int))]) (cs := []) (by kernel_rfl) rfl trivial ?_
  intro a33 hF34; clear hF30 a26
  refine hK32 _ _ ?_
  refine wp_seq_k (fun K35 hK36 => ?_)
  refine condK hF34 (p := ((k : Nat) : Int) < ((n : Nat) : Int)) (by kernel_rfl) (fun h37 => ?_) (fun h37 => ?_)
  · -- h37
    refine wp_skip ?_
    refine hK36 _ _ ?_
    refine wp_seq_k (fun K38 hK39 => ?_)
    refine wp_block ?_
    refine wp_seq_k (fun K40 hK41 => ?_)
    refine wp_region_lit ?_
    refine pures hT 2 _ hF34 (F' := [(16, .pointer (some ⟨(ablk A), ((aoff A) + k), none⟩)), (15, .int .i64 ((k : Nat) : Int)), (14, .bool ((decide (((k : Nat) : Int) < ((n : Nat) : Int))))), (0, .slice A n c), (3, .slice A12 ((n + 7) / 8) ((n + 7) / 8)), (11, .slice A n c), (12, .int .i64 ((n : Nat) : Int)), (13, .int .i64 ((k : Nat) : Int))]) (cs := [0 ≤ ((k : Nat) : Int), ((k : Nat) : Int) < ((n : Nat) : Int), A = some ⟨ablk A, aoff A, none⟩]) (by kernel_rfl) (And.intro (by omega) (And.intro (by omega) (And.intro ((hR.ex HE).some' (by (first | (simp only [vs_length, vi_length]; omega) | (simp; omega) | omega))) trivial))) ?_
    intro a42 hF43; clear hF34 a33
    refine wl (s_load hT (d := 17) (A := ⟨(ablk A), ((aoff A) + k), none⟩) (by kernel_rfl) hF43 ((hR.ex HE).cells.at (vs_get .u8 xs (i := k) (by omega)) rfl) ?_)
    rintro a44 ha46 hF45; clear ha46 hF43 a42
    refine pures_end hT 2 _ hF45 (F' := [(5, .int .u8 (((xs.getD k 0) : Nat) : Int)), (4, .int .i64 ((k : Nat) : Int)), (17, .int .u8 (((xs.getD k 0) : Nat) : Int)), (16, .pointer (some ⟨(ablk A), ((aoff A) + k), none⟩)), (15, .int .i64 ((k : Nat) : Int)), (14, .bool ((decide (((k : Nat) : Int) < ((n : Nat) : Int))))), (0, .slice A n c), (3, .slice A12 ((n + 7) / 8) ((n + 7) / 8)), (11, .slice A n c), (12, .int .i64 ((n : Nat) : Int)), (13, .int .i64 ((k : Nat) : Int))]) (cs := []) (by kernel_rfl) rfl trivial ?_
    intro a47 hF48; clear hF45 a44
    have hF49 := hF48.pick [5, 4, 14, 0, 3, 11, 12, 13] (G := [(5, .int .u8 (((xs.getD k 0) : Nat) : Int)), (4, .int .i64 ((k : Nat) : Int)), (14, .bool ((decide (((k : Nat) : Int) < ((n : Nat) : Int))))), (0, .slice A n c), (3, .slice A12 ((n + 7) / 8) ((n + 7) / 8)), (11, .slice A n c), (12, .int .i64 ((n : Nat) : Int)), (13, .int .i64 ((k : Nat) : Int))]) (by kernel_rfl); clear hF48
    refine hK41 _ _ ?_
    let SL_ : List SP := [SP.val (.slice A12 ((n + 7) / 8) ((n + 7) / 8)), SP.val (.int .i64 ((k : Nat) : Int)), SP.val (.int .i64 (((k / 8) : Nat) : Int)), SP.val (.pointer (some ⟨(ablk A12), ((aoff A12) + (k / 8)), none⟩)), SP.val (.int .u64 (((out.getD (k / 8) 0) : Nat) : Int)), SP.val (.int .u8 (((xs.getD k 0) : Nat) : Int)), SP.val (.int .u64 (((xs.getD k 0) : Nat) : Int)), SP.val (.int .i64 ((k : Nat) : Int)), SP.val (.int .i64 (((k % 8) : Nat) : Int)), SP.val (.int .i64 (((8 * (k % 8)) : Nat) : Int)), SP.val (.int .u64 ((((xs.getD k 0) * 2 ^ (8 * (k % 8)) % 18446744073709551616) : Nat) : Int)), SP.val (.int .u64 ((((out.getD (k / 8) 0) ||| ((xs.getD k 0) * 2 ^ (8 * (k % 8)) % 18446744073709551616)) : Nat) : Int)), SP.val (.pointer (some ⟨(ablk A12), ((aoff A12) + (k / 8)), none⟩)), SP.any]
    refine region_rel (SL := SL_) (J := (fun (b : Bool) (W : World) => (Ex w W) ∧ (match b with | true => Own W (w.heap.size) 47 1 A12 ((n + 7) / 8) ((n + 7) / 8) (vs .u64 (out.set (k / 8) ((out.getD (k / 8) 0) ||| ((xs.getD k 0) * 2 ^ (8 * (k % 8)) % 18446744073709551616)))) | false => Own W (w.heap.size) 47 1 A12 ((n + 7) / 8) ((n + 7) / 8) (vs .u64 out)))) (m := 13) (bm := (oblk A12)) wide (by kernel_rfl) (by kernel_rfl) hF49 rfl ?_ ?_ ⟨HE, HO11⟩ ⟨?_, ?_, ?_, ?_, ?_, ?_, ?_, ?_, ?_, ?_, ?_, ?_, ?_, ?_, trivial⟩ [(5, none), (4, none), (14, none), (0, none), (3, none), (11, none), (12, none), (13, none)] (by kernel_rfl) ?_
    · exact fun _ => spAt_det SL_ (by kernel_rfl)
    · intro b W W' hj g; cases b <;> exact ⟨hj.1.thenN g, hj.2.growN g⟩
    · -- operation 0
      rintro a51 w50 b53 KK59 hs55 hd56 hJ57 hb58 hr61 hK54
      have hr61x : RD SL_ a51 a47 w50 [(3, none)] := hr61 _ (by kernel_rfl)
      obtain ⟨q60, -⟩ := hr61x
      obtain rfl : b53 = false := by cases b53; rfl; exact absurd ((hb58 rfl).2 _ rfl) (by decide)
      obtain ⟨HE, HO11⟩ := hJ57
      have hF52 : Fr 34 a51 [(3, .slice A12 ((n + 7) / 8) ((n + 7) / 8))] := Fr.of hs55 hd56 ⟨(Fr.init hF49 q60 (by kernel_rfl)), trivial⟩
      refine s_pure hT (d := 18) (v := .slice A12 ((n + 7) / 8) ((n + 7) / 8)) (cs := []) (by kernel_rfl) (by kernel_rfl) trivial hF52 ?_
      rintro a2 ha2 hF2; rw [ha2]; exact hK54 _ _ rfl (grown_refl _ _)
    · -- operation 1
      rintro a63 w62 b65 KK71 hs67 hd68 hJ69 hb70 hr73 hK66
      have hr73x : RD SL_ a63 a47 w62 [(4, none)] := hr73 _ (by kernel_rfl)
      obtain ⟨q72, -⟩ := hr73x
      obtain rfl : b65 = false := by cases b65; rfl; exact absurd ((hb70 rfl).2 _ rfl) (by decide)
      obtain ⟨HE, HO11⟩ := hJ69
      have hF64 : Fr 34 a63 [(4, .int .i64 ((k : Nat) : Int))] := Fr.of hs67 hd68 ⟨(Fr.init hF49 q72 (by kernel_rfl)), trivial⟩
      refine s_pure hT (d := 19) (v := .int .i64 ((k : Nat) : Int)) (cs := []) (by kernel_rfl) (by kernel_rfl) trivial hF64 ?_
      rintro a2 ha2 hF2; rw [ha2]; exact hK66 _ _ rfl (grown_refl _ _)
    · -- operation 2
      rintro a75 w74 b77 KK83 hs79 hd80 hJ81 hb82 hr87 hK78
      have hr87x : RD SL_ a75 a47 w74 [(19, some 1)] := hr87 _ (by kernel_rfl)
      obtain ⟨⟨v85, q84, s86⟩, -⟩ := hr87x
      obtain rfl : v85 = .int .i64 ((k : Nat) : Int) := s86
      obtain rfl : b77 = false := by cases b77; rfl; exact absurd ((hb82 rfl).2 _ rfl) (by decide)
      obtain ⟨HE, HO11⟩ := hJ81
      have hF76 : Fr 34 a75 [(19, .int .i64 ((k : Nat) : Int))] := Fr.of hs79 hd80 ⟨q84, trivial⟩
      refine s_pure hT (d := 20) (v := .int .i64 (((k / 8) : Nat) : Int)) (cs := [0 ≤ ((k : Nat) : Int), ((k : Nat) : Int) ≤ 9223372036854775807, 0 < (8 : Int)]) (by kernel_rfl) (by kernel_rfl) (And.intro (by omega) (And.intro (by omega) (And.intro (by omega) trivial))) hF76 ?_
      rintro a2 ha2 hF2; rw [ha2]; exact hK78 _ _ rfl (grown_refl _ _)
    · -- operation 3
      rintro a89 w88 b91 KK97 hs93 hd94 hJ95 hb96 hr104 hK92
      have hr104x : RD SL_ a89 a47 w88 [(18, some 0), (20, some 2)] := hr104 _ (by kernel_rfl)
      obtain ⟨⟨v99, q98, s100⟩, ⟨v102, q101, s103⟩, -⟩ := hr104x
      obtain rfl : v99 = .slice A12 ((n + 7) / 8) ((n + 7) / 8) := s100
      obtain rfl : v102 = .int .i64 (((k / 8) : Nat) : Int) := s103
      obtain rfl : b91 = false := by cases b91; rfl; exact absurd ((hb96 rfl).2 _ rfl) (by decide)
      obtain ⟨HE, HO11⟩ := hJ95
      have hF90 : Fr 34 a89 [(18, .slice A12 ((n + 7) / 8) ((n + 7) / 8)), (20, .int .i64 (((k / 8) : Nat) : Int))] := Fr.of hs93 hd94 ⟨q98, q101, trivial⟩
      refine s_pure hT (d := 21) (v := .pointer (some ⟨(ablk A12), ((aoff A12) + (k / 8)), none⟩)) (cs := [0 ≤ (((k / 8) : Nat) : Int), (((k / 8) : Nat) : Int) < ((((n + 7) / 8) : Nat) : Int), A12 = some ⟨ablk A12, aoff A12, none⟩]) (by kernel_rfl) (by kernel_rfl) (And.intro (by omega) (And.intro (by omega) (And.intro (HO11.rd.some' (by (first | (simp only [vs_length, vi_length]; omega) | (simp; omega) | omega))) trivial))) hF90 ?_
      rintro a2 ha2 hF2; rw [ha2]; exact hK92 _ _ rfl (grown_refl _ _)
    · -- operation 4
      rintro a106 w105 b108 KK114 hs110 hd111 hJ112 hb113 hr118 hK109
      have hr118x : RD SL_ a106 a47 w105 [(21, some 3)] := hr118 _ (by kernel_rfl)
      obtain ⟨⟨v116, q115, s117⟩, -⟩ := hr118x
      obtain rfl : v116 = .pointer (some ⟨(ablk A12), ((aoff A12) + (k / 8)), none⟩) := s117
      obtain rfl : b108 = false := by cases b108; rfl; exact absurd ((hb113 rfl).2 _ rfl) (by decide)
      obtain ⟨HE, HO11⟩ := hJ112
      have hF107 : Fr 34 a106 [(21, .pointer (some ⟨(ablk A12), ((aoff A12) + (k / 8)), none⟩))] := Fr.of hs110 hd111 ⟨q115, trivial⟩
      refine s_load hT (d := 22) (A := ⟨(ablk A12), ((aoff A12) + (k / 8)), none⟩) (by kernel_rfl) hF107 (HO11.rd.cells.at (vs_get .u64 out (i := (k / 8)) (by omega)) rfl) ?_
      rintro a119 ha121 hF120
      rw [ha121]; exact hK109 _ _ rfl (grown_refl _ _)
    · -- operation 5
      rintro a123 w122 b125 KK131 hs127 hd128 hJ129 hb130 hr133 hK126
      have hr133x : RD SL_ a123 a47 w122 [(5, none)] := hr133 _ (by kernel_rfl)
      obtain ⟨q132, -⟩ := hr133x
      obtain rfl : b125 = false := by cases b125; rfl; exact absurd ((hb130 rfl).2 _ rfl) (by decide)
      obtain ⟨HE, HO11⟩ := hJ129
      have hF124 : Fr 34 a123 [(5, .int .u8 (((xs.getD k 0) : Nat) : Int))] := Fr.of hs127 hd128 ⟨(Fr.init hF49 q132 (by kernel_rfl)), trivial⟩
      refine s_pure hT (d := 23) (v := .int .u8 (((xs.getD k 0) : Nat) : Int)) (cs := []) (by kernel_rfl) (by kernel_rfl) trivial hF124 ?_
      rintro a2 ha2 hF2; rw [ha2]; exact hK126 _ _ rfl (grown_refl _ _)
    · -- operation 6
      rintro a135 w134 b137 KK143 hs139 hd140 hJ141 hb142 hr147 hK138
      have hr147x : RD SL_ a135 a47 w134 [(23, some 5)] := hr147 _ (by kernel_rfl)
      obtain ⟨⟨v145, q144, s146⟩, -⟩ := hr147x
      obtain rfl : v145 = .int .u8 (((xs.getD k 0) : Nat) : Int) := s146
      obtain rfl : b137 = false := by cases b137; rfl; exact absurd ((hb142 rfl).2 _ rfl) (by decide)
      obtain ⟨HE, HO11⟩ := hJ141
      have hF136 : Fr 34 a135 [(23, .int .u8 (((xs.getD k 0) : Nat) : Int))] := Fr.of hs139 hd140 ⟨q144, trivial⟩
      refine s_pure hT (d := 24) (v := .int .u64 (((xs.getD k 0) : Nat) : Int)) (cs := [(xs.getD k 0) < 18446744073709551616]) (by kernel_rfl) (by kernel_rfl) (And.intro (by have := getD_lt (by decide) hb k; omega) trivial) hF136 ?_
      rintro a2 ha2 hF2; rw [ha2]; exact hK138 _ _ rfl (grown_refl _ _)
    · -- operation 7
      rintro a149 w148 b151 KK157 hs153 hd154 hJ155 hb156 hr159 hK152
      have hr159x : RD SL_ a149 a47 w148 [(4, none)] := hr159 _ (by kernel_rfl)
      obtain ⟨q158, -⟩ := hr159x
      obtain rfl : b151 = false := by cases b151; rfl; exact absurd ((hb156 rfl).2 _ rfl) (by decide)
      obtain ⟨HE, HO11⟩ := hJ155
      have hF150 : Fr 34 a149 [(4, .int .i64 ((k : Nat) : Int))] := Fr.of hs153 hd154 ⟨(Fr.init hF49 q158 (by kernel_rfl)), trivial⟩
      refine s_pure hT (d := 25) (v := .int .i64 ((k : Nat) : Int)) (cs := []) (by kernel_rfl) (by kernel_rfl) trivial hF150 ?_
      rintro a2 ha2 hF2; rw [ha2]; exact hK152 _ _ rfl (grown_refl _ _)
    · -- operation 8
      rintro a161 w160 b163 KK169 hs165 hd166 hJ167 hb168 hr173 hK164
      have hr173x : RD SL_ a161 a47 w160 [(25, some 7)] := hr173 _ (by kernel_rfl)
      obtain ⟨⟨v171, q170, s172⟩, -⟩ := hr173x
      obtain rfl : v171 = .int .i64 ((k : Nat) : Int) := s172
      obtain rfl : b163 = false := by cases b163; rfl; exact absurd ((hb168 rfl).2 _ rfl) (by decide)
      obtain ⟨HE, HO11⟩ := hJ167
      have hF162 : Fr 34 a161 [(25, .int .i64 ((k : Nat) : Int))] := Fr.of hs165 hd166 ⟨q170, trivial⟩
      refine s_pure hT (d := 26) (v := .int .i64 (((k % 8) : Nat) : Int)) (cs := [0 ≤ ((k : Nat) : Int), 0 < (8 : Int)]) (by kernel_rfl) (by kernel_rfl) (And.intro (by omega) (And.intro (by omega) trivial)) hF162 ?_
      rintro a2 ha2 hF2; rw [ha2]; exact hK164 _ _ rfl (grown_refl _ _)
    · -- operation 9
      rintro a175 w174 b177 KK183 hs179 hd180 hJ181 hb182 hr187 hK178
      have hr187x : RD SL_ a175 a47 w174 [(26, some 8)] := hr187 _ (by kernel_rfl)
      obtain ⟨⟨v185, q184, s186⟩, -⟩ := hr187x
      obtain rfl : v185 = .int .i64 (((k % 8) : Nat) : Int) := s186
      obtain rfl : b177 = false := by cases b177; rfl; exact absurd ((hb182 rfl).2 _ rfl) (by decide)
      obtain ⟨HE, HO11⟩ := hJ181
      have hF176 : Fr 34 a175 [(26, .int .i64 (((k % 8) : Nat) : Int))] := Fr.of hs179 hd180 ⟨q184, trivial⟩
      refine s_pure hT (d := 27) (v := .int .i64 (((8 * (k % 8)) : Nat) : Int)) (cs := [-9223372036854775808 ≤ (((8 * (k % 8)) : Nat) : Int), (((8 * (k % 8)) : Nat) : Int) ≤ 9223372036854775807]) (by kernel_rfl) (by kernel_rfl) (And.intro (by omega) (And.intro (by omega) trivial)) hF176 ?_
      rintro a2 ha2 hF2; rw [ha2]; exact hK178 _ _ rfl (grown_refl _ _)
    · -- operation 10
      rintro a189 w188 b191 KK197 hs193 hd194 hJ195 hb196 hr204 hK192
      have hr204x : RD SL_ a189 a47 w188 [(24, some 6), (27, some 9)] := hr204 _ (by kernel_rfl)
      obtain ⟨⟨v199, q198, s200⟩, ⟨v202, q201, s203⟩, -⟩ := hr204x
      obtain rfl : v199 = .int .u64 (((xs.getD k 0) : Nat) : Int) := s200
      obtain rfl : v202 = .int .i64 (((8 * (k % 8)) : Nat) : Int) := s203
      obtain rfl : b191 = false := by cases b191; rfl; exact absurd ((hb196 rfl).2 _ rfl) (by decide)
      obtain ⟨HE, HO11⟩ := hJ195
      have hF190 : Fr 34 a189 [(24, .int .u64 (((xs.getD k 0) : Nat) : Int)), (27, .int .i64 (((8 * (k % 8)) : Nat) : Int))] := Fr.of hs193 hd194 ⟨q198, q201, trivial⟩
      refine s_pure hT (d := 28) (v := .int .u64 ((((xs.getD k 0) * 2 ^ (8 * (k % 8)) % 18446744073709551616) : Nat) : Int)) (cs := []) (by kernel_rfl) (by kernel_rfl) trivial hF190 ?_
      rintro a2 ha2 hF2; rw [ha2]; exact hK192 _ _ rfl (grown_refl _ _)
    · -- operation 11
      rintro a206 w205 b208 KK214 hs210 hd211 hJ212 hb213 hr221 hK209
      have hr221x : RD SL_ a206 a47 w205 [(22, some 4), (28, some 10)] := hr221 _ (by kernel_rfl)
      obtain ⟨⟨v216, q215, s217⟩, ⟨v219, q218, s220⟩, -⟩ := hr221x
      obtain rfl : v216 = .int .u64 (((out.getD (k / 8) 0) : Nat) : Int) := s217
      obtain rfl : v219 = .int .u64 ((((xs.getD k 0) * 2 ^ (8 * (k % 8)) % 18446744073709551616) : Nat) : Int) := s220
      obtain rfl : b208 = false := by cases b208; rfl; exact absurd ((hb213 rfl).2 _ rfl) (by decide)
      obtain ⟨HE, HO11⟩ := hJ212
      have hF207 : Fr 34 a206 [(22, .int .u64 (((out.getD (k / 8) 0) : Nat) : Int)), (28, .int .u64 ((((xs.getD k 0) * 2 ^ (8 * (k % 8)) % 18446744073709551616) : Nat) : Int))] := Fr.of hs210 hd211 ⟨q215, q218, trivial⟩
      refine s_pure hT (d := 29) (v := .int .u64 ((((out.getD (k / 8) 0) ||| ((xs.getD k 0) * 2 ^ (8 * (k % 8)) % 18446744073709551616)) : Nat) : Int)) (cs := [(out.getD (k / 8) 0) < 18446744073709551616, ((xs.getD k 0) * 2 ^ (8 * (k % 8)) % 18446744073709551616) < 18446744073709551616]) (by kernel_rfl) (by kernel_rfl) (And.intro (getD_lt (by decide) hob _) (And.intro (by have := getD_lt (by decide) hb k; omega) trivial)) hF207 ?_
      rintro a2 ha2 hF2; rw [ha2]; exact hK209 _ _ rfl (grown_refl _ _)
    · -- operation 12
      rintro a223 w222 b225 KK231 hs227 hd228 hJ229 hb230 hr238 hK226
      have hr238x : RD SL_ a223 a47 w222 [(18, some 0), (20, some 2)] := hr238 _ (by kernel_rfl)
      obtain ⟨⟨v233, q232, s234⟩, ⟨v236, q235, s237⟩, -⟩ := hr238x
      obtain rfl : v233 = .slice A12 ((n + 7) / 8) ((n + 7) / 8) := s234
      obtain rfl : v236 = .int .i64 (((k / 8) : Nat) : Int) := s237
      obtain rfl : b225 = false := by cases b225; rfl; exact absurd ((hb230 rfl).2 _ rfl) (by decide)
      obtain ⟨HE, HO11⟩ := hJ229
      have hF224 : Fr 34 a223 [(18, .slice A12 ((n + 7) / 8) ((n + 7) / 8)), (20, .int .i64 (((k / 8) : Nat) : Int))] := Fr.of hs227 hd228 ⟨q232, q235, trivial⟩
      refine s_pure hT (d := 30) (v := .pointer (some ⟨(ablk A12), ((aoff A12) + (k / 8)), none⟩)) (cs := [0 ≤ (((k / 8) : Nat) : Int), (((k / 8) : Nat) : Int) < ((((n + 7) / 8) : Nat) : Int), A12 = some ⟨ablk A12, aoff A12, none⟩]) (by kernel_rfl) (by kernel_rfl) (And.intro (by omega) (And.intro (by omega) (And.intro (HO11.rd.some' (by (first | (simp only [vs_length, vi_length]; omega) | (simp; omega) | omega))) trivial))) hF224 ?_
      rintro a2 ha2 hF2; rw [ha2]; exact hK226 _ _ rfl (grown_refl _ _)
    · -- operation 13
      rintro a240 w239 b242 KK248 hs244 hd245 hJ246 hb247 hr255 hK243
      have hr255x : RD SL_ a240 a47 w239 [(30, some 12), (29, some 11)] := hr255 _ (by kernel_rfl)
      obtain ⟨⟨v250, q249, s251⟩, ⟨v253, q252, s254⟩, -⟩ := hr255x
      obtain rfl : v250 = .pointer (some ⟨(ablk A12), ((aoff A12) + (k / 8)), none⟩) := s251
      obtain rfl : v253 = .int .u64 ((((out.getD (k / 8) 0) ||| ((xs.getD k 0) * 2 ^ (8 * (k % 8)) % 18446744073709551616)) : Nat) : Int) := s254
      obtain rfl : b242 = false := by cases b242; rfl; exact absurd rfl (hb247 rfl).1
      obtain ⟨HE, HO11⟩ := hJ246
      have hF241 : Fr 34 a240 [(30, .pointer (some ⟨(ablk A12), ((aoff A12) + (k / 8)), none⟩)), (29, .int .u64 ((((out.getD (k / 8) 0) ||| ((xs.getD k 0) * 2 ^ (8 * (k % 8)) % 18446744073709551616)) : Nat) : Int))] := Fr.of hs244 hd245 ⟨q249, q252, trivial⟩
      refine s_storeO hT (off := (k / 8)) (p := ⟨(ablk A12), ((aoff A12) + (k / 8)), none⟩) (v := .int .u64 ((((out.getD (k / 8) 0) ||| ((xs.getD k 0) * 2 ^ (8 * (k % 8)) % 18446744073709551616)) : Nat) : Int)) (by kernel_rfl) hF241 HO11 (by (first | (simp only [vs_length, vi_length]; omega) | (simp; omega) | omega)) rfl ?_
      have HO11b := HO11.base
      rintro a258 w256 ha260 hF259 HO11x g257; replace HO11 := HO11x
      rw [vs_set] at HO11
      replace HE := HE.thenR g257 (fun k hk => by have := (HO11b k hk).1; omega)
      rw [ha260]; exact hK243 undef _ trivial ⟨g257, ⟨HE, HO11⟩⟩
    · -- behind the region
      rintro a262 w263 hs264 hd265 ⟨q267, q268, q269, q270, q271, q272, q273, q274, -⟩ ⟨HE, HO11⟩
      replace HO11 : Own w263 (w.heap.size) 47 1 A12 ((n + 7) / 8) ((n + 7) / 8) (vs .u64 (out.set (k / 8) ((out.getD (k / 8) 0) ||| ((xs.getD k 0) * 2 ^ (8 * (k % 8)) % 18446744073709551616)))) := HO11
      have hF275 : Fr 34 a262 [(5, .int .u8 (((xs.getD k 0) : Nat) : Int)), (4, .int .i64 ((k : Nat) : Int)), (14, .bool ((decide (((k : Nat) : Int) < ((n : Nat) : Int))))), (0, .slice A n c), (3, .slice A12 ((n + 7) / 8) ((n + 7) / 8)), (11, .slice A n c), (12, .int .i64 ((n : Nat) : Int)), (13, .int .i64 ((k : Nat) : Int))] := Fr.of hs264 hd265 ⟨(Fr.init hF49 q267 (by kernel_rfl)), (Fr.init hF49 q268 (by kernel_rfl)), (Fr.init hF49 q269 (by kernel_rfl)), (Fr.init hF49 q270 (by kernel_rfl)), (Fr.init hF49 q271 (by kernel_rfl)), (Fr.init hF49 q272 (by kernel_rfl)), (Fr.init hF49 q273 (by kernel_rfl)), (Fr.init hF49 q274 (by kernel_rfl)), trivial⟩
      clear hF49 hs264 hd265 q267 q268 q269 q270 q271 q272 q273 q274
      refine hK39 _ _ ?_
      refine wp_region_lit ?_
      refine pures_end hT 2 _ hF275 (F' := [(13, .int .i64 (((k + 1) : Nat) : Int)), (31, .int .i64 (((k + 1) : Nat) : Int)), (5, .int .u8 (((xs.getD k 0) : Nat) : Int)), (4, .int .i64 ((k : Nat) : Int)), (14, .bool ((decide (((k : Nat) : Int) < ((n : Nat) : Int))))), (0, .slice A n c), (3, .slice A12 ((n + 7) / 8) ((n + 7) / 8)), (11, .slice A n c), (12, .int .i64 ((n : Nat) : Int)), (13, .int .i64 ((k : Nat) : Int))]) (cs := [-9223372036854775808 ≤ (((k + 1) : Nat) : Int), (((k + 1) : Nat) : Int) ≤ 9223372036854775807]) (by kernel_rfl) rfl (And.intro (by omega) (And.intro (by omega) trivial)) ?_
      intro a276 hF277; clear hF275 a262
      have hF278 := hF277.pick [13, 5, 4, 14, 0, 3, 11, 12] (G := [(13, .int .i64 (((k + 1) : Nat) : Int)), (5, .int .u8 (((xs.getD k 0) : Nat) : Int)), (4, .int .i64 ((k : Nat) : Int)), (14, .bool ((decide (((k : Nat) : Int) < ((n : Nat) : Int))))), (0, .slice A n c), (3, .slice A12 ((n + 7) / 8) ((n + 7) / 8)), (11, .slice A n c), (12, .int .i64 ((n : Nat) : Int))]) (by kernel_rfl); clear hF277
      refine hK29 _ _ _ (by omega) ⟨(k + 1), _, rfl, hF278.pick [0, 3, 11, 12, 13] (by kernel_rfl), HE, HO11, (by omega), (read_step (by omega) hb hol hv (getD_lt (by decide) hob _)).1, (set_lt hob (read_step (by omega) hb hol hv (getD_lt (by decide) hob _)).2.2 _), (read_step (by omega) hb hol hv (getD_lt (by decide) hob _)).2.1⟩
  · -- h37
    refine wp_exit ?_
    refine hK21 _ _ ?_
    refine wp_seq_k (fun K279 hK280 => ?_)
    have hkn : k = n := by omega
    refine wp_region_lit ?_
    refine pures hT 1 _ hF34 (F' := [(32, .slice A12 ((n + 7) / 8) ((n + 7) / 8)), (14, .bool ((decide (((k : Nat) : Int) < ((n : Nat) : Int))))), (0, .slice A n c), (3, .slice A12 ((n + 7) / 8) ((n + 7) / 8)), (11, .slice A n c), (12, .int .i64 ((n : Nat) : Int)), (13, .int .i64 ((k : Nat) : Int))]) (cs := []) (by kernel_rfl) trivial ?_
    intro a281 hF282; clear hF34 a33
    have hz286 := HE.size
    have hz287 := HO11.base
    refine wl (s_call (d := 33) (f := 48) (l := [.slice A12 ((n + 7) / 8) ((n + 7) / 8)]) (by kernel_rfl) hF282 cl48 (nums_trim A12 ((n + 7) / 8) ((n + 7) / 8) out _ (by first | assumption | omega | simp | decide) HO11.rd (by first | assumption | omega | simp | decide) (by first | assumption | omega | simp | decide)) ?_)
    rintro a288 w283 v284 ⟨rfl, HX285⟩ ha290 hF289; clear ha290 hF282 a281
    replace HE := HE.thenN HX285.g
    replace HO11 := HO11.growN HX285.g
    refine pures_end hT 1 _ hF289 (F' := [(2, .slice A12 (tlen out) ((n + 7) / 8)), (33, .slice A12 (tlen out) ((n + 7) / 8)), (32, .slice A12 ((n + 7) / 8) ((n + 7) / 8)), (14, .bool ((decide (((k : Nat) : Int) < ((n : Nat) : Int))))), (0, .slice A n c), (3, .slice A12 ((n + 7) / 8) ((n + 7) / 8)), (11, .slice A n c), (12, .int .i64 ((n : Nat) : Int)), (13, .int .i64 ((k : Nat) : Int))]) (cs := []) (by kernel_rfl) rfl trivial ?_
    intro a291 hF292; clear hF289 a288
    have hF293 := hF292.pick [2, 14, 0, 3, 11, 12, 13] (G := [(2, .slice A12 (tlen out) ((n + 7) / 8)), (14, .bool ((decide (((k : Nat) : Int) < ((n : Nat) : Int))))), (0, .slice A n c), (3, .slice A12 ((n + 7) / 8) ((n + 7) / 8)), (11, .slice A n c), (12, .int .i64 ((n : Nat) : Int)), (13, .int .i64 ((k : Nat) : Int))]) (by kernel_rfl); clear hF292
    refine hK280 _ _ ?_
    refine wp_ret ?_
    refine ret1 hF293 rfl (v := .slice A12 (tlen out) ((n + 7) / 8)) (by kernel_rfl) ?_
    have ht := trimL_dig (b := 18446744073709551616) (by decide) hob
    rw [hv, show xs.take k = xs from List.take_of_length_le (by omega)] at ht
    rw [← ht]
    have hO := Own.cut HO11 (m := tlen out) (by have := tlen_le out; omega)
    rw [Nat.mul_one, vs_take] at hO
    exact ⟨A12, ((n + 7) / 8), by rw [trimL_length], HE, by rw [trimL_length]; exact hO.rebase (by omega)⟩

theorem nums_compare (A : Option Addr) (n c : Nat) (xs : List Nat) (A2 : Option Addr) (n2 c2 : Nat) (ys : List Nat) (w : World) (hn : xs.length = n) (hn2 : ys.length = n2) (hR : Rd w A (vs .u64 xs)) (hR2 : Rd w A2 (vs .u64 ys)) (hx : ∀ x, x ∈ xs → x < 18446744073709551616) (hy : ∀ x, x ∈ ys → x < 18446744073709551616) (hl : n ≤ 1152921504606846976) (hl2 : n2 ≤ 1152921504606846976) :
    Calls Try.prog 39 [.slice A n c, .slice A2 n2 c2].toArray w (Ret fun v w' => v = .int .i64 (cmpI (nv 18446744073709551616 xs) (nv 18446744073709551616 ys)) ∧ Ex w w') := by
  have hmx : Nat.max n n2 ≤ 1152921504606846976 := Nat.max_le.2 ⟨hl, hl2⟩
  refine enter Try.func39 rfl (n := 32) Try.ntmps39 (by simp) ?_
  intro a hF
  have HE : Ex w w := Ex.refl w
  refine wp_seq_k (fun K1 hK2 => ?_)
  refine wp_region_lit ?_
  refine pures_end hT 1 _ hF (F' := [(4, .int .i64 0), (0, .slice A n c), (1, .slice A2 n2 c2)]) (cs := []) (by kernel_rfl) rfl trivial ?_
  intro a3 hF4; clear hF a
  refine hK2 _ _ ?_
  refine wp_seq_k (fun K5 hK6 => ?_)
  refine wp_seq_k (fun K7 hK8 => ?_)
  refine wp_region_lit ?_
  refine pures_end hT 7 _ hF4 (F' := [(5, .int .i64 ((((Nat.max n n2) : Nat) : Int) - 1)), (13, .int .i64 ((((Nat.max n n2) : Nat) : Int) - 1)), (12, .int .i64 (((Nat.max n n2) : Nat) : Int)), (11, .int .i64 ((n2 : Nat) : Int)), (10, .slice A2 n2 c2), (9, .int .i64 ((n : Nat) : Int)), (8, .slice A n c), (4, .int .i64 0), (0, .slice A n c), (1, .slice A2 n2 c2)]) (cs := [-9223372036854775808 ≤ ((((Nat.max n n2) : Nat) : Int) - 1), ((((Nat.max n n2) : Nat) : Int) - 1) ≤ 9223372036854775807]) (by kernel_rfl) rfl (And.intro (by omega) (And.intro (by omega) trivial)) ?_
  intro a9 hF10; clear hF4 a3
  have hF11 := hF10.pick [5, 4, 0, 1] (G := [(5, .int .i64 ((((Nat.max n n2) : Nat) : Int) - 1)), (4, .int .i64 0), (0, .slice A n c), (1, .slice A2 n2 c2)]) (by kernel_rfl); clear hF10
  refine hK8 _ _ ?_
  refine wp_block ?_
  refine loopK (fun mm_ a W => ∃ (k : Nat), (k) = mm_ ∧ (Fr 32 a [(0, .slice A n c), (1, .slice A2 n2 c2), (5, .int .i64 (((k : Nat) : Int) - 1))]) ∧ (Ex w W) ∧ (k ≤ Nat.max n n2) ∧ (∀ j, k ≤ j → xs.getD j 0 = ys.getD j 0)) _ ⟨(Nat.max n n2), rfl, hF11.pick [0, 1, 5] (by kernel_rfl), HE, (Nat.le_refl _), (fun j hj => by rw [getD_ge (by have := (max_ge hj).1; omega), getD_ge (by have := (max_ge hj).2; omega)])⟩ ?_
  clear hF11 HE
  rintro mm_ a12 w13 ⟨k, rfl, hF16, HE, hk, hz⟩ K14 hK15
  refine wp_seq_k (fun K17 hK18 => ?_)
  refine wp_seq_k (fun K19 hK20 => ?_)
  refine wp_region_lit ?_
  refine pures_end hT 2 _ hF16 (F' := [(15, .bool ((decide (0 ≤ (((k : Nat) : Int) - 1))))), (14, .int .i64 (((k : Nat) : Int) - 1)), (0, .slice A n c), (1, .slice A2 n2 c2), (5, .int .i64 (((k : Nat) : Int) - 1))]) (cs := []) (by kernel_rfl) rfl trivial ?_
  intro a21 hF22; clear hF16 a12
  have hF23 := hF22.pick [15, 0, 1, 5] (G := [(15, .bool ((decide (0 ≤ (((k : Nat) : Int) - 1))))), (0, .slice A n c), (1, .slice A2 n2 c2), (5, .int .i64 (((k : Nat) : Int) - 1))]) (by kernel_rfl); clear hF22
  refine hK20 _ _ ?_
  refine condK hF23 (p := 0 ≤ (((k : Nat) : Int) - 1)) (by kernel_rfl) (fun h24 => ?_) (fun h24 => ?_)
  · -- h24
    refine wp_skip ?_
    refine hK18 _ _ ?_
    refine wp_seq_k (fun K25 hK26 => ?_)
    refine wp_block ?_
    refine wp_seq_k (fun K27 hK28 => ?_)
    obtain ⟨j, rfl⟩ : ∃ j, k = j + 1 := ⟨k - 1, by omega⟩
    rw [show (((j + 1 : Nat) : Int) - 1) = ((j : Nat) : Int) from by omega] at hF23
    refine wp_region_lit ?_
    refine pures hT 2 _ hF23 (F' := [(19, .int .i64 ((j : Nat) : Int)), (18, .slice A n c), (15, .bool ((decide (0 ≤ ((j : Nat) : Int))))), (0, .slice A n c), (1, .slice A2 n2 c2), (5, .int .i64 ((j : Nat) : Int))]) (cs := []) (by kernel_rfl) trivial ?_
    intro a29 hF30; clear hF23 a21
    have hz34 := HE.size
    refine wl (s_call (d := 20) (f := 43) (l := [.slice A n c, .int .i64 ((j : Nat) : Int)]) (by kernel_rfl) hF30 cl43 (nums_at A n c xs j _ (by first | assumption | omega | simp | decide) (hR.ex HE)) ?_)
    rintro a35 w31 v32 ⟨rfl, HX33⟩ ha37 hF36; clear ha37 hF30 a29
    replace HE := HE.thenN HX33.g
    refine pures hT 2 _ hF36 (F' := [(22, .int .i64 ((j : Nat) : Int)), (21, .slice A2 n2 c2), (20, .int .u64 (((xs.getD j 0) : Nat) : Int)), (19, .int .i64 ((j : Nat) : Int)), (18, .slice A n c), (15, .bool ((decide (0 ≤ ((j : Nat) : Int))))), (0, .slice A n c), (1, .slice A2 n2 c2), (5, .int .i64 ((j : Nat) : Int))]) (cs := []) (by kernel_rfl) trivial ?_
    intro a38 hF39; clear hF36 a35
    have hz43 := HE.size
    refine wl (s_call (d := 23) (f := 43) (l := [.slice A2 n2 c2, .int .i64 ((j : Nat) : Int)]) (by kernel_rfl) hF39 cl43 (nums_at A2 n2 c2 ys j _ (by first | assumption | omega | simp | decide) (hR2.ex HE)) ?_)
    rintro a44 w40 v41 ⟨rfl, HX42⟩ ha46 hF45; clear ha46 hF39 a38
    replace HE := HE.thenN HX42.g
    refine pures_end hT 2 _ hF45 (F' := [(7, .int .u64 (((ys.getD j 0) : Nat) : Int)), (6, .int .u64 (((xs.getD j 0) : Nat) : Int)), (23, .int .u64 (((ys.getD j 0) : Nat) : Int)), (22, .int .i64 ((j : Nat) : Int)), (21, .slice A2 n2 c2), (20, .int .u64 (((xs.getD j 0) : Nat) : Int)), (19, .int .i64 ((j : Nat) : Int)), (18, .slice A n c), (15, .bool ((decide (0 ≤ ((j : Nat) : Int))))), (0, .slice A n c), (1, .slice A2 n2 c2), (5, .int .i64 ((j : Nat) : Int))]) (cs := []) (by kernel_rfl) rfl trivial ?_
    intro a47 hF48; clear hF45 a44
    have hF49 := hF48.pick [7, 6, 15, 0, 1, 5] (G := [(7, .int .u64 (((ys.getD j 0) : Nat) : Int)), (6, .int .u64 (((xs.getD j 0) : Nat) : Int)), (15, .bool ((decide (0 ≤ ((j : Nat) : Int))))), (0, .slice A n c), (1, .slice A2 n2 c2), (5, .int .i64 ((j : Nat) : Int))]) (by kernel_rfl); clear hF48
    refine hK28 _ _ ?_
    refine wp_block ?_
    refine wp_seq_k (fun K50 hK51 => ?_)
    refine wp_region_lit ?_
    refine pures_end hT 4 _ hF49 (F' := [(24, .bool ((decide ((((xs.getD j 0) : Nat) : Int) < (((ys.getD j 0) : Nat) : Int))))), (27, .bool ((decide ((((xs.getD j 0) : Nat) : Int) < (((ys.getD j 0) : Nat) : Int))))), (26, .int .u64 (((ys.getD j 0) : Nat) : Int)), (25, .int .u64 (((xs.getD j 0) : Nat) : Int)), (7, .int .u64 (((ys.getD j 0) : Nat) : Int)), (6, .int .u64 (((xs.getD j 0) : Nat) : Int)), (15, .bool ((decide (0 ≤ ((j : Nat) : Int))))), (0, .slice A n c), (1, .slice A2 n2 c2), (5, .int .i64 ((j : Nat) : Int))]) (cs := []) (by kernel_rfl) rfl trivial ?_
    intro a52 hF53; clear hF49 a47
    have hF54 := hF53.pick [24, 7, 6, 15, 0, 1, 5] (G := [(24, .bool ((decide ((((xs.getD j 0) : Nat) : Int) < (((ys.getD j 0) : Nat) : Int))))), (7, .int .u64 (((ys.getD j 0) : Nat) : Int)), (6, .int .u64 (((xs.getD j 0) : Nat) : Int)), (15, .bool ((decide (0 ≤ ((j : Nat) : Int))))), (0, .slice A n c), (1, .slice A2 n2 c2), (5, .int .i64 ((j : Nat) : Int))]) (by kernel_rfl); clear hF53
    refine hK51 _ _ ?_
    refine condK hF54 (p := (((xs.getD j 0) : Nat) : Int) < (((ys.getD j 0) : Nat) : Int)) (by kernel_rfl) (fun h55 => ?_) (fun h55 => ?_)
    · -- h55
      refine wp_seq_k (fun K56 hK57 => ?_)
      refine wp_region_lit ?_
      refine pures_end hT 1 _ hF54 (F' := [(4, .int .i64 (-1)), (24, .bool ((decide ((((xs.getD j 0) : Nat) : Int) < (((ys.getD j 0) : Nat) : Int))))), (7, .int .u64 (((ys.getD j 0) : Nat) : Int)), (6, .int .u64 (((xs.getD j 0) : Nat) : Int)), (15, .bool ((decide (0 ≤ ((j : Nat) : Int))))), (0, .slice A n c), (1, .slice A2 n2 c2), (5, .int .i64 ((j : Nat) : Int))]) (cs := []) (by kernel_rfl) rfl trivial ?_
      intro a58 hF59; clear hF54 a52
      refine hK57 _ _ ?_
      refine wp_ret ?_
      refine ret1 hF59 rfl (v := .int .i64 (-1)) (by kernel_rfl) ?_
      exact ⟨by rw [cmpI_lt (nv_cmp hx hy (i := j) (fun q hq => hz q (by omega)) (by omega))], HE⟩
    · -- h55
      refine wp_seq_k (fun K60 hK61 => ?_)
      refine wp_region_lit ?_
      refine pures_end hT 4 _ hF54 (F' := [(28, .bool ((decide ((((ys.getD j 0) : Nat) : Int) < (((xs.getD j 0) : Nat) : Int))))), (31, .bool ((decide ((((ys.getD j 0) : Nat) : Int) < (((xs.getD j 0) : Nat) : Int))))), (30, .int .u64 (((ys.getD j 0) : Nat) : Int)), (29, .int .u64 (((xs.getD j 0) : Nat) : Int)), (24, .bool ((decide ((((xs.getD j 0) : Nat) : Int) < (((ys.getD j 0) : Nat) : Int))))), (7, .int .u64 (((ys.getD j 0) : Nat) : Int)), (6, .int .u64 (((xs.getD j 0) : Nat) : Int)), (15, .bool ((decide (0 ≤ ((j : Nat) : Int))))), (0, .slice A n c), (1, .slice A2 n2 c2), (5, .int .i64 ((j : Nat) : Int))]) (cs := []) (by kernel_rfl) rfl trivial ?_
      intro a62 hF63; clear hF54 a52
      have hF64 := hF63.pick [28, 24, 7, 6, 15, 0, 1, 5] (G := [(28, .bool ((decide ((((ys.getD j 0) : Nat) : Int) < (((xs.getD j 0) : Nat) : Int))))), (24, .bool ((decide ((((xs.getD j 0) : Nat) : Int) < (((ys.getD j 0) : Nat) : Int))))), (7, .int .u64 (((ys.getD j 0) : Nat) : Int)), (6, .int .u64 (((xs.getD j 0) : Nat) : Int)), (15, .bool ((decide (0 ≤ ((j : Nat) : Int))))), (0, .slice A n c), (1, .slice A2 n2 c2), (5, .int .i64 ((j : Nat) : Int))]) (by kernel_rfl); clear hF63
      refine hK61 _ _ ?_
      refine condK hF64 (p := (((ys.getD j 0) : Nat) : Int) < (((xs.getD j 0) : Nat) : Int)) (by kernel_rfl) (fun h65 => ?_) (fun h65 => ?_)
      · -- h65
        refine wp_seq_k (fun K66 hK67 => ?_)
        refine wp_region_lit ?_
        refine pures_end hT 1 _ hF64 (F' := [(4, .int .i64 1), (28, .bool ((decide ((((ys.getD j 0) : Nat) : Int) < (((xs.getD j 0) : Nat) : Int))))), (24, .bool ((decide ((((xs.getD j 0) : Nat) : Int) < (((ys.getD j 0) : Nat) : Int))))), (7, .int .u64 (((ys.getD j 0) : Nat) : Int)), (6, .int .u64 (((xs.getD j 0) : Nat) : Int)), (15, .bool ((decide (0 ≤ ((j : Nat) : Int))))), (0, .slice A n c), (1, .slice A2 n2 c2), (5, .int .i64 ((j : Nat) : Int))]) (cs := []) (by kernel_rfl) rfl trivial ?_
        intro a68 hF69; clear hF64 a62
        refine hK67 _ _ ?_
        refine wp_ret ?_
        refine ret1 hF69 rfl (v := .int .i64 1) (by kernel_rfl) ?_
        exact ⟨by rw [cmpI_gt (nv_cmp hy hx (i := j) (fun q hq => (hz q (by omega)).symm) (by omega))], HE⟩
      · -- h65
        refine wp_skip ?_
        refine hK26 _ _ ?_
        refine wp_region_lit ?_
        refine pures_end hT 3 _ hF64 (F' := [(5, .int .i64 (((j : Nat) : Int) - 1)), (17, .int .i64 (((j : Nat) : Int) - 1)), (16, .int .i64 ((j : Nat) : Int)), (28, .bool ((decide ((((ys.getD j 0) : Nat) : Int) < (((xs.getD j 0) : Nat) : Int))))), (24, .bool ((decide ((((xs.getD j 0) : Nat) : Int) < (((ys.getD j 0) : Nat) : Int))))), (7, .int .u64 (((ys.getD j 0) : Nat) : Int)), (6, .int .u64 (((xs.getD j 0) : Nat) : Int)), (15, .bool ((decide (0 ≤ ((j : Nat) : Int))))), (0, .slice A n c), (1, .slice A2 n2 c2), (5, .int .i64 ((j : Nat) : Int))]) (cs := [-9223372036854775808 ≤ (((j : Nat) : Int) - 1), (((j : Nat) : Int) - 1) ≤ 9223372036854775807]) (by kernel_rfl) rfl (And.intro (by omega) (And.intro (by omega) trivial)) ?_
        intro a70 hF71; clear hF64 a62
        have hF72 := hF71.pick [5, 28, 24, 7, 6, 15, 0, 1] (G := [(5, .int .i64 (((j : Nat) : Int) - 1)), (28, .bool ((decide ((((ys.getD j 0) : Nat) : Int) < (((xs.getD j 0) : Nat) : Int))))), (24, .bool ((decide ((((xs.getD j 0) : Nat) : Int) < (((ys.getD j 0) : Nat) : Int))))), (7, .int .u64 (((ys.getD j 0) : Nat) : Int)), (6, .int .u64 (((xs.getD j 0) : Nat) : Int)), (15, .bool ((decide (0 ≤ ((j : Nat) : Int))))), (0, .slice A n c), (1, .slice A2 n2 c2)]) (by kernel_rfl); clear hF71
        refine hK15 _ _ _ (by omega) ⟨j, rfl, hF72.pick [0, 1, 5] (by kernel_rfl), HE, (by omega), (cmp_step hz (by omega))⟩
  · -- h24
    refine wp_exit ?_
    refine hK6 _ _ ?_
    refine wp_seq_k (fun K73 hK74 => ?_)
    refine wp_region_lit ?_
    refine pures_end hT 1 _ hF23 (F' := [(4, .int .i64 0), (15, .bool ((decide (0 ≤ (((k : Nat) : Int) - 1))))), (0, .slice A n c), (1, .slice A2 n2 c2), (5, .int .i64 (((k : Nat) : Int) - 1))]) (cs := []) (by kernel_rfl) rfl trivial ?_
    intro a75 hF76; clear hF23 a21
    refine hK74 _ _ ?_
    refine wp_ret ?_
    refine ret1 hF76 rfl (v := .int .i64 0) (by kernel_rfl) ?_
    exact ⟨by rw [cmpI_eq (nv_ext (fun q => hz q (by omega)))], HE⟩

theorem nums_bytes (A : Option Addr) (n c : Nat) (xs : List Nat) (w : World) (hn : xs.length = n) (hR : Rd w A (vs .u64 xs)) (hx : ∀ x, x ∈ xs → x < 18446744073709551616) (hc : n ≤ c) (hl : n ≤ 137438953472) :
    Calls Try.prog 41 [.slice A n c].toArray w (Ret fun v w' => ∃ A' c', v = .slice A' (dig 256 (nv 18446744073709551616 xs)).length c' ∧ Ex w w' ∧ Own w' w.heap.size 5 1 A' (dig 256 (nv 18446744073709551616 xs)).length c' (vs .u8 (dig 256 (nv 18446744073709551616 xs)))) := by
  have htl := tlen_le xs
  refine enter Try.func41 rfl (n := 45) Try.ntmps41 (by simp) ?_
  intro a hF
  have HE : Ex w w := Ex.refl w
  refine wp_seq_k (fun K1 hK2 => ?_)
  refine wp_region_lit ?_
  refine pures_end hT 1 _ hF (F' := [(2, .slice none 0 0), (0, .slice A n c)]) (cs := []) (by kernel_rfl) rfl trivial ?_
  intro a3 hF4; clear hF a
  refine hK2 _ _ ?_
  refine wp_seq_k (fun K5 hK6 => ?_)
  refine wp_region_lit ?_
  refine pures_end hT 1 _ hF4 (F' := [(3, .slice none 0 0), (2, .slice none 0 0), (0, .slice A n c)]) (cs := []) (by kernel_rfl) rfl trivial ?_
  intro a7 hF8; clear hF4 a3
  refine hK6 _ _ ?_
  refine wp_seq_k (fun K9 hK10 => ?_)
  refine wp_seq_k (fun K11 hK12 => ?_)
  refine wp_region_lit ?_
  refine pures hT 1 _ hF8 (F' := [(7, .slice A n c), (3, .slice none 0 0), (2, .slice none 0 0), (0, .slice A n c)]) (cs := []) (by kernel_rfl) trivial ?_
  intro a13 hF14; clear hF8 a7
  have hz18 := HE.size
  refine wl (s_call (d := 8) (f := 48) (l := [.slice A n c]) (by kernel_rfl) hF14 cl48 (nums_trim A n c xs _ (by first | assumption | omega | simp | decide) hR (by first | assumption | omega | simp | decide) (by first | assumption | omega | simp | decide)) ?_)
  rintro a19 w15 v16 ⟨rfl, HX17⟩ ha21 hF20; clear ha21 hF14 a13
  replace HE := HE.thenN HX17.g
  refine pures_end hT 2 _ hF20 (F' := [(10, .int .i64 0), (9, .int .i64 (((tlen xs) : Nat) : Int)), (8, .slice A (tlen xs) c), (7, .slice A n c), (3, .slice none 0 0), (2, .slice none 0 0), (0, .slice A n c)]) (cs := []) (by kernel_rfl) rfl trivial ?_
  intro a22 hF23; clear hF20 a19
  have hF24 := hF23.pick [10, 9, 8, 3, 2, 0] (G := [(10, .int .i64 0), (9, .int .i64 (((tlen xs) : Nat) : Int)), (8, .slice A (tlen xs) c), (3, .slice none 0 0), (2, .slice none 0 0), (0, .slice A n c)]) (by kernel_rfl); clear hF23
  refine hK12 _ _ ?_
  refine wp_block ?_
  refine loopK (fun mm_ a W => ∃ (k : Nat), ∃ (A3 : Option Addr), ∃ (n3 : Nat), ∃ (c3 : Nat), ∃ (ys : List Nat), (tlen xs - k) = mm_ ∧ (Fr 45 a [(3, .slice A3 n3 c3), (8, .slice A (tlen xs) c), (9, .int .i64 (((tlen xs) : Nat) : Int)), (10, .int .i64 ((k : Nat) : Int))]) ∧ (Ex w W) ∧ (Own W (w.heap.size) 5 1 A3 n3 c3 (vs .u8 ys)) ∧ (k ≤ tlen xs) ∧ (ys.length = 8 * k) ∧ (By ys) ∧ (nv 256 ys = nv 18446744073709551616 (xs.take k)) ∧ (n3 = 8 * k)) _ ⟨0, none, 0, 0, [], rfl, hF24.pick [3, 8, 9, 10] (by kernel_rfl), HE, Own.nil _ _ _ _, (by omega), rfl, (by intro x hx; cases hx), rfl, rfl⟩ ?_
  clear hF24 HE
  rintro mm_ a25 w26 ⟨k, A3, n3, c3, ys, rfl, hF29, HE, HO, hk, hyl, hyb, hv, hn3⟩ K27 hK28
  refine wp_seq_k (fun K30 hK31 => ?_)
  refine wp_region_lit ?_
  refine pures_end hT 1 _ hF29 (F' := [(11, .bool ((decide (((k : Nat) : Int) < (((tlen xs) : Nat) : Int))))), (3, .slice A3 n3 c3), (8, .slice A (tlen xs) c), (9, .int .i64 (((tlen xs) : Nat) : Int)), (10, .int .i64 ((k : Nat) : Int))]) (cs := []) (by kernel_rfl) rfl trivial ?_
  intro a32 hF33; clear hF29 a25
  refine hK31 _ _ ?_
  refine wp_seq_k (fun K34 hK35 => ?_)
  refine condK hF33 (p := ((k : Nat) : Int) < (((tlen xs) : Nat) : Int)) (by kernel_rfl) (fun h36 => ?_) (fun h36 => ?_)
  · -- h36
    refine wp_skip ?_
    refine hK35 _ _ ?_
    refine wp_seq_k (fun K37 hK38 => ?_)
    refine wp_block ?_
    refine wp_seq_k (fun K39 hK40 => ?_)
    refine wp_region_lit ?_
    refine pures hT 1 _ hF33 (F' := [(12, .pointer (some ⟨(ablk A), ((aoff A) + k), none⟩)), (11, .bool ((decide (((k : Nat) : Int) < (((tlen xs) : Nat) : Int))))), (3, .slice A3 n3 c3), (8, .slice A (tlen xs) c), (9, .int .i64 (((tlen xs) : Nat) : Int)), (10, .int .i64 ((k : Nat) : Int))]) (cs := [0 ≤ ((k : Nat) : Int), ((k : Nat) : Int) < (((tlen xs) : Nat) : Int), A = some ⟨ablk A, aoff A, none⟩]) (by kernel_rfl) (And.intro (by omega) (And.intro (by omega) (And.intro ((hR.ex HE).some' (by (first | (simp only [vs_length, vi_length]; omega) | (simp; omega) | omega))) trivial))) ?_
    intro a41 hF42; clear hF33 a32
    refine wl (s_load hT (d := 13) (A := ⟨(ablk A), ((aoff A) + k), none⟩) (by kernel_rfl) hF42 ((hR.ex HE).cells.at (vs_get .u64 xs (i := k) (by omega)) rfl) ?_)
    rintro a43 ha45 hF44; clear ha45 hF42 a41
    refine pures_end hT 1 _ hF44 (F' := [(5, .int .u64 (((xs.getD k 0) : Nat) : Int)), (13, .int .u64 (((xs.getD k 0) : Nat) : Int)), (12, .pointer (some ⟨(ablk A), ((aoff A) + k), none⟩)), (11, .bool ((decide (((k : Nat) : Int) < (((tlen xs) : Nat) : Int))))), (3, .slice A3 n3 c3), (8, .slice A (tlen xs) c), (9, .int .i64 (((tlen xs) : Nat) : Int)), (10, .int .i64 ((k : Nat) : Int))]) (cs := []) (by kernel_rfl) rfl trivial ?_
    intro a46 hF47; clear hF44 a43
    have hF48 := hF47.pick [5, 11, 3, 8, 9, 10] (G := [(5, .int .u64 (((xs.getD k 0) : Nat) : Int)), (11, .bool ((decide (((k : Nat) : Int) < (((tlen xs) : Nat) : Int))))), (3, .slice A3 n3 c3), (8, .slice A (tlen xs) c), (9, .int .i64 (((tlen xs) : Nat) : Int)), (10, .int .i64 ((k : Nat) : Int))]) (by kernel_rfl); clear hF47
    refine hK40 _ _ ?_
    refine wp_seq_k (fun K49 hK50 => ?_)
    refine wp_region_lit ?_
    refine pures_end hT 1 _ hF48 (F' := [(14, .int .i64 0), (5, .int .u64 (((xs.getD k 0) : Nat) : Int)), (11, .bool ((decide (((k : Nat) : Int) < (((tlen xs) : Nat) : Int))))), (3, .slice A3 n3 c3), (8, .slice A (tlen xs) c), (9, .int .i64 (((tlen xs) : Nat) : Int)), (10, .int .i64 ((k : Nat) : Int))]) (cs := []) (by kernel_rfl) rfl trivial ?_
    intro a51 hF52; clear hF48 a46
    refine hK50 _ _ ?_
    refine wp_block ?_
    refine loopK (fun mm_ a W => ∃ (j : Nat), ∃ (A3 : Option Addr), ∃ (n3 : Nat), ∃ (c3 : Nat), ∃ (ys : List Nat), (8 - j) = mm_ ∧ (Fr 45 a [(3, .slice A3 n3 c3), (5, .int .u64 (((xs.getD k 0) : Nat) : Int)), (8, .slice A (tlen xs) c), (9, .int .i64 (((tlen xs) : Nat) : Int)), (10, .int .i64 ((k : Nat) : Int)), (14, .int .i64 ((j : Nat) : Int))]) ∧ (Ex w W) ∧ (Own W (w.heap.size) 5 1 A3 n3 c3 (vs .u8 ys)) ∧ (j ≤ 8) ∧ (ys.length = 8 * k + j) ∧ (By ys) ∧ (nv 256 ys = nv 18446744073709551616 (xs.take k) + 18446744073709551616 ^ k * (xs.getD k 0 % 256 ^ j)) ∧ (n3 = 8 * k + j)) _ ⟨0, A3, n3, c3, ys, rfl, hF52.pick [3, 5, 8, 9, 10, 14] (by kernel_rfl), HE, HO, (by omega), (by omega), hyb, (by rw [hv, Nat.pow_zero, Nat.mod_one, Nat.mul_zero, Nat.add_zero]), (by omega)⟩ ?_
    clear hF52 HE HO hyl hyb hv hn3 ys n3 c3 A3
    rintro mm_ a53 w54 ⟨j, A3, n3, c3, ys, rfl, hF57, HE, HO, hj, hyl, hyb, hv, hn3⟩ K55 hK56
    refine wp_seq_k (fun K58 hK59 => ?_)
    refine wp_region_lit ?_
    refine pures_end hT 1 _ hF57 (F' := [(15, .bool ((decide (((j : Nat) : Int) < 8)))), (3, .slice A3 n3 c3), (5, .int .u64 (((xs.getD k 0) : Nat) : Int)), (8, .slice A (tlen xs) c), (9, .int .i64 (((tlen xs) : Nat) : Int)), (10, .int .i64 ((k : Nat) : Int)), (14, .int .i64 ((j : Nat) : Int))]) (cs := []) (by kernel_rfl) rfl trivial ?_
    intro a60 hF61; clear hF57 a53
    refine hK59 _ _ ?_
    refine wp_seq_k (fun K62 hK63 => ?_)
    refine condK hF61 (p := ((j : Nat) : Int) < 8) (by kernel_rfl) (fun h64 => ?_) (fun h64 => ?_)
    · -- h64
      refine wp_skip ?_
      refine hK63 _ _ ?_
      refine wp_seq_k (fun K65 hK66 => ?_)
      refine wp_block ?_
      refine wp_seq_k (fun K67 hK68 => ?_)
      refine wp_region_lit ?_
      refine pures_end hT 2 _ hF61 (F' := [(6, .int .i64 ((j : Nat) : Int)), (16, .int .i64 ((j : Nat) : Int)), (15, .bool ((decide (((j : Nat) : Int) < 8)))), (3, .slice A3 n3 c3), (5, .int .u64 (((xs.getD k 0) : Nat) : Int)), (8, .slice A (tlen xs) c), (9, .int .i64 (((tlen xs) : Nat) : Int)), (10, .int .i64 ((k : Nat) : Int)), (14, .int .i64 ((j : Nat) : Int))]) (cs := []) (by kernel_rfl) rfl trivial ?_
      intro a69 hF70; clear hF61 a60
      have hF71 := hF70.pick [6, 15, 3, 5, 8, 9, 10, 14] (G := [(6, .int .i64 ((j : Nat) : Int)), (15, .bool ((decide (((j : Nat) : Int) < 8)))), (3, .slice A3 n3 c3), (5, .int .u64 (((xs.getD k 0) : Nat) : Int)), (8, .slice A (tlen xs) c), (9, .int .i64 (((tlen xs) : Nat) : Int)), (10, .int .i64 ((k : Nat) : Int)), (14, .int .i64 ((j : Nat) : Int))]) (by kernel_rfl); clear hF70
      refine hK68 _ _ ?_
      refine wp_region_lit ?_
      refine pures hT 6 _ hF71 (F' := [(22, .int .u8 (((((xs.getD k 0) / 2 ^ (8 * j)) % 256) : Nat) : Int)), (21, .int .u64 ((((xs.getD k 0) / 2 ^ (8 * j)) : Nat) : Int)), (20, .int .i64 (((8 * j) : Nat) : Int)), (19, .int .i64 ((j : Nat) : Int)), (18, .int .u64 (((xs.getD k 0) : Nat) : Int)), (17, .slice A3 n3 c3), (6, .int .i64 ((j : Nat) : Int)), (15, .bool ((decide (((j : Nat) : Int) < 8)))), (3, .slice A3 n3 c3), (5, .int .u64 (((xs.getD k 0) : Nat) : Int)), (8, .slice A (tlen xs) c), (9, .int .i64 (((tlen xs) : Nat) : Int)), (10, .int .i64 ((k : Nat) : Int)), (14, .int .i64 ((j : Nat) : Int))]) (cs := [-9223372036854775808 ≤ (((8 * j) : Nat) : Int), (((8 * j) : Nat) : Int) ≤ 9223372036854775807, (xs.getD k 0) < 18446744073709551616]) (by kernel_rfl) (And.intro (by omega) (And.intro (by omega) (And.intro (getD_lt (by decide) hx _) trivial))) ?_
      intro a72 hF73; clear hF71 a69
      have hz80 := HE.size
      have hz81 := HO.base
      refine wl (s_lit hT (d := 23) (T := 5) (l := vs .u8 [(((xs.getD k 0) / 2 ^ (8 * j)) % 256)]) (by kernel_rfl) hF73 ?_)
      rintro a82 w75 b74 h78 h79 HB77 g76 ha84 hF83; clear ha84 hF73 a72
      replace HE := HE.thenN g76
      replace HO := HO.growN g76
      have hz85 := HE.size
      have hz86 := HO.base
      have hz87 := HB77.lt
      refine wl (s_app hT (d := 24) (T := 5) (i := tr5) (B := w.heap.size) (m := n3) (c := c3) (m2 := 1) (c2 := 1) (by kernel_rfl) hF83 rfl (by decide) HO HB77.rd (by show _ = 1 * 1; simp) vs_one (by show (n3 + 1) * 1 ≤ 140737488355328; omega) (by decide) (by have := HE.size; omega) ?_)
      rintro a94 w88 A91 c92 HO90 g89 hat93 ha96 hF95; clear ha96 hF83 a82
      rw [← vs_append] at HO90
      replace HE := HE.thenR g89 (fun k hk => by have := (HO.base k hk).1; omega)
      replace HB77 := HB77.grow g89 (by intro h; have := (hz81 _ h).2; omega)
      clear HO
      refine pures_end hT 1 _ hF95 (F' := [(3, .slice A91 (n3 + 1) c92), (24, .slice A91 (n3 + 1) c92), (23, .slice (some ⟨b74, 0, none⟩) 1 1), (22, .int .u8 (((((xs.getD k 0) / 2 ^ (8 * j)) % 256) : Nat) : Int)), (21, .int .u64 ((((xs.getD k 0) / 2 ^ (8 * j)) : Nat) : Int)), (20, .int .i64 (((8 * j) : Nat) : Int)), (19, .int .i64 ((j : Nat) : Int)), (18, .int .u64 (((xs.getD k 0) : Nat) : Int)), (17, .slice A3 n3 c3), (6, .int .i64 ((j : Nat) : Int)), (15, .bool ((decide (((j : Nat) : Int) < 8)))), (3, .slice A3 n3 c3), (5, .int .u64 (((xs.getD k 0) : Nat) : Int)), (8, .slice A (tlen xs) c), (9, .int .i64 (((tlen xs) : Nat) : Int)), (10, .int .i64 ((k : Nat) : Int)), (14, .int .i64 ((j : Nat) : Int))]) (cs := []) (by kernel_rfl) rfl trivial ?_
      intro a97 hF98; clear hF95 a94
      have hF99 := hF98.pick [3, 6, 15, 5, 8, 9, 10, 14] (G := [(3, .slice A91 (n3 + 1) c92), (6, .int .i64 ((j : Nat) : Int)), (15, .bool ((decide (((j : Nat) : Int) < 8)))), (5, .int .u64 (((xs.getD k 0) : Nat) : Int)), (8, .slice A (tlen xs) c), (9, .int .i64 (((tlen xs) : Nat) : Int)), (10, .int .i64 ((k : Nat) : Int)), (14, .int .i64 ((j : Nat) : Int))]) (by kernel_rfl); clear hF98
      refine hK66 _ _ ?_
      refine wp_region_lit ?_
      refine pures_end hT 2 _ hF99 (F' := [(14, .int .i64 (((j + 1) : Nat) : Int)), (25, .int .i64 (((j + 1) : Nat) : Int)), (3, .slice A91 (n3 + 1) c92), (6, .int .i64 ((j : Nat) : Int)), (15, .bool ((decide (((j : Nat) : Int) < 8)))), (5, .int .u64 (((xs.getD k 0) : Nat) : Int)), (8, .slice A (tlen xs) c), (9, .int .i64 (((tlen xs) : Nat) : Int)), (10, .int .i64 ((k : Nat) : Int)), (14, .int .i64 ((j : Nat) : Int))]) (cs := [-9223372036854775808 ≤ (((j + 1) : Nat) : Int), (((j + 1) : Nat) : Int) ≤ 9223372036854775807]) (by kernel_rfl) rfl (And.intro (by omega) (And.intro (by omega) trivial)) ?_
      intro a100 hF101; clear hF99 a97
      have hF102 := hF101.pick [14, 3, 6, 15, 5, 8, 9, 10] (G := [(14, .int .i64 (((j + 1) : Nat) : Int)), (3, .slice A91 (n3 + 1) c92), (6, .int .i64 ((j : Nat) : Int)), (15, .bool ((decide (((j : Nat) : Int) < 8)))), (5, .int .u64 (((xs.getD k 0) : Nat) : Int)), (8, .slice A (tlen xs) c), (9, .int .i64 (((tlen xs) : Nat) : Int)), (10, .int .i64 ((k : Nat) : Int))]) (by kernel_rfl); clear hF101
      refine hK56 _ _ _ (by omega) ⟨(j + 1), _, _, _, _, rfl, hF102.pick [3, 5, 8, 9, 10, 14] (by kernel_rfl), HE, HO90, (by omega), (by simp; omega), (by_snoc hyb (Nat.mod_lt _ (by decide))), (byte_step hyl (by omega) hv), (by omega)⟩
    · -- h64
      refine wp_exit ?_
      refine hK38 _ _ ?_
      refine wp_region_lit ?_
      refine pures_end hT 2 _ hF61 (F' := [(10, .int .i64 (((k + 1) : Nat) : Int)), (26, .int .i64 (((k + 1) : Nat) : Int)), (15, .bool ((decide (((j : Nat) : Int) < 8)))), (3, .slice A3 n3 c3), (5, .int .u64 (((xs.getD k 0) : Nat) : Int)), (8, .slice A (tlen xs) c), (9, .int .i64 (((tlen xs) : Nat) : Int)), (10, .int .i64 ((k : Nat) : Int)), (14, .int .i64 ((j : Nat) : Int))]) (cs := [-9223372036854775808 ≤ (((k + 1) : Nat) : Int), (((k + 1) : Nat) : Int) ≤ 9223372036854775807]) (by kernel_rfl) rfl (And.intro (by omega) (And.intro (by omega) trivial)) ?_
      intro a103 hF104; clear hF61 a60
      have hF105 := hF104.pick [10, 15, 3, 5, 8, 9, 14] (G := [(10, .int .i64 (((k + 1) : Nat) : Int)), (15, .bool ((decide (((j : Nat) : Int) < 8)))), (3, .slice A3 n3 c3), (5, .int .u64 (((xs.getD k 0) : Nat) : Int)), (8, .slice A (tlen xs) c), (9, .int .i64 (((tlen xs) : Nat) : Int)), (14, .int .i64 ((j : Nat) : Int))]) (by kernel_rfl); clear hF104
      refine hK28 _ _ _ (by omega) ⟨(k + 1), _, _, _, ys, rfl, hF105.pick [3, 8, 9, 10] (by kernel_rfl), HE, HO, (by omega), (by omega), hyb, (byte_word hx (by rw [show j = 8 by omega] at hv; exact hv)), (by omega)⟩
  · -- h36
    refine wp_exit ?_
    refine hK10 _ _ ?_
    refine wp_seq_k (fun K106 hK107 => ?_)
    have hK108 : ∀ (a : Act) (W : World), (∃ (m : Nat), (Fr 45 a [(3, .slice A3 m c3)]) ∧ (Ex w W) ∧ (Own W (w.heap.size) 5 1 A3 n3 c3 (vs .u8 ys)) ∧ (tlen ys = m)) → K106 a W := by
      clear hF33 HE HO
      rintro a109 w110 ⟨m, hF111, HE, HO, hk⟩
      refine hK107 _ _ ?_
      refine wp_seq_k (fun K112 hK113 => ?_)
      refine wp_region_lit ?_
      refine pures_end hT 2 _ hF111 (F' := [(2, .slice A3 m c3), (44, .slice A3 m c3), (3, .slice A3 m c3)]) (cs := []) (by kernel_rfl) rfl trivial ?_
      intro a114 hF115; clear hF111 a109
      have hF116 := hF115.pick [2, 3] (G := [(2, .slice A3 m c3), (3, .slice A3 m c3)]) (by kernel_rfl); clear hF115
      refine hK113 _ _ ?_
      refine wp_ret ?_
      refine ret1 hF116 rfl (v := .slice A3 m c3) (by kernel_rfl) ?_
      have ht := trimL_dig (b := 256) (by decide) hyb
      rw [hv, show k = tlen xs by omega] at ht
      have e : nv 18446744073709551616 (xs.take (tlen xs)) = nv 18446744073709551616 xs := nv_trim 18446744073709551616 xs
      rw [e] at ht
      rw [← ht]
      subst hk
      have hO := Own.cut HO (m := tlen ys) (by have := tlen_le ys; omega)
      rw [Nat.mul_one, vs_take] at hO
      exact ⟨A3, c3, by rw [trimL_length], HE, by rw [trimL_length]; exact hO.rebase (by omega)⟩
    clear hK107
    refine wp_block ?_
    refine loopK (fun mm_ a W => ∃ (m : Nat), (m) = mm_ ∧ (Fr 45 a [(3, .slice A3 m c3)]) ∧ (Ex w W) ∧ (Own W (w.heap.size) 5 1 A3 n3 c3 (vs .u8 ys)) ∧ (m ≤ n3) ∧ (∀ j, m ≤ j → ys.getD j 0 = 0)) _ ⟨n3, rfl, hF33.pick [3] (by kernel_rfl), HE, HO, (by omega), (fun j hj => getD_ge (by omega))⟩ ?_
    clear hF33 HE HO
    rintro mm_ a117 w118 ⟨m, rfl, hF121, HE, HO, hm, hz⟩ K119 hK120
    refine wp_seq_k (fun K122 hK123 => ?_)
    refine wp_seq_k (fun K124 hK125 => ?_)
    have hcap := HO.cap
    refine wp_region_lit ?_
    refine pures hT 4 _ hF121 (F' := [(30, .bool ((decide (0 < ((m : Nat) : Int))))), (29, .bool ((decide (0 < ((m : Nat) : Int))))), (28, .int .i64 ((m : Nat) : Int)), (27, .slice A3 m c3), (3, .slice A3 m c3)]) (cs := []) (by kernel_rfl) trivial ?_
    intro a126 hF127; clear hF121 a117
    rcases dec_cases (0 < ((m : Nat) : Int)) with ⟨h128, e129⟩ | ⟨h128, e129⟩
    · rw [e129] at hF127; clear e129
      refine pures hT 4 _ hF127 (F' := [(34, .int .i64 (((m : Nat) : Int) - 1)), (33, .int .i64 ((m : Nat) : Int)), (32, .slice A3 m c3), (31, .slice A3 m c3), (30, .bool true), (29, .bool true), (28, .int .i64 ((m : Nat) : Int)), (27, .slice A3 m c3), (3, .slice A3 m c3)]) (cs := [-9223372036854775808 ≤ (((m : Nat) : Int) - 1), (((m : Nat) : Int) - 1) ≤ 9223372036854775807]) (by kernel_rfl) (And.intro (by omega) (And.intro (by omega) trivial)) ?_
      intro a130 hF131; clear hF127 a126
      rw [show (((m : Nat) : Int) - 1) = (((m - 1) : Nat) : Int) from by omega] at hF131
      refine pures hT 1 _ hF131 (F' := [(35, .pointer (some ⟨(ablk A3), ((aoff A3) + (m - 1)), none⟩)), (34, .int .i64 (((m - 1) : Nat) : Int)), (33, .int .i64 ((m : Nat) : Int)), (32, .slice A3 m c3), (31, .slice A3 m c3), (30, .bool true), (29, .bool true), (28, .int .i64 ((m : Nat) : Int)), (27, .slice A3 m c3), (3, .slice A3 m c3)]) (cs := [0 ≤ (((m - 1) : Nat) : Int), (((m - 1) : Nat) : Int) < ((m : Nat) : Int), A3 = some ⟨ablk A3, aoff A3, none⟩]) (by kernel_rfl) (And.intro (by omega) (And.intro (by omega) (And.intro (HO.rd.some' (by (first | (simp only [vs_length, vi_length]; omega) | (simp; omega) | omega))) trivial))) ?_
      intro a132 hF133; clear hF131 a130
      refine wl (One.bare hF133 (by kernel_rfl) (s_load hT (d := 36) (A := ⟨(ablk A3), ((aoff A3) + (m - 1)), none⟩) (by kernel_rfl) hF133 (HO.rd.cells.at (vs_get .u8 ys (i := (m - 1)) (by omega)) rfl) ?_))
      rintro a134 ha136 hF135; clear ha136 hF133 a132
      refine pures_end hT 2 _ hF135 (F' := [(38, .bool ((decide ((((ys.getD (m - 1) 0) : Nat) : Int) = 0)))), (37, .bool ((decide ((((ys.getD (m - 1) 0) : Nat) : Int) = 0)))), (36, .int .u8 (((ys.getD (m - 1) 0) : Nat) : Int)), (35, .pointer (some ⟨(ablk A3), ((aoff A3) + (m - 1)), none⟩)), (34, .int .i64 (((m - 1) : Nat) : Int)), (33, .int .i64 ((m : Nat) : Int)), (32, .slice A3 m c3), (31, .slice A3 m c3), (30, .bool true), (29, .bool true), (28, .int .i64 ((m : Nat) : Int)), (27, .slice A3 m c3), (3, .slice A3 m c3)]) (cs := []) (by kernel_rfl) rfl trivial ?_
      intro a137 hF138; clear hF135 a134
      have hF139 := hF138.pick [38, 3] (G := [(38, .bool ((decide ((((ys.getD (m - 1) 0) : Nat) : Int) = 0)))), (3, .slice A3 m c3)]) (by kernel_rfl); clear hF138
      refine hK125 _ _ ?_
      refine condK hF139 (p := (((ys.getD (m - 1) 0) : Nat) : Int) = 0) (by kernel_rfl) (fun h140 => ?_) (fun h140 => ?_)
      · -- h140
        refine wp_skip ?_
        refine hK123 _ _ ?_
        refine wp_block ?_
        refine wp_region_lit ?_
        refine pures hT 4 _ hF139 (F' := [(42, .int .i64 (((m : Nat) : Int) - 1)), (41, .int .i64 ((m : Nat) : Int)), (40, .slice A3 m c3), (39, .slice A3 m c3), (38, .bool ((decide ((((ys.getD (m - 1) 0) : Nat) : Int) = 0)))), (3, .slice A3 m c3)]) (cs := [-9223372036854775808 ≤ (((m : Nat) : Int) - 1), (((m : Nat) : Int) - 1) ≤ 9223372036854775807]) (by kernel_rfl) (And.intro (by omega) (And.intro (by omega) trivial)) ?_
        intro a141 hF142; clear hF139 a137
        rw [show (((m : Nat) : Int) - 1) = (((m - 1) : Nat) : Int) from by omega] at hF142
        refine wl (s_sliceLow hT (d := 43) (A := A3) (m := m) (c := c3) (sz := 1) (hi := (m - 1)) (by kernel_rfl) hF142 (by omega) (by omega) ?_)
        rintro a143 ha145 hF144; clear ha145 hF142 a141
        refine pures_end hT 1 _ hF144 (F' := [(3, .slice A3 (m - 1) c3), (43, .slice A3 (m - 1) c3), (42, .int .i64 (((m - 1) : Nat) : Int)), (41, .int .i64 ((m : Nat) : Int)), (40, .slice A3 m c3), (39, .slice A3 m c3), (38, .bool ((decide ((((ys.getD (m - 1) 0) : Nat) : Int) = 0)))), (3, .slice A3 m c3)]) (cs := []) (by kernel_rfl) rfl trivial ?_
        intro a146 hF147; clear hF144 a143
        have hF148 := hF147.pick [3, 38] (G := [(3, .slice A3 (m - 1) c3), (38, .bool ((decide ((((ys.getD (m - 1) 0) : Nat) : Int) = 0))))]) (by kernel_rfl); clear hF147
        refine hK120 _ _ _ (by omega) ⟨(m - 1), rfl, hF148.pick [3] (by kernel_rfl), HE, HO, (by omega), (trim_step hz (by omega))⟩
      · -- h140
        refine wp_exit ?_
        exact hK108 _ _ ⟨m, hF139.pick [3] (by kernel_rfl), HE, HO, (tlen_spec ys m (by omega) hz (.inr (by omega)))⟩
    · rw [e129] at hF127; clear e129
      refine pures_end hT 8 _ hF127 (F' := [(38, .bool false), (37, undef), (36, undef), (35, undef), (34, undef), (33, undef), (32, undef), (31, undef), (30, .bool false), (29, .bool false), (28, .int .i64 ((m : Nat) : Int)), (27, .slice A3 m c3), (3, .slice A3 m c3)]) (cs := []) (by kernel_rfl) rfl trivial ?_
      intro a149 hF150; clear hF127 a126
      have hF151 := hF150.pick [38, 3] (G := [(38, .bool false), (3, .slice A3 m c3)]) (by kernel_rfl); clear hF150
      refine hK125 _ _ ?_
      refine condF hF151 (by kernel_rfl) ?_
      refine wp_exit ?_
      exact hK108 _ _ ⟨m, hF151.pick [3] (by kernel_rfl), HE, HO, (tlen_spec ys m (by omega) hz (.inl (by omega)))⟩

end Go.Proofs.Ytdabkjflpbbpeaa
