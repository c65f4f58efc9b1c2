/- Walks of functions of the program: lemmas. -/
import Derived.Test.YtdabkjflpbbpeaaKx
import Derived.Test.YtdabkjflpbbpeaaNc
set_option maxRecDepth 100000
set_option linter.unusedVariables false
set_option linter.unusedSimpArgs false
namespace Go.Proofs.Ytdabkjflpbbpeaa
open Go.Proofs Go.RowKit

theorem bits_mul64 (x y : Nat) (w : World) (hx : x < 18446744073709551616) (hy : y < 18446744073709551616) :
    Calls Try.prog 44 [.int .u64 ((x : Nat) : Int), .int .u64 ((y : Nat) : Int)].toArray w (Ret fun v w' => v = .tuple #[.int .u64 ((x * y / 18446744073709551616 : Nat) : Int), .int .u64 ((x * y % 18446744073709551616 : Nat) : Int)] ∧ Ex w w') := by
  refine enter Try.func44 rfl (n := 51) Try.ntmps44 (by simp) ?_
  intro a hF
  have HE : Ex w w := Ex.refl w
  refine wp_seq_k (fun K1 hK2 => ?_)
  refine wp_region_lit ?_
  refine pures_end hT 2 _ hF (F' := [(5, .int .u64 0), (4, .int .u64 0), (0, .int .u64 ((x : Nat) : Int)), (1, .int .u64 ((y : Nat) : Int))]) (cs := []) (by kernel_rfl) rfl trivial ?_
  intro a3 hF4; clear hF a
  refine hK2 _ _ ?_
  refine wp_seq_k (fun K5 hK6 => ?_)
  refine wp_region_lit ?_
  refine pures_end hT 3 _ hF4 (F' := [(6, .int .u64 (((x &&& 4294967295) : Nat) : Int)), (15, .int .u64 (((x &&& 4294967295) : Nat) : Int)), (14, .int .u64 ((x : Nat) : Int)), (5, .int .u64 0), (4, .int .u64 0), (0, .int .u64 ((x : Nat) : Int)), (1, .int .u64 ((y : Nat) : Int))]) (cs := [x < 18446744073709551616, 4294967295 < 18446744073709551616]) (by kernel_rfl) rfl (And.intro (by first | omega | (have := Nat.and_le_right (n := x) (m := 4294967295); omega)) (And.intro (by first | omega | (have := Nat.and_le_right (n := x) (m := 4294967295); omega)) trivial)) ?_
  intro a7 hF8; clear hF4 a3
  have hF9 := hF8.pick [6, 5, 4, 0, 1] (G := [(6, .int .u64 (((x &&& 4294967295) : Nat) : Int)), (5, .int .u64 0), (4, .int .u64 0), (0, .int .u64 ((x : Nat) : Int)), (1, .int .u64 ((y : Nat) : Int))]) (by kernel_rfl); clear hF8
  refine hK6 _ _ ?_
  refine wp_seq_k (fun K10 hK11 => ?_)
  refine wp_region_lit ?_
  refine pures_end hT 3 _ hF9 (F' := [(7, .int .u64 (((x / 2 ^ 32) : Nat) : Int)), (17, .int .u64 (((x / 2 ^ 32) : Nat) : Int)), (16, .int .u64 ((x : Nat) : Int)), (6, .int .u64 (((x &&& 4294967295) : Nat) : Int)), (5, .int .u64 0), (4, .int .u64 0), (0, .int .u64 ((x : Nat) : Int)), (1, .int .u64 ((y : Nat) : Int))]) (cs := [x < 18446744073709551616]) (by kernel_rfl) rfl (And.intro (by first | omega | (have := Nat.and_le_right (n := x) (m := 4294967295); omega)) trivial) ?_
  intro a12 hF13; clear hF9 a7
  have hF14 := hF13.pick [7, 6, 5, 4, 0, 1] (G := [(7, .int .u64 (((x / 2 ^ 32) : Nat) : Int)), (6, .int .u64 (((x &&& 4294967295) : Nat) : Int)), (5, .int .u64 0), (4, .int .u64 0), (0, .int .u64 ((x : Nat) : Int)), (1, .int .u64 ((y : Nat) : Int))]) (by kernel_rfl); clear hF13
  refine hK11 _ _ ?_
  refine wp_seq_k (fun K15 hK16 => ?_)
  refine wp_region_lit ?_
  refine pures_end hT 3 _ hF14 (F' := [(8, .int .u64 (((y &&& 4294967295) : Nat) : Int)), (19, .int .u64 (((y &&& 4294967295) : Nat) : Int)), (18, .int .u64 ((y : Nat) : Int)), (7, .int .u64 (((x / 2 ^ 32) : Nat) : Int)), (6, .int .u64 (((x &&& 4294967295) : Nat) : Int)), (5, .int .u64 0), (4, .int .u64 0), (0, .int .u64 ((x : Nat) : Int)), (1, .int .u64 ((y : Nat) : Int))]) (cs := [y < 18446744073709551616, 4294967295 < 18446744073709551616]) (by kernel_rfl) rfl (And.intro (by first | omega | (have := Nat.and_le_right (n := x) (m := 4294967295); omega)) (And.intro (by first | omega | (have := Nat.and_le_right (n := x) (m := 4294967295); omega)) trivial)) ?_
  intro a17 hF18; clear hF14 a12
  have hF19 := hF18.pick [8, 7, 6, 5, 4, 0, 1] (G := [(8, .int .u64 (((y &&& 4294967295) : Nat) : Int)), (7, .int .u64 (((x / 2 ^ 32) : Nat) : Int)), (6, .int .u64 (((x &&& 4294967295) : Nat) : Int)), (5, .int .u64 0), (4, .int .u64 0), (0, .int .u64 ((x : Nat) : Int)), (1, .int .u64 ((y : Nat) : Int))]) (by kernel_rfl); clear hF18
  refine hK16 _ _ ?_
  refine wp_seq_k (fun K20 hK21 => ?_)
  refine wp_region_lit ?_
  refine pures_end hT 3 _ hF19 (F' := [(9, .int .u64 (((y / 2 ^ 32) : Nat) : Int)), (21, .int .u64 (((y / 2 ^ 32) : Nat) : Int)), (20, .int .u64 ((y : Nat) : Int)), (8, .int .u64 (((y &&& 4294967295) : Nat) : Int)), (7, .int .u64 (((x / 2 ^ 32) : Nat) : Int)), (6, .int .u64 (((x &&& 4294967295) : Nat) : Int)), (5, .int .u64 0), (4, .int .u64 0), (0, .int .u64 ((x : Nat) : Int)), (1, .int .u64 ((y : Nat) : Int))]) (cs := [y < 18446744073709551616]) (by kernel_rfl) rfl (And.intro (by first | omega | (have := Nat.and_le_right (n := x) (m := 4294967295); omega)) trivial) ?_
  intro a22 hF23; clear hF19 a17
  have hF24 := hF23.pick [9, 8, 7, 6, 5, 4, 0, 1] (G := [(9, .int .u64 (((y / 2 ^ 32) : Nat) : Int)), (8, .int .u64 (((y &&& 4294967295) : Nat) : Int)), (7, .int .u64 (((x / 2 ^ 32) : Nat) : Int)), (6, .int .u64 (((x &&& 4294967295) : Nat) : Int)), (5, .int .u64 0), (4, .int .u64 0), (0, .int .u64 ((x : Nat) : Int)), (1, .int .u64 ((y : Nat) : Int))]) (by kernel_rfl); clear hF23
  refine hK21 _ _ ?_
  refine wp_seq_k (fun K25 hK26 => ?_)
  refine wp_region_lit ?_
  refine pures_end hT 4 _ hF24 (F' := [(10, .int .u64 ((((x &&& 4294967295) * (y &&& 4294967295) % 18446744073709551616) : Nat) : Int)), (24, .int .u64 ((((x &&& 4294967295) * (y &&& 4294967295) % 18446744073709551616) : Nat) : Int)), (23, .int .u64 (((y &&& 4294967295) : Nat) : Int)), (22, .int .u64 (((x &&& 4294967295) : Nat) : Int)), (9, .int .u64 (((y / 2 ^ 32) : Nat) : Int)), (8, .int .u64 (((y &&& 4294967295) : Nat) : Int)), (7, .int .u64 (((x / 2 ^ 32) : Nat) : Int)), (6, .int .u64 (((x &&& 4294967295) : Nat) : Int)), (5, .int .u64 0), (4, .int .u64 0), (0, .int .u64 ((x : Nat) : Int)), (1, .int .u64 ((y : Nat) : Int))]) (cs := []) (by kernel_rfl) rfl trivial ?_
  intro a27 hF28; clear hF24 a22
  have hF29 := hF28.pick [10, 9, 8, 7, 6, 5, 4, 0, 1] (G := [(10, .int .u64 ((((x &&& 4294967295) * (y &&& 4294967295) % 18446744073709551616) : Nat) : Int)), (9, .int .u64 (((y / 2 ^ 32) : Nat) : Int)), (8, .int .u64 (((y &&& 4294967295) : Nat) : Int)), (7, .int .u64 (((x / 2 ^ 32) : Nat) : Int)), (6, .int .u64 (((x &&& 4294967295) : Nat) : Int)), (5, .int .u64 0), (4, .int .u64 0), (0, .int .u64 ((x : Nat) : Int)), (1, .int .u64 ((y : Nat) : Int))]) (by kernel_rfl); clear hF28
  refine hK26 _ _ ?_
  refine wp_seq_k (fun K30 hK31 => ?_)
  refine wp_region_lit ?_
  refine pures_end hT 7 _ hF29 (F' := [(11, .int .u64 ((((((x / 2 ^ 32) * (y &&& 4294967295) % 18446744073709551616) + (((x &&& 4294967295) * (y &&& 4294967295) % 18446744073709551616) / 2 ^ 32)) % 18446744073709551616) : Nat) : Int)), (30, .int .u64 ((((((x / 2 ^ 32) * (y &&& 4294967295) % 18446744073709551616) + (((x &&& 4294967295) * (y &&& 4294967295) % 18446744073709551616) / 2 ^ 32)) % 18446744073709551616) : Nat) : Int)), (29, .int .u64 (((((x &&& 4294967295) * (y &&& 4294967295) % 18446744073709551616) / 2 ^ 32) : Nat) : Int)), (28, .int .u64 ((((x &&& 4294967295) * (y &&& 4294967295) % 18446744073709551616) : Nat) : Int)), (27, .int .u64 ((((x / 2 ^ 32) * (y &&& 4294967295) % 18446744073709551616) : Nat) : Int)), (26, .int .u64 (((y &&& 4294967295) : Nat) : Int)), (25, .int .u64 (((x / 2 ^ 32) : Nat) : Int)), (10, .int .u64 ((((x &&& 4294967295) * (y &&& 4294967295) % 18446744073709551616) : Nat) : Int)), (9, .int .u64 (((y / 2 ^ 32) : Nat) : Int)), (8, .int .u64 (((y &&& 4294967295) : Nat) : Int)), (7, .int .u64 (((x / 2 ^ 32) : Nat) : Int)), (6, .int .u64 (((x &&& 4294967295) : Nat) : Int)), (5, .int .u64 0), (4, .int .u64 0), (0, .int .u64 ((x : Nat) : Int)), (1, .int .u64 ((y : Nat) : Int))]) (cs := [((x &&& 4294967295) * (y &&& 4294967295) % 18446744073709551616) < 18446744073709551616]) (by kernel_rfl) rfl (And.intro (by first | omega | (have := Nat.and_le_right (n := x) (m := 4294967295); omega)) trivial) ?_
  intro a32 hF33; clear hF29 a27
  have hF34 := hF33.pick [11, 10, 9, 8, 7, 6, 5, 4, 0, 1] (G := [(11, .int .u64 ((((((x / 2 ^ 32) * (y &&& 4294967295) % 18446744073709551616) + (((x &&& 4294967295) * (y &&& 4294967295) % 18446744073709551616) / 2 ^ 32)) % 18446744073709551616) : Nat) : Int)), (10, .int .u64 ((((x &&& 4294967295) * (y &&& 4294967295) % 18446744073709551616) : Nat) : Int)), (9, .int .u64 (((y / 2 ^ 32) : Nat) : Int)), (8, .int .u64 (((y &&& 4294967295) : Nat) : Int)), (7, .int .u64 (((x / 2 ^ 32) : Nat) : Int)), (6, .int .u64 (((x &&& 4294967295) : Nat) : Int)), (5, .int .u64 0), (4, .int .u64 0), (0, .int .u64 ((x : Nat) : Int)), (1, .int .u64 ((y : Nat) : Int))]) (by kernel_rfl); clear hF33
  refine hK31 _ _ ?_
  refine wp_seq_k (fun K35 hK36 => ?_)
  refine wp_region_lit ?_
  refine pures_end hT 3 _ hF34 (F' := [(12, .int .u64 (((((((x / 2 ^ 32) * (y &&& 4294967295) % 18446744073709551616) + (((x &&& 4294967295) * (y &&& 4294967295) % 18446744073709551616) / 2 ^ 32)) % 18446744073709551616) &&& 4294967295) : Nat) : Int)), (32, .int .u64 (((((((x / 2 ^ 32) * (y &&& 4294967295) % 18446744073709551616) + (((x &&& 4294967295) * (y &&& 4294967295) % 18446744073709551616) / 2 ^ 32)) % 18446744073709551616) &&& 4294967295) : Nat) : Int)), (31, .int .u64 ((((((x / 2 ^ 32) * (y &&& 4294967295) % 18446744073709551616) + (((x &&& 4294967295) * (y &&& 4294967295) % 18446744073709551616) / 2 ^ 32)) % 18446744073709551616) : Nat) : Int)), (11, .int .u64 ((((((x / 2 ^ 32) * (y &&& 4294967295) % 18446744073709551616) + (((x &&& 4294967295) * (y &&& 4294967295) % 18446744073709551616) / 2 ^ 32)) % 18446744073709551616) : Nat) : Int)), (10, .int .u64 ((((x &&& 4294967295) * (y &&& 4294967295) % 18446744073709551616) : Nat) : Int)), (9, .int .u64 (((y / 2 ^ 32) : Nat) : Int)), (8, .int .u64 (((y &&& 4294967295) : Nat) : Int)), (7, .int .u64 (((x / 2 ^ 32) : Nat) : Int)), (6, .int .u64 (((x &&& 4294967295) : Nat) : Int)), (5, .int .u64 0), (4, .int .u64 0), (0, .int .u64 ((x : Nat) : Int)), (1, .int .u64 ((y : Nat) : Int))]) (cs := [((((x / 2 ^ 32) * (y &&& 4294967295) % 18446744073709551616) + (((x &&& 4294967295) * (y &&& 4294967295) % 18446744073709551616) / 2 ^ 32)) % 18446744073709551616) < 18446744073709551616, 4294967295 < 18446744073709551616]) (by kernel_rfl) rfl (And.intro (by first | omega | (have := Nat.and_le_right (n := x) (m := 4294967295); omega)) (And.intro (by first | omega | (have := Nat.and_le_right (n := x) (m := 4294967295); omega)) trivial)) ?_
  intro a37 hF38; clear hF34 a32
  have hF39 := hF38.pick [12, 11, 10, 9, 8, 7, 6, 5, 4, 0, 1] (G := [(12, .int .u64 (((((((x / 2 ^ 32) * (y &&& 4294967295) % 18446744073709551616) + (((x &&& 4294967295) * (y &&& 4294967295) % 18446744073709551616) / 2 ^ 32)) % 18446744073709551616) &&& 4294967295) : Nat) : Int)), (11, .int .u64 ((((((x / 2 ^ 32) * (y &&& 4294967295) % 18446744073709551616) + (((x &&& 4294967295) * (y &&& 4294967295) % 18446744073709551616) / 2 ^ 32)) % 18446744073709551616) : Nat) : Int)), (10, .int .u64 ((((x &&& 4294967295) * (y &&& 4294967295) % 18446744073709551616) : Nat) : Int)), (9, .int .u64 (((y / 2 ^ 32) : Nat) : Int)), (8, .int .u64 (((y &&& 4294967295) : Nat) : Int)), (7, .int .u64 (((x / 2 ^ 32) : Nat) : Int)), (6, .int .u64 (((x &&& 4294967295) : Nat) : Int)), (5, .int .u64 0), (4, .int .u64 0), (0, .int .u64 ((x : Nat) : Int)), (1, .int .u64 ((y : Nat) : Int))]) (by kernel_rfl); clear hF38
  refine hK36 _ _ ?_
  refine wp_seq_k (fun K40 hK41 => ?_)
  refine wp_region_lit ?_
  refine pures_end hT 3 _ hF39 (F' := [(13, .int .u64 (((((((x / 2 ^ 32) * (y &&& 4294967295) % 18446744073709551616) + (((x &&& 4294967295) * (y &&& 4294967295) % 18446744073709551616) / 2 ^ 32)) % 18446744073709551616) / 2 ^ 32) : Nat) : Int)), (34, .int .u64 (((((((x / 2 ^ 32) * (y &&& 4294967295) % 18446744073709551616) + (((x &&& 4294967295) * (y &&& 4294967295) % 18446744073709551616) / 2 ^ 32)) % 18446744073709551616) / 2 ^ 32) : Nat) : Int)), (33, .int .u64 ((((((x / 2 ^ 32) * (y &&& 4294967295) % 18446744073709551616) + (((x &&& 4294967295) * (y &&& 4294967295) % 18446744073709551616) / 2 ^ 32)) % 18446744073709551616) : Nat) : Int)), (12, .int .u64 (((((((x / 2 ^ 32) * (y &&& 4294967295) % 18446744073709551616) + (((x &&& 4294967295) * (y &&& 4294967295) % 18446744073709551616) / 2 ^ 32)) % 18446744073709551616) &&& 4294967295) : Nat) : Int)), (11, .int .u64 ((((((x / 2 ^ 32) * (y &&& 4294967295) % 18446744073709551616) + (((x &&& 4294967295) * (y &&& 4294967295) % 18446744073709551616) / 2 ^ 32)) % 18446744073709551616) : Nat) : Int)), (10, .int .u64 ((((x &&& 4294967295) * (y &&& 4294967295) % 18446744073709551616) : Nat) : Int)), (9, .int .u64 (((y / 2 ^ 32) : Nat) : Int)), (8, .int .u64 (((y &&& 4294967295) : Nat) : Int)), (7, .int .u64 (((x / 2 ^ 32) : Nat) : Int)), (6, .int .u64 (((x &&& 4294967295) : Nat) : Int)), (5, .int .u64 0), (4, .int .u64 0), (0, .int .u64 ((x : Nat) : Int)), (1, .int .u64 ((y : Nat) : Int))]) (cs := [((((x / 2 ^ 32) * (y &&& 4294967295) % 18446744073709551616) + (((x &&& 4294967295) * (y &&& 4294967295) % 18446744073709551616) / 2 ^ 32)) % 18446744073709551616) < 18446744073709551616]) (by kernel_rfl) rfl (And.intro (by first | omega | (have := Nat.and_le_right (n := x) (m := 4294967295); omega)) trivial) ?_
  intro a42 hF43; clear hF39 a37
  have hF44 := hF43.pick [13, 12, 11, 10, 9, 8, 7, 6, 5, 4, 0, 1] (G := [(13, .int .u64 (((((((x / 2 ^ 32) * (y &&& 4294967295) % 18446744073709551616) + (((x &&& 4294967295) * (y &&& 4294967295) % 18446744073709551616) / 2 ^ 32)) % 18446744073709551616) / 2 ^ 32) : Nat) : Int)), (12, .int .u64 (((((((x / 2 ^ 32) * (y &&& 4294967295) % 18446744073709551616) + (((x &&& 4294967295) * (y &&& 4294967295) % 18446744073709551616) / 2 ^ 32)) % 18446744073709551616) &&& 4294967295) : Nat) : Int)), (11, .int .u64 ((((((x / 2 ^ 32) * (y &&& 4294967295) % 18446744073709551616) + (((x &&& 4294967295) * (y &&& 4294967295) % 18446744073709551616) / 2 ^ 32)) % 18446744073709551616) : Nat) : Int)), (10, .int .u64 ((((x &&& 4294967295) * (y &&& 4294967295) % 18446744073709551616) : Nat) : Int)), (9, .int .u64 (((y / 2 ^ 32) : Nat) : Int)), (8, .int .u64 (((y &&& 4294967295) : Nat) : Int)), (7, .int .u64 (((x / 2 ^ 32) : Nat) : Int)), (6, .int .u64 (((x &&& 4294967295) : Nat) : Int)), (5, .int .u64 0), (4, .int .u64 0), (0, .int .u64 ((x : Nat) : Int)), (1, .int .u64 ((y : Nat) : Int))]) (by kernel_rfl); clear hF43
  refine hK41 _ _ ?_
  refine wp_seq_k (fun K45 hK46 => ?_)
  refine wp_region_lit ?_
  refine pures_end hT 6 _ hF44 (F' := [(12, .int .u64 (((((((((x / 2 ^ 32) * (y &&& 4294967295) % 18446744073709551616) + (((x &&& 4294967295) * (y &&& 4294967295) % 18446744073709551616) / 2 ^ 32)) % 18446744073709551616) &&& 4294967295) + ((x &&& 4294967295) * (y / 2 ^ 32) % 18446744073709551616)) % 18446744073709551616) : Nat) : Int)), (39, .int .u64 (((((((((x / 2 ^ 32) * (y &&& 4294967295) % 18446744073709551616) + (((x &&& 4294967295) * (y &&& 4294967295) % 18446744073709551616) / 2 ^ 32)) % 18446744073709551616) &&& 4294967295) + ((x &&& 4294967295) * (y / 2 ^ 32) % 18446744073709551616)) % 18446744073709551616) : Nat) : Int)), (38, .int .u64 ((((x &&& 4294967295) * (y / 2 ^ 32) % 18446744073709551616) : Nat) : Int)), (37, .int .u64 (((y / 2 ^ 32) : Nat) : Int)), (36, .int .u64 (((x &&& 4294967295) : Nat) : Int)), (35, .int .u64 (((((((x / 2 ^ 32) * (y &&& 4294967295) % 18446744073709551616) + (((x &&& 4294967295) * (y &&& 4294967295) % 18446744073709551616) / 2 ^ 32)) % 18446744073709551616) &&& 4294967295) : Nat) : Int)), (13, .int .u64 (((((((x / 2 ^ 32) * (y &&& 4294967295) % 18446744073709551616) + (((x &&& 4294967295) * (y &&& 4294967295) % 18446744073709551616) / 2 ^ 32)) % 18446744073709551616) / 2 ^ 32) : Nat) : Int)), (12, .int .u64 (((((((x / 2 ^ 32) * (y &&& 4294967295) % 18446744073709551616) + (((x &&& 4294967295) * (y &&& 4294967295) % 18446744073709551616) / 2 ^ 32)) % 18446744073709551616) &&& 4294967295) : Nat) : Int)), (11, .int .u64 ((((((x / 2 ^ 32) * (y &&& 4294967295) % 18446744073709551616) + (((x &&& 4294967295) * (y &&& 4294967295) % 18446744073709551616) / 2 ^ 32)) % 18446744073709551616) : Nat) : Int)), (10, .int .u64 ((((x &&& 4294967295) * (y &&& 4294967295) % 18446744073709551616) : Nat) : Int)), (9, .int .u64 (((y / 2 ^ 32) : Nat) : Int)), (8, .int .u64 (((y &&& 4294967295) : Nat) : Int)), (7, .int .u64 (((x / 2 ^ 32) : Nat) : Int)), (6, .int .u64 (((x &&& 4294967295) : Nat) : Int)), (5, .int .u64 0), (4, .int .u64 0), (0, .int .u64 ((x : Nat) : Int)), (1, .int .u64 ((y : Nat) : Int))]) (cs := []) (by kernel_rfl) rfl trivial ?_
  intro a47 hF48; clear hF44 a42
  have hF49 := hF48.pick [12, 13, 11, 10, 9, 8, 7, 6, 5, 4, 0, 1] (G := [(12, .int .u64 (((((((((x / 2 ^ 32) * (y &&& 4294967295) % 18446744073709551616) + (((x &&& 4294967295) * (y &&& 4294967295) % 18446744073709551616) / 2 ^ 32)) % 18446744073709551616) &&& 4294967295) + ((x &&& 4294967295) * (y / 2 ^ 32) % 18446744073709551616)) % 18446744073709551616) : Nat) : Int)), (13, .int .u64 (((((((x / 2 ^ 32) * (y &&& 4294967295) % 18446744073709551616) + (((x &&& 4294967295) * (y &&& 4294967295) % 18446744073709551616) / 2 ^ 32)) % 18446744073709551616) / 2 ^ 32) : Nat) : Int)), (11, .int .u64 ((((((x / 2 ^ 32) * (y &&& 4294967295) % 18446744073709551616) + (((x &&& 4294967295) * (y &&& 4294967295) % 18446744073709551616) / 2 ^ 32)) % 18446744073709551616) : Nat) : Int)), (10, .int .u64 ((((x &&& 4294967295) * (y &&& 4294967295) % 18446744073709551616) : Nat) : Int)), (9, .int .u64 (((y / 2 ^ 32) : Nat) : Int)), (8, .int .u64 (((y &&& 4294967295) : Nat) : Int)), (7, .int .u64 (((x / 2 ^ 32) : Nat) : Int)), (6, .int .u64 (((x &&& 4294967295) : Nat) : Int)), (5, .int .u64 0), (4, .int .u64 0), (0, .int .u64 ((x : Nat) : Int)), (1, .int .u64 ((y : Nat) : Int))]) (by kernel_rfl); clear hF48
  refine hK46 _ _ ?_
  refine wp_seq_k (fun K50 hK51 => ?_)
  refine wp_region_lit ?_
  refine pures_end hT 9 _ hF49 (F' := [(4, .int .u64 ((((((((x / 2 ^ 32) * (y / 2 ^ 32) % 18446744073709551616) + (((((x / 2 ^ 32) * (y &&& 4294967295) % 18446744073709551616) + (((x &&& 4294967295) * (y &&& 4294967295) % 18446744073709551616) / 2 ^ 32)) % 18446744073709551616) / 2 ^ 32)) % 18446744073709551616) + ((((((((x / 2 ^ 32) * (y &&& 4294967295) % 18446744073709551616) + (((x &&& 4294967295) * (y &&& 4294967295) % 18446744073709551616) / 2 ^ 32)) % 18446744073709551616) &&& 4294967295) + ((x &&& 4294967295) * (y / 2 ^ 32) % 18446744073709551616)) % 18446744073709551616) / 2 ^ 32)) % 18446744073709551616) : Nat) : Int)), (47, .int .u64 ((((((((x / 2 ^ 32) * (y / 2 ^ 32) % 18446744073709551616) + (((((x / 2 ^ 32) * (y &&& 4294967295) % 18446744073709551616) + (((x &&& 4294967295) * (y &&& 4294967295) % 18446744073709551616) / 2 ^ 32)) % 18446744073709551616) / 2 ^ 32)) % 18446744073709551616) + ((((((((x / 2 ^ 32) * (y &&& 4294967295) % 18446744073709551616) + (((x &&& 4294967295) * (y &&& 4294967295) % 18446744073709551616) / 2 ^ 32)) % 18446744073709551616) &&& 4294967295) + ((x &&& 4294967295) * (y / 2 ^ 32) % 18446744073709551616)) % 18446744073709551616) / 2 ^ 32)) % 18446744073709551616) : Nat) : Int)), (46, .int .u64 ((((((((((x / 2 ^ 32) * (y &&& 4294967295) % 18446744073709551616) + (((x &&& 4294967295) * (y &&& 4294967295) % 18446744073709551616) / 2 ^ 32)) % 18446744073709551616) &&& 4294967295) + ((x &&& 4294967295) * (y / 2 ^ 32) % 18446744073709551616)) % 18446744073709551616) / 2 ^ 32) : Nat) : Int)), (45, .int .u64 (((((((((x / 2 ^ 32) * (y &&& 4294967295) % 18446744073709551616) + (((x &&& 4294967295) * (y &&& 4294967295) % 18446744073709551616) / 2 ^ 32)) % 18446744073709551616) &&& 4294967295) + ((x &&& 4294967295) * (y / 2 ^ 32) % 18446744073709551616)) % 18446744073709551616) : Nat) : Int)), (44, .int .u64 ((((((x / 2 ^ 32) * (y / 2 ^ 32) % 18446744073709551616) + (((((x / 2 ^ 32) * (y &&& 4294967295) % 18446744073709551616) + (((x &&& 4294967295) * (y &&& 4294967295) % 18446744073709551616) / 2 ^ 32)) % 18446744073709551616) / 2 ^ 32)) % 18446744073709551616) : Nat) : Int)), (43, .int .u64 (((((((x / 2 ^ 32) * (y &&& 4294967295) % 18446744073709551616) + (((x &&& 4294967295) * (y &&& 4294967295) % 18446744073709551616) / 2 ^ 32)) % 18446744073709551616) / 2 ^ 32) : Nat) : Int)), (42, .int .u64 ((((x / 2 ^ 32) * (y / 2 ^ 32) % 18446744073709551616) : Nat) : Int)), (41, .int .u64 (((y / 2 ^ 32) : Nat) : Int)), (40, .int .u64 (((x / 2 ^ 32) : Nat) : Int)), (12, .int .u64 (((((((((x / 2 ^ 32) * (y &&& 4294967295) % 18446744073709551616) + (((x &&& 4294967295) * (y &&& 4294967295) % 18446744073709551616) / 2 ^ 32)) % 18446744073709551616) &&& 4294967295) + ((x &&& 4294967295) * (y / 2 ^ 32) % 18446744073709551616)) % 18446744073709551616) : Nat) : Int)), (13, .int .u64 (((((((x / 2 ^ 32) * (y &&& 4294967295) % 18446744073709551616) + (((x &&& 4294967295) * (y &&& 4294967295) % 18446744073709551616) / 2 ^ 32)) % 18446744073709551616) / 2 ^ 32) : Nat) : Int)), (11, .int .u64 ((((((x / 2 ^ 32) * (y &&& 4294967295) % 18446744073709551616) + (((x &&& 4294967295) * (y &&& 4294967295) % 18446744073709551616) / 2 ^ 32)) % 18446744073709551616) : Nat) : Int)), (10, .int .u64 ((((x &&& 4294967295) * (y &&& 4294967295) % 18446744073709551616) : Nat) : Int)), (9, .int .u64 (((y / 2 ^ 32) : Nat) : Int)), (8, .int .u64 (((y &&& 4294967295) : Nat) : Int)), (7, .int .u64 (((x / 2 ^ 32) : Nat) : Int)), (6, .int .u64 (((x &&& 4294967295) : Nat) : Int)), (5, .int .u64 0), (4, .int .u64 0), (0, .int .u64 ((x : Nat) : Int)), (1, .int .u64 ((y : Nat) : Int))]) (cs := [(((((((x / 2 ^ 32) * (y &&& 4294967295) % 18446744073709551616) + (((x &&& 4294967295) * (y &&& 4294967295) % 18446744073709551616) / 2 ^ 32)) % 18446744073709551616) &&& 4294967295) + ((x &&& 4294967295) * (y / 2 ^ 32) % 18446744073709551616)) % 18446744073709551616) < 18446744073709551616]) (by kernel_rfl) rfl (And.intro (by first | omega | (have := Nat.and_le_right (n := x) (m := 4294967295); omega)) trivial) ?_
  intro a52 hF53; clear hF49 a47
  have hF54 := hF53.pick [4, 12, 13, 11, 10, 9, 8, 7, 6, 5, 0, 1] (G := [(4, .int .u64 ((((((((x / 2 ^ 32) * (y / 2 ^ 32) % 18446744073709551616) + (((((x / 2 ^ 32) * (y &&& 4294967295) % 18446744073709551616) + (((x &&& 4294967295) * (y &&& 4294967295) % 18446744073709551616) / 2 ^ 32)) % 18446744073709551616) / 2 ^ 32)) % 18446744073709551616) + ((((((((x / 2 ^ 32) * (y &&& 4294967295) % 18446744073709551616) + (((x &&& 4294967295) * (y &&& 4294967295) % 18446744073709551616) / 2 ^ 32)) % 18446744073709551616) &&& 4294967295) + ((x &&& 4294967295) * (y / 2 ^ 32) % 18446744073709551616)) % 18446744073709551616) / 2 ^ 32)) % 18446744073709551616) : Nat) : Int)), (12, .int .u64 (((((((((x / 2 ^ 32) * (y &&& 4294967295) % 18446744073709551616) + (((x &&& 4294967295) * (y &&& 4294967295) % 18446744073709551616) / 2 ^ 32)) % 18446744073709551616) &&& 4294967295) + ((x &&& 4294967295) * (y / 2 ^ 32) % 18446744073709551616)) % 18446744073709551616) : Nat) : Int)), (13, .int .u64 (((((((x / 2 ^ 32) * (y &&& 4294967295) % 18446744073709551616) + (((x &&& 4294967295) * (y &&& 4294967295) % 18446744073709551616) / 2 ^ 32)) % 18446744073709551616) / 2 ^ 32) : Nat) : Int)), (11, .int .u64 ((((((x / 2 ^ 32) * (y &&& 4294967295) % 18446744073709551616) + (((x &&& 4294967295) * (y &&& 4294967295) % 18446744073709551616) / 2 ^ 32)) % 18446744073709551616) : Nat) : Int)), (10, .int .u64 ((((x &&& 4294967295) * (y &&& 4294967295) % 18446744073709551616) : Nat) : Int)), (9, .int .u64 (((y / 2 ^ 32) : Nat) : Int)), (8, .int .u64 (((y &&& 4294967295) : Nat) : Int)), (7, .int .u64 (((x / 2 ^ 32) : Nat) : Int)), (6, .int .u64 (((x &&& 4294967295) : Nat) : Int)), (5, .int .u64 0), (0, .int .u64 ((x : Nat) : Int)), (1, .int .u64 ((y : Nat) : Int))]) (by kernel_rfl); clear hF53
  refine hK51 _ _ ?_
  refine wp_seq_k (fun K55 hK56 => ?_)
  refine wp_region_lit ?_
  refine pures_end hT 4 _ hF54 (F' := [(5, .int .u64 (((x * y % 18446744073709551616) : Nat) : Int)), (50, .int .u64 (((x * y % 18446744073709551616) : Nat) : Int)), (49, .int .u64 ((y : Nat) : Int)), (48, .int .u64 ((x : Nat) : Int)), (4, .int .u64 ((((((((x / 2 ^ 32) * (y / 2 ^ 32) % 18446744073709551616) + (((((x / 2 ^ 32) * (y &&& 4294967295) % 18446744073709551616) + (((x &&& 4294967295) * (y &&& 4294967295) % 18446744073709551616) / 2 ^ 32)) % 18446744073709551616) / 2 ^ 32)) % 18446744073709551616) + ((((((((x / 2 ^ 32) * (y &&& 4294967295) % 18446744073709551616) + (((x &&& 4294967295) * (y &&& 4294967295) % 18446744073709551616) / 2 ^ 32)) % 18446744073709551616) &&& 4294967295) + ((x &&& 4294967295) * (y / 2 ^ 32) % 18446744073709551616)) % 18446744073709551616) / 2 ^ 32)) % 18446744073709551616) : Nat) : Int)), (12, .int .u64 (((((((((x / 2 ^ 32) * (y &&& 4294967295) % 18446744073709551616) + (((x &&& 4294967295) * (y &&& 4294967295) % 18446744073709551616) / 2 ^ 32)) % 18446744073709551616) &&& 4294967295) + ((x &&& 4294967295) * (y / 2 ^ 32) % 18446744073709551616)) % 18446744073709551616) : Nat) : Int)), (13, .int .u64 (((((((x / 2 ^ 32) * (y &&& 4294967295) % 18446744073709551616) + (((x &&& 4294967295) * (y &&& 4294967295) % 18446744073709551616) / 2 ^ 32)) % 18446744073709551616) / 2 ^ 32) : Nat) : Int)), (11, .int .u64 ((((((x / 2 ^ 32) * (y &&& 4294967295) % 18446744073709551616) + (((x &&& 4294967295) * (y &&& 4294967295) % 18446744073709551616) / 2 ^ 32)) % 18446744073709551616) : Nat) : Int)), (10, .int .u64 ((((x &&& 4294967295) * (y &&& 4294967295) % 18446744073709551616) : Nat) : Int)), (9, .int .u64 (((y / 2 ^ 32) : Nat) : Int)), (8, .int .u64 (((y &&& 4294967295) : Nat) : Int)), (7, .int .u64 (((x / 2 ^ 32) : Nat) : Int)), (6, .int .u64 (((x &&& 4294967295) : Nat) : Int)), (5, .int .u64 0), (0, .int .u64 ((x : Nat) : Int)), (1, .int .u64 ((y : Nat) : Int))]) (cs := []) (by kernel_rfl) rfl trivial ?_
  intro a57 hF58; clear hF54 a52
  have hF59 := hF58.pick [5, 4, 12, 13, 11, 10, 9, 8, 7, 6, 0, 1] (G := [(5, .int .u64 (((x * y % 18446744073709551616) : Nat) : Int)), (4, .int .u64 ((((((((x / 2 ^ 32) * (y / 2 ^ 32) % 18446744073709551616) + (((((x / 2 ^ 32) * (y &&& 4294967295) % 18446744073709551616) + (((x &&& 4294967295) * (y &&& 4294967295) % 18446744073709551616) / 2 ^ 32)) % 18446744073709551616) / 2 ^ 32)) % 18446744073709551616) + ((((((((x / 2 ^ 32) * (y &&& 4294967295) % 18446744073709551616) + (((x &&& 4294967295) * (y &&& 4294967295) % 18446744073709551616) / 2 ^ 32)) % 18446744073709551616) &&& 4294967295) + ((x &&& 4294967295) * (y / 2 ^ 32) % 18446744073709551616)) % 18446744073709551616) / 2 ^ 32)) % 18446744073709551616) : Nat) : Int)), (12, .int .u64 (((((((((x / 2 ^ 32) * (y &&& 4294967295) % 18446744073709551616) + (((x &&& 4294967295) * (y &&& 4294967295) % 18446744073709551616) / 2 ^ 32)) % 18446744073709551616) &&& 4294967295) + ((x &&& 4294967295) * (y / 2 ^ 32) % 18446744073709551616)) % 18446744073709551616) : Nat) : Int)), (13, .int .u64 (((((((x / 2 ^ 32) * (y &&& 4294967295) % 18446744073709551616) + (((x &&& 4294967295) * (y &&& 4294967295) % 18446744073709551616) / 2 ^ 32)) % 18446744073709551616) / 2 ^ 32) : Nat) : Int)), (11, .int .u64 ((((((x / 2 ^ 32) * (y &&& 4294967295) % 18446744073709551616) + (((x &&& 4294967295) * (y &&& 4294967295) % 18446744073709551616) / 2 ^ 32)) % 18446744073709551616) : Nat) : Int)), (10, .int .u64 ((((x &&& 4294967295) * (y &&& 4294967295) % 18446744073709551616) : Nat) : Int)), (9, .int .u64 (((y / 2 ^ 32) : Nat) : Int)), (8, .int .u64 (((y &&& 4294967295) : Nat) : Int)), (7, .int .u64 (((x / 2 ^ 32) : Nat) : Int)), (6, .int .u64 (((x &&& 4294967295) : Nat) : Int)), (0, .int .u64 ((x : Nat) : Int)), (1, .int .u64 ((y : Nat) : Int))]) (by kernel_rfl); clear hF58
  refine hK56 _ _ ?_
  refine wp_ret ?_
  refine ret2 hF59 rfl (v := .int .u64 ((((((((x / 2 ^ 32) * (y / 2 ^ 32) % 18446744073709551616) + (((((x / 2 ^ 32) * (y &&& 4294967295) % 18446744073709551616) + (((x &&& 4294967295) * (y &&& 4294967295) % 18446744073709551616) / 2 ^ 32)) % 18446744073709551616) / 2 ^ 32)) % 18446744073709551616) + ((((((((x / 2 ^ 32) * (y &&& 4294967295) % 18446744073709551616) + (((x &&& 4294967295) * (y &&& 4294967295) % 18446744073709551616) / 2 ^ 32)) % 18446744073709551616) &&& 4294967295) + ((x &&& 4294967295) * (y / 2 ^ 32) % 18446744073709551616)) % 18446744073709551616) / 2 ^ 32)) % 18446744073709551616) : Nat) : Int)) (v2 := .int .u64 (((x * y % 18446744073709551616) : Nat) : Int)) (by kernel_rfl) (by kernel_rfl) ?_
  exact ⟨by rw [mul64_hi hx hy], HE⟩

theorem nums_trim (A : Option Addr) (n c : Nat) (xs : List Nat) (w : World) (hn : xs.length = n) (hR : Rd w A (vs .u64 xs)) (hc : n ≤ c) (hl : n ≤ 1152921504606846976) :
    Calls Try.prog 48 [.slice A n c].toArray w (Ret fun v w' => v = .slice A (tlen xs) c ∧ Ex w w') := by
  refine enter Try.func48 rfl (n := 21) Try.ntmps48 (by simp) ?_
  intro a hF
  have HE : Ex w w := Ex.refl w
  refine wp_seq_k (fun K1 hK2 => ?_)
  refine wp_region_lit ?_
  refine pures_end hT 1 _ hF (F' := [(2, .slice none 0 0), (0, .slice A n c)]) (cs := []) (by kernel_rfl) rfl trivial ?_
  intro a3 hF4; clear hF a
  refine hK2 _ _ ?_
  refine wp_seq_k (fun K5 hK6 => ?_)
  have hK7 : ∀ (a : Act) (W : World), (∃ (k : Nat), (Fr 21 a [(0, .slice A k c)]) ∧ (Ex w W) ∧ (tlen xs = k)) → K5 a W := by
    clear hF4 HE
    rintro a8 w9 ⟨k, hF10, HE, hk⟩
    refine hK6 _ _ ?_
    refine wp_seq_k (fun K11 hK12 => ?_)
    refine wp_region_lit ?_
    refine pures_end hT 2 _ hF10 (F' := [(2, .slice A k c), (20, .slice A k c), (0, .slice A k c)]) (cs := []) (by kernel_rfl) rfl trivial ?_
    intro a13 hF14; clear hF10 a8
    have hF15 := hF14.pick [2, 0] (G := [(2, .slice A k c), (0, .slice A k c)]) (by kernel_rfl); clear hF14
    refine hK12 _ _ ?_
    refine wp_ret ?_
    refine ret1 hF15 rfl (v := .slice A k c) (by kernel_rfl) ?_
    exact ⟨by rw [hk], HE⟩
  clear hK6
  refine wp_block ?_
  refine loopK (fun mm_ a W => ∃ (k : Nat), (k) = mm_ ∧ (Fr 21 a [(0, .slice A k c)]) ∧ (Ex w W) ∧ (k ≤ xs.length) ∧ (∀ j, k ≤ j → xs.getD j 0 = 0)) _ ⟨n, rfl, hF4.pick [0] (by kernel_rfl), HE, (by omega), (fun j hj => getD_ge (by omega))⟩ ?_
  clear hF4 HE
  rintro mm_ a16 w17 ⟨k, rfl, hF20, HE, hk, hz⟩ K18 hK19
  refine wp_seq_k (fun K21 hK22 => ?_)
  refine wp_seq_k (fun K23 hK24 => ?_)
  refine wp_region_lit ?_
  refine pures hT 4 _ hF20 (F' := [(6, .bool ((decide (0 < ((k : Nat) : Int))))), (5, .bool ((decide (0 < ((k : Nat) : Int))))), (4, .int .i64 ((k : Nat) : Int)), (3, .slice A k c), (0, .slice A k c)]) (cs := []) (by kernel_rfl) trivial ?_
  intro a25 hF26; clear hF20 a16
  rcases dec_cases (0 < ((k : Nat) : Int)) with ⟨h27, e28⟩ | ⟨h27, e28⟩
  · rw [e28] at hF26; clear e28
    refine pures hT 4 _ hF26 (F' := [(10, .int .i64 (((k : Nat) : Int) - 1)), (9, .int .i64 ((k : Nat) : Int)), (8, .slice A k c), (7, .slice A k c), (6, .bool true), (5, .bool true), (4, .int .i64 ((k : Nat) : Int)), (3, .slice A k c), (0, .slice A k c)]) (cs := [-9223372036854775808 ≤ (((k : Nat) : Int) - 1), (((k : Nat) : Int) - 1) ≤ 9223372036854775807]) (by kernel_rfl) (And.intro (by omega) (And.intro (by omega) trivial)) ?_
    intro a29 hF30; clear hF26 a25
    rw [show (((k : Nat) : Int) - 1) = (((k - 1) : Nat) : Int) from by omega] at hF30
    refine pures hT 1 _ hF30 (F' := [(11, .pointer (some ⟨(ablk A), ((aoff A) + (k - 1)), none⟩)), (10, .int .i64 (((k - 1) : Nat) : Int)), (9, .int .i64 ((k : Nat) : Int)), (8, .slice A k c), (7, .slice A k c), (6, .bool true), (5, .bool true), (4, .int .i64 ((k : Nat) : Int)), (3, .slice A k c), (0, .slice A k c)]) (cs := [0 ≤ (((k - 1) : Nat) : Int), (((k - 1) : Nat) : Int) < ((k : Nat) : Int), (A : Option Addr) = some ⟨ablk A, aoff A, none⟩]) (by kernel_rfl) (And.intro (by omega) (And.intro (by omega) (And.intro ((hR.ex HE).some' (by (first | (simp only [vs_length, vi_length]; omega) | (simp; omega) | omega))) trivial))) ?_
    intro a31 hF32; clear hF30 a29
    refine wl (One.bare hF32 (by kernel_rfl) (s_load hT (d := 12) (A := ⟨(ablk A), ((aoff A) + (k - 1)), none⟩) (by kernel_rfl) hF32 ((hR.ex HE).cells.at (vs_get .u64 xs (i := (k - 1)) (by omega)) rfl) ?_))
    rintro a33 ha35 hF34; clear ha35 hF32 a31
    refine pures_end hT 2 _ hF34 (F' := [(14, .bool ((decide ((((xs.getD (k - 1) 0) : Nat) : Int) = 0)))), (13, .bool ((decide ((((xs.getD (k - 1) 0) : Nat) : Int) = 0)))), (12, .int .u64 (((xs.getD (k - 1) 0) : Nat) : Int)), (11, .pointer (some ⟨(ablk A), ((aoff A) + (k - 1)), none⟩)), (10, .int .i64 (((k - 1) : Nat) : Int)), (9, .int .i64 ((k : Nat) : Int)), (8, .slice A k c), (7, .slice A k c), (6, .bool true), (5, .bool true), (4, .int .i64 ((k : Nat) : Int)), (3, .slice A k c), (0, .slice A k c)]) (cs := []) (by kernel_rfl) rfl trivial ?_
    intro a36 hF37; clear hF34 a33
    have hF38 := hF37.pick [14, 0] (G := [(14, .bool ((decide ((((xs.getD (k - 1) 0) : Nat) : Int) = 0)))), (0, .slice A k c)]) (by kernel_rfl); clear hF37
    refine hK24 _ _ ?_
    refine condK hF38 (p := (((xs.getD (k - 1) 0) : Nat) : Int) = 0) (by kernel_rfl) (fun h39 => ?_) (fun h39 => ?_)
    · -- h39
      refine wp_skip ?_
      refine hK22 _ _ ?_
      refine wp_block ?_
      refine wp_region_lit ?_
      refine pures hT 4 _ hF38 (F' := [(18, .int .i64 (((k : Nat) : Int) - 1)), (17, .int .i64 ((k : Nat) : Int)), (16, .slice A k c), (15, .slice A k c), (14, .bool ((decide ((((xs.getD (k - 1) 0) : Nat) : Int) = 0)))), (0, .slice A k c)]) (cs := [-9223372036854775808 ≤ (((k : Nat) : Int) - 1), (((k : Nat) : Int) - 1) ≤ 9223372036854775807]) (by kernel_rfl) (And.intro (by omega) (And.intro (by omega) trivial)) ?_
      intro a40 hF41; clear hF38 a36
      rw [show (((k : Nat) : Int) - 1) = (((k - 1) : Nat) : Int) from by omega] at hF41
      refine wl (s_sliceLow hT (d := 19) (A := A) (m := k) (c := c) (sz := 1) (hi := (k - 1)) (by kernel_rfl) hF41 (by omega) (by omega) ?_)
      rintro a42 ha44 hF43; clear ha44 hF41 a40
      refine pures_end hT 1 _ hF43 (F' := [(0, .slice A (k - 1) c), (19, .slice A (k - 1) c), (18, .int .i64 (((k - 1) : Nat) : Int)), (17, .int .i64 ((k : Nat) : Int)), (16, .slice A k c), (15, .slice A k c), (14, .bool ((decide ((((xs.getD (k - 1) 0) : Nat) : Int) = 0)))), (0, .slice A k c)]) (cs := []) (by kernel_rfl) rfl trivial ?_
      intro a45 hF46; clear hF43 a42
      have hF47 := hF46.pick [0, 14] (G := [(0, .slice A (k - 1) c), (14, .bool ((decide ((((xs.getD (k - 1) 0) : Nat) : Int) = 0))))]) (by kernel_rfl); clear hF46
      refine hK19 _ _ _ (by omega) ⟨(k - 1), rfl, hF47.pick [0] (by kernel_rfl), HE, (by omega), (trim_step hz (by omega))⟩
    · -- h39
      refine wp_exit ?_
      exact hK7 _ _ ⟨k, hF38.pick [0] (by kernel_rfl), HE, (tlen_spec xs k hk hz (.inr (by omega)))⟩
  · rw [e28] at hF26; clear e28
    refine pures_end hT 8 _ hF26 (F' := [(14, .bool false), (13, undef), (12, undef), (11, undef), (10, undef), (9, undef), (8, undef), (7, undef), (6, .bool false), (5, .bool false), (4, .int .i64 ((k : Nat) : Int)), (3, .slice A k c), (0, .slice A k c)]) (cs := []) (by kernel_rfl) rfl trivial ?_
    intro a48 hF49; clear hF26 a25
    have hF50 := hF49.pick [14, 0] (G := [(14, .bool false), (0, .slice A k c)]) (by kernel_rfl); clear hF49
    refine hK24 _ _ ?_
    refine condF hF50 (by kernel_rfl) ?_
    refine wp_exit ?_
    exact hK7 _ _ ⟨k, hF50.pick [0] (by kernel_rfl), HE, (tlen_spec xs k hk hz (.inl (by omega)))⟩

theorem nums_at (A : Option Addr) (n c : Nat) (xs : List Nat) (i : Nat) (w : World) (hn : xs.length = n) (hR : Rd w A (vs .u64 xs)) :
    Calls Try.prog 43 [.slice A n c, .int .i64 ((i : Nat) : Int)].toArray w (Ret fun v w' => v = .int .u64 ((xs.getD i 0 : Nat) : Int) ∧ Ex w w') := by
  refine enter Try.func43 rfl (n := 13) Try.ntmps43 (by simp) ?_
  intro a hF
  have HE : Ex w w := Ex.refl w
  refine wp_seq_k (fun K1 hK2 => ?_)
  refine wp_region_lit ?_
  refine pures_end hT 1 _ hF (F' := [(4, .int .u64 0), (0, .slice A n c), (1, .int .i64 ((i : Nat) : Int))]) (cs := []) (by kernel_rfl) rfl trivial ?_
  intro a3 hF4; clear hF a
  refine hK2 _ _ ?_
  refine wp_seq_k (fun K5 hK6 => ?_)
  refine wp_seq_k (fun K7 hK8 => ?_)
  refine wp_region_lit ?_
  refine pures_end hT 4 _ hF4 (F' := [(8, .bool ((decide (((i : Nat) : Int) < ((n : Nat) : Int))))), (7, .int .i64 ((n : Nat) : Int)), (6, .slice A n c), (5, .int .i64 ((i : Nat) : Int)), (4, .int .u64 0), (0, .slice A n c), (1, .int .i64 ((i : Nat) : Int))]) (cs := []) (by kernel_rfl) rfl trivial ?_
  intro a9 hF10; clear hF4 a3
  have hF11 := hF10.pick [8, 4, 0, 1] (G := [(8, .bool ((decide (((i : Nat) : Int) < ((n : Nat) : Int))))), (4, .int .u64 0), (0, .slice A n c), (1, .int .i64 ((i : Nat) : Int))]) (by kernel_rfl); clear hF10
  refine hK8 _ _ ?_
  refine condK hF11 (p := ((i : Nat) : Int) < ((n : Nat) : Int)) (by kernel_rfl) (fun h12 => ?_) (fun h12 => ?_)
  · -- h12
    refine wp_seq_k (fun K13 hK14 => ?_)
    refine wp_region_lit ?_
    refine pures hT 3 _ hF11 (F' := [(11, .pointer (some ⟨(ablk A), ((aoff A) + i), none⟩)), (10, .int .i64 ((i : Nat) : Int)), (9, .slice A n c), (8, .bool ((decide (((i : Nat) : Int) < ((n : Nat) : Int))))), (4, .int .u64 0), (0, .slice A n c), (1, .int .i64 ((i : Nat) : Int))]) (cs := [0 ≤ ((i : Nat) : Int), ((i : Nat) : Int) < ((n : Nat) : Int), (A : Option Addr) = some ⟨ablk A, aoff A, none⟩]) (by kernel_rfl) (And.intro (by omega) (And.intro (by omega) (And.intro (hR.some' (by (first | (simp only [vs_length, vi_length]; omega) | (simp; omega) | omega))) trivial))) ?_
    intro a15 hF16; clear hF11 a9
    refine wl (s_load hT (d := 12) (A := ⟨(ablk A), ((aoff A) + i), none⟩) (by kernel_rfl) hF16 (hR.cells.at (vs_get .u64 xs (i := i) (by omega)) rfl) ?_)
    rintro a17 ha19 hF18; clear ha19 hF16 a15
    refine pures_end hT 1 _ hF18 (F' := [(4, .int .u64 (((xs.getD i 0) : Nat) : Int)), (12, .int .u64 (((xs.getD i 0) : Nat) : Int)), (11, .pointer (some ⟨(ablk A), ((aoff A) + i), none⟩)), (10, .int .i64 ((i : Nat) : Int)), (9, .slice A n c), (8, .bool ((decide (((i : Nat) : Int) < ((n : Nat) : Int))))), (4, .int .u64 0), (0, .slice A n c), (1, .int .i64 ((i : Nat) : Int))]) (cs := []) (by kernel_rfl) rfl trivial ?_
    intro a20 hF21; clear hF18 a17
    have hF22 := hF21.pick [4, 8, 0, 1] (G := [(4, .int .u64 (((xs.getD i 0) : Nat) : Int)), (8, .bool ((decide (((i : Nat) : Int) < ((n : Nat) : Int))))), (0, .slice A n c), (1, .int .i64 ((i : Nat) : Int))]) (by kernel_rfl); clear hF21
    refine hK14 _ _ ?_
    refine wp_ret ?_
    refine ret1 hF22 rfl (v := .int .u64 (((xs.getD i 0) : Nat) : Int)) (by kernel_rfl) ?_
    exact ⟨rfl, HE⟩
  · -- h12
    refine wp_skip ?_
    refine hK6 _ _ ?_
    refine wp_seq_k (fun K23 hK24 => ?_)
    refine wp_region_lit ?_
    refine pures_end hT 1 _ hF11 (F' := [(4, .int .u64 0), (8, .bool ((decide (((i : Nat) : Int) < ((n : Nat) : Int))))), (4, .int .u64 0), (0, .slice A n c), (1, .int .i64 ((i : Nat) : Int))]) (cs := []) (by kernel_rfl) rfl trivial ?_
    intro a25 hF26; clear hF11 a9
    have hF27 := hF26.pick [4, 8, 0, 1] (G := [(4, .int .u64 0), (8, .bool ((decide (((i : Nat) : Int) < ((n : Nat) : Int))))), (0, .slice A n c), (1, .int .i64 ((i : Nat) : Int))]) (by kernel_rfl); clear hF26
    refine hK24 _ _ ?_
    refine wp_ret ?_
    refine ret1 hF27 rfl (v := .int .u64 0) (by kernel_rfl) ?_
    exact ⟨by rw [getD_ge (by omega)]; rfl, HE⟩

theorem nums_read (A : Option Addr) (n c : Nat) (xs : List Nat) (w : World) (hn : xs.length = n) (hR : Rd w A (vs .u8 xs)) (hb : By xs) (hl : n ≤ 1099511627776) :
    Calls Try.prog 37 [.slice A n c].toArray w (Ret fun v w' => ∃ A' c', v = .slice A' (dig 18446744073709551616 (nv 256 xs)).length c' ∧ Ex w w' ∧ Own w' w.heap.size 47 1 A' (dig 18446744073709551616 (nv 256 xs)).length c' (vs .u64 (dig 18446744073709551616 (nv 256 xs)))) := by
  refine enter Try.func37 rfl (n := 34) Try.ntmps37 (by simp) ?_
  intro a hF
  have HE : Ex w w := Ex.refl w
  refine wp_seq_k (fun K1 hK2 => ?_)
  refine wp_region_lit ?_
  refine pures_end hT 1 _ hF (F' := [(2, .slice none 0 0), (0, .slice A n c)]) (cs := []) (by kernel_rfl) rfl trivial ?_
  intro a3 hF4; clear hF a
  refine hK2 _ _ ?_
  refine wp_seq_k (fun K5 hK6 => ?_)
  refine wp_region_lit ?_
  refine pures hT 4 _ hF4 (F' := [(9, .int .i64 ((((n + 7) / 8) : Nat) : Int)), (8, .int .i64 (((n + 7) : Nat) : Int)), (7, .int .i64 ((n : Nat) : Int)), (6, .slice A n c), (2, .slice none 0 0), (0, .slice A n c)]) (cs := [-9223372036854775808 ≤ (((n + 7) : Nat) : Int), (((n + 7) : Nat) : Int) ≤ 9223372036854775807, 0 ≤ (((n + 7) : Nat) : Int), (((n + 7) : Nat) : Int) ≤ 9223372036854775807, 0 < (8 : Int)]) (by kernel_rfl) (And.intro (by omega) (And.intro (by omega) (And.intro (by omega) (And.intro (by omega) (And.intro (by omega) trivial))))) ?_
  intro a7 hF8; clear hF4 a3
  have hz13 := HE.size
  refine wl (s_make hT (d := 10) (T := 47) (m := ((n + 7) / 8)) (i := tr47) (by kernel_rfl) (by intro t x y h; cases h; rfl) hF8 (by show ((n + 7) / 8) * 8 ≤ 281474976710656; omega) (by simp only [maxLen]; omega) ?_)
  rintro a14 w9 A12 HO11 g10 ha16 hF15; clear ha16 hF8 a7
  replace HO11 : Own w9 w.heap.size 47 1 A12 ((n + 7) / 8) ((n + 7) / 8) (vs .u64 (List.replicate ((n + 7) / 8) 0)) := (made_vs HO11 rfl rfl)
  replace HE := HE.thenN g10
  refine pures_end hT 1 _ hF15 (F' := [(3, .slice A12 ((n + 7) / 8) ((n + 7) / 8)), (10, .slice A12 ((n + 7) / 8) ((n + 7) / 8)), (9, .int .i64 ((((n + 7) / 8) : Nat) : Int)), (8, .int .i64 (((n + 7) : Nat) : Int)), (7, .int .i64 ((n : Nat) : Int)), (6, .slice A n c), (2, .slice none 0 0), (0, .slice A n c)]) (cs := []) (by kernel_rfl) rfl trivial ?_
  intro a17 hF18; clear hF15 a14
  have hF19 := hF18.pick [3, 2, 0] (G := [(3, .slice A12 ((n + 7) / 8) ((n + 7) / 8)), (2, .slice none 0 0), (0, .slice A n c)]) (by kernel_rfl); clear hF18
  refine hK6 _ _ ?_
  refine wp_seq_k (fun K20 hK21 => ?_)
  refine wp_seq_k (fun K22 hK23 => ?_)
  refine wp_region_lit ?_
  refine pures_end hT 3 _ hF19 (F' := [(13, .int .i64 0), (12, .int .i64 ((n : Nat) : Int)), (11, .slice A n c), (3, .slice A12 ((n + 7) / 8) ((n + 7) / 8)), (2, .slice none 0 0), (0, .slice A n c)]) (cs := []) (by kernel_rfl) rfl trivial ?_
  intro a24 hF25; clear hF19 a17
  refine hK23 _ _ ?_
  refine wp_block ?_
  refine loopK (fun mm_ a W => ∃ (k : Nat), ∃ (out : List Nat), (n - k) = mm_ ∧ (Fr 34 a [(0, .slice A n c), (3, .slice A12 ((n + 7) / 8) ((n + 7) / 8)), (11, .slice A n c), (12, .int .i64 ((n : Nat) : Int)), (13, .int .i64 ((k : Nat) : Int))]) ∧ (Ex w W) ∧ (Own W (w.heap.size) 47 1 A12 ((n + 7) / 8) ((n + 7) / 8) (vs .u64 out)) ∧ (k ≤ n) ∧ (out.length = (xs.length + 7) / 8) ∧ (∀ x, x ∈ out → x < 18446744073709551616) ∧ (nv 18446744073709551616 out = nv 256 (xs.take k))) _ ⟨0, (List.replicate ((n + 7) / 8) 0), rfl, hF25.pick [0, 3, 11, 12, 13] (by kernel_rfl), HE, HO11, (by omega), (by simp [hn]), (by intro x hx; rw [(List.mem_replicate.1 hx).2]; decide), (by rw [nv_replicate]; rfl)⟩ ?_
  clear hF25 HE HO11
  rintro mm_ a26 w27 ⟨k, out, rfl, hF30, HE, HO11, hk, hol, hob, hv⟩ K28 hK29
  refine wp_seq_k (fun K31 hK32 => ?_)
  refine wp_region_lit ?_
  refine pures_end hT 1 _ hF30 (F' := [(14, .bool ((decide (((k : Nat) : Int) < ((n : Nat) : Int))))), (0, .slice A n c), (3, .slice A12 ((n + 7) / 8) ((n + 7) / 8)), (11, .slice A n c), (12, .int .i64 ((n : Nat) : Int)), (13, .int .i64 ((k : Nat) : Int))]) (cs := []) (by kernel_rfl) rfl trivial ?_
  intro a33 hF34; clear hF30 a26
  refine hK32 _ _ ?_
  refine wp_seq_k (fun K35 hK36 => ?_)
  refine condK hF34 (p := ((k : Nat) : Int) < ((n : Nat) : Int)) (by kernel_rfl) (fun h37 => ?_) (fun h37 => ?_)
  · -- h37
    refine wp_skip ?_
    refine hK36 _ _ ?_
    refine wp_seq_k (fun K38 hK39 => ?_)
    refine wp_block ?_
    refine wp_seq_k (fun K40 hK41 => ?_)
    refine wp_region_lit ?_
    refine pures hT 2 _ hF34 (F' := [(16, .pointer (some ⟨(ablk A), ((aoff A) + k), none⟩)), (15, .int .i64 ((k : Nat) : Int)), (14, .bool ((decide (((k : Nat) : Int) < ((n : Nat) : Int))))), (0, .slice A n c), (3, .slice A12 ((n + 7) / 8) ((n + 7) / 8)), (11, .slice A n c), (12, .int .i64 ((n : Nat) : Int)), (13, .int .i64 ((k : Nat) : Int))]) (cs := [0 ≤ ((k : Nat) : Int), ((k : Nat) : Int) < ((n : Nat) : Int), (A : Option Addr) = some ⟨ablk A, aoff A, none⟩]) (by kernel_rfl) (And.intro (by omega) (And.intro (by omega) (And.intro ((hR.ex HE).some' (by (first | (simp only [vs_length, vi_length]; omega) | (simp; omega) | omega))) trivial))) ?_
    intro a42 hF43; clear hF34 a33
    refine wl (s_load hT (d := 17) (A := ⟨(ablk A), ((aoff A) + k), none⟩) (by kernel_rfl) hF43 ((hR.ex HE).cells.at (vs_get .u8 xs (i := k) (by omega)) rfl) ?_)
    rintro a44 ha46 hF45; clear ha46 hF43 a42
    refine pures_end hT 2 _ hF45 (F' := [(5, .int .u8 (((xs.getD k 0) : Nat) : Int)), (4, .int .i64 ((k : Nat) : Int)), (17, .int .u8 (((xs.getD k 0) : Nat) : Int)), (16, .pointer (some ⟨(ablk A), ((aoff A) + k), none⟩)), (15, .int .i64 ((k : Nat) : Int)), (14, .bool ((decide (((k : Nat) : Int) < ((n : Nat) : Int))))), (0, .slice A n c), (3, .slice A12 ((n + 7) / 8) ((n + 7) / 8)), (11, .slice A n c), (12, .int .i64 ((n : Nat) : Int)), (13, .int .i64 ((k : Nat) : Int))]) (cs := []) (by kernel_rfl) rfl trivial ?_
    intro a47 hF48; clear hF45 a44
    have hF49 := hF48.pick [5, 4, 14, 0, 3, 11, 12, 13] (G := [(5, .int .u8 (((xs.getD k 0) : Nat) : Int)), (4, .int .i64 ((k : Nat) : Int)), (14, .bool ((decide (((k : Nat) : Int) < ((n : Nat) : Int))))), (0, .slice A n c), (3, .slice A12 ((n + 7) / 8) ((n + 7) / 8)), (11, .slice A n c), (12, .int .i64 ((n : Nat) : Int)), (13, .int .i64 ((k : Nat) : Int))]) (by kernel_rfl); clear hF48
    refine hK41 _ _ ?_
    have hz51 := HE.size
    have hz52 := HO11.base
    have HZ50 : w27.heap.size ≤ w27.heap.size := Nat.le_refl _
    let SL_ : List SP := [SP.val (.slice A12 ((n + 7) / 8) ((n + 7) / 8)), SP.val (.int .i64 ((k : Nat) : Int)), SP.val (.int .i64 (((k / 8) : Nat) : Int)), SP.val (.pointer (some ⟨(ablk A12), ((aoff A12) + (k / 8)), none⟩)), SP.val (.int .u64 (((out.getD (k / 8) 0) : Nat) : Int)), SP.val (.int .u8 (((xs.getD k 0) : Nat) : Int)), SP.val (.int .u64 (((xs.getD k 0) : Nat) : Int)), SP.val (.int .i64 ((k : Nat) : Int)), SP.val (.int .i64 (((k % 8) : Nat) : Int)), SP.val (.int .i64 (((8 * (k % 8)) : Nat) : Int)), SP.val (.int .u64 ((((xs.getD k 0) * 2 ^ (8 * (k % 8)) % 18446744073709551616) : Nat) : Int)), SP.val (.int .u64 ((((out.getD (k / 8) 0) ||| ((xs.getD k 0) * 2 ^ (8 * (k % 8)) % 18446744073709551616)) : Nat) : Int)), SP.val (.pointer (some ⟨(ablk A12), ((aoff A12) + (k / 8)), none⟩)), SP.any]
    refine region_rel (SL := SL_) (J := (fun (b : Bool) (W : World) => (Ex w W) ∧ (match b with | true => Own W (w.heap.size) 47 1 A12 ((n + 7) / 8) ((n + 7) / 8) (vs .u64 (out.set (k / 8) ((out.getD (k / 8) 0) ||| ((xs.getD k 0) * 2 ^ (8 * (k % 8)) % 18446744073709551616)))) | false => Own W (w.heap.size) 47 1 A12 ((n + 7) / 8) ((n + 7) / 8) (vs .u64 out)) ∧ (w27.heap.size ≤ W.heap.size))) (m := 13) wide (by kernel_rfl) (by kernel_rfl) hF49 rfl ?_ ⟨HE, HO11, HZ50⟩ ⟨?_, ?_, ?_, ?_, ?_, ?_, ?_, ?_, ?_, ?_, ?_, ?_, ?_, ?_, trivial⟩ [(5, none), (4, none), (14, none), (0, none), (3, none), (11, none), (12, none), (13, none)] (by kernel_rfl) ?_
    · intro b W W' hj g; cases b <;> exact ⟨hj.1.thenN g, hj.2.1.growN g, Nat.le_trans hj.2.2 g.size⟩
    · -- operation 0
      rintro a54 w53 b56 KK62 hs58 hd59 hJ60 hb61 hr64 hK57
      have hr64x : RD SL_ b56 a54 a47 w53 [(3, none)] := hr64 _ (by kernel_rfl)
      obtain ⟨q63, -⟩ := hr64x
      obtain rfl : b56 = false := by cases b56; rfl; exact absurd ((hb61 rfl).2 _ rfl) (by decide)
      obtain ⟨HE, HO11, HZ50⟩ := hJ60
      have hF55 : Fr 34 a54 [(3, .slice A12 ((n + 7) / 8) ((n + 7) / 8))] := Fr.of hs58 hd59 ⟨(Fr.init hF49 q63 (by kernel_rfl)), trivial⟩
      refine s_pure hT (d := 18) (v := .slice A12 ((n + 7) / 8) ((n + 7) / 8)) (cs := []) (by kernel_rfl) (by kernel_rfl) trivial hF55 ?_
      rintro a2 ha2 hF2; rw [ha2]; exact hK57 _ _ rfl (grown_refl _ _)
    · -- operation 1
      rintro a66 w65 b68 KK74 hs70 hd71 hJ72 hb73 hr76 hK69
      have hr76x : RD SL_ b68 a66 a47 w65 [(4, none)] := hr76 _ (by kernel_rfl)
      obtain ⟨q75, -⟩ := hr76x
      obtain rfl : b68 = false := by cases b68; rfl; exact absurd ((hb73 rfl).2 _ rfl) (by decide)
      obtain ⟨HE, HO11, HZ50⟩ := hJ72
      have hF67 : Fr 34 a66 [(4, .int .i64 ((k : Nat) : Int))] := Fr.of hs70 hd71 ⟨(Fr.init hF49 q75 (by kernel_rfl)), trivial⟩
      refine s_pure hT (d := 19) (v := .int .i64 ((k : Nat) : Int)) (cs := []) (by kernel_rfl) (by kernel_rfl) trivial hF67 ?_
      rintro a2 ha2 hF2; rw [ha2]; exact hK69 _ _ rfl (grown_refl _ _)
    · -- operation 2
      rintro a78 w77 b80 KK86 hs82 hd83 hJ84 hb85 hr90 hK81
      have hr90x : RD SL_ b80 a78 a47 w77 [(19, some 1)] := hr90 _ (by kernel_rfl)
      obtain ⟨⟨v88, q87, s89⟩, -⟩ := hr90x
      obtain rfl : v88 = .int .i64 ((k : Nat) : Int) := s89
      obtain rfl : b80 = false := by cases b80; rfl; exact absurd ((hb85 rfl).2 _ rfl) (by decide)
      obtain ⟨HE, HO11, HZ50⟩ := hJ84
      have hF79 : Fr 34 a78 [(19, .int .i64 ((k : Nat) : Int))] := Fr.of hs82 hd83 ⟨q87, trivial⟩
      refine s_pure hT (d := 20) (v := .int .i64 (((k / 8) : Nat) : Int)) (cs := [0 ≤ ((k : Nat) : Int), ((k : Nat) : Int) ≤ 9223372036854775807, 0 < (8 : Int)]) (by kernel_rfl) (by kernel_rfl) (And.intro (by omega) (And.intro (by omega) (And.intro (by omega) trivial))) hF79 ?_
      rintro a2 ha2 hF2; rw [ha2]; exact hK81 _ _ rfl (grown_refl _ _)
    · -- operation 3
      rintro a92 w91 b94 KK100 hs96 hd97 hJ98 hb99 hr107 hK95
      have hr107x : RD SL_ b94 a92 a47 w91 [(18, some 0), (20, some 2)] := hr107 _ (by kernel_rfl)
      obtain ⟨⟨v102, q101, s103⟩, ⟨v105, q104, s106⟩, -⟩ := hr107x
      obtain rfl : v102 = .slice A12 ((n + 7) / 8) ((n + 7) / 8) := s103
      obtain rfl : v105 = .int .i64 (((k / 8) : Nat) : Int) := s106
      obtain rfl : b94 = false := by cases b94; rfl; exact absurd ((hb99 rfl).2 _ rfl) (by decide)
      obtain ⟨HE, HO11, HZ50⟩ := hJ98
      have hF93 : Fr 34 a92 [(18, .slice A12 ((n + 7) / 8) ((n + 7) / 8)), (20, .int .i64 (((k / 8) : Nat) : Int))] := Fr.of hs96 hd97 ⟨q101, q104, trivial⟩
      refine s_pure hT (d := 21) (v := .pointer (some ⟨(ablk A12), ((aoff A12) + (k / 8)), none⟩)) (cs := [0 ≤ (((k / 8) : Nat) : Int), (((k / 8) : Nat) : Int) < ((((n + 7) / 8) : Nat) : Int), (A12 : Option Addr) = some ⟨ablk A12, aoff A12, none⟩]) (by kernel_rfl) (by kernel_rfl) (And.intro (by omega) (And.intro (by omega) (And.intro (HO11.rd.some' (by (first | (simp only [vs_length, vi_length]; omega) | (simp; omega) | omega))) trivial))) hF93 ?_
      rintro a2 ha2 hF2; rw [ha2]; exact hK95 _ _ rfl (grown_refl _ _)
    · -- operation 4
      rintro a109 w108 b111 KK117 hs113 hd114 hJ115 hb116 hr121 hK112
      have hr121x : RD SL_ b111 a109 a47 w108 [(21, some 3)] := hr121 _ (by kernel_rfl)
      obtain ⟨⟨v119, q118, s120⟩, -⟩ := hr121x
      obtain rfl : v119 = .pointer (some ⟨(ablk A12), ((aoff A12) + (k / 8)), none⟩) := s120
      obtain rfl : b111 = false := by cases b111; rfl; exact absurd ((hb116 rfl).2 _ rfl) (by decide)
      obtain ⟨HE, HO11, HZ50⟩ := hJ115
      have hF110 : Fr 34 a109 [(21, .pointer (some ⟨(ablk A12), ((aoff A12) + (k / 8)), none⟩))] := Fr.of hs113 hd114 ⟨q118, trivial⟩
      refine s_load hT (d := 22) (A := ⟨(ablk A12), ((aoff A12) + (k / 8)), none⟩) (by kernel_rfl) hF110 (HO11.rd.cells.at (vs_get .u64 out (i := (k / 8)) (by omega)) rfl) ?_
      rintro a122 ha124 hF123
      rw [ha124]; exact hK112 _ _ rfl (grown_refl _ _)
    · -- operation 5
      rintro a126 w125 b128 KK134 hs130 hd131 hJ132 hb133 hr136 hK129
      have hr136x : RD SL_ b128 a126 a47 w125 [(5, none)] := hr136 _ (by kernel_rfl)
      obtain ⟨q135, -⟩ := hr136x
      obtain rfl : b128 = false := by cases b128; rfl; exact absurd ((hb133 rfl).2 _ rfl) (by decide)
      obtain ⟨HE, HO11, HZ50⟩ := hJ132
      have hF127 : Fr 34 a126 [(5, .int .u8 (((xs.getD k 0) : Nat) : Int))] := Fr.of hs130 hd131 ⟨(Fr.init hF49 q135 (by kernel_rfl)), trivial⟩
      refine s_pure hT (d := 23) (v := .int .u8 (((xs.getD k 0) : Nat) : Int)) (cs := []) (by kernel_rfl) (by kernel_rfl) trivial hF127 ?_
      rintro a2 ha2 hF2; rw [ha2]; exact hK129 _ _ rfl (grown_refl _ _)
    · -- operation 6
      rintro a138 w137 b140 KK146 hs142 hd143 hJ144 hb145 hr150 hK141
      have hr150x : RD SL_ b140 a138 a47 w137 [(23, some 5)] := hr150 _ (by kernel_rfl)
      obtain ⟨⟨v148, q147, s149⟩, -⟩ := hr150x
      obtain rfl : v148 = .int .u8 (((xs.getD k 0) : Nat) : Int) := s149
      obtain rfl : b140 = false := by cases b140; rfl; exact absurd ((hb145 rfl).2 _ rfl) (by decide)
      obtain ⟨HE, HO11, HZ50⟩ := hJ144
      have hF139 : Fr 34 a138 [(23, .int .u8 (((xs.getD k 0) : Nat) : Int))] := Fr.of hs142 hd143 ⟨q147, trivial⟩
      refine s_pure hT (d := 24) (v := .int .u64 (((xs.getD k 0) : Nat) : Int)) (cs := [(xs.getD k 0) < 18446744073709551616]) (by kernel_rfl) (by kernel_rfl) (And.intro (by have := getD_lt (by decide) hb k; omega) trivial) hF139 ?_
      rintro a2 ha2 hF2; rw [ha2]; exact hK141 _ _ rfl (grown_refl _ _)
    · -- operation 7
      rintro a152 w151 b154 KK160 hs156 hd157 hJ158 hb159 hr162 hK155
      have hr162x : RD SL_ b154 a152 a47 w151 [(4, none)] := hr162 _ (by kernel_rfl)
      obtain ⟨q161, -⟩ := hr162x
      obtain rfl : b154 = false := by cases b154; rfl; exact absurd ((hb159 rfl).2 _ rfl) (by decide)
      obtain ⟨HE, HO11, HZ50⟩ := hJ158
      have hF153 : Fr 34 a152 [(4, .int .i64 ((k : Nat) : Int))] := Fr.of hs156 hd157 ⟨(Fr.init hF49 q161 (by kernel_rfl)), trivial⟩
      refine s_pure hT (d := 25) (v := .int .i64 ((k : Nat) : Int)) (cs := []) (by kernel_rfl) (by kernel_rfl) trivial hF153 ?_
      rintro a2 ha2 hF2; rw [ha2]; exact hK155 _ _ rfl (grown_refl _ _)
    · -- operation 8
      rintro a164 w163 b166 KK172 hs168 hd169 hJ170 hb171 hr176 hK167
      have hr176x : RD SL_ b166 a164 a47 w163 [(25, some 7)] := hr176 _ (by kernel_rfl)
      obtain ⟨⟨v174, q173, s175⟩, -⟩ := hr176x
      obtain rfl : v174 = .int .i64 ((k : Nat) : Int) := s175
      obtain rfl : b166 = false := by cases b166; rfl; exact absurd ((hb171 rfl).2 _ rfl) (by decide)
      obtain ⟨HE, HO11, HZ50⟩ := hJ170
      have hF165 : Fr 34 a164 [(25, .int .i64 ((k : Nat) : Int))] := Fr.of hs168 hd169 ⟨q173, trivial⟩
      refine s_pure hT (d := 26) (v := .int .i64 (((k % 8) : Nat) : Int)) (cs := [0 ≤ ((k : Nat) : Int), 0 < (8 : Int)]) (by kernel_rfl) (by kernel_rfl) (And.intro (by omega) (And.intro (by omega) trivial)) hF165 ?_
      rintro a2 ha2 hF2; rw [ha2]; exact hK167 _ _ rfl (grown_refl _ _)
    · -- operation 9
      rintro a178 w177 b180 KK186 hs182 hd183 hJ184 hb185 hr190 hK181
      have hr190x : RD SL_ b180 a178 a47 w177 [(26, some 8)] := hr190 _ (by kernel_rfl)
      obtain ⟨⟨v188, q187, s189⟩, -⟩ := hr190x
      obtain rfl : v188 = .int .i64 (((k % 8) : Nat) : Int) := s189
      obtain rfl : b180 = false := by cases b180; rfl; exact absurd ((hb185 rfl).2 _ rfl) (by decide)
      obtain ⟨HE, HO11, HZ50⟩ := hJ184
      have hF179 : Fr 34 a178 [(26, .int .i64 (((k % 8) : Nat) : Int))] := Fr.of hs182 hd183 ⟨q187, trivial⟩
      refine s_pure hT (d := 27) (v := .int .i64 (((8 * (k % 8)) : Nat) : Int)) (cs := [-9223372036854775808 ≤ (((8 * (k % 8)) : Nat) : Int), (((8 * (k % 8)) : Nat) : Int) ≤ 9223372036854775807]) (by kernel_rfl) (by kernel_rfl) (And.intro (by omega) (And.intro (by omega) trivial)) hF179 ?_
      rintro a2 ha2 hF2; rw [ha2]; exact hK181 _ _ rfl (grown_refl _ _)
    · -- operation 10
      rintro a192 w191 b194 KK200 hs196 hd197 hJ198 hb199 hr207 hK195
      have hr207x : RD SL_ b194 a192 a47 w191 [(24, some 6), (27, some 9)] := hr207 _ (by kernel_rfl)
      obtain ⟨⟨v202, q201, s203⟩, ⟨v205, q204, s206⟩, -⟩ := hr207x
      obtain rfl : v202 = .int .u64 (((xs.getD k 0) : Nat) : Int) := s203
      obtain rfl : v205 = .int .i64 (((8 * (k % 8)) : Nat) : Int) := s206
      obtain rfl : b194 = false := by cases b194; rfl; exact absurd ((hb199 rfl).2 _ rfl) (by decide)
      obtain ⟨HE, HO11, HZ50⟩ := hJ198
      have hF193 : Fr 34 a192 [(24, .int .u64 (((xs.getD k 0) : Nat) : Int)), (27, .int .i64 (((8 * (k % 8)) : Nat) : Int))] := Fr.of hs196 hd197 ⟨q201, q204, trivial⟩
      refine s_pure hT (d := 28) (v := .int .u64 ((((xs.getD k 0) * 2 ^ (8 * (k % 8)) % 18446744073709551616) : Nat) : Int)) (cs := []) (by kernel_rfl) (by kernel_rfl) trivial hF193 ?_
      rintro a2 ha2 hF2; rw [ha2]; exact hK195 _ _ rfl (grown_refl _ _)
    · -- operation 11
      rintro a209 w208 b211 KK217 hs213 hd214 hJ215 hb216 hr224 hK212
      have hr224x : RD SL_ b211 a209 a47 w208 [(22, some 4), (28, some 10)] := hr224 _ (by kernel_rfl)
      obtain ⟨⟨v219, q218, s220⟩, ⟨v222, q221, s223⟩, -⟩ := hr224x
      obtain rfl : v219 = .int .u64 (((out.getD (k / 8) 0) : Nat) : Int) := s220
      obtain rfl : v222 = .int .u64 ((((xs.getD k 0) * 2 ^ (8 * (k % 8)) % 18446744073709551616) : Nat) : Int) := s223
      obtain rfl : b211 = false := by cases b211; rfl; exact absurd ((hb216 rfl).2 _ rfl) (by decide)
      obtain ⟨HE, HO11, HZ50⟩ := hJ215
      have hF210 : Fr 34 a209 [(22, .int .u64 (((out.getD (k / 8) 0) : Nat) : Int)), (28, .int .u64 ((((xs.getD k 0) * 2 ^ (8 * (k % 8)) % 18446744073709551616) : Nat) : Int))] := Fr.of hs213 hd214 ⟨q218, q221, trivial⟩
      refine s_pure hT (d := 29) (v := .int .u64 ((((out.getD (k / 8) 0) ||| ((xs.getD k 0) * 2 ^ (8 * (k % 8)) % 18446744073709551616)) : Nat) : Int)) (cs := [(out.getD (k / 8) 0) < 18446744073709551616, ((xs.getD k 0) * 2 ^ (8 * (k % 8)) % 18446744073709551616) < 18446744073709551616]) (by kernel_rfl) (by kernel_rfl) (And.intro (getD_lt (by decide) hob _) (And.intro (by have := getD_lt (by decide) hb k; omega) trivial)) hF210 ?_
      rintro a2 ha2 hF2; rw [ha2]; exact hK212 _ _ rfl (grown_refl _ _)
    · -- operation 12
      rintro a226 w225 b228 KK234 hs230 hd231 hJ232 hb233 hr241 hK229
      have hr241x : RD SL_ b228 a226 a47 w225 [(18, some 0), (20, some 2)] := hr241 _ (by kernel_rfl)
      obtain ⟨⟨v236, q235, s237⟩, ⟨v239, q238, s240⟩, -⟩ := hr241x
      obtain rfl : v236 = .slice A12 ((n + 7) / 8) ((n + 7) / 8) := s237
      obtain rfl : v239 = .int .i64 (((k / 8) : Nat) : Int) := s240
      obtain rfl : b228 = false := by cases b228; rfl; exact absurd ((hb233 rfl).2 _ rfl) (by decide)
      obtain ⟨HE, HO11, HZ50⟩ := hJ232
      have hF227 : Fr 34 a226 [(18, .slice A12 ((n + 7) / 8) ((n + 7) / 8)), (20, .int .i64 (((k / 8) : Nat) : Int))] := Fr.of hs230 hd231 ⟨q235, q238, trivial⟩
      refine s_pure hT (d := 30) (v := .pointer (some ⟨(ablk A12), ((aoff A12) + (k / 8)), none⟩)) (cs := [0 ≤ (((k / 8) : Nat) : Int), (((k / 8) : Nat) : Int) < ((((n + 7) / 8) : Nat) : Int), (A12 : Option Addr) = some ⟨ablk A12, aoff A12, none⟩]) (by kernel_rfl) (by kernel_rfl) (And.intro (by omega) (And.intro (by omega) (And.intro (HO11.rd.some' (by (first | (simp only [vs_length, vi_length]; omega) | (simp; omega) | omega))) trivial))) hF227 ?_
      rintro a2 ha2 hF2; rw [ha2]; exact hK229 _ _ rfl (grown_refl _ _)
    · -- operation 13
      rintro a243 w242 b245 KK251 hs247 hd248 hJ249 hb250 hr258 hK246
      have hr258x : RD SL_ b245 a243 a47 w242 [(30, some 12), (29, some 11)] := hr258 _ (by kernel_rfl)
      obtain ⟨⟨v253, q252, s254⟩, ⟨v256, q255, s257⟩, -⟩ := hr258x
      obtain rfl : v253 = .pointer (some ⟨(ablk A12), ((aoff A12) + (k / 8)), none⟩) := s254
      obtain rfl : v256 = .int .u64 ((((out.getD (k / 8) 0) ||| ((xs.getD k 0) * 2 ^ (8 * (k % 8)) % 18446744073709551616)) : Nat) : Int) := s257
      obtain rfl : b245 = false := by cases b245; rfl; exact absurd rfl (hb250 rfl).1
      obtain ⟨HE, HO11, HZ50⟩ := hJ249
      have hF244 : Fr 34 a243 [(30, .pointer (some ⟨(ablk A12), ((aoff A12) + (k / 8)), none⟩)), (29, .int .u64 ((((out.getD (k / 8) 0) ||| ((xs.getD k 0) * 2 ^ (8 * (k % 8)) % 18446744073709551616)) : Nat) : Int))] := Fr.of hs247 hd248 ⟨q252, q255, trivial⟩
      refine s_storeO hT (off := (k / 8)) (p := ⟨(ablk A12), ((aoff A12) + (k / 8)), none⟩) (v := .int .u64 ((((out.getD (k / 8) 0) ||| ((xs.getD k 0) * 2 ^ (8 * (k % 8)) % 18446744073709551616)) : Nat) : Int)) (by kernel_rfl) hF244 HO11 (by (first | (simp only [vs_length, vi_length]; omega) | (simp; omega) | omega)) rfl ?_
      have HO11b := HO11.base
      rintro a261 w259 ha263 hF262 HO11x g260; replace HO11 := HO11x
      rw [vs_set] at HO11
      replace HE := HE.thenR g260 (fun k hk => by have := (HO11b k hk).1; omega)
      replace HZ50 := Nat.le_trans HZ50 g260.size
      rw [ha263]; exact hK246 undef _ trivial ⟨⟨.inl rfl, .inl rfl, .inl rfl, .inl rfl, .inl rfl, .inl rfl, .inl rfl, .inl rfl, .inl rfl, .inl rfl, .inl rfl, .inl rfl, .inl rfl, .inl rfl, trivial⟩, ⟨HE, HO11, HZ50⟩⟩
    · -- behind the region
      rintro a265 w266 hs267 hd268 ⟨q270, q271, q272, q273, q274, q275, q276, q277, -⟩ ⟨HE, HO11, HZ50⟩
      replace HO11 : Own w266 (w.heap.size) 47 1 A12 ((n + 7) / 8) ((n + 7) / 8) (vs .u64 (out.set (k / 8) ((out.getD (k / 8) 0) ||| ((xs.getD k 0) * 2 ^ (8 * (k % 8)) % 18446744073709551616)))) := HO11
      have hF278 : Fr 34 a265 [(5, .int .u8 (((xs.getD k 0) : Nat) : Int)), (4, .int .i64 ((k : Nat) : Int)), (14, .bool ((decide (((k : Nat) : Int) < ((n : Nat) : Int))))), (0, .slice A n c), (3, .slice A12 ((n + 7) / 8) ((n + 7) / 8)), (11, .slice A n c), (12, .int .i64 ((n : Nat) : Int)), (13, .int .i64 ((k : Nat) : Int))] := Fr.of hs267 hd268 ⟨(Fr.init hF49 q270 (by kernel_rfl)), (Fr.init hF49 q271 (by kernel_rfl)), (Fr.init hF49 q272 (by kernel_rfl)), (Fr.init hF49 q273 (by kernel_rfl)), (Fr.init hF49 q274 (by kernel_rfl)), (Fr.init hF49 q275 (by kernel_rfl)), (Fr.init hF49 q276 (by kernel_rfl)), (Fr.init hF49 q277 (by kernel_rfl)), trivial⟩
      clear hF49 hs267 hd268 q270 q271 q272 q273 q274 q275 q276 q277
      refine hK39 _ _ ?_
      refine wp_region_lit ?_
      refine pures_end hT 2 _ hF278 (F' := [(13, .int .i64 (((k + 1) : Nat) : Int)), (31, .int .i64 (((k + 1) : Nat) : Int)), (5, .int .u8 (((xs.getD k 0) : Nat) : Int)), (4, .int .i64 ((k : Nat) : Int)), (14, .bool ((decide (((k : Nat) : Int) < ((n : Nat) : Int))))), (0, .slice A n c), (3, .slice A12 ((n + 7) / 8) ((n + 7) / 8)), (11, .slice A n c), (12, .int .i64 ((n : Nat) : Int)), (13, .int .i64 ((k : Nat) : Int))]) (cs := [-9223372036854775808 ≤ (((k + 1) : Nat) : Int), (((k + 1) : Nat) : Int) ≤ 9223372036854775807]) (by kernel_rfl) rfl (And.intro (by omega) (And.intro (by omega) trivial)) ?_
      intro a279 hF280; clear hF278 a265
      have hF281 := hF280.pick [13, 5, 4, 14, 0, 3, 11, 12] (G := [(13, .int .i64 (((k + 1) : Nat) : Int)), (5, .int .u8 (((xs.getD k 0) : Nat) : Int)), (4, .int .i64 ((k : Nat) : Int)), (14, .bool ((decide (((k : Nat) : Int) < ((n : Nat) : Int))))), (0, .slice A n c), (3, .slice A12 ((n + 7) / 8) ((n + 7) / 8)), (11, .slice A n c), (12, .int .i64 ((n : Nat) : Int))]) (by kernel_rfl); clear hF280
      refine hK29 _ _ _ (by omega) ⟨(k + 1), (out.set (k / 8) ((out.getD (k / 8) 0) ||| ((xs.getD k 0) * 2 ^ (8 * (k % 8)) % 18446744073709551616))), rfl, hF281.pick [0, 3, 11, 12, 13] (by kernel_rfl), HE, HO11, (by omega), (read_step (by omega) hb hol hv (getD_lt (by decide) hob _)).1, (set_lt hob (read_step (by omega) hb hol hv (getD_lt (by decide) hob _)).2.2 _), (read_step (by omega) hb hol hv (getD_lt (by decide) hob _)).2.1⟩
  · -- h37
    refine wp_exit ?_
    refine hK21 _ _ ?_
    refine wp_seq_k (fun K282 hK283 => ?_)
    have hkn : k = n := by omega
    refine wp_region_lit ?_
    refine pures hT 1 _ hF34 (F' := [(32, .slice A12 ((n + 7) / 8) ((n + 7) / 8)), (14, .bool ((decide (((k : Nat) : Int) < ((n : Nat) : Int))))), (0, .slice A n c), (3, .slice A12 ((n + 7) / 8) ((n + 7) / 8)), (11, .slice A n c), (12, .int .i64 ((n : Nat) : Int)), (13, .int .i64 ((k : Nat) : Int))]) (cs := []) (by kernel_rfl) trivial ?_
    intro a284 hF285; clear hF34 a33
    have hz289 := HE.size
    have hz290 := HO11.base
    refine wl (s_call (d := 33) (f := 48) (l := [.slice A12 ((n + 7) / 8) ((n + 7) / 8)]) (by kernel_rfl) hF285 cl48 (nums_trim A12 ((n + 7) / 8) ((n + 7) / 8) out _ (by first | assumption | omega | simp | decide) HO11.rd (by first | assumption | omega | simp | decide) (by first | assumption | omega | simp | decide)) ?_)
    rintro a291 w286 v287 ⟨rfl, HX288⟩ ha293 hF292; clear ha293 hF285 a284
    replace HE := HE.thenN HX288.g
    replace HO11 := HO11.growN HX288.g
    refine pures_end hT 1 _ hF292 (F' := [(2, .slice A12 (tlen out) ((n + 7) / 8)), (33, .slice A12 (tlen out) ((n + 7) / 8)), (32, .slice A12 ((n + 7) / 8) ((n + 7) / 8)), (14, .bool ((decide (((k : Nat) : Int) < ((n : Nat) : Int))))), (0, .slice A n c), (3, .slice A12 ((n + 7) / 8) ((n + 7) / 8)), (11, .slice A n c), (12, .int .i64 ((n : Nat) : Int)), (13, .int .i64 ((k : Nat) : Int))]) (cs := []) (by kernel_rfl) rfl trivial ?_
    intro a294 hF295; clear hF292 a291
    have hF296 := hF295.pick [2, 14, 0, 3, 11, 12, 13] (G := [(2, .slice A12 (tlen out) ((n + 7) / 8)), (14, .bool ((decide (((k : Nat) : Int) < ((n : Nat) : Int))))), (0, .slice A n c), (3, .slice A12 ((n + 7) / 8) ((n + 7) / 8)), (11, .slice A n c), (12, .int .i64 ((n : Nat) : Int)), (13, .int .i64 ((k : Nat) : Int))]) (by kernel_rfl); clear hF295
    refine hK283 _ _ ?_
    refine wp_ret ?_
    refine ret1 hF296 rfl (v := .slice A12 (tlen out) ((n + 7) / 8)) (by kernel_rfl) ?_
    have ht := trimL_dig (b := 18446744073709551616) (by decide) hob
    rw [hv, show xs.take k = xs from List.take_of_length_le (by omega)] at ht
    rw [← ht]
    have hO := Own.cut HO11 (m := tlen out) (by have := tlen_le out; omega)
    rw [Nat.mul_one, vs_take] at hO
    exact ⟨A12, ((n + 7) / 8), by rw [trimL_length], HE, by rw [trimL_length]; exact hO.rebase (by omega)⟩

theorem nums_compare (A : Option Addr) (n c : Nat) (xs : List Nat) (A2 : Option Addr) (n2 c2 : Nat) (ys : List Nat) (w : World) (hn : xs.length = n) (hn2 : ys.length = n2) (hR : Rd w A (vs .u64 xs)) (hR2 : Rd w A2 (vs .u64 ys)) (hx : ∀ x, x ∈ xs → x < 18446744073709551616) (hy : ∀ x, x ∈ ys → x < 18446744073709551616) (hl : n ≤ 1152921504606846976) (hl2 : n2 ≤ 1152921504606846976) :
    Calls Try.prog 39 [.slice A n c, .slice A2 n2 c2].toArray w (Ret fun v w' => v = .int .i64 (cmpI (nv 18446744073709551616 xs) (nv 18446744073709551616 ys)) ∧ Ex w w') := by
  have hmx : Nat.max n n2 ≤ 1152921504606846976 := Nat.max_le.2 ⟨hl, hl2⟩
  refine enter Try.func39 rfl (n := 32) Try.ntmps39 (by simp) ?_
  intro a hF
  have HE : Ex w w := Ex.refl w
  refine wp_seq_k (fun K1 hK2 => ?_)
  refine wp_region_lit ?_
  refine pures_end hT 1 _ hF (F' := [(4, .int .i64 0), (0, .slice A n c), (1, .slice A2 n2 c2)]) (cs := []) (by kernel_rfl) rfl trivial ?_
  intro a3 hF4; clear hF a
  refine hK2 _ _ ?_
  refine wp_seq_k (fun K5 hK6 => ?_)
  refine wp_seq_k (fun K7 hK8 => ?_)
  refine wp_region_lit ?_
  refine pures_end hT 7 _ hF4 (F' := [(5, .int .i64 ((((Nat.max n n2) : Nat) : Int) - 1)), (13, .int .i64 ((((Nat.max n n2) : Nat) : Int) - 1)), (12, .int .i64 (((Nat.max n n2) : Nat) : Int)), (11, .int .i64 ((n2 : Nat) : Int)), (10, .slice A2 n2 c2), (9, .int .i64 ((n : Nat) : Int)), (8, .slice A n c), (4, .int .i64 0), (0, .slice A n c), (1, .slice A2 n2 c2)]) (cs := [-9223372036854775808 ≤ ((((Nat.max n n2) : Nat) : Int) - 1), ((((Nat.max n n2) : Nat) : Int) - 1) ≤ 9223372036854775807]) (by kernel_rfl) rfl (And.intro (by omega) (And.intro (by omega) trivial)) ?_
  intro a9 hF10; clear hF4 a3
  have hF11 := hF10.pick [5, 4, 0, 1] (G := [(5, .int .i64 ((((Nat.max n n2) : Nat) : Int) - 1)), (4, .int .i64 0), (0, .slice A n c), (1, .slice A2 n2 c2)]) (by kernel_rfl); clear hF10
  refine hK8 _ _ ?_
  refine wp_block ?_
  refine loopK (fun mm_ a W => ∃ (k : Nat), (k) = mm_ ∧ (Fr 32 a [(0, .slice A n c), (1, .slice A2 n2 c2), (5, .int .i64 (((k : Nat) : Int) - 1))]) ∧ (Ex w W) ∧ (k ≤ Nat.max n n2) ∧ (∀ j, k ≤ j → xs.getD j 0 = ys.getD j 0)) _ ⟨(Nat.max n n2), rfl, hF11.pick [0, 1, 5] (by kernel_rfl), HE, (Nat.le_refl _), (fun j hj => by rw [getD_ge (by have := (max_ge hj).1; omega), getD_ge (by have := (max_ge hj).2; omega)])⟩ ?_
  clear hF11 HE
  rintro mm_ a12 w13 ⟨k, rfl, hF16, HE, hk, hz⟩ K14 hK15
  refine wp_seq_k (fun K17 hK18 => ?_)
  refine wp_seq_k (fun K19 hK20 => ?_)
  refine wp_region_lit ?_
  refine pures_end hT 2 _ hF16 (F' := [(15, .bool ((decide (0 ≤ (((k : Nat) : Int) - 1))))), (14, .int .i64 (((k : Nat) : Int) - 1)), (0, .slice A n c), (1, .slice A2 n2 c2), (5, .int .i64 (((k : Nat) : Int) - 1))]) (cs := []) (by kernel_rfl) rfl trivial ?_
  intro a21 hF22; clear hF16 a12
  have hF23 := hF22.pick [15, 0, 1, 5] (G := [(15, .bool ((decide (0 ≤ (((k : Nat) : Int) - 1))))), (0, .slice A n c), (1, .slice A2 n2 c2), (5, .int .i64 (((k : Nat) : Int) - 1))]) (by kernel_rfl); clear hF22
  refine hK20 _ _ ?_
  refine condK hF23 (p := 0 ≤ (((k : Nat) : Int) - 1)) (by kernel_rfl) (fun h24 => ?_) (fun h24 => ?_)
  · -- h24
    refine wp_skip ?_
    refine hK18 _ _ ?_
    refine wp_seq_k (fun K25 hK26 => ?_)
    refine wp_block ?_
    refine wp_seq_k (fun K27 hK28 => ?_)
    obtain ⟨j, rfl⟩ : ∃ j, k = j + 1 := ⟨k - 1, by omega⟩
    rw [show (((j + 1 : Nat) : Int) - 1) = ((j : Nat) : Int) from by omega] at hF23
    refine wp_region_lit ?_
    refine pures hT 2 _ hF23 (F' := [(19, .int .i64 ((j : Nat) : Int)), (18, .slice A n c), (15, .bool ((decide (0 ≤ ((j : Nat) : Int))))), (0, .slice A n c), (1, .slice A2 n2 c2), (5, .int .i64 ((j : Nat) : Int))]) (cs := []) (by kernel_rfl) trivial ?_
    intro a29 hF30; clear hF23 a21
    have hz34 := HE.size
    refine wl (s_call (d := 20) (f := 43) (l := [.slice A n c, .int .i64 ((j : Nat) : Int)]) (by kernel_rfl) hF30 cl43 (nums_at A n c xs j _ (by first | assumption | omega | simp | decide) (hR.ex HE)) ?_)
    rintro a35 w31 v32 ⟨rfl, HX33⟩ ha37 hF36; clear ha37 hF30 a29
    replace HE := HE.thenN HX33.g
    refine pures hT 2 _ hF36 (F' := [(22, .int .i64 ((j : Nat) : Int)), (21, .slice A2 n2 c2), (20, .int .u64 (((xs.getD j 0) : Nat) : Int)), (19, .int .i64 ((j : Nat) : Int)), (18, .slice A n c), (15, .bool ((decide (0 ≤ ((j : Nat) : Int))))), (0, .slice A n c), (1, .slice A2 n2 c2), (5, .int .i64 ((j : Nat) : Int))]) (cs := []) (by kernel_rfl) trivial ?_
    intro a38 hF39; clear hF36 a35
    have hz43 := HE.size
    refine wl (s_call (d := 23) (f := 43) (l := [.slice A2 n2 c2, .int .i64 ((j : Nat) : Int)]) (by kernel_rfl) hF39 cl43 (nums_at A2 n2 c2 ys j _ (by first | assumption | omega | simp | decide) (hR2.ex HE)) ?_)
    rintro a44 w40 v41 ⟨rfl, HX42⟩ ha46 hF45; clear ha46 hF39 a38
    replace HE := HE.thenN HX42.g
    refine pures_end hT 2 _ hF45 (F' := [(7, .int .u64 (((ys.getD j 0) : Nat) : Int)), (6, .int .u64 (((xs.getD j 0) : Nat) : Int)), (23, .int .u64 (((ys.getD j 0) : Nat) : Int)), (22, .int .i64 ((j : Nat) : Int)), (21, .slice A2 n2 c2), (20, .int .u64 (((xs.getD j 0) : Nat) : Int)), (19, .int .i64 ((j : Nat) : Int)), (18, .slice A n c), (15, .bool ((decide (0 ≤ ((j : Nat) : Int))))), (0, .slice A n c), (1, .slice A2 n2 c2), (5, .int .i64 ((j : Nat) : Int))]) (cs := []) (by kernel_rfl) rfl trivial ?_
    intro a47 hF48; clear hF45 a44
    have hF49 := hF48.pick [7, 6, 15, 0, 1, 5] (G := [(7, .int .u64 (((ys.getD j 0) : Nat) : Int)), (6, .int .u64 (((xs.getD j 0) : Nat) : Int)), (15, .bool ((decide (0 ≤ ((j : Nat) : Int))))), (0, .slice A n c), (1, .slice A2 n2 c2), (5, .int .i64 ((j : Nat) : Int))]) (by kernel_rfl); clear hF48
    refine hK28 _ _ ?_
    refine wp_block ?_
    refine wp_seq_k (fun K50 hK51 => ?_)
    refine wp_region_lit ?_
    refine pures_end hT 4 _ hF49 (F' := [(24, .bool ((decide ((((xs.getD j 0) : Nat) : Int) < (((ys.getD j 0) : Nat) : Int))))), (27, .bool ((decide ((((xs.getD j 0) : Nat) : Int) < (((ys.getD j 0) : Nat) : Int))))), (26, .int .u64 (((ys.getD j 0) : Nat) : Int)), (25, .int .u64 (((xs.getD j 0) : Nat) : Int)), (7, .int .u64 (((ys.getD j 0) : Nat) : Int)), (6, .int .u64 (((xs.getD j 0) : Nat) : Int)), (15, .bool ((decide (0 ≤ ((j : Nat) : Int))))), (0, .slice A n c), (1, .slice A2 n2 c2), (5, .int .i64 ((j : Nat) : Int))]) (cs := []) (by kernel_rfl) rfl trivial ?_
    intro a52 hF53; clear hF49 a47
    have hF54 := hF53.pick [24, 7, 6, 15, 0, 1, 5] (G := [(24, .bool ((decide ((((xs.getD j 0) : Nat) : Int) < (((ys.getD j 0) : Nat) : Int))))), (7, .int .u64 (((ys.getD j 0) : Nat) : Int)), (6, .int .u64 (((xs.getD j 0) : Nat) : Int)), (15, .bool ((decide (0 ≤ ((j : Nat) : Int))))), (0, .slice A n c), (1, .slice A2 n2 c2), (5, .int .i64 ((j : Nat) : Int))]) (by kernel_rfl); clear hF53
    refine hK51 _ _ ?_
    refine condK hF54 (p := (((xs.getD j 0) : Nat) : Int) < (((ys.getD j 0) : Nat) : Int)) (by kernel_rfl) (fun h55 => ?_) (fun h55 => ?_)
    · -- h55
      refine wp_seq_k (fun K56 hK57 => ?_)
      refine wp_region_lit ?_
      refine pures_end hT 1 _ hF54 (F' := [(4, .int .i64 (-1)), (24, .bool ((decide ((((xs.getD j 0) : Nat) : Int) < (((ys.getD j 0) : Nat) : Int))))), (7, .int .u64 (((ys.getD j 0) : Nat) : Int)), (6, .int .u64 (((xs.getD j 0) : Nat) : Int)), (15, .bool ((decide (0 ≤ ((j : Nat) : Int))))), (0, .slice A n c), (1, .slice A2 n2 c2), (5, .int .i64 ((j : Nat) : Int))]) (cs := []) (by kernel_rfl) rfl trivial ?_
      intro a58 hF59; clear hF54 a52
      refine hK57 _ _ ?_
      refine wp_ret ?_
      refine ret1 hF59 rfl (v := .int .i64 (-1)) (by kernel_rfl) ?_
      exact ⟨by rw [cmpI_lt (nv_cmp hx hy (i := j) (fun q hq => hz q (by omega)) (by omega))], HE⟩
    · -- h55
      refine wp_seq_k (fun K60 hK61 => ?_)
      refine wp_region_lit ?_
      refine pures_end hT 4 _ hF54 (F' := [(28, .bool ((decide ((((ys.getD j 0) : Nat) : Int) < (((xs.getD j 0) : Nat) : Int))))), (31, .bool ((decide ((((ys.getD j 0) : Nat) : Int) < (((xs.getD j 0) : Nat) : Int))))), (30, .int .u64 (((ys.getD j 0) : Nat) : Int)), (29, .int .u64 (((xs.getD j 0) : Nat) : Int)), (24, .bool ((decide ((((xs.getD j 0) : Nat) : Int) < (((ys.getD j 0) : Nat) : Int))))), (7, .int .u64 (((ys.getD j 0) : Nat) : Int)), (6, .int .u64 (((xs.getD j 0) : Nat) : Int)), (15, .bool ((decide (0 ≤ ((j : Nat) : Int))))), (0, .slice A n c), (1, .slice A2 n2 c2), (5, .int .i64 ((j : Nat) : Int))]) (cs := []) (by kernel_rfl) rfl trivial ?_
      intro a62 hF63; clear hF54 a52
      have hF64 := hF63.pick [28, 24, 7, 6, 15, 0, 1, 5] (G := [(28, .bool ((decide ((((ys.getD j 0) : Nat) : Int) < (((xs.getD j 0) : Nat) : Int))))), (24, .bool ((decide ((((xs.getD j 0) : Nat) : Int) < (((ys.getD j 0) : Nat) : Int))))), (7, .int .u64 (((ys.getD j 0) : Nat) : Int)), (6, .int .u64 (((xs.getD j 0) : Nat) : Int)), (15, .bool ((decide (0 ≤ ((j : Nat) : Int))))), (0, .slice A n c), (1, .slice A2 n2 c2), (5, .int .i64 ((j : Nat) : Int))]) (by kernel_rfl); clear hF63
      refine hK61 _ _ ?_
      refine condK hF64 (p := (((ys.getD j 0) : Nat) : Int) < (((xs.getD j 0) : Nat) : Int)) (by kernel_rfl) (fun h65 => ?_) (fun h65 => ?_)
      · -- h65
        refine wp_seq_k (fun K66 hK67 => ?_)
        refine wp_region_lit ?_
        refine pures_end hT 1 _ hF64 (F' := [(4, .int .i64 1), (28, .bool ((decide ((((ys.getD j 0) : Nat) : Int) < (((xs.getD j 0) : Nat) : Int))))), (24, .bool ((decide ((((xs.getD j 0) : Nat) : Int) < (((ys.getD j 0) : Nat) : Int))))), (7, .int .u64 (((ys.getD j 0) : Nat) : Int)), (6, .int .u64 (((xs.getD j 0) : Nat) : Int)), (15, .bool ((decide (0 ≤ ((j : Nat) : Int))))), (0, .slice A n c), (1, .slice A2 n2 c2), (5, .int .i64 ((j : Nat) : Int))]) (cs := []) (by kernel_rfl) rfl trivial ?_
        intro a68 hF69; clear hF64 a62
        refine hK67 _ _ ?_
        refine wp_ret ?_
        refine ret1 hF69 rfl (v := .int .i64 1) (by kernel_rfl) ?_
        exact ⟨by rw [cmpI_gt (nv_cmp hy hx (i := j) (fun q hq => (hz q (by omega)).symm) (by omega))], HE⟩
      · -- h65
        refine wp_skip ?_
        refine hK26 _ _ ?_
        refine wp_region_lit ?_
        refine pures_end hT 3 _ hF64 (F' := [(5, .int .i64 (((j : Nat) : Int) - 1)), (17, .int .i64 (((j : Nat) : Int) - 1)), (16, .int .i64 ((j : Nat) : Int)), (28, .bool ((decide ((((ys.getD j 0) : Nat) : Int) < (((xs.getD j 0) : Nat) : Int))))), (24, .bool ((decide ((((xs.getD j 0) : Nat) : Int) < (((ys.getD j 0) : Nat) : Int))))), (7, .int .u64 (((ys.getD j 0) : Nat) : Int)), (6, .int .u64 (((xs.getD j 0) : Nat) : Int)), (15, .bool ((decide (0 ≤ ((j : Nat) : Int))))), (0, .slice A n c), (1, .slice A2 n2 c2), (5, .int .i64 ((j : Nat) : Int))]) (cs := [-9223372036854775808 ≤ (((j : Nat) : Int) - 1), (((j : Nat) : Int) - 1) ≤ 9223372036854775807]) (by kernel_rfl) rfl (And.intro (by omega) (And.intro (by omega) trivial)) ?_
        intro a70 hF71; clear hF64 a62
        have hF72 := hF71.pick [5, 28, 24, 7, 6, 15, 0, 1] (G := [(5, .int .i64 (((j : Nat) : Int) - 1)), (28, .bool ((decide ((((ys.getD j 0) : Nat) : Int) < (((xs.getD j 0) : Nat) : Int))))), (24, .bool ((decide ((((xs.getD j 0) : Nat) : Int) < (((ys.getD j 0) : Nat) : Int))))), (7, .int .u64 (((ys.getD j 0) : Nat) : Int)), (6, .int .u64 (((xs.getD j 0) : Nat) : Int)), (15, .bool ((decide (0 ≤ ((j : Nat) : Int))))), (0, .slice A n c), (1, .slice A2 n2 c2)]) (by kernel_rfl); clear hF71
        refine hK15 _ _ _ (by omega) ⟨j, rfl, hF72.pick [0, 1, 5] (by kernel_rfl), HE, (by omega), (cmp_step hz (by omega))⟩
  · -- h24
    refine wp_exit ?_
    refine hK6 _ _ ?_
    refine wp_seq_k (fun K73 hK74 => ?_)
    refine wp_region_lit ?_
    refine pures_end hT 1 _ hF23 (F' := [(4, .int .i64 0), (15, .bool ((decide (0 ≤ (((k : Nat) : Int) - 1))))), (0, .slice A n c), (1, .slice A2 n2 c2), (5, .int .i64 (((k : Nat) : Int) - 1))]) (cs := []) (by kernel_rfl) rfl trivial ?_
    intro a75 hF76; clear hF23 a21
    refine hK74 _ _ ?_
    refine wp_ret ?_
    refine ret1 hF76 rfl (v := .int .i64 0) (by kernel_rfl) ?_
    exact ⟨by rw [cmpI_eq (nv_ext (fun q => hz q (by omega)))], HE⟩

theorem nums_bytes (A : Option Addr) (n c : Nat) (xs : List Nat) (w : World) (hn : xs.length = n) (hR : Rd w A (vs .u64 xs)) (hx : ∀ x, x ∈ xs → x < 18446744073709551616) (hc : n ≤ c) (hl : n ≤ 137438953472) :
    Calls Try.prog 41 [.slice A n c].toArray w (Ret fun v w' => ∃ A' c', v = .slice A' (dig 256 (nv 18446744073709551616 xs)).length c' ∧ Ex w w' ∧ Own w' w.heap.size 5 1 A' (dig 256 (nv 18446744073709551616 xs)).length c' (vs .u8 (dig 256 (nv 18446744073709551616 xs)))) := by
  have htl := tlen_le xs
  refine enter Try.func41 rfl (n := 45) Try.ntmps41 (by simp) ?_
  intro a hF
  have HE : Ex w w := Ex.refl w
  refine wp_seq_k (fun K1 hK2 => ?_)
  refine wp_region_lit ?_
  refine pures_end hT 1 _ hF (F' := [(2, .slice none 0 0), (0, .slice A n c)]) (cs := []) (by kernel_rfl) rfl trivial ?_
  intro a3 hF4; clear hF a
  refine hK2 _ _ ?_
  refine wp_seq_k (fun K5 hK6 => ?_)
  refine wp_region_lit ?_
  refine pures_end hT 1 _ hF4 (F' := [(3, .slice none 0 0), (2, .slice none 0 0), (0, .slice A n c)]) (cs := []) (by kernel_rfl) rfl trivial ?_
  intro a7 hF8; clear hF4 a3
  refine hK6 _ _ ?_
  refine wp_seq_k (fun K9 hK10 => ?_)
  refine wp_seq_k (fun K11 hK12 => ?_)
  refine wp_region_lit ?_
  refine pures hT 1 _ hF8 (F' := [(7, .slice A n c), (3, .slice none 0 0), (2, .slice none 0 0), (0, .slice A n c)]) (cs := []) (by kernel_rfl) trivial ?_
  intro a13 hF14; clear hF8 a7
  have hz18 := HE.size
  refine wl (s_call (d := 8) (f := 48) (l := [.slice A n c]) (by kernel_rfl) hF14 cl48 (nums_trim A n c xs _ (by first | assumption | omega | simp | decide) hR (by first | assumption | omega | simp | decide) (by first | assumption | omega | simp | decide)) ?_)
  rintro a19 w15 v16 ⟨rfl, HX17⟩ ha21 hF20; clear ha21 hF14 a13
  replace HE := HE.thenN HX17.g
  refine pures_end hT 2 _ hF20 (F' := [(10, .int .i64 0), (9, .int .i64 (((tlen xs) : Nat) : Int)), (8, .slice A (tlen xs) c), (7, .slice A n c), (3, .slice none 0 0), (2, .slice none 0 0), (0, .slice A n c)]) (cs := []) (by kernel_rfl) rfl trivial ?_
  intro a22 hF23; clear hF20 a19
  have hF24 := hF23.pick [10, 9, 8, 3, 2, 0] (G := [(10, .int .i64 0), (9, .int .i64 (((tlen xs) : Nat) : Int)), (8, .slice A (tlen xs) c), (3, .slice none 0 0), (2, .slice none 0 0), (0, .slice A n c)]) (by kernel_rfl); clear hF23
  refine hK12 _ _ ?_
  refine wp_block ?_
  refine loopK (fun mm_ a W => ∃ (k : Nat), ∃ (A3 : Option Addr), ∃ (n3 : Nat), ∃ (c3 : Nat), ∃ (ys : List Nat), (tlen xs - k) = mm_ ∧ (Fr 45 a [(3, .slice A3 n3 c3), (8, .slice A (tlen xs) c), (9, .int .i64 (((tlen xs) : Nat) : Int)), (10, .int .i64 ((k : Nat) : Int))]) ∧ (Ex w W) ∧ (Own W (w.heap.size) 5 1 A3 n3 c3 (vs .u8 ys)) ∧ (k ≤ tlen xs) ∧ (ys.length = 8 * k) ∧ (By ys) ∧ (nv 256 ys = nv 18446744073709551616 (xs.take k)) ∧ (n3 = 8 * k)) _ ⟨0, none, 0, 0, [], rfl, hF24.pick [3, 8, 9, 10] (by kernel_rfl), HE, Own.nil _ _ _ _, (by omega), rfl, (by intro x hx; cases hx), rfl, rfl⟩ ?_
  clear hF24 HE
  rintro mm_ a25 w26 ⟨k, A3, n3, c3, ys, rfl, hF29, HE, HO, hk, hyl, hyb, hv, hn3⟩ K27 hK28
  refine wp_seq_k (fun K30 hK31 => ?_)
  refine wp_region_lit ?_
  refine pures_end hT 1 _ hF29 (F' := [(11, .bool ((decide (((k : Nat) : Int) < (((tlen xs) : Nat) : Int))))), (3, .slice A3 n3 c3), (8, .slice A (tlen xs) c), (9, .int .i64 (((tlen xs) : Nat) : Int)), (10, .int .i64 ((k : Nat) : Int))]) (cs := []) (by kernel_rfl) rfl trivial ?_
  intro a32 hF33; clear hF29 a25
  refine hK31 _ _ ?_
  refine wp_seq_k (fun K34 hK35 => ?_)
  refine condK hF33 (p := ((k : Nat) : Int) < (((tlen xs) : Nat) : Int)) (by kernel_rfl) (fun h36 => ?_) (fun h36 => ?_)
  · -- h36
    refine wp_skip ?_
    refine hK35 _ _ ?_
    refine wp_seq_k (fun K37 hK38 => ?_)
    refine wp_block ?_
    refine wp_seq_k (fun K39 hK40 => ?_)
    refine wp_region_lit ?_
    refine pures hT 1 _ hF33 (F' := [(12, .pointer (some ⟨(ablk A), ((aoff A) + k), none⟩)), (11, .bool ((decide (((k : Nat) : Int) < (((tlen xs) : Nat) : Int))))), (3, .slice A3 n3 c3), (8, .slice A (tlen xs) c), (9, .int .i64 (((tlen xs) : Nat) : Int)), (10, .int .i64 ((k : Nat) : Int))]) (cs := [0 ≤ ((k : Nat) : Int), ((k : Nat) : Int) < (((tlen xs) : Nat) : Int), (A : Option Addr) = some ⟨ablk A, aoff A, none⟩]) (by kernel_rfl) (And.intro (by omega) (And.intro (by omega) (And.intro ((hR.ex HE).some' (by (first | (simp only [vs_length, vi_length]; omega) | (simp; omega) | omega))) trivial))) ?_
    intro a41 hF42; clear hF33 a32
    refine wl (s_load hT (d := 13) (A := ⟨(ablk A), ((aoff A) + k), none⟩) (by kernel_rfl) hF42 ((hR.ex HE).cells.at (vs_get .u64 xs (i := k) (by omega)) rfl) ?_)
    rintro a43 ha45 hF44; clear ha45 hF42 a41
    refine pures_end hT 1 _ hF44 (F' := [(5, .int .u64 (((xs.getD k 0) : Nat) : Int)), (13, .int .u64 (((xs.getD k 0) : Nat) : Int)), (12, .pointer (some ⟨(ablk A), ((aoff A) + k), none⟩)), (11, .bool ((decide (((k : Nat) : Int) < (((tlen xs) : Nat) : Int))))), (3, .slice A3 n3 c3), (8, .slice A (tlen xs) c), (9, .int .i64 (((tlen xs) : Nat) : Int)), (10, .int .i64 ((k : Nat) : Int))]) (cs := []) (by kernel_rfl) rfl trivial ?_
    intro a46 hF47; clear hF44 a43
    have hF48 := hF47.pick [5, 11, 3, 8, 9, 10] (G := [(5, .int .u64 (((xs.getD k 0) : Nat) : Int)), (11, .bool ((decide (((k : Nat) : Int) < (((tlen xs) : Nat) : Int))))), (3, .slice A3 n3 c3), (8, .slice A (tlen xs) c), (9, .int .i64 (((tlen xs) : Nat) : Int)), (10, .int .i64 ((k : Nat) : Int))]) (by kernel_rfl); clear hF47
    refine hK40 _ _ ?_
    refine wp_seq_k (fun K49 hK50 => ?_)
    refine wp_region_lit ?_
    refine pures_end hT 1 _ hF48 (F' := [(14, .int .i64 0), (5, .int .u64 (((xs.getD k 0) : Nat) : Int)), (11, .bool ((decide (((k : Nat) : Int) < (((tlen xs) : Nat) : Int))))), (3, .slice A3 n3 c3), (8, .slice A (tlen xs) c), (9, .int .i64 (((tlen xs) : Nat) : Int)), (10, .int .i64 ((k : Nat) : Int))]) (cs := []) (by kernel_rfl) rfl trivial ?_
    intro a51 hF52; clear hF48 a46
    refine hK50 _ _ ?_
    refine wp_block ?_
    refine loopK (fun mm_ a W => ∃ (j : Nat), ∃ (A3 : Option Addr), ∃ (n3 : Nat), ∃ (c3 : Nat), ∃ (ys : List Nat), (8 - j) = mm_ ∧ (Fr 45 a [(3, .slice A3 n3 c3), (5, .int .u64 (((xs.getD k 0) : Nat) : Int)), (8, .slice A (tlen xs) c), (9, .int .i64 (((tlen xs) : Nat) : Int)), (10, .int .i64 ((k : Nat) : Int)), (14, .int .i64 ((j : Nat) : Int))]) ∧ (Ex w W) ∧ (Own W (w.heap.size) 5 1 A3 n3 c3 (vs .u8 ys)) ∧ (j ≤ 8) ∧ (ys.length = 8 * k + j) ∧ (By ys) ∧ (nv 256 ys = nv 18446744073709551616 (xs.take k) + 18446744073709551616 ^ k * (xs.getD k 0 % 256 ^ j)) ∧ (n3 = 8 * k + j)) _ ⟨0, A3, n3, c3, ys, rfl, hF52.pick [3, 5, 8, 9, 10, 14] (by kernel_rfl), HE, HO, (by omega), (by omega), hyb, (by rw [hv, Nat.pow_zero, Nat.mod_one, Nat.mul_zero, Nat.add_zero]), (by omega)⟩ ?_
    clear hF52 HE HO hyl hyb hv hn3 ys n3 c3 A3
    rintro mm_ a53 w54 ⟨j, A3, n3, c3, ys, rfl, hF57, HE, HO, hj, hyl, hyb, hv, hn3⟩ K55 hK56
    refine wp_seq_k (fun K58 hK59 => ?_)
    refine wp_region_lit ?_
    refine pures_end hT 1 _ hF57 (F' := [(15, .bool ((decide (((j : Nat) : Int) < 8)))), (3, .slice A3 n3 c3), (5, .int .u64 (((xs.getD k 0) : Nat) : Int)), (8, .slice A (tlen xs) c), (9, .int .i64 (((tlen xs) : Nat) : Int)), (10, .int .i64 ((k : Nat) : Int)), (14, .int .i64 ((j : Nat) : Int))]) (cs := []) (by kernel_rfl) rfl trivial ?_
    intro a60 hF61; clear hF57 a53
    refine hK59 _ _ ?_
    refine wp_seq_k (fun K62 hK63 => ?_)
    refine condK hF61 (p := ((j : Nat) : Int) < 8) (by kernel_rfl) (fun h64 => ?_) (fun h64 => ?_)
    · -- h64
      refine wp_skip ?_
      refine hK63 _ _ ?_
      refine wp_seq_k (fun K65 hK66 => ?_)
      refine wp_block ?_
      refine wp_seq_k (fun K67 hK68 => ?_)
      refine wp_region_lit ?_
      refine pures_end hT 2 _ hF61 (F' := [(6, .int .i64 ((j : Nat) : Int)), (16, .int .i64 ((j : Nat) : Int)), (15, .bool ((decide (((j : Nat) : Int) < 8)))), (3, .slice A3 n3 c3), (5, .int .u64 (((xs.getD k 0) : Nat) : Int)), (8, .slice A (tlen xs) c), (9, .int .i64 (((tlen xs) : Nat) : Int)), (10, .int .i64 ((k : Nat) : Int)), (14, .int .i64 ((j : Nat) : Int))]) (cs := []) (by kernel_rfl) rfl trivial ?_
      intro a69 hF70; clear hF61 a60
      have hF71 := hF70.pick [6, 15, 3, 5, 8, 9, 10, 14] (G := [(6, .int .i64 ((j : Nat) : Int)), (15, .bool ((decide (((j : Nat) : Int) < 8)))), (3, .slice A3 n3 c3), (5, .int .u64 (((xs.getD k 0) : Nat) : Int)), (8, .slice A (tlen xs) c), (9, .int .i64 (((tlen xs) : Nat) : Int)), (10, .int .i64 ((k : Nat) : Int)), (14, .int .i64 ((j : Nat) : Int))]) (by kernel_rfl); clear hF70
      refine hK68 _ _ ?_
      refine wp_region_lit ?_
      refine pures hT 6 _ hF71 (F' := [(22, .int .u8 (((((xs.getD k 0) / 2 ^ (8 * j)) % 256) : Nat) : Int)), (21, .int .u64 ((((xs.getD k 0) / 2 ^ (8 * j)) : Nat) : Int)), (20, .int .i64 (((8 * j) : Nat) : Int)), (19, .int .i64 ((j : Nat) : Int)), (18, .int .u64 (((xs.getD k 0) : Nat) : Int)), (17, .slice A3 n3 c3), (6, .int .i64 ((j : Nat) : Int)), (15, .bool ((decide (((j : Nat) : Int) < 8)))), (3, .slice A3 n3 c3), (5, .int .u64 (((xs.getD k 0) : Nat) : Int)), (8, .slice A (tlen xs) c), (9, .int .i64 (((tlen xs) : Nat) : Int)), (10, .int .i64 ((k : Nat) : Int)), (14, .int .i64 ((j : Nat) : Int))]) (cs := [-9223372036854775808 ≤ (((8 * j) : Nat) : Int), (((8 * j) : Nat) : Int) ≤ 9223372036854775807, (xs.getD k 0) < 18446744073709551616]) (by kernel_rfl) (And.intro (by omega) (And.intro (by omega) (And.intro (getD_lt (by decide) hx _) trivial))) ?_
      intro a72 hF73; clear hF71 a69
      have hz80 := HE.size
      have hz81 := HO.base
      refine wl (s_lit hT (d := 23) (T := 5) (l := vs .u8 [(((xs.getD k 0) / 2 ^ (8 * j)) % 256)]) (by kernel_rfl) hF73 ?_)
      rintro a82 w75 b74 h78 h79 HB77 g76 ha84 hF83; clear ha84 hF73 a72
      replace HE := HE.thenN g76
      replace HO := HO.growN g76
      have hz85 := HE.size
      have hz86 := HO.base
      have hz87 := HB77.lt
      refine wl (s_app hT (d := 24) (T := 5) (i := tr5) (B := w.heap.size) (m := n3) (c := c3) (m2 := 1) (c2 := 1) (by kernel_rfl) hF83 rfl (by decide) HO HB77.rd (by show _ = 1 * 1; simp) vs_one (by show (n3 + 1) * 1 ≤ 140737488355328; omega) (by decide) (by have := HE.size; omega) ?_)
      rintro a94 w88 A91 c92 HO90 g89 hat93 ha96 hF95; clear ha96 hF83 a82
      rw [← vs_append] at HO90
      replace HE := HE.thenR g89 (fun k hk => by have := (HO.base k hk).1; omega)
      replace HB77 := HB77.grow g89 (by intro h; have := (hz81 _ h).2; omega)
      clear HO
      refine pures_end hT 1 _ hF95 (F' := [(3, .slice A91 (n3 + 1) c92), (24, .slice A91 (n3 + 1) c92), (23, .slice (some ⟨b74, 0, none⟩) 1 1), (22, .int .u8 (((((xs.getD k 0) / 2 ^ (8 * j)) % 256) : Nat) : Int)), (21, .int .u64 ((((xs.getD k 0) / 2 ^ (8 * j)) : Nat) : Int)), (20, .int .i64 (((8 * j) : Nat) : Int)), (19, .int .i64 ((j : Nat) : Int)), (18, .int .u64 (((xs.getD k 0) : Nat) : Int)), (17, .slice A3 n3 c3), (6, .int .i64 ((j : Nat) : Int)), (15, .bool ((decide (((j : Nat) : Int) < 8)))), (3, .slice A3 n3 c3), (5, .int .u64 (((xs.getD k 0) : Nat) : Int)), (8, .slice A (tlen xs) c), (9, .int .i64 (((tlen xs) : Nat) : Int)), (10, .int .i64 ((k : Nat) : Int)), (14, .int .i64 ((j : Nat) : Int))]) (cs := []) (by kernel_rfl) rfl trivial ?_
      intro a97 hF98; clear hF95 a94
      have hF99 := hF98.pick [3, 6, 15, 5, 8, 9, 10, 14] (G := [(3, .slice A91 (n3 + 1) c92), (6, .int .i64 ((j : Nat) : Int)), (15, .bool ((decide (((j : Nat) : Int) < 8)))), (5, .int .u64 (((xs.getD k 0) : Nat) : Int)), (8, .slice A (tlen xs) c), (9, .int .i64 (((tlen xs) : Nat) : Int)), (10, .int .i64 ((k : Nat) : Int)), (14, .int .i64 ((j : Nat) : Int))]) (by kernel_rfl); clear hF98
      refine hK66 _ _ ?_
      refine wp_region_lit ?_
      refine pures_end hT 2 _ hF99 (F' := [(14, .int .i64 (((j + 1) : Nat) : Int)), (25, .int .i64 (((j + 1) : Nat) : Int)), (3, .slice A91 (n3 + 1) c92), (6, .int .i64 ((j : Nat) : Int)), (15, .bool ((decide (((j : Nat) : Int) < 8)))), (5, .int .u64 (((xs.getD k 0) : Nat) : Int)), (8, .slice A (tlen xs) c), (9, .int .i64 (((tlen xs) : Nat) : Int)), (10, .int .i64 ((k : Nat) : Int)), (14, .int .i64 ((j : Nat) : Int))]) (cs := [-9223372036854775808 ≤ (((j + 1) : Nat) : Int), (((j + 1) : Nat) : Int) ≤ 9223372036854775807]) (by kernel_rfl) rfl (And.intro (by omega) (And.intro (by omega) trivial)) ?_
      intro a100 hF101; clear hF99 a97
      have hF102 := hF101.pick [14, 3, 6, 15, 5, 8, 9, 10] (G := [(14, .int .i64 (((j + 1) : Nat) : Int)), (3, .slice A91 (n3 + 1) c92), (6, .int .i64 ((j : Nat) : Int)), (15, .bool ((decide (((j : Nat) : Int) < 8)))), (5, .int .u64 (((xs.getD k 0) : Nat) : Int)), (8, .slice A (tlen xs) c), (9, .int .i64 (((tlen xs) : Nat) : Int)), (10, .int .i64 ((k : Nat) : Int))]) (by kernel_rfl); clear hF101
      refine hK56 _ _ _ (by omega) ⟨(j + 1), _, _, _, _, rfl, hF102.pick [3, 5, 8, 9, 10, 14] (by kernel_rfl), HE, HO90, (by omega), (by simp; omega), (by_snoc hyb (Nat.mod_lt _ (by decide))), (byte_step hyl (by omega) hv), (by omega)⟩
    · -- h64
      refine wp_exit ?_
      refine hK38 _ _ ?_
      refine wp_region_lit ?_
      refine pures_end hT 2 _ hF61 (F' := [(10, .int .i64 (((k + 1) : Nat) : Int)), (26, .int .i64 (((k + 1) : Nat) : Int)), (15, .bool ((decide (((j : Nat) : Int) < 8)))), (3, .slice A3 n3 c3), (5, .int .u64 (((xs.getD k 0) : Nat) : Int)), (8, .slice A (tlen xs) c), (9, .int .i64 (((tlen xs) : Nat) : Int)), (10, .int .i64 ((k : Nat) : Int)), (14, .int .i64 ((j : Nat) : Int))]) (cs := [-9223372036854775808 ≤ (((k + 1) : Nat) : Int), (((k + 1) : Nat) : Int) ≤ 9223372036854775807]) (by kernel_rfl) rfl (And.intro (by omega) (And.intro (by omega) trivial)) ?_
      intro a103 hF104; clear hF61 a60
      have hF105 := hF104.pick [10, 15, 3, 5, 8, 9, 14] (G := [(10, .int .i64 (((k + 1) : Nat) : Int)), (15, .bool ((decide (((j : Nat) : Int) < 8)))), (3, .slice A3 n3 c3), (5, .int .u64 (((xs.getD k 0) : Nat) : Int)), (8, .slice A (tlen xs) c), (9, .int .i64 (((tlen xs) : Nat) : Int)), (14, .int .i64 ((j : Nat) : Int))]) (by kernel_rfl); clear hF104
      refine hK28 _ _ _ (by omega) ⟨(k + 1), _, _, _, ys, rfl, hF105.pick [3, 8, 9, 10] (by kernel_rfl), HE, HO, (by omega), (by omega), hyb, (byte_word hx (by rw [show j = 8 by omega] at hv; exact hv)), (by omega)⟩
  · -- h36
    refine wp_exit ?_
    refine hK10 _ _ ?_
    refine wp_seq_k (fun K106 hK107 => ?_)
    have hK108 : ∀ (a : Act) (W : World), (∃ (m : Nat), (Fr 45 a [(3, .slice A3 m c3)]) ∧ (Ex w W) ∧ (Own W (w.heap.size) 5 1 A3 n3 c3 (vs .u8 ys)) ∧ (tlen ys = m)) → K106 a W := by
      clear hF33 HE HO
      rintro a109 w110 ⟨m, hF111, HE, HO, hk⟩
      refine hK107 _ _ ?_
      refine wp_seq_k (fun K112 hK113 => ?_)
      refine wp_region_lit ?_
      refine pures_end hT 2 _ hF111 (F' := [(2, .slice A3 m c3), (44, .slice A3 m c3), (3, .slice A3 m c3)]) (cs := []) (by kernel_rfl) rfl trivial ?_
      intro a114 hF115; clear hF111 a109
      have hF116 := hF115.pick [2, 3] (G := [(2, .slice A3 m c3), (3, .slice A3 m c3)]) (by kernel_rfl); clear hF115
      refine hK113 _ _ ?_
      refine wp_ret ?_
      refine ret1 hF116 rfl (v := .slice A3 m c3) (by kernel_rfl) ?_
      have ht := trimL_dig (b := 256) (by decide) hyb
      rw [hv, show k = tlen xs by omega] at ht
      have e : nv 18446744073709551616 (xs.take (tlen xs)) = nv 18446744073709551616 xs := nv_trim 18446744073709551616 xs
      rw [e] at ht
      rw [← ht]
      subst hk
      have hO := Own.cut HO (m := tlen ys) (by have := tlen_le ys; omega)
      rw [Nat.mul_one, vs_take] at hO
      exact ⟨A3, c3, by rw [trimL_length], HE, by rw [trimL_length]; exact hO.rebase (by omega)⟩
    clear hK107
    refine wp_block ?_
    refine loopK (fun mm_ a W => ∃ (m : Nat), (m) = mm_ ∧ (Fr 45 a [(3, .slice A3 m c3)]) ∧ (Ex w W) ∧ (Own W (w.heap.size) 5 1 A3 n3 c3 (vs .u8 ys)) ∧ (m ≤ n3) ∧ (∀ j, m ≤ j → ys.getD j 0 = 0)) _ ⟨n3, rfl, hF33.pick [3] (by kernel_rfl), HE, HO, (by omega), (fun j hj => getD_ge (by omega))⟩ ?_
    clear hF33 HE HO
    rintro mm_ a117 w118 ⟨m, rfl, hF121, HE, HO, hm, hz⟩ K119 hK120
    refine wp_seq_k (fun K122 hK123 => ?_)
    refine wp_seq_k (fun K124 hK125 => ?_)
    have hcap := HO.cap
    refine wp_region_lit ?_
    refine pures hT 4 _ hF121 (F' := [(30, .bool ((decide (0 < ((m : Nat) : Int))))), (29, .bool ((decide (0 < ((m : Nat) : Int))))), (28, .int .i64 ((m : Nat) : Int)), (27, .slice A3 m c3), (3, .slice A3 m c3)]) (cs := []) (by kernel_rfl) trivial ?_
    intro a126 hF127; clear hF121 a117
    rcases dec_cases (0 < ((m : Nat) : Int)) with ⟨h128, e129⟩ | ⟨h128, e129⟩
    · rw [e129] at hF127; clear e129
      refine pures hT 4 _ hF127 (F' := [(34, .int .i64 (((m : Nat) : Int) - 1)), (33, .int .i64 ((m : Nat) : Int)), (32, .slice A3 m c3), (31, .slice A3 m c3), (30, .bool true), (29, .bool true), (28, .int .i64 ((m : Nat) : Int)), (27, .slice A3 m c3), (3, .slice A3 m c3)]) (cs := [-9223372036854775808 ≤ (((m : Nat) : Int) - 1), (((m : Nat) : Int) - 1) ≤ 9223372036854775807]) (by kernel_rfl) (And.intro (by omega) (And.intro (by omega) trivial)) ?_
      intro a130 hF131; clear hF127 a126
      rw [show (((m : Nat) : Int) - 1) = (((m - 1) : Nat) : Int) from by omega] at hF131
      refine pures hT 1 _ hF131 (F' := [(35, .pointer (some ⟨(ablk A3), ((aoff A3) + (m - 1)), none⟩)), (34, .int .i64 (((m - 1) : Nat) : Int)), (33, .int .i64 ((m : Nat) : Int)), (32, .slice A3 m c3), (31, .slice A3 m c3), (30, .bool true), (29, .bool true), (28, .int .i64 ((m : Nat) : Int)), (27, .slice A3 m c3), (3, .slice A3 m c3)]) (cs := [0 ≤ (((m - 1) : Nat) : Int), (((m - 1) : Nat) : Int) < ((m : Nat) : Int), (A3 : Option Addr) = some ⟨ablk A3, aoff A3, none⟩]) (by kernel_rfl) (And.intro (by omega) (And.intro (by omega) (And.intro (HO.rd.some' (by (first | (simp only [vs_length, vi_length]; omega) | (simp; omega) | omega))) trivial))) ?_
      intro a132 hF133; clear hF131 a130
      refine wl (One.bare hF133 (by kernel_rfl) (s_load hT (d := 36) (A := ⟨(ablk A3), ((aoff A3) + (m - 1)), none⟩) (by kernel_rfl) hF133 (HO.rd.cells.at (vs_get .u8 ys (i := (m - 1)) (by omega)) rfl) ?_))
      rintro a134 ha136 hF135; clear ha136 hF133 a132
      refine pures_end hT 2 _ hF135 (F' := [(38, .bool ((decide ((((ys.getD (m - 1) 0) : Nat) : Int) = 0)))), (37, .bool ((decide ((((ys.getD (m - 1) 0) : Nat) : Int) = 0)))), (36, .int .u8 (((ys.getD (m - 1) 0) : Nat) : Int)), (35, .pointer (some ⟨(ablk A3), ((aoff A3) + (m - 1)), none⟩)), (34, .int .i64 (((m - 1) : Nat) : Int)), (33, .int .i64 ((m : Nat) : Int)), (32, .slice A3 m c3), (31, .slice A3 m c3), (30, .bool true), (29, .bool true), (28, .int .i64 ((m : Nat) : Int)), (27, .slice A3 m c3), (3, .slice A3 m c3)]) (cs := []) (by kernel_rfl) rfl trivial ?_
      intro a137 hF138; clear hF135 a134
      have hF139 := hF138.pick [38, 3] (G := [(38, .bool ((decide ((((ys.getD (m - 1) 0) : Nat) : Int) = 0)))), (3, .slice A3 m c3)]) (by kernel_rfl); clear hF138
      refine hK125 _ _ ?_
      refine condK hF139 (p := (((ys.getD (m - 1) 0) : Nat) : Int) = 0) (by kernel_rfl) (fun h140 => ?_) (fun h140 => ?_)
      · -- h140
        refine wp_skip ?_
        refine hK123 _ _ ?_
        refine wp_block ?_
        refine wp_region_lit ?_
        refine pures hT 4 _ hF139 (F' := [(42, .int .i64 (((m : Nat) : Int) - 1)), (41, .int .i64 ((m : Nat) : Int)), (40, .slice A3 m c3), (39, .slice A3 m c3), (38, .bool ((decide ((((ys.getD (m - 1) 0) : Nat) : Int) = 0)))), (3, .slice A3 m c3)]) (cs := [-9223372036854775808 ≤ (((m : Nat) : Int) - 1), (((m : Nat) : Int) - 1) ≤ 9223372036854775807]) (by kernel_rfl) (And.intro (by omega) (And.intro (by omega) trivial)) ?_
        intro a141 hF142; clear hF139 a137
        rw [show (((m : Nat) : Int) - 1) = (((m - 1) : Nat) : Int) from by omega] at hF142
        refine wl (s_sliceLow hT (d := 43) (A := A3) (m := m) (c := c3) (sz := 1) (hi := (m - 1)) (by kernel_rfl) hF142 (by omega) (by omega) ?_)
        rintro a143 ha145 hF144; clear ha145 hF142 a141
        refine pures_end hT 1 _ hF144 (F' := [(3, .slice A3 (m - 1) c3), (43, .slice A3 (m - 1) c3), (42, .int .i64 (((m - 1) : Nat) : Int)), (41, .int .i64 ((m : Nat) : Int)), (40, .slice A3 m c3), (39, .slice A3 m c3), (38, .bool ((decide ((((ys.getD (m - 1) 0) : Nat) : Int) = 0)))), (3, .slice A3 m c3)]) (cs := []) (by kernel_rfl) rfl trivial ?_
        intro a146 hF147; clear hF144 a143
        have hF148 := hF147.pick [3, 38] (G := [(3, .slice A3 (m - 1) c3), (38, .bool ((decide ((((ys.getD (m - 1) 0) : Nat) : Int) = 0))))]) (by kernel_rfl); clear hF147
        refine hK120 _ _ _ (by omega) ⟨(m - 1), rfl, hF148.pick [3] (by kernel_rfl), HE, HO, (by omega), (trim_step hz (by omega))⟩
      · -- h140
        refine wp_exit ?_
        exact hK108 _ _ ⟨m, hF139.pick [3] (by kernel_rfl), HE, HO, (tlen_spec ys m (by omega) hz (.inr (by omega)))⟩
    · rw [e129] at hF127; clear e129
      refine pures_end hT 8 _ hF127 (F' := [(38, .bool false), (37, undef), (36, undef), (35, undef), (34, undef), (33, undef), (32, undef), (31, undef), (30, .bool false), (29, .bool false), (28, .int .i64 ((m : Nat) : Int)), (27, .slice A3 m c3), (3, .slice A3 m c3)]) (cs := []) (by kernel_rfl) rfl trivial ?_
      intro a149 hF150; clear hF127 a126
      have hF151 := hF150.pick [38, 3] (G := [(38, .bool false), (3, .slice A3 m c3)]) (by kernel_rfl); clear hF150
      refine hK125 _ _ ?_
      refine condF hF151 (by kernel_rfl) ?_
      refine wp_exit ?_
      exact hK108 _ _ ⟨m, hF151.pick [3] (by kernel_rfl), HE, HO, (tlen_spec ys m (by omega) hz (.inl (by omega)))⟩

end Go.Proofs.Ytdabkjflpbbpeaa
