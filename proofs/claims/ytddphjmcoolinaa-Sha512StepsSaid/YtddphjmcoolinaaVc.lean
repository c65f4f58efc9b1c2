/- Walks of functions, printed by auto.py. -/
import Derived.Test.YtddphjmcoolinaaVb
set_option linter.unusedVariables false
set_option linter.unusedSimpArgs false
set_option maxRecDepth 100000
namespace Go.Proofs.Ytddphjmcoolinaa
open Go.Proofs Go.RowKit
noncomputable def F_sha512_block_l2 (x7524 : Nat) (xs3 : List Nat) : (List Nat × Nat × Nat × Nat) → Option ((List Nat × Nat × Nat × Nat) ⊕ (List Nat × Nat × Nat × Nat)) := fun (zs10222, lo10226, n10227, x10233) => if ((x10233 : Nat) : Int) < (((((8 * x7524) + 8) - (8 * x7524)) : Nat) : Int) then (gd (((x10233 : Nat) : Int) < ((n10227 : Nat) : Int)) (gd ((((x10233 + 1) : Nat) : Int) ≤ 9223372036854775807) (some (.inl ((zs10222.set x7524 (((zs10222.getD x7524 0) * 2 ^ 8 % 18446744073709551616) ||| (((xs3.drop lo10226).take n10227).getD x10233 0))), lo10226, n10227, (x10233 + 1)))))) else (some (.inr (zs10222, lo10226, n10227, x10233)))
noncomputable def F_sha512_block_l1 (xs3 : List Nat) : (List Nat × Nat) → Option ((List Nat × Nat) ⊕ (List Nat)) := fun (zs7521, x7524) => if ((x7524 : Nat) : Int) < 80 then (bnd (bnd (if ((x7524 : Nat) : Int) < 16 then (bnd (gd ((((8 * x7524) : Nat) : Int) ≤ 9223372036854775807) (gd (((((8 * x7524) + 8) : Nat) : Int) ≤ 9223372036854775807) (gd ((8 * x7524) ≤ ((8 * x7524) + 8)) (gd (((8 * x7524) + 8) ≤ xs3.length) (run (F_sha512_block_l2 x7524 xs3) (zs7521, (8 * x7524), (((8 * x7524) + 8) - (8 * x7524)), 0))))) : Option (List Nat × Nat × Nat × Nat)) (fun (zs10120, lo10124, n10125, x10131) => some (.inr zs10120))) else (some (.inl ())) : Option (Unit ⊕ (List Nat))) (sel (fun (_ : Unit) => gd (-9223372036854775808 ≤ (((x7524 : Nat) : Int) - 15)) (gd ((((x7524 : Nat) : Int) - 15) ≤ 9223372036854775807) (gd (0 ≤ (((x7524 : Nat) : Int) - 15)) (gd ((((x7524 : Nat) : Int) - 15) < 80) (gd (-9223372036854775808 ≤ (((x7524 : Nat) : Int) - 2)) (gd ((((x7524 : Nat) : Int) - 2) ≤ 9223372036854775807) (gd (0 ≤ (((x7524 : Nat) : Int) - 2)) (gd ((((x7524 : Nat) : Int) - 2) < 80) (gd (-9223372036854775808 ≤ (((x7524 : Nat) : Int) - 16)) (gd ((((x7524 : Nat) : Int) - 16) ≤ 9223372036854775807) (gd (0 ≤ (((x7524 : Nat) : Int) - 16)) (gd ((((x7524 : Nat) : Int) - 16) < 80) (bnd (F_sha512_rotr (zs7521.getD (x7524 - 15) 0) (1 : Int)) fun (x10539 : Nat) => bnd (F_sha512_rotr (zs7521.getD (x7524 - 15) 0) (8 : Int)) fun (x10543 : Nat) => gd (-9223372036854775808 ≤ (((x7524 : Nat) : Int) - 7)) (gd ((((x7524 : Nat) : Int) - 7) ≤ 9223372036854775807) (gd (0 ≤ (((x7524 : Nat) : Int) - 7)) (gd ((((x7524 : Nat) : Int) - 7) < 80) (ltb ((((((zs7521.getD (x7524 - 16) 0) + ((x10539 ^^^ x10543) ^^^ ((zs7521.getD (x7524 - 15) 0) / 2 ^ 7))) % 18446744073709551616) + (zs7521.getD (x7524 - 7) 0)) % 18446744073709551616)) fun (t10555 : Nat) => bnd (F_sha512_rotr (zs7521.getD (x7524 - 2) 0) (19 : Int)) fun (x10559 : Nat) => bnd (F_sha512_rotr (zs7521.getD (x7524 - 2) 0) (61 : Int)) fun (x10563 : Nat) => some (zs7521.set x7524 ((t10555 + ((x10559 ^^^ x10563) ^^^ ((zs7521.getD (x7524 - 2) 0) / 2 ^ 6))) % 18446744073709551616)))))))))))))))))))) : Option (List Nat)) (fun (zs9641 : List Nat) => gd ((((x7524 + 1) : Nat) : Int) ≤ 9223372036854775807) (some (.inl (zs9641, (x7524 + 1)))))) else (some (.inr zs7521))
noncomputable def F_sha512_block_l3 (xs0 : List Nat) (zs5185 : List Nat) : (Nat × Nat × Nat × Nat × Nat × Nat × Nat × Nat × Nat) → Option ((Nat × Nat × Nat × Nat × Nat × Nat × Nat × Nat × Nat) ⊕ (Nat × Nat × Nat × Nat × Nat × Nat × Nat × Nat)) := fun (x12232, x12234, x12236, x12238, x12240, x12242, x12244, x12246, x12248) => if ((x12248 : Nat) : Int) < 80 then (bnd (F_sha512_rotr x12240 (14 : Int)) fun (x12417 : Nat) => bnd (F_sha512_rotr x12240 (18 : Int)) fun (x12421 : Nat) => bnd (F_sha512_rotr x12240 (41 : Int)) fun (x12425 : Nat) => ltb (((((x12246 + ((x12417 ^^^ x12421) ^^^ x12425)) % 18446744073709551616) + ((x12240 &&& x12242) ^^^ ((18446744073709551616 - 1 - x12240) &&& x12244))) % 18446744073709551616)) fun (t12429 : Nat) => ltb (((((t12429 + (xs0.getD x12248 0)) % 18446744073709551616) + (zs5185.getD x12248 0)) % 18446744073709551616)) fun (t12433 : Nat) => bnd (F_sha512_rotr x12232 (28 : Int)) fun (x12980 : Nat) => bnd (F_sha512_rotr x12232 (34 : Int)) fun (x12984 : Nat) => bnd (F_sha512_rotr x12232 (39 : Int)) fun (x12988 : Nat) => ltb (((((x12980 ^^^ x12984) ^^^ x12988) + (((x12232 &&& x12234) ^^^ (x12232 &&& x12236)) ^^^ (x12234 &&& x12236))) % 18446744073709551616)) fun (t12992 : Nat) => gd ((((x12248 + 1) : Nat) : Int) ≤ 9223372036854775807) (some (.inl (((t12433 + t12992) % 18446744073709551616), x12232, x12234, x12236, ((x12238 + t12433) % 18446744073709551616), x12240, x12242, x12244, (x12248 + 1))))) else (some (.inr (x12232, x12234, x12236, x12238, x12240, x12242, x12244, x12246)))
noncomputable def F_sha512_block_l4 (x11997 : Nat) (x11999 : Nat) (x12001 : Nat) (x12003 : Nat) (x12005 : Nat) (x12007 : Nat) (x12009 : Nat) (x12011 : Nat) : (List Nat × Nat) → Option ((List Nat × Nat) ⊕ (List Nat)) := fun (zs13243, x13247) => if ((x13247 : Nat) : Int) < 8 then (gd (x13247 < 8) (ltb (([x11997, x11999, x12001, x12003, x12005, x12007, x12009, x12011].getD x13247 0)) fun (t13312 : Nat) => gd ((((x13247 + 1) : Nat) : Int) ≤ 9223372036854775807) (some (.inl ((zs13243.set x13247 (((zs13243.getD x13247 0) + t13312) % 18446744073709551616)), (x13247 + 1)))))) else (some (.inr zs13243))
noncomputable def F_sha512_block (xs0 : List Nat) (xs2 : List Nat) (xs3 : List Nat) : Option (List Nat) := bnd (run (F_sha512_block_l1 xs3) ((List.replicate 80 0), 0) : Option (List Nat)) (fun (zs5185 : List Nat) => bnd (run (F_sha512_block_l3 xs0 zs5185) ((xs2.getD 0 0), (xs2.getD 1 0), (xs2.getD 2 0), (xs2.getD 3 0), (xs2.getD 4 0), (xs2.getD 5 0), (xs2.getD 6 0), (xs2.getD 7 0), 0) : Option (Nat × Nat × Nat × Nat × Nat × Nat × Nat × Nat)) (fun (x11997, x11999, x12001, x12003, x12005, x12007, x12009, x12011) => bnd (run (F_sha512_block_l4 x11997 x11999 x12001 x12003 x12005 x12007 x12009 x12011) (xs2, 0) : Option (List Nat)) (fun (zs13171 : List Nat) => some zs13171)))
set_option maxHeartbeats 4000000 in
theorem W_sha512_block (xs0 : List Nat) (pb1 : Nat) (xs2 : List Nat) (pA3 : Option Addr) (pc3 : Nat) (xs3 : List Nat) (w : World) (pl0 : xs0.length = 80) (pb0 : LB 18446744073709551616 xs0) (pB1 : Blk w pb1 24 (vs .u64 xs0)) (pl2 : xs2.length = 8) (pb2 : LB 18446744073709551616 xs2) (pR3 : Rd w pA3 (vs .u8 xs3)) (pc_3 : xs3.length ≤ pc3) (pb3 : LB 256 xs3) (r : List Nat) (h : F_sha512_block xs0 xs2 xs3 = some r) :
    Calls Try.prog 45 [.pointer (some ⟨pb1, 0, none⟩), .agg (vs .u64 xs2).toArray, .slice pA3 xs3.length pc3].toArray w (Ret fun v w' => v = .agg (vs .u64 r).toArray ∧ r.length = 8 ∧ LB 18446744073709551616 r ∧ Heap w [] w' []) := by
  unfold F_sha512_block at h
  refine enter Try.func45 rfl (n := 193) Try.ntmps45 (by simp) ?_
  intro a hF
  have hS := Heap.init w
  refine wp_seq_k (fun K1 hK2 => ?_)
  refine wp_region_lit ?_
  refine wl (h_alloc hT (d := 4) (T := 26) (l := vs .u64 xs2) (by kernel_rfl) hF hS ?_)
  rintro a7 w8 b3 hS9 g10 ha11 hF12; clear ha11 hF a hS
  have hS13 : Heap w [] w8 [.blk b3 26 (vs .u64 xs2)] := hS9; clear hS9
  have hF14 := hF12.pick [0, 2, 4] (G := [(0, .pointer (some ⟨pb1, 0, none⟩)), (2, .slice pA3 xs3.length pc3), (4, .pointer (some ⟨b3, 0, none⟩))]) (by kernel_rfl); clear hF12
  refine wl (h_alloc hT (d := 6) (T := 26) (l := vs .u64 (List.replicate 8 0)) (by kernel_rfl) hF14 hS13 ?_)
  rintro a15 w16 b5 hS17 g18 ha19 hF20; clear ha19 hF14 a7 hS13
  have hS21 : Heap w [] w16 [.blk b5 26 (vs .u64 (List.replicate 8 0)), .blk b3 26 (vs .u64 xs2)] := hS17; clear hS17
  have hF22 := hF20.pick [0, 2, 4, 6] (G := [(0, .pointer (some ⟨pb1, 0, none⟩)), (2, .slice pA3 xs3.length pc3), (4, .pointer (some ⟨b3, 0, none⟩)), (6, .pointer (some ⟨b5, 0, none⟩))]) (by kernel_rfl); clear hF20
  refine wpList_nil ?_
  refine hK2 _ _ ?_
  refine wp_seq_k (fun K23 hK24 => ?_)
  refine wp_region_lit ?_
  refine wl (h_alloc hT (d := 7) (T := 24) (l := vs .u64 (List.replicate 80 0)) (by kernel_rfl) hF22 hS21 ?_)
  rintro a27 w28 b25 hS29 g30 ha31 hF32; clear ha31 hF22 a15 hS21
  have hS33 : Heap w [] w28 [.blk b25 24 (vs .u64 (List.replicate 80 0)), .blk b5 26 (vs .u64 (List.replicate 8 0)), .blk b3 26 (vs .u64 xs2)] := hS29; clear hS29
  have hF34 := hF32.pick [0, 2, 4, 6, 7] (G := [(0, .pointer (some ⟨pb1, 0, none⟩)), (2, .slice pA3 xs3.length pc3), (4, .pointer (some ⟨b3, 0, none⟩)), (6, .pointer (some ⟨b5, 0, none⟩)), (7, .pointer (some ⟨b25, 0, none⟩))]) (by kernel_rfl); clear hF32
  refine wpList_nil ?_
  refine hK24 _ _ ?_
  obtain ⟨xj5188, hx5189, h5190⟩ := bnd_some h; clear h
  refine seqJ (fun a W => ∃ (zs5185 : List Nat), zs5185 = xj5188 ∧ (Fr 193 a [(0, .pointer (some ⟨pb1, 0, none⟩)), (4, .pointer (some ⟨b3, 0, none⟩)), (6, .pointer (some ⟨b5, 0, none⟩)), (7, .pointer (some ⟨b25, 0, none⟩))]) ∧ (Heap w [] W [.blk b3 26 (vs .u64 xs2), .blk b5 26 (vs .u64 (List.replicate 8 0)), .blk b25 24 (vs .u64 zs5185)]) ∧ (zs5185.length = 80) ∧ (LB 18446744073709551616 zs5185)) ?_ ?_
  · skip
    refine wp_seq_k (fun K5191 hK5192 => ?_)
    refine wp_region_lit ?_
    refine pu_end hT 1 _ hF34 [0, 2, 4, 6, 7, 26] (G := [(0, .pointer (some ⟨pb1, 0, none⟩)), (2, .slice pA3 xs3.length pc3), (4, .pointer (some ⟨b3, 0, none⟩)), (6, .pointer (some ⟨b5, 0, none⟩)), (7, .pointer (some ⟨b25, 0, none⟩)), (26, .int .i64 0)]) (cs := []) (by kernel_rfl) rfl trivial ?_; clear hF34 a27; intro a5193 hF5194
    refine hK5192 _ _ ?_
    refine wp_block ?_
    refine loopR (F_sha512_block_l1 xs3) xj5188 ((List.replicate 80 0), 0) hx5189 (fun s a W => ∃ (zs7521 : List Nat), ∃ (x7524 : Nat), (zs7521, x7524) = s ∧ (Fr 193 a [(0, .pointer (some ⟨pb1, 0, none⟩)), (2, .slice pA3 xs3.length pc3), (4, .pointer (some ⟨b3, 0, none⟩)), (6, .pointer (some ⟨b5, 0, none⟩)), (7, .pointer (some ⟨b25, 0, none⟩)), (26, .int .i64 ((x7524 : Nat) : Int))]) ∧ (Heap w [] W [.blk b3 26 (vs .u64 xs2), .blk b5 26 (vs .u64 (List.replicate 8 0)), .blk b25 24 (vs .u64 zs7521)]) ∧ (zs7521.length = 80) ∧ (LB 18446744073709551616 zs7521)) ⟨(List.replicate 80 0), 0, rfl, hF5194.pick [0, 2, 4, 6, 7, 26] (by kernel_rfl), hS33.pick [2, 1, 0] (by decide) rfl, (len_rep (α := Nat) 80 0), (LB.rep (m := 18446744073709551616) (x := 0) (by decide) 80)⟩ ?_
    clear hF5194 hS33 hx5189
    rintro k8937 _ a8932 w8933 ⟨zs7521, x7524, rfl, hF8934, hS8935, hh7522, hh7523⟩ hit8931 K8930 hK8929
    obtain ⟨y8927, h8936, hy8928⟩ := iter_succ hit8931; clear hit8931
    unfold F_sha512_block_l1 at h8936; try dsimp only at h8936
    refine wp_seq_k (fun K8938 hK8939 => ?_)
    refine wp_region_lit ?_
    refine pu_end hT 1 _ hF8934 [0, 2, 4, 6, 7, 26, 27] (G := [(0, .pointer (some ⟨pb1, 0, none⟩)), (2, .slice pA3 xs3.length pc3), (4, .pointer (some ⟨b3, 0, none⟩)), (6, .pointer (some ⟨b5, 0, none⟩)), (7, .pointer (some ⟨b25, 0, none⟩)), (26, .int .i64 ((x7524 : Nat) : Int)), (27, .bool ((decide (((x7524 : Nat) : Int) < 80))))]) (cs := []) (by kernel_rfl) rfl trivial ?_; clear hF8934 a8932; intro a8940 hF8941
    refine hK8939 _ _ ?_
    refine wp_seq_k (fun K8944 hK8945 => ?_)
    rcases (ite_some h8936 : ((((x7524 : Nat) : Int) < 80) ∧ _) ∨ (¬ (((x7524 : Nat) : Int) < 80) ∧ _)) with ⟨hc8946, h8947⟩ | ⟨hc8946, h8947⟩
    · clear h8936
      have hF8948 : Fr 193 a8940 [(0, .pointer (some ⟨pb1, 0, none⟩)), (2, .slice pA3 xs3.length pc3), (4, .pointer (some ⟨b3, 0, none⟩)), (6, .pointer (some ⟨b5, 0, none⟩)), (7, .pointer (some ⟨b25, 0, none⟩)), (26, .int .i64 ((x7524 : Nat) : Int)), (27, .bool true)] := hF8941.pick [0, 2, 4, 6, 7, 26, 27] (by rw [decide_eq_true hc8946]; kernel_rfl); clear hF8941
      refine condT hF8948 (by kernel_rfl) ?_
      refine wp_skip ?_
      refine hK8945 _ _ ?_
      obtain ⟨xj9644, hx9645, h9646⟩ := bnd_some h8947; clear h8947
      refine seqJ (fun a W => ∃ (zs9641 : List Nat), zs9641 = xj9644 ∧ (Fr 193 a [(0, .pointer (some ⟨pb1, 0, none⟩)), (2, .slice pA3 xs3.length pc3), (4, .pointer (some ⟨b3, 0, none⟩)), (6, .pointer (some ⟨b5, 0, none⟩)), (7, .pointer (some ⟨b25, 0, none⟩)), (8, .int .i64 ((x7524 : Nat) : Int)), (26, .int .i64 ((x7524 : Nat) : Int))]) ∧ (Heap w [] W [.blk b3 26 (vs .u64 xs2), .blk b5 26 (vs .u64 (List.replicate 8 0)), .blk b25 24 (vs .u64 zs9641)]) ∧ (zs9641.length = 80) ∧ (LB 18446744073709551616 zs9641)) ?_ ?_
      · skip
        refine wp_block ?_
        refine wp_seq_k (fun K9647 hK9648 => ?_)
        refine wp_region_lit ?_
        refine pu_end hT 2 _ hF8948 [0, 2, 4, 6, 7, 26, 8] (G := [(0, .pointer (some ⟨pb1, 0, none⟩)), (2, .slice pA3 xs3.length pc3), (4, .pointer (some ⟨b3, 0, none⟩)), (6, .pointer (some ⟨b5, 0, none⟩)), (7, .pointer (some ⟨b25, 0, none⟩)), (26, .int .i64 ((x7524 : Nat) : Int)), (8, .int .i64 ((x7524 : Nat) : Int))]) (cs := []) (by kernel_rfl) rfl trivial ?_; clear hF8948 a8940; intro a9649 hF9650
        refine hK9648 _ _ ?_
        obtain ⟨xj9965, hx9966, h9967⟩ := bnd_some hx9645; clear hx9645
        refine seqJ (fun a W => (.inl ()) = xj9965 ∧ (Fr 193 a [(0, .pointer (some ⟨pb1, 0, none⟩)), (2, .slice pA3 xs3.length pc3), (4, .pointer (some ⟨b3, 0, none⟩)), (6, .pointer (some ⟨b5, 0, none⟩)), (7, .pointer (some ⟨b25, 0, none⟩)), (8, .int .i64 ((x7524 : Nat) : Int)), (26, .int .i64 ((x7524 : Nat) : Int))]) ∧ (Heap w [] W [.blk b3 26 (vs .u64 xs2), .blk b5 26 (vs .u64 (List.replicate 8 0)), .blk b25 24 (vs .u64 zs7521)])) ?_ ?_
        · skip
          refine wp_seq_k (fun K9968 hK9969 => ?_)
          refine wp_region_lit ?_
          refine pu_end hT 2 _ hF9650 [0, 2, 4, 6, 7, 26, 8, 30] (G := [(0, .pointer (some ⟨pb1, 0, none⟩)), (2, .slice pA3 xs3.length pc3), (4, .pointer (some ⟨b3, 0, none⟩)), (6, .pointer (some ⟨b5, 0, none⟩)), (7, .pointer (some ⟨b25, 0, none⟩)), (26, .int .i64 ((x7524 : Nat) : Int)), (8, .int .i64 ((x7524 : Nat) : Int)), (30, .bool ((decide (((x7524 : Nat) : Int) < 16))))]) (cs := []) (by kernel_rfl) rfl trivial ?_; clear hF9650 a9649; intro a9970 hF9971
          refine hK9969 _ _ ?_
          rcases (ite_some hx9966 : ((((x7524 : Nat) : Int) < 16) ∧ _) ∨ (¬ (((x7524 : Nat) : Int) < 16) ∧ _)) with ⟨hc9972, h9973⟩ | ⟨hc9972, h9973⟩
          · clear hx9966
            have hF9974 : Fr 193 a9970 [(0, .pointer (some ⟨pb1, 0, none⟩)), (2, .slice pA3 xs3.length pc3), (4, .pointer (some ⟨b3, 0, none⟩)), (6, .pointer (some ⟨b5, 0, none⟩)), (7, .pointer (some ⟨b25, 0, none⟩)), (26, .int .i64 ((x7524 : Nat) : Int)), (8, .int .i64 ((x7524 : Nat) : Int)), (30, .bool true)] := hF9971.pick [0, 2, 4, 6, 7, 26, 8, 30] (by rw [decide_eq_true hc9972]; kernel_rfl); clear hF9971
            refine condT hF9974 (by kernel_rfl) ?_
            obtain ⟨xj10132, hx10133, h10134⟩ := bnd_some h9973; clear h9973
            refine seqJ (fun a W => ∃ (zs10120 : List Nat), ∃ (lo10124 : Nat), ∃ (n10125 : Nat), ∃ (x10131 : Nat), ∃ (A10123 : Option Addr), ∃ (c10126 : Nat), (zs10120, lo10124, n10125, x10131) = xj10132 ∧ (Fr 193 a [(0, .pointer (some ⟨pb1, 0, none⟩)), (2, .slice pA3 xs3.length pc3), (4, .pointer (some ⟨b3, 0, none⟩)), (6, .pointer (some ⟨b5, 0, none⟩)), (7, .pointer (some ⟨b25, 0, none⟩)), (8, .int .i64 ((x7524 : Nat) : Int)), (26, .int .i64 ((x7524 : Nat) : Int)), (37, .slice A10123 n10125 c10126), (38, .int .i64 (((((8 * x7524) + 8) - (8 * x7524)) : Nat) : Int)), (39, .int .i64 ((x10131 : Nat) : Int))]) ∧ (Heap w [] W [.blk b3 26 (vs .u64 xs2), .blk b5 26 (vs .u64 (List.replicate 8 0)), .blk b25 24 (vs .u64 zs10120)]) ∧ (zs10120.length = 80) ∧ (LB 18446744073709551616 zs10120) ∧ (View pA3 pc3 1 A10123 lo10124) ∧ (lo10124 + c10126 = pc3) ∧ (lo10124 + n10125 ≤ xs3.length) ∧ (n10125 ≤ c10126)) ?_ ?_
            · skip
              refine wp_seq_k (fun K10135 hK10136 => ?_)
              obtain ⟨g10138, h10137⟩ : ((((8 * x7524) : Nat) : Int) ≤ 9223372036854775807) ∧ _ := gd_some hx10133; clear hx10133
              obtain ⟨g10140, h10139⟩ : (((((8 * x7524) + 8) : Nat) : Int) ≤ 9223372036854775807) ∧ _ := gd_some h10137; clear h10137
              obtain ⟨g10142, h10141⟩ : ((8 * x7524) ≤ ((8 * x7524) + 8)) ∧ _ := gd_some h10139; clear h10139
              obtain ⟨g10144, h10143⟩ : (((8 * x7524) + 8) ≤ xs3.length) ∧ _ := gd_some h10141; clear h10141
              refine wp_region_lit ?_
              refine pu hT 6 _ hF9974 [0, 2, 4, 6, 7, 26, 8, 31, 33, 36] (G := [(0, .pointer (some ⟨pb1, 0, none⟩)), (2, .slice pA3 xs3.length pc3), (4, .pointer (some ⟨b3, 0, none⟩)), (6, .pointer (some ⟨b5, 0, none⟩)), (7, .pointer (some ⟨b25, 0, none⟩)), (26, .int .i64 ((x7524 : Nat) : Int)), (8, .int .i64 ((x7524 : Nat) : Int)), (31, .slice pA3 xs3.length pc3), (33, .int .i64 (((8 * x7524) : Nat) : Int)), (36, .int .i64 ((((8 * x7524) + 8) : Nat) : Int))]) (cs := [-9223372036854775808 ≤ (((8 * x7524) : Nat) : Int), (((8 * x7524) : Nat) : Int) ≤ 9223372036854775807, -9223372036854775808 ≤ (((8 * x7524) : Nat) : Int), (((8 * x7524) : Nat) : Int) ≤ 9223372036854775807, -9223372036854775808 ≤ ((((8 * x7524) + 8) : Nat) : Int), ((((8 * x7524) + 8) : Nat) : Int) ≤ 9223372036854775807]) (by kernel_rfl) (And.intro (Int.le_trans (by decide) (Int.natCast_nonneg _)) (And.intro g10138 (And.intro (Int.le_trans (by decide) (Int.natCast_nonneg _)) (And.intro g10138 (And.intro (by omega) (And.intro g10140 trivial)))))) ?_; clear hF9974 a9970; intro a10147 hF10148
              refine wl (h_slice hT (d := 37) (A := pA3) (m := xs3.length) (c := pc3) (sz := 1) (lo := (8 * x7524)) (hi := ((8 * x7524) + 8)) (by kernel_rfl) hF10148 (by have := pc_3; have := (Eq.refl xs3.length); omega) (by have := pc_3; have := (Eq.refl xs3.length); omega) (by have := pc_3; have := (Eq.refl xs3.length); first | omega | (simp [*]; done)) ?_)
              rintro a10149 A10145 hv10146 ha10151 hF10150; clear ha10151 hF10148 a10147
              have hF10152 := hF10150.pick [0, 2, 4, 6, 7, 26, 8, 37] (G := [(0, .pointer (some ⟨pb1, 0, none⟩)), (2, .slice pA3 xs3.length pc3), (4, .pointer (some ⟨b3, 0, none⟩)), (6, .pointer (some ⟨b5, 0, none⟩)), (7, .pointer (some ⟨b25, 0, none⟩)), (26, .int .i64 ((x7524 : Nat) : Int)), (8, .int .i64 ((x7524 : Nat) : Int)), (37, .slice A10145 (((8 * x7524) + 8) - (8 * x7524)) (pc3 - (8 * x7524)))]) (by kernel_rfl); clear hF10150
              refine pu_end hT 2 _ hF10152 [0, 2, 4, 6, 7, 26, 8, 37, 38, 39] (G := [(0, .pointer (some ⟨pb1, 0, none⟩)), (2, .slice pA3 xs3.length pc3), (4, .pointer (some ⟨b3, 0, none⟩)), (6, .pointer (some ⟨b5, 0, none⟩)), (7, .pointer (some ⟨b25, 0, none⟩)), (26, .int .i64 ((x7524 : Nat) : Int)), (8, .int .i64 ((x7524 : Nat) : Int)), (37, .slice A10145 (((8 * x7524) + 8) - (8 * x7524)) (pc3 - (8 * x7524))), (38, .int .i64 (((((8 * x7524) + 8) - (8 * x7524)) : Nat) : Int)), (39, .int .i64 0)]) (cs := []) (by kernel_rfl) rfl trivial ?_; clear hF10152 a10149; intro a10153 hF10154
              refine hK10136 _ _ ?_
              refine wp_block ?_
              refine loopR (F_sha512_block_l2 x7524 xs3) xj10132 (zs7521, (8 * x7524), (((8 * x7524) + 8) - (8 * x7524)), 0) h10143 (fun s a W => ∃ (zs10222 : List Nat), ∃ (lo10226 : Nat), ∃ (n10227 : Nat), ∃ (x10233 : Nat), ∃ (A10225 : Option Addr), ∃ (c10228 : Nat), (zs10222, lo10226, n10227, x10233) = s ∧ (Fr 193 a [(0, .pointer (some ⟨pb1, 0, none⟩)), (2, .slice pA3 xs3.length pc3), (4, .pointer (some ⟨b3, 0, none⟩)), (6, .pointer (some ⟨b5, 0, none⟩)), (7, .pointer (some ⟨b25, 0, none⟩)), (8, .int .i64 ((x7524 : Nat) : Int)), (26, .int .i64 ((x7524 : Nat) : Int)), (37, .slice A10225 n10227 c10228), (38, .int .i64 (((((8 * x7524) + 8) - (8 * x7524)) : Nat) : Int)), (39, .int .i64 ((x10233 : Nat) : Int))]) ∧ (Heap w [] W [.blk b3 26 (vs .u64 xs2), .blk b5 26 (vs .u64 (List.replicate 8 0)), .blk b25 24 (vs .u64 zs10222)]) ∧ (zs10222.length = 80) ∧ (LB 18446744073709551616 zs10222) ∧ (View pA3 pc3 1 A10225 lo10226) ∧ (lo10226 + c10228 = pc3) ∧ (lo10226 + n10227 ≤ xs3.length) ∧ (n10227 ≤ c10228)) ⟨zs7521, (8 * x7524), (((8 * x7524) + 8) - (8 * x7524)), 0, A10145, (pc3 - (8 * x7524)), rfl, hF10154.pick [0, 2, 4, 6, 7, 8, 26, 37, 38, 39] (by kernel_rfl), hS8935.pick [0, 1, 2] (by decide) rfl, hh7522, hh7523, hv10146, (by have := pc_3; have := (Eq.refl xs3.length); skip; omega), (by have := pc_3; have := (Eq.refl xs3.length); skip; omega), (by have := pc_3; have := (Eq.refl xs3.length); skip; omega)⟩ ?_
              clear hF10154 hS8935 h10143
              rintro k10264 _ a10259 w10260 ⟨zs10222, lo10226, n10227, x10233, A10225, c10228, rfl, hF10261, hS10262, hh10223, hh10224, hh10229, hh10230, hh10231, hh10232⟩ hit10258 K10257 hK10256
              obtain ⟨y10254, h10263, hy10255⟩ := iter_succ hit10258; clear hit10258
              unfold F_sha512_block_l2 at h10263; try dsimp only at h10263
              refine wp_seq_k (fun K10265 hK10266 => ?_)
              refine wp_region_lit ?_
              refine pu_end hT 1 _ hF10261 [0, 2, 4, 6, 7, 8, 26, 37, 38, 39, 40] (G := [(0, .pointer (some ⟨pb1, 0, none⟩)), (2, .slice pA3 xs3.length pc3), (4, .pointer (some ⟨b3, 0, none⟩)), (6, .pointer (some ⟨b5, 0, none⟩)), (7, .pointer (some ⟨b25, 0, none⟩)), (8, .int .i64 ((x7524 : Nat) : Int)), (26, .int .i64 ((x7524 : Nat) : Int)), (37, .slice A10225 n10227 c10228), (38, .int .i64 (((((8 * x7524) + 8) - (8 * x7524)) : Nat) : Int)), (39, .int .i64 ((x10233 : Nat) : Int)), (40, .bool ((decide (((x10233 : Nat) : Int) < (((((8 * x7524) + 8) - (8 * x7524)) : Nat) : Int)))))]) (cs := []) (by kernel_rfl) rfl trivial ?_; clear hF10261 a10259; intro a10267 hF10268
              refine hK10266 _ _ ?_
              refine wp_seq_k (fun K10271 hK10272 => ?_)
              rcases (ite_some h10263 : ((((x10233 : Nat) : Int) < (((((8 * x7524) + 8) - (8 * x7524)) : Nat) : Int)) ∧ _) ∨ (¬ (((x10233 : Nat) : Int) < (((((8 * x7524) + 8) - (8 * x7524)) : Nat) : Int)) ∧ _)) with ⟨hc10273, h10274⟩ | ⟨hc10273, h10274⟩
              · clear h10263
                have hF10275 : Fr 193 a10267 [(0, .pointer (some ⟨pb1, 0, none⟩)), (2, .slice pA3 xs3.length pc3), (4, .pointer (some ⟨b3, 0, none⟩)), (6, .pointer (some ⟨b5, 0, none⟩)), (7, .pointer (some ⟨b25, 0, none⟩)), (8, .int .i64 ((x7524 : Nat) : Int)), (26, .int .i64 ((x7524 : Nat) : Int)), (37, .slice A10225 n10227 c10228), (38, .int .i64 (((((8 * x7524) + 8) - (8 * x7524)) : Nat) : Int)), (39, .int .i64 ((x10233 : Nat) : Int)), (40, .bool true)] := hF10268.pick [0, 2, 4, 6, 7, 8, 26, 37, 38, 39, 40] (by rw [decide_eq_true hc10273]; kernel_rfl); clear hF10268
                refine condT hF10275 (by kernel_rfl) ?_
                refine wp_skip ?_
                refine hK10272 _ _ ?_
                refine wp_seq_k (fun K10280 hK10281 => ?_)
                refine wp_block ?_
                refine wp_seq_k (fun K10282 hK10283 => ?_)
                obtain ⟨g10285, h10284⟩ : (((x10233 : Nat) : Int) < ((n10227 : Nat) : Int)) ∧ _ := gd_some h10274; clear h10274
                refine wp_region_lit ?_
                refine pu hT 1 _ hF10275 [0, 2, 4, 6, 7, 8, 26, 37, 38, 39, 41] (G := [(0, .pointer (some ⟨pb1, 0, none⟩)), (2, .slice pA3 xs3.length pc3), (4, .pointer (some ⟨b3, 0, none⟩)), (6, .pointer (some ⟨b5, 0, none⟩)), (7, .pointer (some ⟨b25, 0, none⟩)), (8, .int .i64 ((x7524 : Nat) : Int)), (26, .int .i64 ((x7524 : Nat) : Int)), (37, .slice A10225 n10227 c10228), (38, .int .i64 (((((8 * x7524) + 8) - (8 * x7524)) : Nat) : Int)), (39, .int .i64 ((x10233 : Nat) : Int)), (41, .pointer (some ⟨(ablk A10225), (aoff A10225 + x10233), none⟩))]) (cs := [0 ≤ ((x10233 : Nat) : Int), ((x10233 : Nat) : Int) < ((n10227 : Nat) : Int), (A10225 : Option Addr) = some ⟨ablk A10225, aoff A10225, none⟩]) (by kernel_rfl) (And.intro (by omega) (And.intro g10285 (And.intro ((hh10229.vst (hS10262.rd0 pR3) (by have := pc_3; have := (Eq.refl xs3.length); omega) n10227).some' (by have := (by have := hh10230; have := hh10231; have := hh10232; have := (Eq.refl xs3.length); simp only [zA, zS, zT, zD, zR, zC, zN, zV, zI]; omega : ((xs3.drop lo10226).take n10227).length = n10227); first | omega | (simp only [zA, zS, zT, zD, zR, zC, zN, zV, zI] <;> omega))) trivial))) ?_; clear hF10275 a10267; intro a10286 hF10287
                refine wl (s_load hT (d := 42) (A := ⟨(ablk A10225), (aoff A10225 + x10233), none⟩) (v := .int .u8 (((((xs3.drop lo10226).take n10227).getD x10233 0) : Nat) : Int)) (by kernel_rfl) hF10287 (Cells.at (hh10229.vst (hS10262.rd0 pR3) (by have := pc_3; have := (Eq.refl xs3.length); omega) n10227).cells (vs_get .u8 ((xs3.drop lo10226).take n10227) (i := x10233) (by have := (by have := hh10230; have := hh10231; have := hh10232; have := (Eq.refl xs3.length); simp only [zA, zS, zT, zD, zR, zC, zN, zV, zI]; omega : ((xs3.drop lo10226).take n10227).length = n10227); first | omega | (simp only [zA, zS, zT, zD, zR, zC, zN, zV, zI] <;> omega) | (simp [*]; done) | (simp [*]; omega))) (by first | rfl | omega)) ?_)
                rintro a10288 ha10290 hF10289; clear ha10290 hF10287 a10286
                have hF10291 := hF10289.pick [0, 2, 4, 6, 7, 8, 26, 37, 38, 39, 42] (G := [(0, .pointer (some ⟨pb1, 0, none⟩)), (2, .slice pA3 xs3.length pc3), (4, .pointer (some ⟨b3, 0, none⟩)), (6, .pointer (some ⟨b5, 0, none⟩)), (7, .pointer (some ⟨b25, 0, none⟩)), (8, .int .i64 ((x7524 : Nat) : Int)), (26, .int .i64 ((x7524 : Nat) : Int)), (37, .slice A10225 n10227 c10228), (38, .int .i64 (((((8 * x7524) + 8) - (8 * x7524)) : Nat) : Int)), (39, .int .i64 ((x10233 : Nat) : Int)), (42, .int .u8 (((((xs3.drop lo10226).take n10227).getD x10233 0) : Nat) : Int))]) (by kernel_rfl); clear hF10289
                refine pu_end hT 1 _ hF10291 [0, 2, 4, 6, 7, 8, 26, 37, 38, 39, 10] (G := [(0, .pointer (some ⟨pb1, 0, none⟩)), (2, .slice pA3 xs3.length pc3), (4, .pointer (some ⟨b3, 0, none⟩)), (6, .pointer (some ⟨b5, 0, none⟩)), (7, .pointer (some ⟨b25, 0, none⟩)), (8, .int .i64 ((x7524 : Nat) : Int)), (26, .int .i64 ((x7524 : Nat) : Int)), (37, .slice A10225 n10227 c10228), (38, .int .i64 (((((8 * x7524) + 8) - (8 * x7524)) : Nat) : Int)), (39, .int .i64 ((x10233 : Nat) : Int)), (10, .int .u8 (((((xs3.drop lo10226).take n10227).getD x10233 0) : Nat) : Int))]) (cs := []) (by kernel_rfl) rfl trivial ?_; clear hF10291 a10288; intro a10292 hF10293
                refine hK10283 _ _ ?_
                refine wp_region_lit ?_
                refine pu hT 3 _ hF10293 [0, 2, 4, 6, 7, 8, 26, 37, 38, 39, 10, 43, 45] (G := [(0, .pointer (some ⟨pb1, 0, none⟩)), (2, .slice pA3 xs3.length pc3), (4, .pointer (some ⟨b3, 0, none⟩)), (6, .pointer (some ⟨b5, 0, none⟩)), (7, .pointer (some ⟨b25, 0, none⟩)), (8, .int .i64 ((x7524 : Nat) : Int)), (26, .int .i64 ((x7524 : Nat) : Int)), (37, .slice A10225 n10227 c10228), (38, .int .i64 (((((8 * x7524) + 8) - (8 * x7524)) : Nat) : Int)), (39, .int .i64 ((x10233 : Nat) : Int)), (10, .int .u8 (((((xs3.drop lo10226).take n10227).getD x10233 0) : Nat) : Int)), (43, .int .i64 ((x7524 : Nat) : Int)), (45, .pointer (some ⟨b25, (0 + x7524), none⟩))]) (cs := [0 ≤ ((x7524 : Nat) : Int), ((x7524 : Nat) : Int) < 80]) (by kernel_rfl) (And.intro (by omega) (And.intro hc8946 trivial)) ?_; clear hF10293 a10292; intro a10294 hF10295
                refine wl (s_load hT (d := 46) (A := ⟨b25, (0 + x7524), none⟩) (v := .int .u64 (((zs10222.getD x7524 0) : Nat) : Int)) (by kernel_rfl) hF10295 (Cells.at (hS10262.blk 2 rfl).cells (vs_get .u64 zs10222 (i := x7524) (by have := hh10223; omega)) (by first | rfl | omega)) ?_)
                rintro a10296 ha10298 hF10297; clear ha10298 hF10295 a10294
                have hF10299 := hF10297.pick [0, 2, 4, 6, 7, 8, 26, 37, 38, 39, 10, 43, 46] (G := [(0, .pointer (some ⟨pb1, 0, none⟩)), (2, .slice pA3 xs3.length pc3), (4, .pointer (some ⟨b3, 0, none⟩)), (6, .pointer (some ⟨b5, 0, none⟩)), (7, .pointer (some ⟨b25, 0, none⟩)), (8, .int .i64 ((x7524 : Nat) : Int)), (26, .int .i64 ((x7524 : Nat) : Int)), (37, .slice A10225 n10227 c10228), (38, .int .i64 (((((8 * x7524) + 8) - (8 * x7524)) : Nat) : Int)), (39, .int .i64 ((x10233 : Nat) : Int)), (10, .int .u8 (((((xs3.drop lo10226).take n10227).getD x10233 0) : Nat) : Int)), (43, .int .i64 ((x7524 : Nat) : Int)), (46, .int .u64 (((zs10222.getD x7524 0) : Nat) : Int))]) (by kernel_rfl); clear hF10297
                refine pu hT 5 _ hF10299 [0, 2, 4, 6, 7, 8, 26, 37, 38, 39, 50, 51] (G := [(0, .pointer (some ⟨pb1, 0, none⟩)), (2, .slice pA3 xs3.length pc3), (4, .pointer (some ⟨b3, 0, none⟩)), (6, .pointer (some ⟨b5, 0, none⟩)), (7, .pointer (some ⟨b25, 0, none⟩)), (8, .int .i64 ((x7524 : Nat) : Int)), (26, .int .i64 ((x7524 : Nat) : Int)), (37, .slice A10225 n10227 c10228), (38, .int .i64 (((((8 * x7524) + 8) - (8 * x7524)) : Nat) : Int)), (39, .int .i64 ((x10233 : Nat) : Int)), (50, .int .u64 (((((zs10222.getD x7524 0) * 2 ^ 8 % 18446744073709551616) ||| (((xs3.drop lo10226).take n10227).getD x10233 0)) : Nat) : Int)), (51, .pointer (some ⟨b25, (0 + x7524), none⟩))]) (cs := [(((xs3.drop lo10226).take n10227).getD x10233 0) < 18446744073709551616, ((zs10222.getD x7524 0) * 2 ^ 8 % 18446744073709551616) < 18446744073709551616, (((xs3.drop lo10226).take n10227).getD x10233 0) < 18446744073709551616, 0 ≤ ((x7524 : Nat) : Int), ((x7524 : Nat) : Int) < 80]) (by kernel_rfl) (And.intro (Nat.lt_of_lt_of_le (((pb3.drop lo10226).take n10227).get (by decide) x10233) (by decide)) (And.intro (Nat.mod_lt _ (by decide)) (And.intro (Nat.lt_of_lt_of_le (((pb3.drop lo10226).take n10227).get (by decide) x10233) (by decide)) (And.intro (by omega) (And.intro hc8946 trivial))))) ?_; clear hF10299 a10296; intro a10300 hF10301
                refine wl (h_store hT (b := b25) (off := x7524) (p := ⟨b25, (0 + x7524), none⟩) (v := .int .u64 (((((zs10222.getD x7524 0) * 2 ^ 8 % 18446744073709551616) ||| (((xs3.drop lo10226).take n10227).getD x10233 0)) : Nat) : Int)) (l' := vs .u64 (zs10222.set x7524 (((zs10222.getD x7524 0) * 2 ^ 8 % 18446744073709551616) ||| (((xs3.drop lo10226).take n10227).getD x10233 0)))) (by kernel_rfl) hF10301 hS10262 2 rfl (by first | rfl | (congr 1; omega)) (by have := hh10223; simp only [zA, zS, zT, zD, zR, zC, zN, zV, zI] <;> omega) (by first | exact vs_set _ _ _ _ | exact vi_set _ _ _ | rfl) ?_)
                rintro a10302 w10303 ha10306 hF10307 hS10304 g10305; clear ha10306 hF10301 a10300 hS10262
                have hS10308 : Heap w [] w10303 [.blk b3 26 (vs .u64 xs2), .blk b5 26 (vs .u64 (List.replicate 8 0)), .blk b25 24 (vs .u64 (zs10222.set x7524 (((zs10222.getD x7524 0) * 2 ^ 8 % 18446744073709551616) ||| (((xs3.drop lo10226).take n10227).getD x10233 0))))] := hS10304; clear hS10304
                have hF10309 := hF10307.pick [0, 2, 4, 6, 7, 8, 26, 37, 38, 39] (G := [(0, .pointer (some ⟨pb1, 0, none⟩)), (2, .slice pA3 xs3.length pc3), (4, .pointer (some ⟨b3, 0, none⟩)), (6, .pointer (some ⟨b5, 0, none⟩)), (7, .pointer (some ⟨b25, 0, none⟩)), (8, .int .i64 ((x7524 : Nat) : Int)), (26, .int .i64 ((x7524 : Nat) : Int)), (37, .slice A10225 n10227 c10228), (38, .int .i64 (((((8 * x7524) + 8) - (8 * x7524)) : Nat) : Int)), (39, .int .i64 ((x10233 : Nat) : Int))]) (by kernel_rfl); clear hF10307
                refine wpList_nil ?_
                refine hK10281 _ _ ?_
                obtain ⟨g10311, h10310⟩ : ((((x10233 + 1) : Nat) : Int) ≤ 9223372036854775807) ∧ _ := gd_some h10284; clear h10284
                refine wp_region_lit ?_
                refine pu_end hT 2 _ hF10309 [0, 2, 4, 6, 7, 8, 26, 37, 38, 39] (G := [(0, .pointer (some ⟨pb1, 0, none⟩)), (2, .slice pA3 xs3.length pc3), (4, .pointer (some ⟨b3, 0, none⟩)), (6, .pointer (some ⟨b5, 0, none⟩)), (7, .pointer (some ⟨b25, 0, none⟩)), (8, .int .i64 ((x7524 : Nat) : Int)), (26, .int .i64 ((x7524 : Nat) : Int)), (37, .slice A10225 n10227 c10228), (38, .int .i64 (((((8 * x7524) + 8) - (8 * x7524)) : Nat) : Int)), (39, .int .i64 (((x10233 + 1) : Nat) : Int))]) (cs := [-9223372036854775808 ≤ (((x10233 + 1) : Nat) : Int), (((x10233 + 1) : Nat) : Int) ≤ 9223372036854775807]) (by kernel_rfl) rfl (And.intro (by omega) (And.intro g10311 trivial)) ?_; clear hF10309 a10302; intro a10312 hF10313
                obtain rfl := Option.some.inj h10310
                exact hK10256 _ _ _ hy10255 ⟨(zs10222.set x7524 (((zs10222.getD x7524 0) * 2 ^ 8 % 18446744073709551616) ||| (((xs3.drop lo10226).take n10227).getD x10233 0))), lo10226, n10227, (x10233 + 1), A10225, c10228, rfl, hF10313.pick [0, 2, 4, 6, 7, 8, 26, 37, 38, 39] (by kernel_rfl), hS10308.pick [0, 1, 2] (by decide) rfl, (len_set hh10223 x7524 (((zs10222.getD x7524 0) * 2 ^ 8 % 18446744073709551616) ||| (((xs3.drop lo10226).take n10227).getD x10233 0))), (hh10224.set (lt_or (n := 64) (Nat.mod_lt _ (by decide)) (Nat.lt_of_lt_of_le (((pb3.drop lo10226).take n10227).get (by decide) x10233) (by decide))) x7524), hh10229, (by have := pc_3; have := (Eq.refl xs3.length); have := hh10230; have := hh10231; have := hh10232; skip; omega), (by have := pc_3; have := (Eq.refl xs3.length); have := hh10230; have := hh10231; have := hh10232; skip; omega), (by have := pc_3; have := (Eq.refl xs3.length); have := hh10230; have := hh10231; have := hh10232; skip; omega)⟩
              · clear h10263
                have hF10314 : Fr 193 a10267 [(0, .pointer (some ⟨pb1, 0, none⟩)), (2, .slice pA3 xs3.length pc3), (4, .pointer (some ⟨b3, 0, none⟩)), (6, .pointer (some ⟨b5, 0, none⟩)), (7, .pointer (some ⟨b25, 0, none⟩)), (8, .int .i64 ((x7524 : Nat) : Int)), (26, .int .i64 ((x7524 : Nat) : Int)), (37, .slice A10225 n10227 c10228), (38, .int .i64 (((((8 * x7524) + 8) - (8 * x7524)) : Nat) : Int)), (39, .int .i64 ((x10233 : Nat) : Int)), (40, .bool false)] := hF10268.pick [0, 2, 4, 6, 7, 8, 26, 37, 38, 39, 40] (by rw [decide_eq_false hc10273]; kernel_rfl); clear hF10268
                refine condF hF10314 (by kernel_rfl) ?_
                refine wp_exit ?_
                obtain rfl := Option.some.inj h10274
                obtain rfl : _ = xj10132 := hy10255
                exact ⟨zs10222, lo10226, n10227, x10233, A10225, c10228, rfl, hF10314.pick [0, 2, 4, 6, 7, 8, 26, 37, 38, 39] (by kernel_rfl), hS10262.pick [0, 1, 2] (by decide) rfl, hh10223, hh10224, hh10229, (by have := pc_3; have := (Eq.refl xs3.length); have := hh10230; have := hh10231; have := hh10232; skip; omega), (by have := pc_3; have := (Eq.refl xs3.length); have := hh10230; have := hh10231; have := hh10232; skip; omega), (by have := pc_3; have := (Eq.refl xs3.length); have := hh10230; have := hh10231; have := hh10232; skip; omega)⟩
            · skip
              clear hx10133 hF9974 hS8935 
              rintro a10315 w10316 ⟨zs10120, lo10124, n10125, x10131, A10123, c10126, rfl, hF10317, hS10318, hh10121, hh10122, hh10127, hh10128, hh10129, hh10130⟩
              refine wp_exit ?_
              obtain rfl := Option.some.inj h10134
              obtain rfl := Option.some.inj (show some _ = some _ from h9967)
              exact ⟨zs10120, rfl, hF10317.pick [0, 2, 4, 6, 7, 8, 26] (by kernel_rfl), hS10318.pick [0, 1, 2] (by decide) rfl, hh10121, hh10122⟩
          · clear hx9966
            have hF10320 : Fr 193 a9970 [(0, .pointer (some ⟨pb1, 0, none⟩)), (2, .slice pA3 xs3.length pc3), (4, .pointer (some ⟨b3, 0, none⟩)), (6, .pointer (some ⟨b5, 0, none⟩)), (7, .pointer (some ⟨b25, 0, none⟩)), (26, .int .i64 ((x7524 : Nat) : Int)), (8, .int .i64 ((x7524 : Nat) : Int)), (30, .bool false)] := hF9971.pick [0, 2, 4, 6, 7, 26, 8, 30] (by rw [decide_eq_false hc9972]; kernel_rfl); clear hF9971
            refine condF hF10320 (by kernel_rfl) ?_
            refine wp_skip ?_
            obtain rfl := Option.some.inj h9973
            exact ⟨rfl, hF10320.pick [0, 2, 4, 6, 7, 8, 26] (by kernel_rfl), hS8935.pick [0, 1, 2] (by decide) rfl⟩
        · skip
          clear hx9966 hF9650 hS8935 
          rintro a10321 w10322 ⟨rfl, hF10323, hS10324⟩
          refine wp_seq_k (fun K10326 hK10327 => ?_)
          obtain ⟨g10329, h10328⟩ : (-9223372036854775808 ≤ (((x7524 : Nat) : Int) - 15)) ∧ _ := gd_some h9967; clear h9967
          obtain ⟨g10331, h10330⟩ : ((((x7524 : Nat) : Int) - 15) ≤ 9223372036854775807) ∧ _ := gd_some h10328; clear h10328
          obtain ⟨g10333, h10332⟩ : (0 ≤ (((x7524 : Nat) : Int) - 15)) ∧ _ := gd_some h10330; clear h10330
          obtain ⟨g10335, h10334⟩ : ((((x7524 : Nat) : Int) - 15) < 80) ∧ _ := gd_some h10332; clear h10332
          obtain ⟨g10337, h10336⟩ : (-9223372036854775808 ≤ (((x7524 : Nat) : Int) - 2)) ∧ _ := gd_some h10334; clear h10334
          obtain ⟨g10339, h10338⟩ : ((((x7524 : Nat) : Int) - 2) ≤ 9223372036854775807) ∧ _ := gd_some h10336; clear h10336
          obtain ⟨g10341, h10340⟩ : (0 ≤ (((x7524 : Nat) : Int) - 2)) ∧ _ := gd_some h10338; clear h10338
          obtain ⟨g10343, h10342⟩ : ((((x7524 : Nat) : Int) - 2) < 80) ∧ _ := gd_some h10340; clear h10340
          have hlt10344 := hS10324.ids
          have hsz10346 := hS10324.size
          let SL10345 : List SP := [SP.val (.int .i64 ((x7524 : Nat) : Int)), SP.val (.int .i64 (((x7524 : Nat) : Int) - 15)), SP.val (.pointer (some ⟨b25, (0 + (((x7524 : Nat) : Int) - 15).toNat), none⟩)), SP.val (.int .u64 (((zs7521.getD (x7524 - 15) 0) : Nat) : Int)), SP.val (.int .i64 ((x7524 : Nat) : Int)), SP.val (.int .i64 (((x7524 : Nat) : Int) - 2)), SP.val (.pointer (some ⟨b25, (0 + (((x7524 : Nat) : Int) - 2).toNat), none⟩)), SP.val (.int .u64 (((zs7521.getD (x7524 - 2) 0) : Nat) : Int)), SP.val (.int .u64 (((zs7521.getD (x7524 - 15) 0) : Nat) : Int)), SP.val (.int .u64 (((zs7521.getD (x7524 - 2) 0) : Nat) : Int))]
          refine region_rel (SL := SL10345) (J := (fun (B : Bool) (W : World) => w10322.heap.size ≤ W.heap.size ∧ Heap w [] W [.blk b3 26 (vs .u64 xs2), .blk b5 26 (vs .u64 (List.replicate 8 0)), .blk b25 24 (vs .u64 zs7521)])) (m := 10) wide (by kernel_rfl) (by kernel_rfl) hF10323 rfl ?_ ⟨Nat.le_refl _, hS10324⟩ ⟨?_, ?_, ?_, ?_, ?_, ?_, ?_, ?_, ?_, ?_, trivial⟩ [(11, some 8), (12, some 9), (0, none), (2, none), (4, none), (6, none), (7, none), (8, none), (26, none)] (by kernel_rfl) ?_
          · intro b W W' hj g; exact ⟨Nat.le_trans hj.1 g.size, hj.2.growN g⟩
          · -- operation 0
            rintro a10348 w10347 b10351 KK10357 hs10353 hd10354 hJ10355 hb10356 hr10358 hK10352
            have hr10358x : RD SL10345 b10351 a10348 a10321 w10347 [(8, none)] := hr10358 _ (by kernel_rfl)
            obtain ⟨q10359, -⟩ := hr10358x
            obtain ⟨hX10360, hS10350⟩ := hJ10355
            have hF10349 : Fr 193 a10348 [(8, .int .i64 ((x7524 : Nat) : Int))] := Fr.of hs10353 hd10354 ⟨(Fr.init hF10323 q10359 (by kernel_rfl)), trivial⟩
            refine s_pure hT (d := 53) (v := .int .i64 ((x7524 : Nat) : Int)) (cs := []) (by kernel_rfl) (by kernel_rfl) trivial hF10349 ?_
            rintro a2 ha2 hF2; rw [ha2]
            exact hK10352 _ _ rfl (grown_refl _ _)
          · -- operation 1
            rintro a10362 w10361 b10365 KK10371 hs10367 hd10368 hJ10369 hb10370 hr10372 hK10366
            have hr10372x : RD SL10345 b10365 a10362 a10321 w10361 [(53, some 0)] := hr10372 _ (by kernel_rfl)
            obtain ⟨⟨v10374, q10373, s10375⟩, -⟩ := hr10372x
            obtain rfl : v10374 = .int .i64 ((x7524 : Nat) : Int) := s10375
            obtain ⟨hX10376, hS10364⟩ := hJ10369
            have hF10363 : Fr 193 a10362 [(53, .int .i64 ((x7524 : Nat) : Int))] := Fr.of hs10367 hd10368 ⟨q10373, trivial⟩
            refine s_pure hT (d := 54) (v := .int .i64 (((x7524 : Nat) : Int) - 15)) (cs := [-9223372036854775808 ≤ (((x7524 : Nat) : Int) - 15), (((x7524 : Nat) : Int) - 15) ≤ 9223372036854775807]) (by kernel_rfl) (by kernel_rfl) (And.intro g10329 (And.intro g10331 trivial)) hF10363 ?_
            rintro a2 ha2 hF2; rw [ha2]
            exact hK10366 _ _ rfl (grown_refl _ _)
          · -- operation 2
            rintro a10378 w10377 b10381 KK10387 hs10383 hd10384 hJ10385 hb10386 hr10388 hK10382
            have hr10388x : RD SL10345 b10381 a10378 a10321 w10377 [(7, none), (54, some 1)] := hr10388 _ (by kernel_rfl)
            obtain ⟨q10389, ⟨v10391, q10390, s10392⟩, -⟩ := hr10388x
            obtain rfl : v10391 = .int .i64 (((x7524 : Nat) : Int) - 15) := s10392
            obtain ⟨hX10393, hS10380⟩ := hJ10385
            have hF10379 : Fr 193 a10378 [(7, .pointer (some ⟨b25, 0, none⟩)), (54, .int .i64 (((x7524 : Nat) : Int) - 15))] := Fr.of hs10383 hd10384 ⟨(Fr.init hF10323 q10389 (by kernel_rfl)), q10390, trivial⟩
            refine s_pure hT (d := 55) (v := .pointer (some ⟨b25, (0 + (((x7524 : Nat) : Int) - 15).toNat), none⟩)) (cs := [0 ≤ (((x7524 : Nat) : Int) - 15), (((x7524 : Nat) : Int) - 15) < 80]) (by kernel_rfl) (by kernel_rfl) (And.intro g10333 (And.intro g10335 trivial)) hF10379 ?_
            rintro a2 ha2 hF2; rw [ha2]
            exact hK10382 _ _ rfl (grown_refl _ _)
          · -- operation 3
            rintro a10395 w10394 b10398 KK10404 hs10400 hd10401 hJ10402 hb10403 hr10405 hK10399
            have hr10405x : RD SL10345 b10398 a10395 a10321 w10394 [(55, some 2)] := hr10405 _ (by kernel_rfl)
            obtain ⟨⟨v10407, q10406, s10408⟩, -⟩ := hr10405x
            obtain rfl : v10407 = .pointer (some ⟨b25, (0 + (((x7524 : Nat) : Int) - 15).toNat), none⟩) := s10408
            obtain ⟨hX10409, hS10397⟩ := hJ10402
            have hF10396 : Fr 193 a10395 [(55, .pointer (some ⟨b25, (0 + (((x7524 : Nat) : Int) - 15).toNat), none⟩))] := Fr.of hs10400 hd10401 ⟨q10406, trivial⟩
            refine s_load hT (d := 56) (A := ⟨b25, (0 + (((x7524 : Nat) : Int) - 15).toNat), none⟩) (v := .int .u64 (((zs7521.getD (x7524 - 15) 0) : Nat) : Int)) (by kernel_rfl) hF10396 (Cells.at (hS10397.blk 2 rfl).cells (vs_get .u64 zs7521 (i := (x7524 - 15)) (by have := hh7522; omega)) (by first | rfl | omega)) ?_
            rintro a10410 ha10412 hF10411
            rw [ha10412]
            exact hK10399 _ _ rfl (grown_refl _ _)
          · -- operation 4
            rintro a10414 w10413 b10417 KK10423 hs10419 hd10420 hJ10421 hb10422 hr10424 hK10418
            have hr10424x : RD SL10345 b10417 a10414 a10321 w10413 [(8, none)] := hr10424 _ (by kernel_rfl)
            obtain ⟨q10425, -⟩ := hr10424x
            obtain ⟨hX10426, hS10416⟩ := hJ10421
            have hF10415 : Fr 193 a10414 [(8, .int .i64 ((x7524 : Nat) : Int))] := Fr.of hs10419 hd10420 ⟨(Fr.init hF10323 q10425 (by kernel_rfl)), trivial⟩
            refine s_pure hT (d := 57) (v := .int .i64 ((x7524 : Nat) : Int)) (cs := []) (by kernel_rfl) (by kernel_rfl) trivial hF10415 ?_
            rintro a2 ha2 hF2; rw [ha2]
            exact hK10418 _ _ rfl (grown_refl _ _)
          · -- operation 5
            rintro a10428 w10427 b10431 KK10437 hs10433 hd10434 hJ10435 hb10436 hr10438 hK10432
            have hr10438x : RD SL10345 b10431 a10428 a10321 w10427 [(57, some 4)] := hr10438 _ (by kernel_rfl)
            obtain ⟨⟨v10440, q10439, s10441⟩, -⟩ := hr10438x
            obtain rfl : v10440 = .int .i64 ((x7524 : Nat) : Int) := s10441
            obtain ⟨hX10442, hS10430⟩ := hJ10435
            have hF10429 : Fr 193 a10428 [(57, .int .i64 ((x7524 : Nat) : Int))] := Fr.of hs10433 hd10434 ⟨q10439, trivial⟩
            refine s_pure hT (d := 58) (v := .int .i64 (((x7524 : Nat) : Int) - 2)) (cs := [-9223372036854775808 ≤ (((x7524 : Nat) : Int) - 2), (((x7524 : Nat) : Int) - 2) ≤ 9223372036854775807]) (by kernel_rfl) (by kernel_rfl) (And.intro g10337 (And.intro g10339 trivial)) hF10429 ?_
            rintro a2 ha2 hF2; rw [ha2]
            exact hK10432 _ _ rfl (grown_refl _ _)
          · -- operation 6
            rintro a10444 w10443 b10447 KK10453 hs10449 hd10450 hJ10451 hb10452 hr10454 hK10448
            have hr10454x : RD SL10345 b10447 a10444 a10321 w10443 [(7, none), (58, some 5)] := hr10454 _ (by kernel_rfl)
            obtain ⟨q10455, ⟨v10457, q10456, s10458⟩, -⟩ := hr10454x
            obtain rfl : v10457 = .int .i64 (((x7524 : Nat) : Int) - 2) := s10458
            obtain ⟨hX10459, hS10446⟩ := hJ10451
            have hF10445 : Fr 193 a10444 [(7, .pointer (some ⟨b25, 0, none⟩)), (58, .int .i64 (((x7524 : Nat) : Int) - 2))] := Fr.of hs10449 hd10450 ⟨(Fr.init hF10323 q10455 (by kernel_rfl)), q10456, trivial⟩
            refine s_pure hT (d := 59) (v := .pointer (some ⟨b25, (0 + (((x7524 : Nat) : Int) - 2).toNat), none⟩)) (cs := [0 ≤ (((x7524 : Nat) : Int) - 2), (((x7524 : Nat) : Int) - 2) < 80]) (by kernel_rfl) (by kernel_rfl) (And.intro g10341 (And.intro g10343 trivial)) hF10445 ?_
            rintro a2 ha2 hF2; rw [ha2]
            exact hK10448 _ _ rfl (grown_refl _ _)
          · -- operation 7
            rintro a10461 w10460 b10464 KK10470 hs10466 hd10467 hJ10468 hb10469 hr10471 hK10465
            have hr10471x : RD SL10345 b10464 a10461 a10321 w10460 [(59, some 6)] := hr10471 _ (by kernel_rfl)
            obtain ⟨⟨v10473, q10472, s10474⟩, -⟩ := hr10471x
            obtain rfl : v10473 = .pointer (some ⟨b25, (0 + (((x7524 : Nat) : Int) - 2).toNat), none⟩) := s10474
            obtain ⟨hX10475, hS10463⟩ := hJ10468
            have hF10462 : Fr 193 a10461 [(59, .pointer (some ⟨b25, (0 + (((x7524 : Nat) : Int) - 2).toNat), none⟩))] := Fr.of hs10466 hd10467 ⟨q10472, trivial⟩
            refine s_load hT (d := 60) (A := ⟨b25, (0 + (((x7524 : Nat) : Int) - 2).toNat), none⟩) (v := .int .u64 (((zs7521.getD (x7524 - 2) 0) : Nat) : Int)) (by kernel_rfl) hF10462 (Cells.at (hS10463.blk 2 rfl).cells (vs_get .u64 zs7521 (i := (x7524 - 2)) (by have := hh7522; omega)) (by first | rfl | omega)) ?_
            rintro a10476 ha10478 hF10477
            rw [ha10478]
            exact hK10465 _ _ rfl (grown_refl _ _)
          · -- operation 8
            rintro a10480 w10479 b10483 KK10489 hs10485 hd10486 hJ10487 hb10488 hr10490 hK10484
            have hr10490x : RD SL10345 b10483 a10480 a10321 w10479 [(56, some 3)] := hr10490 _ (by kernel_rfl)
            obtain ⟨⟨v10492, q10491, s10493⟩, -⟩ := hr10490x
            obtain rfl : v10492 = .int .u64 (((zs7521.getD (x7524 - 15) 0) : Nat) : Int) := s10493
            obtain ⟨hX10494, hS10482⟩ := hJ10487
            have hF10481 : Fr 193 a10480 [(56, .int .u64 (((zs7521.getD (x7524 - 15) 0) : Nat) : Int))] := Fr.of hs10485 hd10486 ⟨q10491, trivial⟩
            refine s_pure hT (d := 11) (v := .int .u64 (((zs7521.getD (x7524 - 15) 0) : Nat) : Int)) (cs := []) (by kernel_rfl) (by kernel_rfl) trivial hF10481 ?_
            rintro a2 ha2 hF2; rw [ha2]
            exact hK10484 _ _ rfl (grown_refl _ _)
          · -- operation 9
            rintro a10496 w10495 b10499 KK10505 hs10501 hd10502 hJ10503 hb10504 hr10506 hK10500
            have hr10506x : RD SL10345 b10499 a10496 a10321 w10495 [(60, some 7)] := hr10506 _ (by kernel_rfl)
            obtain ⟨⟨v10508, q10507, s10509⟩, -⟩ := hr10506x
            obtain rfl : v10508 = .int .u64 (((zs7521.getD (x7524 - 2) 0) : Nat) : Int) := s10509
            obtain ⟨hX10510, hS10498⟩ := hJ10503
            have hF10497 : Fr 193 a10496 [(60, .int .u64 (((zs7521.getD (x7524 - 2) 0) : Nat) : Int))] := Fr.of hs10501 hd10502 ⟨q10507, trivial⟩
            refine s_pure hT (d := 12) (v := .int .u64 (((zs7521.getD (x7524 - 2) 0) : Nat) : Int)) (cs := []) (by kernel_rfl) (by kernel_rfl) trivial hF10497 ?_
            rintro a2 ha2 hF2; rw [ha2]
            exact hK10500 _ _ rfl (grown_refl _ _)
          · -- behind the region
            rintro a10511 w10512 hs10513 hd10514 ⟨⟨v10517, q10518, s10519⟩, ⟨v10520, q10521, s10522⟩, q10523, q10524, q10525, q10526, q10527, q10528, q10529, -⟩ ⟨hX10516, hS10515⟩
            obtain rfl : v10517 = .int .u64 (((zs7521.getD (x7524 - 15) 0) : Nat) : Int) := s10519
            obtain rfl : v10520 = .int .u64 (((zs7521.getD (x7524 - 2) 0) : Nat) : Int) := s10522
            have hF10530 : Fr 193 a10511 [(11, .int .u64 (((zs7521.getD (x7524 - 15) 0) : Nat) : Int)), (12, .int .u64 (((zs7521.getD (x7524 - 2) 0) : Nat) : Int)), (0, .pointer (some ⟨pb1, 0, none⟩)), (2, .slice pA3 xs3.length pc3), (4, .pointer (some ⟨b3, 0, none⟩)), (6, .pointer (some ⟨b5, 0, none⟩)), (7, .pointer (some ⟨b25, 0, none⟩)), (8, .int .i64 ((x7524 : Nat) : Int)), (26, .int .i64 ((x7524 : Nat) : Int))] := Fr.of hs10513 hd10514 ⟨q10518, q10521, (Fr.init hF10323 q10523 (by kernel_rfl)), (Fr.init hF10323 q10524 (by kernel_rfl)), (Fr.init hF10323 q10525 (by kernel_rfl)), (Fr.init hF10323 q10526 (by kernel_rfl)), (Fr.init hF10323 q10527 (by kernel_rfl)), (Fr.init hF10323 q10528 (by kernel_rfl)), (Fr.init hF10323 q10529 (by kernel_rfl)), trivial⟩
            clear hF10323 hS10324 hs10513 hd10514 q10518 q10521 q10523 q10524 q10525 q10526 q10527 q10528 q10529
            refine hK10327 _ _ ?_
            obtain ⟨g10532, h10531⟩ : (-9223372036854775808 ≤ (((x7524 : Nat) : Int) - 16)) ∧ _ := gd_some h10342; clear h10342
            obtain ⟨g10534, h10533⟩ : ((((x7524 : Nat) : Int) - 16) ≤ 9223372036854775807) ∧ _ := gd_some h10531; clear h10531
            obtain ⟨g10536, h10535⟩ : (0 ≤ (((x7524 : Nat) : Int) - 16)) ∧ _ := gd_some h10533; clear h10533
            obtain ⟨g10538, h10537⟩ : ((((x7524 : Nat) : Int) - 16) < 80) ∧ _ := gd_some h10535; clear h10535
            obtain ⟨x10539, hr10541, h10540⟩ := bnd_some h10537; clear h10537; replace hr10541 : F_sha512_rotr (zs7521.getD (x7524 - 15) 0) (1 : Int) = some (x10539) := hr10541
            obtain ⟨x10543, hr10545, h10544⟩ := bnd_some h10540; clear h10540; replace hr10545 : F_sha512_rotr (zs7521.getD (x7524 - 15) 0) (8 : Int) = some (x10543) := hr10545
            obtain ⟨g10548, h10547⟩ : (-9223372036854775808 ≤ (((x7524 : Nat) : Int) - 7)) ∧ _ := gd_some h10544; clear h10544
            obtain ⟨g10550, h10549⟩ : ((((x7524 : Nat) : Int) - 7) ≤ 9223372036854775807) ∧ _ := gd_some h10547; clear h10547
            obtain ⟨g10552, h10551⟩ : (0 ≤ (((x7524 : Nat) : Int) - 7)) ∧ _ := gd_some h10549; clear h10549
            obtain ⟨g10554, h10553⟩ : ((((x7524 : Nat) : Int) - 7) < 80) ∧ _ := gd_some h10551; clear h10551
            obtain ⟨t10555, ht10556, h10557⟩ := ltb_some h10553; clear h10553; replace ht10556 : t10555 = (((((zs7521.getD (x7524 - 16) 0) + ((x10539 ^^^ x10543) ^^^ ((zs7521.getD (x7524 - 15) 0) / 2 ^ 7))) % 18446744073709551616) + (zs7521.getD (x7524 - 7) 0)) % 18446744073709551616) := ht10556
            obtain ⟨x10559, hr10561, h10560⟩ := bnd_some h10557; clear h10557; replace hr10561 : F_sha512_rotr (zs7521.getD (x7524 - 2) 0) (19 : Int) = some (x10559) := hr10561
            obtain ⟨x10563, hr10565, h10564⟩ := bnd_some h10560; clear h10560; replace hr10565 : F_sha512_rotr (zs7521.getD (x7524 - 2) 0) (61 : Int) = some (x10563) := hr10565
            have hlt10567 := hS10515.ids
            have hsz10569 := hS10515.size
            let SL10568 : List SP := [SP.val (.int .i64 ((x7524 : Nat) : Int)), SP.val (.int .i64 ((x7524 : Nat) : Int)), SP.val (.int .i64 (((x7524 : Nat) : Int) - 16)), SP.val (.pointer (some ⟨b25, (0 + (((x7524 : Nat) : Int) - 16).toNat), none⟩)), SP.val (.int .u64 (((zs7521.getD (x7524 - 16) 0) : Nat) : Int)), SP.val (.int .u64 (((zs7521.getD (x7524 - 15) 0) : Nat) : Int)), SP.mk' (fun B v W => v = .int .u64 ((x10539 : Nat) : Int) ∧ (x10539 < 18446744073709551616)) (fun B v W W2 hh gg => by obtain ⟨e, hh10542⟩ := hh; exact ⟨e, hh10542⟩), SP.val (.int .u64 (((zs7521.getD (x7524 - 15) 0) : Nat) : Int)), SP.mk' (fun B v W => v = .int .u64 ((x10543 : Nat) : Int) ∧ (x10543 < 18446744073709551616)) (fun B v W W2 hh gg => by obtain ⟨e, hh10546⟩ := hh; exact ⟨e, hh10546⟩), SP.mk' (fun B v W => v = .int .u64 (((x10539 ^^^ x10543) : Nat) : Int) ∧ (x10539 < 18446744073709551616) ∧ (x10543 < 18446744073709551616)) (fun B v W W2 hh gg => by obtain ⟨e, hh10542, hh10546⟩ := hh; exact ⟨e, hh10542, hh10546⟩), SP.val (.int .u64 (((zs7521.getD (x7524 - 15) 0) : Nat) : Int)), SP.val (.int .u64 ((((zs7521.getD (x7524 - 15) 0) / 2 ^ 7) : Nat) : Int)), SP.mk' (fun B v W => v = .int .u64 ((((x10539 ^^^ x10543) ^^^ ((zs7521.getD (x7524 - 15) 0) / 2 ^ 7)) : Nat) : Int) ∧ (x10539 < 18446744073709551616) ∧ (x10543 < 18446744073709551616)) (fun B v W W2 hh gg => by obtain ⟨e, hh10542, hh10546⟩ := hh; exact ⟨e, hh10542, hh10546⟩), SP.val (.int .u64 (((((zs7521.getD (x7524 - 16) 0) + ((x10539 ^^^ x10543) ^^^ ((zs7521.getD (x7524 - 15) 0) / 2 ^ 7))) % 18446744073709551616) : Nat) : Int)), SP.val (.int .i64 ((x7524 : Nat) : Int)), SP.val (.int .i64 (((x7524 : Nat) : Int) - 7)), SP.val (.pointer (some ⟨b25, (0 + (((x7524 : Nat) : Int) - 7).toNat), none⟩)), SP.val (.int .u64 (((zs7521.getD (x7524 - 7) 0) : Nat) : Int)), SP.mk' (fun B v W => v = .int .u64 ((t10555 : Nat) : Int) ∧ (t10555 < 18446744073709551616)) (fun B v W W2 hh gg => by obtain ⟨e, hb10558⟩ := hh; exact ⟨e, hb10558⟩), SP.val (.int .u64 (((zs7521.getD (x7524 - 2) 0) : Nat) : Int)), SP.mk' (fun B v W => v = .int .u64 ((x10559 : Nat) : Int) ∧ (x10559 < 18446744073709551616)) (fun B v W W2 hh gg => by obtain ⟨e, hh10562⟩ := hh; exact ⟨e, hh10562⟩), SP.val (.int .u64 (((zs7521.getD (x7524 - 2) 0) : Nat) : Int)), SP.mk' (fun B v W => v = .int .u64 ((x10563 : Nat) : Int) ∧ (x10563 < 18446744073709551616)) (fun B v W W2 hh gg => by obtain ⟨e, hh10566⟩ := hh; exact ⟨e, hh10566⟩), SP.mk' (fun B v W => v = .int .u64 (((x10559 ^^^ x10563) : Nat) : Int) ∧ (x10559 < 18446744073709551616) ∧ (x10563 < 18446744073709551616)) (fun B v W W2 hh gg => by obtain ⟨e, hh10562, hh10566⟩ := hh; exact ⟨e, hh10562, hh10566⟩), SP.val (.int .u64 (((zs7521.getD (x7524 - 2) 0) : Nat) : Int)), SP.val (.int .u64 ((((zs7521.getD (x7524 - 2) 0) / 2 ^ 6) : Nat) : Int)), SP.mk' (fun B v W => v = .int .u64 ((((x10559 ^^^ x10563) ^^^ ((zs7521.getD (x7524 - 2) 0) / 2 ^ 6)) : Nat) : Int) ∧ (x10559 < 18446744073709551616) ∧ (x10563 < 18446744073709551616)) (fun B v W W2 hh gg => by obtain ⟨e, hh10562, hh10566⟩ := hh; exact ⟨e, hh10562, hh10566⟩), SP.val (.int .u64 ((((t10555 + ((x10559 ^^^ x10563) ^^^ ((zs7521.getD (x7524 - 2) 0) / 2 ^ 6))) % 18446744073709551616) : Nat) : Int)), SP.val (.pointer (some ⟨b25, (0 + x7524), none⟩)), SP.any]
            refine region_rel (SL := SL10568) (J := (fun (B : Bool) (W : World) => match B with | true => w10512.heap.size ≤ W.heap.size ∧ Heap w [] W [.blk b3 26 (vs .u64 xs2), .blk b5 26 (vs .u64 (List.replicate 8 0)), .blk b25 24 (vs .u64 (zs7521.set x7524 ((t10555 + ((x10559 ^^^ x10563) ^^^ ((zs7521.getD (x7524 - 2) 0) / 2 ^ 6))) % 18446744073709551616)))] | false => w10512.heap.size ≤ W.heap.size ∧ Heap w [] W [.blk b3 26 (vs .u64 xs2), .blk b5 26 (vs .u64 (List.replicate 8 0)), .blk b25 24 (vs .u64 zs7521)])) (m := 29) wide (by kernel_rfl) (by kernel_rfl) hF10530 rfl ?_ ⟨Nat.le_refl _, hS10515⟩ ⟨?_, ?_, ?_, ?_, ?_, ?_, ?_, ?_, ?_, ?_, ?_, ?_, ?_, ?_, ?_, ?_, ?_, ?_, ?_, ?_, ?_, ?_, ?_, ?_, ?_, ?_, ?_, ?_, ?_, ?_, trivial⟩ [(0, none), (2, none), (4, none), (6, none), (7, none), (8, none), (26, none)] (by kernel_rfl) ?_
            · intro b W W' hj g; cases b <;> exact ⟨Nat.le_trans hj.1 g.size, hj.2.growN g⟩
            · -- operation 0
              rintro a10571 w10570 b10574 KK10580 hs10576 hd10577 hJ10578 hb10579 hr10581 hK10575
              have hr10581x : RD SL10568 b10574 a10571 a10511 w10570 [(8, none)] := hr10581 _ (by kernel_rfl)
              obtain ⟨q10582, -⟩ := hr10581x
              obtain rfl : b10574 = false := by cases b10574; rfl; exact absurd ((hb10579 rfl).2 _ rfl) (by decide)
              obtain ⟨hX10583, hS10573⟩ := hJ10578
              have hF10572 : Fr 193 a10571 [(8, .int .i64 ((x7524 : Nat) : Int))] := Fr.of hs10576 hd10577 ⟨(Fr.init hF10530 q10582 (by kernel_rfl)), trivial⟩
              refine s_pure hT (d := 61) (v := .int .i64 ((x7524 : Nat) : Int)) (cs := []) (by kernel_rfl) (by kernel_rfl) trivial hF10572 ?_
              rintro a2 ha2 hF2; rw [ha2]
              exact hK10575 _ _ rfl (grown_refl _ _)
            · -- operation 1
              rintro a10585 w10584 b10588 KK10594 hs10590 hd10591 hJ10592 hb10593 hr10595 hK10589
              have hr10595x : RD SL10568 b10588 a10585 a10511 w10584 [(8, none)] := hr10595 _ (by kernel_rfl)
              obtain ⟨q10596, -⟩ := hr10595x
              obtain rfl : b10588 = false := by cases b10588; rfl; exact absurd ((hb10593 rfl).2 _ rfl) (by decide)
              obtain ⟨hX10597, hS10587⟩ := hJ10592
              have hF10586 : Fr 193 a10585 [(8, .int .i64 ((x7524 : Nat) : Int))] := Fr.of hs10590 hd10591 ⟨(Fr.init hF10530 q10596 (by kernel_rfl)), trivial⟩
              refine s_pure hT (d := 62) (v := .int .i64 ((x7524 : Nat) : Int)) (cs := []) (by kernel_rfl) (by kernel_rfl) trivial hF10586 ?_
              rintro a2 ha2 hF2; rw [ha2]
              exact hK10589 _ _ rfl (grown_refl _ _)
            · -- operation 2
              rintro a10599 w10598 b10602 KK10608 hs10604 hd10605 hJ10606 hb10607 hr10609 hK10603
              have hr10609x : RD SL10568 b10602 a10599 a10511 w10598 [(62, some 1)] := hr10609 _ (by kernel_rfl)
              obtain ⟨⟨v10611, q10610, s10612⟩, -⟩ := hr10609x
              obtain rfl : v10611 = .int .i64 ((x7524 : Nat) : Int) := s10612
              obtain rfl : b10602 = false := by cases b10602; rfl; exact absurd ((hb10607 rfl).2 _ rfl) (by decide)
              obtain ⟨hX10613, hS10601⟩ := hJ10606
              have hF10600 : Fr 193 a10599 [(62, .int .i64 ((x7524 : Nat) : Int))] := Fr.of hs10604 hd10605 ⟨q10610, trivial⟩
              refine s_pure hT (d := 63) (v := .int .i64 (((x7524 : Nat) : Int) - 16)) (cs := [-9223372036854775808 ≤ (((x7524 : Nat) : Int) - 16), (((x7524 : Nat) : Int) - 16) ≤ 9223372036854775807]) (by kernel_rfl) (by kernel_rfl) (And.intro g10532 (And.intro g10534 trivial)) hF10600 ?_
              rintro a2 ha2 hF2; rw [ha2]
              exact hK10603 _ _ rfl (grown_refl _ _)
            · -- operation 3
              rintro a10615 w10614 b10618 KK10624 hs10620 hd10621 hJ10622 hb10623 hr10625 hK10619
              have hr10625x : RD SL10568 b10618 a10615 a10511 w10614 [(7, none), (63, some 2)] := hr10625 _ (by kernel_rfl)
              obtain ⟨q10626, ⟨v10628, q10627, s10629⟩, -⟩ := hr10625x
              obtain rfl : v10628 = .int .i64 (((x7524 : Nat) : Int) - 16) := s10629
              obtain rfl : b10618 = false := by cases b10618; rfl; exact absurd ((hb10623 rfl).2 _ rfl) (by decide)
              obtain ⟨hX10630, hS10617⟩ := hJ10622
              have hF10616 : Fr 193 a10615 [(7, .pointer (some ⟨b25, 0, none⟩)), (63, .int .i64 (((x7524 : Nat) : Int) - 16))] := Fr.of hs10620 hd10621 ⟨(Fr.init hF10530 q10626 (by kernel_rfl)), q10627, trivial⟩
              refine s_pure hT (d := 64) (v := .pointer (some ⟨b25, (0 + (((x7524 : Nat) : Int) - 16).toNat), none⟩)) (cs := [0 ≤ (((x7524 : Nat) : Int) - 16), (((x7524 : Nat) : Int) - 16) < 80]) (by kernel_rfl) (by kernel_rfl) (And.intro g10536 (And.intro g10538 trivial)) hF10616 ?_
              rintro a2 ha2 hF2; rw [ha2]
              exact hK10619 _ _ rfl (grown_refl _ _)
            · -- operation 4
              rintro a10632 w10631 b10635 KK10641 hs10637 hd10638 hJ10639 hb10640 hr10642 hK10636
              have hr10642x : RD SL10568 b10635 a10632 a10511 w10631 [(64, some 3)] := hr10642 _ (by kernel_rfl)
              obtain ⟨⟨v10644, q10643, s10645⟩, -⟩ := hr10642x
              obtain rfl : v10644 = .pointer (some ⟨b25, (0 + (((x7524 : Nat) : Int) - 16).toNat), none⟩) := s10645
              obtain rfl : b10635 = false := by cases b10635; rfl; exact absurd ((hb10640 rfl).2 _ rfl) (by decide)
              obtain ⟨hX10646, hS10634⟩ := hJ10639
              have hF10633 : Fr 193 a10632 [(64, .pointer (some ⟨b25, (0 + (((x7524 : Nat) : Int) - 16).toNat), none⟩))] := Fr.of hs10637 hd10638 ⟨q10643, trivial⟩
              refine s_load hT (d := 65) (A := ⟨b25, (0 + (((x7524 : Nat) : Int) - 16).toNat), none⟩) (v := .int .u64 (((zs7521.getD (x7524 - 16) 0) : Nat) : Int)) (by kernel_rfl) hF10633 (Cells.at (hS10634.blk 2 rfl).cells (vs_get .u64 zs7521 (i := (x7524 - 16)) (by have := hh7522; omega)) (by first | rfl | omega)) ?_
              rintro a10647 ha10649 hF10648
              rw [ha10649]
              exact hK10636 _ _ rfl (grown_refl _ _)
            · -- operation 5
              rintro a10651 w10650 b10654 KK10660 hs10656 hd10657 hJ10658 hb10659 hr10661 hK10655
              have hr10661x : RD SL10568 b10654 a10651 a10511 w10650 [(11, none)] := hr10661 _ (by kernel_rfl)
              obtain ⟨q10662, -⟩ := hr10661x
              obtain rfl : b10654 = false := by cases b10654; rfl; exact absurd ((hb10659 rfl).2 _ rfl) (by decide)
              obtain ⟨hX10663, hS10653⟩ := hJ10658
              have hF10652 : Fr 193 a10651 [(11, .int .u64 (((zs7521.getD (x7524 - 15) 0) : Nat) : Int))] := Fr.of hs10656 hd10657 ⟨(Fr.init hF10530 q10662 (by kernel_rfl)), trivial⟩
              refine s_pure hT (d := 66) (v := .int .u64 (((zs7521.getD (x7524 - 15) 0) : Nat) : Int)) (cs := []) (by kernel_rfl) (by kernel_rfl) trivial hF10652 ?_
              rintro a2 ha2 hF2; rw [ha2]
              exact hK10655 _ _ rfl (grown_refl _ _)
            · -- operation 6
              rintro a10665 w10664 b10668 KK10674 hs10670 hd10671 hJ10672 hb10673 hr10675 hK10669
              have hr10675x : RD SL10568 b10668 a10665 a10511 w10664 [(66, some 5)] := hr10675 _ (by kernel_rfl)
              obtain ⟨⟨v10677, q10676, s10678⟩, -⟩ := hr10675x
              obtain rfl : v10677 = .int .u64 (((zs7521.getD (x7524 - 15) 0) : Nat) : Int) := s10678
              obtain rfl : b10668 = false := by cases b10668; rfl; exact absurd ((hb10673 rfl).2 _ rfl) (by decide)
              obtain ⟨hX10679, hS10667⟩ := hJ10672
              have hF10666 : Fr 193 a10665 [(66, .int .u64 (((zs7521.getD (x7524 - 15) 0) : Nat) : Int))] := Fr.of hs10670 hd10671 ⟨q10676, trivial⟩
              refine s_call (d := 67) (f := 67) (l := [.int .u64 (((zs7521.getD (x7524 - 15) 0) : Nat) : Int), .int .i64 1]) (by kernel_rfl) hF10666 cl67 (W_sha512_rotr (zs7521.getD (x7524 - 15) 0) (1 : Int) _ (hh7523.get (by decide) (x7524 - 15)) x10539 hr10541) ?_
              rintro a10680 w10681 v10682 ⟨rfl, hh10542, hC10683⟩ ha10684 hF10685
              have hS10686 : Heap w [] w10681 [.blk b3 26 (vs .u64 xs2), .blk b5 26 (vs .u64 (List.replicate 8 0)), .blk b25 24 (vs .u64 zs7521)] := Heap.call hS10667 hC10683
              rw [ha10684]
              exact hK10669 _ _ ⟨rfl, hh10542⟩ (hC10683.grown)
            · -- operation 7
              rintro a10688 w10687 b10691 KK10697 hs10693 hd10694 hJ10695 hb10696 hr10698 hK10692
              have hr10698x : RD SL10568 b10691 a10688 a10511 w10687 [(11, none)] := hr10698 _ (by kernel_rfl)
              obtain ⟨q10699, -⟩ := hr10698x
              obtain rfl : b10691 = false := by cases b10691; rfl; exact absurd ((hb10696 rfl).2 _ rfl) (by decide)
              obtain ⟨hX10700, hS10690⟩ := hJ10695
              have hF10689 : Fr 193 a10688 [(11, .int .u64 (((zs7521.getD (x7524 - 15) 0) : Nat) : Int))] := Fr.of hs10693 hd10694 ⟨(Fr.init hF10530 q10699 (by kernel_rfl)), trivial⟩
              refine s_pure hT (d := 68) (v := .int .u64 (((zs7521.getD (x7524 - 15) 0) : Nat) : Int)) (cs := []) (by kernel_rfl) (by kernel_rfl) trivial hF10689 ?_
              rintro a2 ha2 hF2; rw [ha2]
              exact hK10692 _ _ rfl (grown_refl _ _)
            · -- operation 8
              rintro a10702 w10701 b10705 KK10711 hs10707 hd10708 hJ10709 hb10710 hr10712 hK10706
              have hr10712x : RD SL10568 b10705 a10702 a10511 w10701 [(68, some 7)] := hr10712 _ (by kernel_rfl)
              obtain ⟨⟨v10714, q10713, s10715⟩, -⟩ := hr10712x
              obtain rfl : v10714 = .int .u64 (((zs7521.getD (x7524 - 15) 0) : Nat) : Int) := s10715
              obtain rfl : b10705 = false := by cases b10705; rfl; exact absurd ((hb10710 rfl).2 _ rfl) (by decide)
              obtain ⟨hX10716, hS10704⟩ := hJ10709
              have hF10703 : Fr 193 a10702 [(68, .int .u64 (((zs7521.getD (x7524 - 15) 0) : Nat) : Int))] := Fr.of hs10707 hd10708 ⟨q10713, trivial⟩
              refine s_call (d := 69) (f := 67) (l := [.int .u64 (((zs7521.getD (x7524 - 15) 0) : Nat) : Int), .int .i64 8]) (by kernel_rfl) hF10703 cl67 (W_sha512_rotr (zs7521.getD (x7524 - 15) 0) (8 : Int) _ (hh7523.get (by decide) (x7524 - 15)) x10543 hr10545) ?_
              rintro a10717 w10718 v10719 ⟨rfl, hh10546, hC10720⟩ ha10721 hF10722
              have hS10723 : Heap w [] w10718 [.blk b3 26 (vs .u64 xs2), .blk b5 26 (vs .u64 (List.replicate 8 0)), .blk b25 24 (vs .u64 zs7521)] := Heap.call hS10704 hC10720
              rw [ha10721]
              exact hK10706 _ _ ⟨rfl, hh10546⟩ (hC10720.grown)
            · -- operation 9
              rintro a10725 w10724 b10728 KK10734 hs10730 hd10731 hJ10732 hb10733 hr10735 hK10729
              have hr10735x : RD SL10568 b10728 a10725 a10511 w10724 [(67, some 6), (69, some 8)] := hr10735 _ (by kernel_rfl)
              obtain ⟨⟨v10737, q10736, s10738⟩, ⟨v10740, q10739, s10741⟩, -⟩ := hr10735x
              obtain ⟨rfl, hh10542⟩ := s10738
              obtain ⟨rfl, hh10546⟩ := s10741
              obtain rfl : b10728 = false := by cases b10728; rfl; exact absurd ((hb10733 rfl).2 _ rfl) (by decide)
              obtain ⟨hX10742, hS10727⟩ := hJ10732
              have hF10726 : Fr 193 a10725 [(67, .int .u64 ((x10539 : Nat) : Int)), (69, .int .u64 ((x10543 : Nat) : Int))] := Fr.of hs10730 hd10731 ⟨q10736, q10739, trivial⟩
              refine s_pure hT (d := 70) (v := .int .u64 (((x10539 ^^^ x10543) : Nat) : Int)) (cs := [x10539 < 18446744073709551616, x10543 < 18446744073709551616]) (by kernel_rfl) (by kernel_rfl) (And.intro hh10542 (And.intro hh10546 trivial)) hF10726 ?_
              rintro a2 ha2 hF2; rw [ha2]
              exact hK10729 _ _ ⟨rfl, hh10542, hh10546⟩ (grown_refl _ _)
            · -- operation 10
              rintro a10744 w10743 b10747 KK10753 hs10749 hd10750 hJ10751 hb10752 hr10754 hK10748
              have hr10754x : RD SL10568 b10747 a10744 a10511 w10743 [(11, none)] := hr10754 _ (by kernel_rfl)
              obtain ⟨q10755, -⟩ := hr10754x
              obtain rfl : b10747 = false := by cases b10747; rfl; exact absurd ((hb10752 rfl).2 _ rfl) (by decide)
              obtain ⟨hX10756, hS10746⟩ := hJ10751
              have hF10745 : Fr 193 a10744 [(11, .int .u64 (((zs7521.getD (x7524 - 15) 0) : Nat) : Int))] := Fr.of hs10749 hd10750 ⟨(Fr.init hF10530 q10755 (by kernel_rfl)), trivial⟩
              refine s_pure hT (d := 71) (v := .int .u64 (((zs7521.getD (x7524 - 15) 0) : Nat) : Int)) (cs := []) (by kernel_rfl) (by kernel_rfl) trivial hF10745 ?_
              rintro a2 ha2 hF2; rw [ha2]
              exact hK10748 _ _ rfl (grown_refl _ _)
            · -- operation 11
              rintro a10758 w10757 b10761 KK10767 hs10763 hd10764 hJ10765 hb10766 hr10768 hK10762
              have hr10768x : RD SL10568 b10761 a10758 a10511 w10757 [(71, some 10)] := hr10768 _ (by kernel_rfl)
              obtain ⟨⟨v10770, q10769, s10771⟩, -⟩ := hr10768x
              obtain rfl : v10770 = .int .u64 (((zs7521.getD (x7524 - 15) 0) : Nat) : Int) := s10771
              obtain rfl : b10761 = false := by cases b10761; rfl; exact absurd ((hb10766 rfl).2 _ rfl) (by decide)
              obtain ⟨hX10772, hS10760⟩ := hJ10765
              have hF10759 : Fr 193 a10758 [(71, .int .u64 (((zs7521.getD (x7524 - 15) 0) : Nat) : Int))] := Fr.of hs10763 hd10764 ⟨q10769, trivial⟩
              refine s_pure hT (d := 72) (v := .int .u64 ((((zs7521.getD (x7524 - 15) 0) / 2 ^ 7) : Nat) : Int)) (cs := [(zs7521.getD (x7524 - 15) 0) < 18446744073709551616]) (by kernel_rfl) (by kernel_rfl) (And.intro (hh7523.get (by decide) (x7524 - 15)) trivial) hF10759 ?_
              rintro a2 ha2 hF2; rw [ha2]
              exact hK10762 _ _ rfl (grown_refl _ _)
            · -- operation 12
              rintro a10774 w10773 b10777 KK10783 hs10779 hd10780 hJ10781 hb10782 hr10784 hK10778
              have hr10784x : RD SL10568 b10777 a10774 a10511 w10773 [(70, some 9), (72, some 11)] := hr10784 _ (by kernel_rfl)
              obtain ⟨⟨v10786, q10785, s10787⟩, ⟨v10789, q10788, s10790⟩, -⟩ := hr10784x
              obtain ⟨rfl, hh10542, hh10546⟩ := s10787
              obtain rfl : v10789 = .int .u64 ((((zs7521.getD (x7524 - 15) 0) / 2 ^ 7) : Nat) : Int) := s10790
              obtain rfl : b10777 = false := by cases b10777; rfl; exact absurd ((hb10782 rfl).2 _ rfl) (by decide)
              obtain ⟨hX10791, hS10776⟩ := hJ10781
              have hF10775 : Fr 193 a10774 [(70, .int .u64 (((x10539 ^^^ x10543) : Nat) : Int)), (72, .int .u64 ((((zs7521.getD (x7524 - 15) 0) / 2 ^ 7) : Nat) : Int))] := Fr.of hs10779 hd10780 ⟨q10785, q10788, trivial⟩
              refine s_pure hT (d := 73) (v := .int .u64 ((((x10539 ^^^ x10543) ^^^ ((zs7521.getD (x7524 - 15) 0) / 2 ^ 7)) : Nat) : Int)) (cs := [(x10539 ^^^ x10543) < 18446744073709551616, ((zs7521.getD (x7524 - 15) 0) / 2 ^ 7) < 18446744073709551616]) (by kernel_rfl) (by kernel_rfl) (And.intro (lt_xor (n := 64) hh10542 hh10546) (And.intro (lt_div (hh7523.get (by decide) (x7524 - 15)) _) trivial)) hF10775 ?_
              rintro a2 ha2 hF2; rw [ha2]
              exact hK10778 _ _ ⟨rfl, hh10542, hh10546⟩ (grown_refl _ _)
            · -- operation 13
              rintro a10793 w10792 b10796 KK10802 hs10798 hd10799 hJ10800 hb10801 hr10803 hK10797
              have hr10803x : RD SL10568 b10796 a10793 a10511 w10792 [(65, some 4), (73, some 12)] := hr10803 _ (by kernel_rfl)
              obtain ⟨⟨v10805, q10804, s10806⟩, ⟨v10808, q10807, s10809⟩, -⟩ := hr10803x
              obtain rfl : v10805 = .int .u64 (((zs7521.getD (x7524 - 16) 0) : Nat) : Int) := s10806
              obtain ⟨rfl, hh10542, hh10546⟩ := s10809
              obtain rfl : b10796 = false := by cases b10796; rfl; exact absurd ((hb10801 rfl).2 _ rfl) (by decide)
              obtain ⟨hX10810, hS10795⟩ := hJ10800
              have hF10794 : Fr 193 a10793 [(65, .int .u64 (((zs7521.getD (x7524 - 16) 0) : Nat) : Int)), (73, .int .u64 ((((x10539 ^^^ x10543) ^^^ ((zs7521.getD (x7524 - 15) 0) / 2 ^ 7)) : Nat) : Int))] := Fr.of hs10798 hd10799 ⟨q10804, q10807, trivial⟩
              refine s_pure hT (d := 74) (v := .int .u64 (((((zs7521.getD (x7524 - 16) 0) + ((x10539 ^^^ x10543) ^^^ ((zs7521.getD (x7524 - 15) 0) / 2 ^ 7))) % 18446744073709551616) : Nat) : Int)) (cs := []) (by kernel_rfl) (by kernel_rfl) trivial hF10794 ?_
              rintro a2 ha2 hF2; rw [ha2]
              exact hK10797 _ _ rfl (grown_refl _ _)
            · -- operation 14
              rintro a10812 w10811 b10815 KK10821 hs10817 hd10818 hJ10819 hb10820 hr10822 hK10816
              have hr10822x : RD SL10568 b10815 a10812 a10511 w10811 [(8, none)] := hr10822 _ (by kernel_rfl)
              obtain ⟨q10823, -⟩ := hr10822x
              obtain rfl : b10815 = false := by cases b10815; rfl; exact absurd ((hb10820 rfl).2 _ rfl) (by decide)
              obtain ⟨hX10824, hS10814⟩ := hJ10819
              have hF10813 : Fr 193 a10812 [(8, .int .i64 ((x7524 : Nat) : Int))] := Fr.of hs10817 hd10818 ⟨(Fr.init hF10530 q10823 (by kernel_rfl)), trivial⟩
              refine s_pure hT (d := 75) (v := .int .i64 ((x7524 : Nat) : Int)) (cs := []) (by kernel_rfl) (by kernel_rfl) trivial hF10813 ?_
              rintro a2 ha2 hF2; rw [ha2]
              exact hK10816 _ _ rfl (grown_refl _ _)
            · -- operation 15
              rintro a10826 w10825 b10829 KK10835 hs10831 hd10832 hJ10833 hb10834 hr10836 hK10830
              have hr10836x : RD SL10568 b10829 a10826 a10511 w10825 [(75, some 14)] := hr10836 _ (by kernel_rfl)
              obtain ⟨⟨v10838, q10837, s10839⟩, -⟩ := hr10836x
              obtain rfl : v10838 = .int .i64 ((x7524 : Nat) : Int) := s10839
              obtain rfl : b10829 = false := by cases b10829; rfl; exact absurd ((hb10834 rfl).2 _ rfl) (by decide)
              obtain ⟨hX10840, hS10828⟩ := hJ10833
              have hF10827 : Fr 193 a10826 [(75, .int .i64 ((x7524 : Nat) : Int))] := Fr.of hs10831 hd10832 ⟨q10837, trivial⟩
              refine s_pure hT (d := 76) (v := .int .i64 (((x7524 : Nat) : Int) - 7)) (cs := [-9223372036854775808 ≤ (((x7524 : Nat) : Int) - 7), (((x7524 : Nat) : Int) - 7) ≤ 9223372036854775807]) (by kernel_rfl) (by kernel_rfl) (And.intro g10548 (And.intro g10550 trivial)) hF10827 ?_
              rintro a2 ha2 hF2; rw [ha2]
              exact hK10830 _ _ rfl (grown_refl _ _)
            · -- operation 16
              rintro a10842 w10841 b10845 KK10851 hs10847 hd10848 hJ10849 hb10850 hr10852 hK10846
              have hr10852x : RD SL10568 b10845 a10842 a10511 w10841 [(7, none), (76, some 15)] := hr10852 _ (by kernel_rfl)
              obtain ⟨q10853, ⟨v10855, q10854, s10856⟩, -⟩ := hr10852x
              obtain rfl : v10855 = .int .i64 (((x7524 : Nat) : Int) - 7) := s10856
              obtain rfl : b10845 = false := by cases b10845; rfl; exact absurd ((hb10850 rfl).2 _ rfl) (by decide)
              obtain ⟨hX10857, hS10844⟩ := hJ10849
              have hF10843 : Fr 193 a10842 [(7, .pointer (some ⟨b25, 0, none⟩)), (76, .int .i64 (((x7524 : Nat) : Int) - 7))] := Fr.of hs10847 hd10848 ⟨(Fr.init hF10530 q10853 (by kernel_rfl)), q10854, trivial⟩
              refine s_pure hT (d := 77) (v := .pointer (some ⟨b25, (0 + (((x7524 : Nat) : Int) - 7).toNat), none⟩)) (cs := [0 ≤ (((x7524 : Nat) : Int) - 7), (((x7524 : Nat) : Int) - 7) < 80]) (by kernel_rfl) (by kernel_rfl) (And.intro g10552 (And.intro g10554 trivial)) hF10843 ?_
              rintro a2 ha2 hF2; rw [ha2]
              exact hK10846 _ _ rfl (grown_refl _ _)
            · -- operation 17
              rintro a10859 w10858 b10862 KK10868 hs10864 hd10865 hJ10866 hb10867 hr10869 hK10863
              have hr10869x : RD SL10568 b10862 a10859 a10511 w10858 [(77, some 16)] := hr10869 _ (by kernel_rfl)
              obtain ⟨⟨v10871, q10870, s10872⟩, -⟩ := hr10869x
              obtain rfl : v10871 = .pointer (some ⟨b25, (0 + (((x7524 : Nat) : Int) - 7).toNat), none⟩) := s10872
              obtain rfl : b10862 = false := by cases b10862; rfl; exact absurd ((hb10867 rfl).2 _ rfl) (by decide)
              obtain ⟨hX10873, hS10861⟩ := hJ10866
              have hF10860 : Fr 193 a10859 [(77, .pointer (some ⟨b25, (0 + (((x7524 : Nat) : Int) - 7).toNat), none⟩))] := Fr.of hs10864 hd10865 ⟨q10870, trivial⟩
              refine s_load hT (d := 78) (A := ⟨b25, (0 + (((x7524 : Nat) : Int) - 7).toNat), none⟩) (v := .int .u64 (((zs7521.getD (x7524 - 7) 0) : Nat) : Int)) (by kernel_rfl) hF10860 (Cells.at (hS10861.blk 2 rfl).cells (vs_get .u64 zs7521 (i := (x7524 - 7)) (by have := hh7522; omega)) (by first | rfl | omega)) ?_
              rintro a10874 ha10876 hF10875
              rw [ha10876]
              exact hK10863 _ _ rfl (grown_refl _ _)
            · -- operation 18
              rintro a10878 w10877 b10881 KK10887 hs10883 hd10884 hJ10885 hb10886 hr10888 hK10882
              have hr10888x : RD SL10568 b10881 a10878 a10511 w10877 [(74, some 13), (78, some 17)] := hr10888 _ (by kernel_rfl)
              obtain ⟨⟨v10890, q10889, s10891⟩, ⟨v10893, q10892, s10894⟩, -⟩ := hr10888x
              obtain rfl : v10890 = .int .u64 (((((zs7521.getD (x7524 - 16) 0) + ((x10539 ^^^ x10543) ^^^ ((zs7521.getD (x7524 - 15) 0) / 2 ^ 7))) % 18446744073709551616) : Nat) : Int) := s10891
              obtain rfl : v10893 = .int .u64 (((zs7521.getD (x7524 - 7) 0) : Nat) : Int) := s10894
              obtain rfl : b10881 = false := by cases b10881; rfl; exact absurd ((hb10886 rfl).2 _ rfl) (by decide)
              obtain ⟨hX10895, hS10880⟩ := hJ10885
              have hF10879 : Fr 193 a10878 [(74, .int .u64 (((((zs7521.getD (x7524 - 16) 0) + ((x10539 ^^^ x10543) ^^^ ((zs7521.getD (x7524 - 15) 0) / 2 ^ 7))) % 18446744073709551616) : Nat) : Int)), (78, .int .u64 (((zs7521.getD (x7524 - 7) 0) : Nat) : Int))] := Fr.of hs10883 hd10884 ⟨q10889, q10892, trivial⟩
              refine s_pure hT (d := 79) (v := .int .u64 (((((((zs7521.getD (x7524 - 16) 0) + ((x10539 ^^^ x10543) ^^^ ((zs7521.getD (x7524 - 15) 0) / 2 ^ 7))) % 18446744073709551616) + (zs7521.getD (x7524 - 7) 0)) % 18446744073709551616) : Nat) : Int)) (cs := []) (by kernel_rfl) (by kernel_rfl) trivial hF10879 ?_
              rintro a2 ha2 hF2; rw [ha2]
              have hb10558 : t10555 < 18446744073709551616 := by rw [ht10556]; exact (Nat.mod_lt _ (by decide))
              exact hK10882 _ _ ⟨(show (.int .u64 (((((((zs7521.getD (x7524 - 16) 0) + ((x10539 ^^^ x10543) ^^^ ((zs7521.getD (x7524 - 15) 0) / 2 ^ 7))) % 18446744073709551616) + (zs7521.getD (x7524 - 7) 0)) % 18446744073709551616) : Nat) : Int) : Value) = .int .u64 ((t10555 : Nat) : Int) by (rw [ht10556] <;> rfl)), hb10558⟩ (grown_refl _ _)
            · -- operation 19
              rintro a10897 w10896 b10900 KK10906 hs10902 hd10903 hJ10904 hb10905 hr10907 hK10901
              have hr10907x : RD SL10568 b10900 a10897 a10511 w10896 [(12, none)] := hr10907 _ (by kernel_rfl)
              obtain ⟨q10908, -⟩ := hr10907x
              obtain rfl : b10900 = false := by cases b10900; rfl; exact absurd ((hb10905 rfl).2 _ rfl) (by decide)
              obtain ⟨hX10909, hS10899⟩ := hJ10904
              have hF10898 : Fr 193 a10897 [(12, .int .u64 (((zs7521.getD (x7524 - 2) 0) : Nat) : Int))] := Fr.of hs10902 hd10903 ⟨(Fr.init hF10530 q10908 (by kernel_rfl)), trivial⟩
              refine s_pure hT (d := 80) (v := .int .u64 (((zs7521.getD (x7524 - 2) 0) : Nat) : Int)) (cs := []) (by kernel_rfl) (by kernel_rfl) trivial hF10898 ?_
              rintro a2 ha2 hF2; rw [ha2]
              exact hK10901 _ _ rfl (grown_refl _ _)
            · -- operation 20
              rintro a10911 w10910 b10914 KK10920 hs10916 hd10917 hJ10918 hb10919 hr10921 hK10915
              have hr10921x : RD SL10568 b10914 a10911 a10511 w10910 [(80, some 19)] := hr10921 _ (by kernel_rfl)
              obtain ⟨⟨v10923, q10922, s10924⟩, -⟩ := hr10921x
              obtain rfl : v10923 = .int .u64 (((zs7521.getD (x7524 - 2) 0) : Nat) : Int) := s10924
              obtain rfl : b10914 = false := by cases b10914; rfl; exact absurd ((hb10919 rfl).2 _ rfl) (by decide)
              obtain ⟨hX10925, hS10913⟩ := hJ10918
              have hF10912 : Fr 193 a10911 [(80, .int .u64 (((zs7521.getD (x7524 - 2) 0) : Nat) : Int))] := Fr.of hs10916 hd10917 ⟨q10922, trivial⟩
              refine s_call (d := 81) (f := 67) (l := [.int .u64 (((zs7521.getD (x7524 - 2) 0) : Nat) : Int), .int .i64 19]) (by kernel_rfl) hF10912 cl67 (W_sha512_rotr (zs7521.getD (x7524 - 2) 0) (19 : Int) _ (hh7523.get (by decide) (x7524 - 2)) x10559 hr10561) ?_
              rintro a10926 w10927 v10928 ⟨rfl, hh10562, hC10929⟩ ha10930 hF10931
              have hS10932 : Heap w [] w10927 [.blk b3 26 (vs .u64 xs2), .blk b5 26 (vs .u64 (List.replicate 8 0)), .blk b25 24 (vs .u64 zs7521)] := Heap.call hS10913 hC10929
              rw [ha10930]
              exact hK10915 _ _ ⟨rfl, hh10562⟩ (hC10929.grown)
            · -- operation 21
              rintro a10934 w10933 b10937 KK10943 hs10939 hd10940 hJ10941 hb10942 hr10944 hK10938
              have hr10944x : RD SL10568 b10937 a10934 a10511 w10933 [(12, none)] := hr10944 _ (by kernel_rfl)
              obtain ⟨q10945, -⟩ := hr10944x
              obtain rfl : b10937 = false := by cases b10937; rfl; exact absurd ((hb10942 rfl).2 _ rfl) (by decide)
              obtain ⟨hX10946, hS10936⟩ := hJ10941
              have hF10935 : Fr 193 a10934 [(12, .int .u64 (((zs7521.getD (x7524 - 2) 0) : Nat) : Int))] := Fr.of hs10939 hd10940 ⟨(Fr.init hF10530 q10945 (by kernel_rfl)), trivial⟩
              refine s_pure hT (d := 82) (v := .int .u64 (((zs7521.getD (x7524 - 2) 0) : Nat) : Int)) (cs := []) (by kernel_rfl) (by kernel_rfl) trivial hF10935 ?_
              rintro a2 ha2 hF2; rw [ha2]
              exact hK10938 _ _ rfl (grown_refl _ _)
            · -- operation 22
              rintro a10948 w10947 b10951 KK10957 hs10953 hd10954 hJ10955 hb10956 hr10958 hK10952
              have hr10958x : RD SL10568 b10951 a10948 a10511 w10947 [(82, some 21)] := hr10958 _ (by kernel_rfl)
              obtain ⟨⟨v10960, q10959, s10961⟩, -⟩ := hr10958x
              obtain rfl : v10960 = .int .u64 (((zs7521.getD (x7524 - 2) 0) : Nat) : Int) := s10961
              obtain rfl : b10951 = false := by cases b10951; rfl; exact absurd ((hb10956 rfl).2 _ rfl) (by decide)
              obtain ⟨hX10962, hS10950⟩ := hJ10955
              have hF10949 : Fr 193 a10948 [(82, .int .u64 (((zs7521.getD (x7524 - 2) 0) : Nat) : Int))] := Fr.of hs10953 hd10954 ⟨q10959, trivial⟩
              refine s_call (d := 83) (f := 67) (l := [.int .u64 (((zs7521.getD (x7524 - 2) 0) : Nat) : Int), .int .i64 61]) (by kernel_rfl) hF10949 cl67 (W_sha512_rotr (zs7521.getD (x7524 - 2) 0) (61 : Int) _ (hh7523.get (by decide) (x7524 - 2)) x10563 hr10565) ?_
              rintro a10963 w10964 v10965 ⟨rfl, hh10566, hC10966⟩ ha10967 hF10968
              have hS10969 : Heap w [] w10964 [.blk b3 26 (vs .u64 xs2), .blk b5 26 (vs .u64 (List.replicate 8 0)), .blk b25 24 (vs .u64 zs7521)] := Heap.call hS10950 hC10966
              rw [ha10967]
              exact hK10952 _ _ ⟨rfl, hh10566⟩ (hC10966.grown)
            · -- operation 23
              rintro a10971 w10970 b10974 KK10980 hs10976 hd10977 hJ10978 hb10979 hr10981 hK10975
              have hr10981x : RD SL10568 b10974 a10971 a10511 w10970 [(81, some 20), (83, some 22)] := hr10981 _ (by kernel_rfl)
              obtain ⟨⟨v10983, q10982, s10984⟩, ⟨v10986, q10985, s10987⟩, -⟩ := hr10981x
              obtain ⟨rfl, hh10562⟩ := s10984
              obtain ⟨rfl, hh10566⟩ := s10987
              obtain rfl : b10974 = false := by cases b10974; rfl; exact absurd ((hb10979 rfl).2 _ rfl) (by decide)
              obtain ⟨hX10988, hS10973⟩ := hJ10978
              have hF10972 : Fr 193 a10971 [(81, .int .u64 ((x10559 : Nat) : Int)), (83, .int .u64 ((x10563 : Nat) : Int))] := Fr.of hs10976 hd10977 ⟨q10982, q10985, trivial⟩
              refine s_pure hT (d := 84) (v := .int .u64 (((x10559 ^^^ x10563) : Nat) : Int)) (cs := [x10559 < 18446744073709551616, x10563 < 18446744073709551616]) (by kernel_rfl) (by kernel_rfl) (And.intro hh10562 (And.intro hh10566 trivial)) hF10972 ?_
              rintro a2 ha2 hF2; rw [ha2]
              exact hK10975 _ _ ⟨rfl, hh10562, hh10566⟩ (grown_refl _ _)
            · -- operation 24
              rintro a10990 w10989 b10993 KK10999 hs10995 hd10996 hJ10997 hb10998 hr11000 hK10994
              have hr11000x : RD SL10568 b10993 a10990 a10511 w10989 [(12, none)] := hr11000 _ (by kernel_rfl)
              obtain ⟨q11001, -⟩ := hr11000x
              obtain rfl : b10993 = false := by cases b10993; rfl; exact absurd ((hb10998 rfl).2 _ rfl) (by decide)
              obtain ⟨hX11002, hS10992⟩ := hJ10997
              have hF10991 : Fr 193 a10990 [(12, .int .u64 (((zs7521.getD (x7524 - 2) 0) : Nat) : Int))] := Fr.of hs10995 hd10996 ⟨(Fr.init hF10530 q11001 (by kernel_rfl)), trivial⟩
              refine s_pure hT (d := 85) (v := .int .u64 (((zs7521.getD (x7524 - 2) 0) : Nat) : Int)) (cs := []) (by kernel_rfl) (by kernel_rfl) trivial hF10991 ?_
              rintro a2 ha2 hF2; rw [ha2]
              exact hK10994 _ _ rfl (grown_refl _ _)
            · -- operation 25
              rintro a11004 w11003 b11007 KK11013 hs11009 hd11010 hJ11011 hb11012 hr11014 hK11008
              have hr11014x : RD SL10568 b11007 a11004 a10511 w11003 [(85, some 24)] := hr11014 _ (by kernel_rfl)
              obtain ⟨⟨v11016, q11015, s11017⟩, -⟩ := hr11014x
              obtain rfl : v11016 = .int .u64 (((zs7521.getD (x7524 - 2) 0) : Nat) : Int) := s11017
              obtain rfl : b11007 = false := by cases b11007; rfl; exact absurd ((hb11012 rfl).2 _ rfl) (by decide)
              obtain ⟨hX11018, hS11006⟩ := hJ11011
              have hF11005 : Fr 193 a11004 [(85, .int .u64 (((zs7521.getD (x7524 - 2) 0) : Nat) : Int))] := Fr.of hs11009 hd11010 ⟨q11015, trivial⟩
              refine s_pure hT (d := 86) (v := .int .u64 ((((zs7521.getD (x7524 - 2) 0) / 2 ^ 6) : Nat) : Int)) (cs := [(zs7521.getD (x7524 - 2) 0) < 18446744073709551616]) (by kernel_rfl) (by kernel_rfl) (And.intro (hh7523.get (by decide) (x7524 - 2)) trivial) hF11005 ?_
              rintro a2 ha2 hF2; rw [ha2]
              exact hK11008 _ _ rfl (grown_refl _ _)
            · -- operation 26
              rintro a11020 w11019 b11023 KK11029 hs11025 hd11026 hJ11027 hb11028 hr11030 hK11024
              have hr11030x : RD SL10568 b11023 a11020 a10511 w11019 [(84, some 23), (86, some 25)] := hr11030 _ (by kernel_rfl)
              obtain ⟨⟨v11032, q11031, s11033⟩, ⟨v11035, q11034, s11036⟩, -⟩ := hr11030x
              obtain ⟨rfl, hh10562, hh10566⟩ := s11033
              obtain rfl : v11035 = .int .u64 ((((zs7521.getD (x7524 - 2) 0) / 2 ^ 6) : Nat) : Int) := s11036
              obtain rfl : b11023 = false := by cases b11023; rfl; exact absurd ((hb11028 rfl).2 _ rfl) (by decide)
              obtain ⟨hX11037, hS11022⟩ := hJ11027
              have hF11021 : Fr 193 a11020 [(84, .int .u64 (((x10559 ^^^ x10563) : Nat) : Int)), (86, .int .u64 ((((zs7521.getD (x7524 - 2) 0) / 2 ^ 6) : Nat) : Int))] := Fr.of hs11025 hd11026 ⟨q11031, q11034, trivial⟩
              refine s_pure hT (d := 87) (v := .int .u64 ((((x10559 ^^^ x10563) ^^^ ((zs7521.getD (x7524 - 2) 0) / 2 ^ 6)) : Nat) : Int)) (cs := [(x10559 ^^^ x10563) < 18446744073709551616, ((zs7521.getD (x7524 - 2) 0) / 2 ^ 6) < 18446744073709551616]) (by kernel_rfl) (by kernel_rfl) (And.intro (lt_xor (n := 64) hh10562 hh10566) (And.intro (lt_div (hh7523.get (by decide) (x7524 - 2)) _) trivial)) hF11021 ?_
              rintro a2 ha2 hF2; rw [ha2]
              exact hK11024 _ _ ⟨rfl, hh10562, hh10566⟩ (grown_refl _ _)
            · -- operation 27
              rintro a11039 w11038 b11042 KK11048 hs11044 hd11045 hJ11046 hb11047 hr11049 hK11043
              have hr11049x : RD SL10568 b11042 a11039 a10511 w11038 [(79, some 18), (87, some 26)] := hr11049 _ (by kernel_rfl)
              obtain ⟨⟨v11051, q11050, s11052⟩, ⟨v11054, q11053, s11055⟩, -⟩ := hr11049x
              obtain ⟨rfl, hb10558⟩ := s11052
              obtain ⟨rfl, hh10562, hh10566⟩ := s11055
              obtain rfl : b11042 = false := by cases b11042; rfl; exact absurd ((hb11047 rfl).2 _ rfl) (by decide)
              obtain ⟨hX11056, hS11041⟩ := hJ11046
              have hF11040 : Fr 193 a11039 [(79, .int .u64 ((t10555 : Nat) : Int)), (87, .int .u64 ((((x10559 ^^^ x10563) ^^^ ((zs7521.getD (x7524 - 2) 0) / 2 ^ 6)) : Nat) : Int))] := Fr.of hs11044 hd11045 ⟨q11050, q11053, trivial⟩
              refine s_pure hT (d := 88) (v := .int .u64 ((((t10555 + ((x10559 ^^^ x10563) ^^^ ((zs7521.getD (x7524 - 2) 0) / 2 ^ 6))) % 18446744073709551616) : Nat) : Int)) (cs := []) (by kernel_rfl) (by kernel_rfl) trivial hF11040 ?_
              rintro a2 ha2 hF2; rw [ha2]
              exact hK11043 _ _ rfl (grown_refl _ _)
            · -- operation 28
              rintro a11058 w11057 b11061 KK11067 hs11063 hd11064 hJ11065 hb11066 hr11068 hK11062
              have hr11068x : RD SL10568 b11061 a11058 a10511 w11057 [(7, none), (61, some 0)] := hr11068 _ (by kernel_rfl)
              obtain ⟨q11069, ⟨v11071, q11070, s11072⟩, -⟩ := hr11068x
              obtain rfl : v11071 = .int .i64 ((x7524 : Nat) : Int) := s11072
              obtain rfl : b11061 = false := by cases b11061; rfl; exact absurd ((hb11066 rfl).2 _ rfl) (by decide)
              obtain ⟨hX11073, hS11060⟩ := hJ11065
              have hF11059 : Fr 193 a11058 [(7, .pointer (some ⟨b25, 0, none⟩)), (61, .int .i64 ((x7524 : Nat) : Int))] := Fr.of hs11063 hd11064 ⟨(Fr.init hF10530 q11069 (by kernel_rfl)), q11070, trivial⟩
              refine s_pure hT (d := 89) (v := .pointer (some ⟨b25, (0 + x7524), none⟩)) (cs := [0 ≤ ((x7524 : Nat) : Int), ((x7524 : Nat) : Int) < 80]) (by kernel_rfl) (by kernel_rfl) (And.intro (by omega) (And.intro hc8946 trivial)) hF11059 ?_
              rintro a2 ha2 hF2; rw [ha2]
              exact hK11062 _ _ rfl (grown_refl _ _)
            · -- operation 29
              rintro a11075 w11074 b11078 KK11084 hs11080 hd11081 hJ11082 hb11083 hr11085 hK11079
              have hr11085x : RD SL10568 b11078 a11075 a10511 w11074 [(89, some 28), (88, some 27)] := hr11085 _ (by kernel_rfl)
              obtain ⟨⟨v11087, q11086, s11088⟩, ⟨v11090, q11089, s11091⟩, -⟩ := hr11085x
              obtain rfl : v11087 = .pointer (some ⟨b25, (0 + x7524), none⟩) := s11088
              obtain rfl : v11090 = .int .u64 ((((t10555 + ((x10559 ^^^ x10563) ^^^ ((zs7521.getD (x7524 - 2) 0) / 2 ^ 6))) % 18446744073709551616) : Nat) : Int) := s11091
              obtain rfl : b11078 = false := by cases b11078; rfl; exact absurd rfl (hb11083 rfl).1
              obtain ⟨hX11092, hS11077⟩ := hJ11082
              have hF11076 : Fr 193 a11075 [(89, .pointer (some ⟨b25, (0 + x7524), none⟩)), (88, .int .u64 ((((t10555 + ((x10559 ^^^ x10563) ^^^ ((zs7521.getD (x7524 - 2) 0) / 2 ^ 6))) % 18446744073709551616) : Nat) : Int))] := Fr.of hs11080 hd11081 ⟨q11086, q11089, trivial⟩
              refine h_store hT (b := b25) (off := x7524) (p := ⟨b25, (0 + x7524), none⟩) (v := .int .u64 ((((t10555 + ((x10559 ^^^ x10563) ^^^ ((zs7521.getD (x7524 - 2) 0) / 2 ^ 6))) % 18446744073709551616) : Nat) : Int)) (l' := vs .u64 (zs7521.set x7524 ((t10555 + ((x10559 ^^^ x10563) ^^^ ((zs7521.getD (x7524 - 2) 0) / 2 ^ 6))) % 18446744073709551616))) (by kernel_rfl) hF11076 hS11077 2 rfl (by first | rfl | (congr 1; omega)) (by have := hh7522; simp only [zA, zS, zT, zD, zR, zC, zN, zV, zI] <;> omega) (by first | exact vs_set _ _ _ _ | exact vi_set _ _ _ | rfl) ?_
              rintro a11093 w11094 ha11097 hF11098 hS11095 g11096
              have hS11099 : Heap w [] w11094 [.blk b3 26 (vs .u64 xs2), .blk b5 26 (vs .u64 (List.replicate 8 0)), .blk b25 24 (vs .u64 (zs7521.set x7524 ((t10555 + ((x10559 ^^^ x10563) ^^^ ((zs7521.getD (x7524 - 2) 0) / 2 ^ 6))) % 18446744073709551616)))] := hS11095; clear hS11095
              rw [ha11097]; exact hK11079 undef _ trivial ⟨⟨.inl rfl, .inl rfl, .inl rfl, .inl rfl, .inl rfl, .inl rfl, .inr (fun d v hd hv q => q), .inl rfl, .inr (fun d v hd hv q => q), .inr (fun d v hd hv q => q), .inl rfl, .inl rfl, .inr (fun d v hd hv q => q), .inl rfl, .inl rfl, .inl rfl, .inl rfl, .inl rfl, .inr (fun d v hd hv q => q), .inl rfl, .inr (fun d v hd hv q => q), .inl rfl, .inr (fun d v hd hv q => q), .inr (fun d v hd hv q => q), .inl rfl, .inl rfl, .inr (fun d v hd hv q => q), .inl rfl, .inl rfl, .inl rfl, trivial⟩, Nat.le_trans hX11092 g11096.size, hS11099⟩
            · -- behind the region
              rintro a11100 w11101 hs11102 hd11103 ⟨q11106, q11107, q11108, q11109, q11110, q11111, q11112, -⟩ ⟨hX11105, hS11104⟩
              have hF11113 : Fr 193 a11100 [(0, .pointer (some ⟨pb1, 0, none⟩)), (2, .slice pA3 xs3.length pc3), (4, .pointer (some ⟨b3, 0, none⟩)), (6, .pointer (some ⟨b5, 0, none⟩)), (7, .pointer (some ⟨b25, 0, none⟩)), (8, .int .i64 ((x7524 : Nat) : Int)), (26, .int .i64 ((x7524 : Nat) : Int))] := Fr.of hs11102 hd11103 ⟨(Fr.init hF10530 q11106 (by kernel_rfl)), (Fr.init hF10530 q11107 (by kernel_rfl)), (Fr.init hF10530 q11108 (by kernel_rfl)), (Fr.init hF10530 q11109 (by kernel_rfl)), (Fr.init hF10530 q11110 (by kernel_rfl)), (Fr.init hF10530 q11111 (by kernel_rfl)), (Fr.init hF10530 q11112 (by kernel_rfl)), trivial⟩
              clear hF10530 hS10515 hs11102 hd11103 q11106 q11107 q11108 q11109 q11110 q11111 q11112
              obtain rfl := Option.some.inj h10564
              exact ⟨(zs7521.set x7524 ((t10555 + ((x10559 ^^^ x10563) ^^^ ((zs7521.getD (x7524 - 2) 0) / 2 ^ 6))) % 18446744073709551616)), rfl, hF11113.pick [0, 2, 4, 6, 7, 8, 26] (by kernel_rfl), hS11104.pick [0, 1, 2] (by decide) rfl, (len_set hh7522 x7524 ((t10555 + ((x10559 ^^^ x10563) ^^^ ((zs7521.getD (x7524 - 2) 0) / 2 ^ 6))) % 18446744073709551616)), (hh7523.set (Nat.mod_lt _ (by decide)) x7524)⟩
      · skip
        clear hx9645 hF8948 hS8935 
        rintro a11114 w11115 ⟨zs9641, rfl, hF11116, hS11117, hh9642, hh9643⟩
        obtain ⟨g11120, h11119⟩ : ((((x7524 + 1) : Nat) : Int) ≤ 9223372036854775807) ∧ _ := gd_some h9646; clear h9646
        refine wp_region_lit ?_
        refine pu_end hT 2 _ hF11116 [0, 2, 4, 6, 7, 8, 26] (G := [(0, .pointer (some ⟨pb1, 0, none⟩)), (2, .slice pA3 xs3.length pc3), (4, .pointer (some ⟨b3, 0, none⟩)), (6, .pointer (some ⟨b5, 0, none⟩)), (7, .pointer (some ⟨b25, 0, none⟩)), (8, .int .i64 ((x7524 : Nat) : Int)), (26, .int .i64 (((x7524 + 1) : Nat) : Int))]) (cs := [-9223372036854775808 ≤ (((x7524 + 1) : Nat) : Int), (((x7524 + 1) : Nat) : Int) ≤ 9223372036854775807]) (by kernel_rfl) rfl (And.intro (by omega) (And.intro g11120 trivial)) ?_; clear hF11116 a11114; intro a11121 hF11122
        obtain rfl := Option.some.inj h11119
        exact hK8929 _ _ _ hy8928 ⟨zs9641, (x7524 + 1), rfl, hF11122.pick [0, 2, 4, 6, 7, 26] (by kernel_rfl), hS11117.pick [0, 1, 2] (by decide) rfl, hh9642, hh9643⟩
    · clear h8936
      have hF11123 : Fr 193 a8940 [(0, .pointer (some ⟨pb1, 0, none⟩)), (2, .slice pA3 xs3.length pc3), (4, .pointer (some ⟨b3, 0, none⟩)), (6, .pointer (some ⟨b5, 0, none⟩)), (7, .pointer (some ⟨b25, 0, none⟩)), (26, .int .i64 ((x7524 : Nat) : Int)), (27, .bool false)] := hF8941.pick [0, 2, 4, 6, 7, 26, 27] (by rw [decide_eq_false hc8946]; kernel_rfl); clear hF8941
      refine condF hF11123 (by kernel_rfl) ?_
      refine wp_exit ?_
      obtain rfl := Option.some.inj h8947
      obtain rfl : _ = xj5188 := hy8928
      exact ⟨zs7521, rfl, hF11123.pick [0, 4, 6, 7] (by kernel_rfl), hS8935.pick [0, 1, 2] (by decide) rfl, hh7522, hh7523⟩
  · skip
    clear hx5189 hF34 hS33 
    rintro a11124 w11125 ⟨zs5185, rfl, hF11126, hS11127, hh5186, hh5187⟩
    refine wp_seq_k (fun K11129 hK11130 => ?_)
    have hlt11131 := hS11127.ids
    have hsz11133 := hS11127.size
    let SL11132 : List SP := [SP.val (.pointer (some ⟨b3, 0, none⟩)), SP.val (.int .u64 (((xs2.getD 0 0) : Nat) : Int)), SP.val (.pointer (some ⟨b3, 1, none⟩)), SP.val (.int .u64 (((xs2.getD 1 0) : Nat) : Int)), SP.val (.pointer (some ⟨b3, 2, none⟩)), SP.val (.int .u64 (((xs2.getD 2 0) : Nat) : Int)), SP.val (.pointer (some ⟨b3, 3, none⟩)), SP.val (.int .u64 (((xs2.getD 3 0) : Nat) : Int)), SP.val (.pointer (some ⟨b3, 4, none⟩)), SP.val (.int .u64 (((xs2.getD 4 0) : Nat) : Int)), SP.val (.pointer (some ⟨b3, 5, none⟩)), SP.val (.int .u64 (((xs2.getD 5 0) : Nat) : Int)), SP.val (.pointer (some ⟨b3, 6, none⟩)), SP.val (.int .u64 (((xs2.getD 6 0) : Nat) : Int)), SP.val (.pointer (some ⟨b3, 7, none⟩)), SP.val (.int .u64 (((xs2.getD 7 0) : Nat) : Int)), SP.val (.int .u64 (((xs2.getD 0 0) : Nat) : Int)), SP.val (.int .u64 (((xs2.getD 1 0) : Nat) : Int)), SP.val (.int .u64 (((xs2.getD 2 0) : Nat) : Int)), SP.val (.int .u64 (((xs2.getD 3 0) : Nat) : Int)), SP.val (.int .u64 (((xs2.getD 4 0) : Nat) : Int)), SP.val (.int .u64 (((xs2.getD 5 0) : Nat) : Int)), SP.val (.int .u64 (((xs2.getD 6 0) : Nat) : Int)), SP.val (.int .u64 (((xs2.getD 7 0) : Nat) : Int))]
    refine region_rel (SL := SL11132) (J := (fun (B : Bool) (W : World) => w11125.heap.size ≤ W.heap.size ∧ Heap w [] W [.blk b3 26 (vs .u64 xs2), .blk b5 26 (vs .u64 (List.replicate 8 0)), .blk b25 24 (vs .u64 zs5185)])) (m := 24) wide (by kernel_rfl) (by kernel_rfl) hF11126 rfl ?_ ⟨Nat.le_refl _, hS11127⟩ ⟨?_, ?_, ?_, ?_, ?_, ?_, ?_, ?_, ?_, ?_, ?_, ?_, ?_, ?_, ?_, ?_, ?_, ?_, ?_, ?_, ?_, ?_, ?_, ?_, trivial⟩ [(13, some 16), (14, some 17), (15, some 18), (16, some 19), (17, some 20), (18, some 21), (19, some 22), (20, some 23), (0, none), (4, none), (6, none), (7, none)] (by kernel_rfl) ?_
    · intro b W W' hj g; exact ⟨Nat.le_trans hj.1 g.size, hj.2.growN g⟩
    · -- operation 0
      rintro a11135 w11134 b11138 KK11144 hs11140 hd11141 hJ11142 hb11143 hr11145 hK11139
      have hr11145x : RD SL11132 b11138 a11135 a11124 w11134 [(4, none)] := hr11145 _ (by kernel_rfl)
      obtain ⟨q11146, -⟩ := hr11145x
      obtain ⟨hX11147, hS11137⟩ := hJ11142
      have hF11136 : Fr 193 a11135 [(4, .pointer (some ⟨b3, 0, none⟩))] := Fr.of hs11140 hd11141 ⟨(Fr.init hF11126 q11146 (by kernel_rfl)), trivial⟩
      refine s_pure hT (d := 91) (v := .pointer (some ⟨b3, 0, none⟩)) (cs := [0 ≤ (0 : Int), (0 : Int) < 8]) (by kernel_rfl) (by kernel_rfl) (And.intro (by omega) (And.intro (by decide) trivial)) hF11136 ?_
      rintro a2 ha2 hF2; rw [ha2]
      exact hK11139 _ _ rfl (grown_refl _ _)
    · -- operation 1
      rintro a11149 w11148 b11152 KK11158 hs11154 hd11155 hJ11156 hb11157 hr11159 hK11153
      have hr11159x : RD SL11132 b11152 a11149 a11124 w11148 [(91, some 0)] := hr11159 _ (by kernel_rfl)
      obtain ⟨⟨v11161, q11160, s11162⟩, -⟩ := hr11159x
      obtain rfl : v11161 = .pointer (some ⟨b3, 0, none⟩) := s11162
      obtain ⟨hX11163, hS11151⟩ := hJ11156
      have hF11150 : Fr 193 a11149 [(91, .pointer (some ⟨b3, 0, none⟩))] := Fr.of hs11154 hd11155 ⟨q11160, trivial⟩
      refine s_load hT (d := 92) (A := ⟨b3, 0, none⟩) (v := .int .u64 (((xs2.getD 0 0) : Nat) : Int)) (by kernel_rfl) hF11150 (Cells.at (hS11151.blk 0 rfl).cells (vs_get .u64 xs2 (i := 0) (by have := pl2; omega)) (by first | rfl | omega)) ?_
      rintro a11164 ha11166 hF11165
      rw [ha11166]
      exact hK11153 _ _ rfl (grown_refl _ _)
    · -- operation 2
      rintro a11168 w11167 b11171 KK11177 hs11173 hd11174 hJ11175 hb11176 hr11178 hK11172
      have hr11178x : RD SL11132 b11171 a11168 a11124 w11167 [(4, none)] := hr11178 _ (by kernel_rfl)
      obtain ⟨q11179, -⟩ := hr11178x
      obtain ⟨hX11180, hS11170⟩ := hJ11175
      have hF11169 : Fr 193 a11168 [(4, .pointer (some ⟨b3, 0, none⟩))] := Fr.of hs11173 hd11174 ⟨(Fr.init hF11126 q11179 (by kernel_rfl)), trivial⟩
      refine s_pure hT (d := 93) (v := .pointer (some ⟨b3, 1, none⟩)) (cs := [0 ≤ (1 : Int), (1 : Int) < 8]) (by kernel_rfl) (by kernel_rfl) (And.intro (by omega) (And.intro (by decide) trivial)) hF11169 ?_
      rintro a2 ha2 hF2; rw [ha2]
      exact hK11172 _ _ rfl (grown_refl _ _)
    · -- operation 3
      rintro a11182 w11181 b11185 KK11191 hs11187 hd11188 hJ11189 hb11190 hr11192 hK11186
      have hr11192x : RD SL11132 b11185 a11182 a11124 w11181 [(93, some 2)] := hr11192 _ (by kernel_rfl)
      obtain ⟨⟨v11194, q11193, s11195⟩, -⟩ := hr11192x
      obtain rfl : v11194 = .pointer (some ⟨b3, 1, none⟩) := s11195
      obtain ⟨hX11196, hS11184⟩ := hJ11189
      have hF11183 : Fr 193 a11182 [(93, .pointer (some ⟨b3, 1, none⟩))] := Fr.of hs11187 hd11188 ⟨q11193, trivial⟩
      refine s_load hT (d := 94) (A := ⟨b3, 1, none⟩) (v := .int .u64 (((xs2.getD 1 0) : Nat) : Int)) (by kernel_rfl) hF11183 (Cells.at (hS11184.blk 0 rfl).cells (vs_get .u64 xs2 (i := 1) (by have := pl2; omega)) (by first | rfl | omega)) ?_
      rintro a11197 ha11199 hF11198
      rw [ha11199]
      exact hK11186 _ _ rfl (grown_refl _ _)
    · -- operation 4
      rintro a11201 w11200 b11204 KK11210 hs11206 hd11207 hJ11208 hb11209 hr11211 hK11205
      have hr11211x : RD SL11132 b11204 a11201 a11124 w11200 [(4, none)] := hr11211 _ (by kernel_rfl)
      obtain ⟨q11212, -⟩ := hr11211x
      obtain ⟨hX11213, hS11203⟩ := hJ11208
      have hF11202 : Fr 193 a11201 [(4, .pointer (some ⟨b3, 0, none⟩))] := Fr.of hs11206 hd11207 ⟨(Fr.init hF11126 q11212 (by kernel_rfl)), trivial⟩
      refine s_pure hT (d := 95) (v := .pointer (some ⟨b3, 2, none⟩)) (cs := [0 ≤ (2 : Int), (2 : Int) < 8]) (by kernel_rfl) (by kernel_rfl) (And.intro (by omega) (And.intro (by decide) trivial)) hF11202 ?_
      rintro a2 ha2 hF2; rw [ha2]
      exact hK11205 _ _ rfl (grown_refl _ _)
    · -- operation 5
      rintro a11215 w11214 b11218 KK11224 hs11220 hd11221 hJ11222 hb11223 hr11225 hK11219
      have hr11225x : RD SL11132 b11218 a11215 a11124 w11214 [(95, some 4)] := hr11225 _ (by kernel_rfl)
      obtain ⟨⟨v11227, q11226, s11228⟩, -⟩ := hr11225x
      obtain rfl : v11227 = .pointer (some ⟨b3, 2, none⟩) := s11228
      obtain ⟨hX11229, hS11217⟩ := hJ11222
      have hF11216 : Fr 193 a11215 [(95, .pointer (some ⟨b3, 2, none⟩))] := Fr.of hs11220 hd11221 ⟨q11226, trivial⟩
      refine s_load hT (d := 96) (A := ⟨b3, 2, none⟩) (v := .int .u64 (((xs2.getD 2 0) : Nat) : Int)) (by kernel_rfl) hF11216 (Cells.at (hS11217.blk 0 rfl).cells (vs_get .u64 xs2 (i := 2) (by have := pl2; omega)) (by first | rfl | omega)) ?_
      rintro a11230 ha11232 hF11231
      rw [ha11232]
      exact hK11219 _ _ rfl (grown_refl _ _)
    · -- operation 6
      rintro a11234 w11233 b11237 KK11243 hs11239 hd11240 hJ11241 hb11242 hr11244 hK11238
      have hr11244x : RD SL11132 b11237 a11234 a11124 w11233 [(4, none)] := hr11244 _ (by kernel_rfl)
      obtain ⟨q11245, -⟩ := hr11244x
      obtain ⟨hX11246, hS11236⟩ := hJ11241
      have hF11235 : Fr 193 a11234 [(4, .pointer (some ⟨b3, 0, none⟩))] := Fr.of hs11239 hd11240 ⟨(Fr.init hF11126 q11245 (by kernel_rfl)), trivial⟩
      refine s_pure hT (d := 97) (v := .pointer (some ⟨b3, 3, none⟩)) (cs := [0 ≤ (3 : Int), (3 : Int) < 8]) (by kernel_rfl) (by kernel_rfl) (And.intro (by omega) (And.intro (by decide) trivial)) hF11235 ?_
      rintro a2 ha2 hF2; rw [ha2]
      exact hK11238 _ _ rfl (grown_refl _ _)
    · -- operation 7
      rintro a11248 w11247 b11251 KK11257 hs11253 hd11254 hJ11255 hb11256 hr11258 hK11252
      have hr11258x : RD SL11132 b11251 a11248 a11124 w11247 [(97, some 6)] := hr11258 _ (by kernel_rfl)
      obtain ⟨⟨v11260, q11259, s11261⟩, -⟩ := hr11258x
      obtain rfl : v11260 = .pointer (some ⟨b3, 3, none⟩) := s11261
      obtain ⟨hX11262, hS11250⟩ := hJ11255
      have hF11249 : Fr 193 a11248 [(97, .pointer (some ⟨b3, 3, none⟩))] := Fr.of hs11253 hd11254 ⟨q11259, trivial⟩
      refine s_load hT (d := 98) (A := ⟨b3, 3, none⟩) (v := .int .u64 (((xs2.getD 3 0) : Nat) : Int)) (by kernel_rfl) hF11249 (Cells.at (hS11250.blk 0 rfl).cells (vs_get .u64 xs2 (i := 3) (by have := pl2; omega)) (by first | rfl | omega)) ?_
      rintro a11263 ha11265 hF11264
      rw [ha11265]
      exact hK11252 _ _ rfl (grown_refl _ _)
    · -- operation 8
      rintro a11267 w11266 b11270 KK11276 hs11272 hd11273 hJ11274 hb11275 hr11277 hK11271
      have hr11277x : RD SL11132 b11270 a11267 a11124 w11266 [(4, none)] := hr11277 _ (by kernel_rfl)
      obtain ⟨q11278, -⟩ := hr11277x
      obtain ⟨hX11279, hS11269⟩ := hJ11274
      have hF11268 : Fr 193 a11267 [(4, .pointer (some ⟨b3, 0, none⟩))] := Fr.of hs11272 hd11273 ⟨(Fr.init hF11126 q11278 (by kernel_rfl)), trivial⟩
      refine s_pure hT (d := 99) (v := .pointer (some ⟨b3, 4, none⟩)) (cs := [0 ≤ (4 : Int), (4 : Int) < 8]) (by kernel_rfl) (by kernel_rfl) (And.intro (by omega) (And.intro (by decide) trivial)) hF11268 ?_
      rintro a2 ha2 hF2; rw [ha2]
      exact hK11271 _ _ rfl (grown_refl _ _)
    · -- operation 9
      rintro a11281 w11280 b11284 KK11290 hs11286 hd11287 hJ11288 hb11289 hr11291 hK11285
      have hr11291x : RD SL11132 b11284 a11281 a11124 w11280 [(99, some 8)] := hr11291 _ (by kernel_rfl)
      obtain ⟨⟨v11293, q11292, s11294⟩, -⟩ := hr11291x
      obtain rfl : v11293 = .pointer (some ⟨b3, 4, none⟩) := s11294
      obtain ⟨hX11295, hS11283⟩ := hJ11288
      have hF11282 : Fr 193 a11281 [(99, .pointer (some ⟨b3, 4, none⟩))] := Fr.of hs11286 hd11287 ⟨q11292, trivial⟩
      refine s_load hT (d := 100) (A := ⟨b3, 4, none⟩) (v := .int .u64 (((xs2.getD 4 0) : Nat) : Int)) (by kernel_rfl) hF11282 (Cells.at (hS11283.blk 0 rfl).cells (vs_get .u64 xs2 (i := 4) (by have := pl2; omega)) (by first | rfl | omega)) ?_
      rintro a11296 ha11298 hF11297
      rw [ha11298]
      exact hK11285 _ _ rfl (grown_refl _ _)
    · -- operation 10
      rintro a11300 w11299 b11303 KK11309 hs11305 hd11306 hJ11307 hb11308 hr11310 hK11304
      have hr11310x : RD SL11132 b11303 a11300 a11124 w11299 [(4, none)] := hr11310 _ (by kernel_rfl)
      obtain ⟨q11311, -⟩ := hr11310x
      obtain ⟨hX11312, hS11302⟩ := hJ11307
      have hF11301 : Fr 193 a11300 [(4, .pointer (some ⟨b3, 0, none⟩))] := Fr.of hs11305 hd11306 ⟨(Fr.init hF11126 q11311 (by kernel_rfl)), trivial⟩
      refine s_pure hT (d := 101) (v := .pointer (some ⟨b3, 5, none⟩)) (cs := [0 ≤ (5 : Int), (5 : Int) < 8]) (by kernel_rfl) (by kernel_rfl) (And.intro (by omega) (And.intro (by decide) trivial)) hF11301 ?_
      rintro a2 ha2 hF2; rw [ha2]
      exact hK11304 _ _ rfl (grown_refl _ _)
    · -- operation 11
      rintro a11314 w11313 b11317 KK11323 hs11319 hd11320 hJ11321 hb11322 hr11324 hK11318
      have hr11324x : RD SL11132 b11317 a11314 a11124 w11313 [(101, some 10)] := hr11324 _ (by kernel_rfl)
      obtain ⟨⟨v11326, q11325, s11327⟩, -⟩ := hr11324x
      obtain rfl : v11326 = .pointer (some ⟨b3, 5, none⟩) := s11327
      obtain ⟨hX11328, hS11316⟩ := hJ11321
      have hF11315 : Fr 193 a11314 [(101, .pointer (some ⟨b3, 5, none⟩))] := Fr.of hs11319 hd11320 ⟨q11325, trivial⟩
      refine s_load hT (d := 102) (A := ⟨b3, 5, none⟩) (v := .int .u64 (((xs2.getD 5 0) : Nat) : Int)) (by kernel_rfl) hF11315 (Cells.at (hS11316.blk 0 rfl).cells (vs_get .u64 xs2 (i := 5) (by have := pl2; omega)) (by first | rfl | omega)) ?_
      rintro a11329 ha11331 hF11330
      rw [ha11331]
      exact hK11318 _ _ rfl (grown_refl _ _)
    · -- operation 12
      rintro a11333 w11332 b11336 KK11342 hs11338 hd11339 hJ11340 hb11341 hr11343 hK11337
      have hr11343x : RD SL11132 b11336 a11333 a11124 w11332 [(4, none)] := hr11343 _ (by kernel_rfl)
      obtain ⟨q11344, -⟩ := hr11343x
      obtain ⟨hX11345, hS11335⟩ := hJ11340
      have hF11334 : Fr 193 a11333 [(4, .pointer (some ⟨b3, 0, none⟩))] := Fr.of hs11338 hd11339 ⟨(Fr.init hF11126 q11344 (by kernel_rfl)), trivial⟩
      refine s_pure hT (d := 103) (v := .pointer (some ⟨b3, 6, none⟩)) (cs := [0 ≤ (6 : Int), (6 : Int) < 8]) (by kernel_rfl) (by kernel_rfl) (And.intro (by omega) (And.intro (by decide) trivial)) hF11334 ?_
      rintro a2 ha2 hF2; rw [ha2]
      exact hK11337 _ _ rfl (grown_refl _ _)
    · -- operation 13
      rintro a11347 w11346 b11350 KK11356 hs11352 hd11353 hJ11354 hb11355 hr11357 hK11351
      have hr11357x : RD SL11132 b11350 a11347 a11124 w11346 [(103, some 12)] := hr11357 _ (by kernel_rfl)
      obtain ⟨⟨v11359, q11358, s11360⟩, -⟩ := hr11357x
      obtain rfl : v11359 = .pointer (some ⟨b3, 6, none⟩) := s11360
      obtain ⟨hX11361, hS11349⟩ := hJ11354
      have hF11348 : Fr 193 a11347 [(103, .pointer (some ⟨b3, 6, none⟩))] := Fr.of hs11352 hd11353 ⟨q11358, trivial⟩
      refine s_load hT (d := 104) (A := ⟨b3, 6, none⟩) (v := .int .u64 (((xs2.getD 6 0) : Nat) : Int)) (by kernel_rfl) hF11348 (Cells.at (hS11349.blk 0 rfl).cells (vs_get .u64 xs2 (i := 6) (by have := pl2; omega)) (by first | rfl | omega)) ?_
      rintro a11362 ha11364 hF11363
      rw [ha11364]
      exact hK11351 _ _ rfl (grown_refl _ _)
    · -- operation 14
      rintro a11366 w11365 b11369 KK11375 hs11371 hd11372 hJ11373 hb11374 hr11376 hK11370
      have hr11376x : RD SL11132 b11369 a11366 a11124 w11365 [(4, none)] := hr11376 _ (by kernel_rfl)
      obtain ⟨q11377, -⟩ := hr11376x
      obtain ⟨hX11378, hS11368⟩ := hJ11373
      have hF11367 : Fr 193 a11366 [(4, .pointer (some ⟨b3, 0, none⟩))] := Fr.of hs11371 hd11372 ⟨(Fr.init hF11126 q11377 (by kernel_rfl)), trivial⟩
      refine s_pure hT (d := 105) (v := .pointer (some ⟨b3, 7, none⟩)) (cs := [0 ≤ (7 : Int), (7 : Int) < 8]) (by kernel_rfl) (by kernel_rfl) (And.intro (by omega) (And.intro (by decide) trivial)) hF11367 ?_
      rintro a2 ha2 hF2; rw [ha2]
      exact hK11370 _ _ rfl (grown_refl _ _)
    · -- operation 15
      rintro a11380 w11379 b11383 KK11389 hs11385 hd11386 hJ11387 hb11388 hr11390 hK11384
      have hr11390x : RD SL11132 b11383 a11380 a11124 w11379 [(105, some 14)] := hr11390 _ (by kernel_rfl)
      obtain ⟨⟨v11392, q11391, s11393⟩, -⟩ := hr11390x
      obtain rfl : v11392 = .pointer (some ⟨b3, 7, none⟩) := s11393
      obtain ⟨hX11394, hS11382⟩ := hJ11387
      have hF11381 : Fr 193 a11380 [(105, .pointer (some ⟨b3, 7, none⟩))] := Fr.of hs11385 hd11386 ⟨q11391, trivial⟩
      refine s_load hT (d := 106) (A := ⟨b3, 7, none⟩) (v := .int .u64 (((xs2.getD 7 0) : Nat) : Int)) (by kernel_rfl) hF11381 (Cells.at (hS11382.blk 0 rfl).cells (vs_get .u64 xs2 (i := 7) (by have := pl2; omega)) (by first | rfl | omega)) ?_
      rintro a11395 ha11397 hF11396
      rw [ha11397]
      exact hK11384 _ _ rfl (grown_refl _ _)
    · -- operation 16
      rintro a11399 w11398 b11402 KK11408 hs11404 hd11405 hJ11406 hb11407 hr11409 hK11403
      have hr11409x : RD SL11132 b11402 a11399 a11124 w11398 [(92, some 1)] := hr11409 _ (by kernel_rfl)
      obtain ⟨⟨v11411, q11410, s11412⟩, -⟩ := hr11409x
      obtain rfl : v11411 = .int .u64 (((xs2.getD 0 0) : Nat) : Int) := s11412
      obtain ⟨hX11413, hS11401⟩ := hJ11406
      have hF11400 : Fr 193 a11399 [(92, .int .u64 (((xs2.getD 0 0) : Nat) : Int))] := Fr.of hs11404 hd11405 ⟨q11410, trivial⟩
      refine s_pure hT (d := 13) (v := .int .u64 (((xs2.getD 0 0) : Nat) : Int)) (cs := []) (by kernel_rfl) (by kernel_rfl) trivial hF11400 ?_
      rintro a2 ha2 hF2; rw [ha2]
      exact hK11403 _ _ rfl (grown_refl _ _)
    · -- operation 17
      rintro a11415 w11414 b11418 KK11424 hs11420 hd11421 hJ11422 hb11423 hr11425 hK11419
      have hr11425x : RD SL11132 b11418 a11415 a11124 w11414 [(94, some 3)] := hr11425 _ (by kernel_rfl)
      obtain ⟨⟨v11427, q11426, s11428⟩, -⟩ := hr11425x
      obtain rfl : v11427 = .int .u64 (((xs2.getD 1 0) : Nat) : Int) := s11428
      obtain ⟨hX11429, hS11417⟩ := hJ11422
      have hF11416 : Fr 193 a11415 [(94, .int .u64 (((xs2.getD 1 0) : Nat) : Int))] := Fr.of hs11420 hd11421 ⟨q11426, trivial⟩
      refine s_pure hT (d := 14) (v := .int .u64 (((xs2.getD 1 0) : Nat) : Int)) (cs := []) (by kernel_rfl) (by kernel_rfl) trivial hF11416 ?_
      rintro a2 ha2 hF2; rw [ha2]
      exact hK11419 _ _ rfl (grown_refl _ _)
    · -- operation 18
      rintro a11431 w11430 b11434 KK11440 hs11436 hd11437 hJ11438 hb11439 hr11441 hK11435
      have hr11441x : RD SL11132 b11434 a11431 a11124 w11430 [(96, some 5)] := hr11441 _ (by kernel_rfl)
      obtain ⟨⟨v11443, q11442, s11444⟩, -⟩ := hr11441x
      obtain rfl : v11443 = .int .u64 (((xs2.getD 2 0) : Nat) : Int) := s11444
      obtain ⟨hX11445, hS11433⟩ := hJ11438
      have hF11432 : Fr 193 a11431 [(96, .int .u64 (((xs2.getD 2 0) : Nat) : Int))] := Fr.of hs11436 hd11437 ⟨q11442, trivial⟩
      refine s_pure hT (d := 15) (v := .int .u64 (((xs2.getD 2 0) : Nat) : Int)) (cs := []) (by kernel_rfl) (by kernel_rfl) trivial hF11432 ?_
      rintro a2 ha2 hF2; rw [ha2]
      exact hK11435 _ _ rfl (grown_refl _ _)
    · -- operation 19
      rintro a11447 w11446 b11450 KK11456 hs11452 hd11453 hJ11454 hb11455 hr11457 hK11451
      have hr11457x : RD SL11132 b11450 a11447 a11124 w11446 [(98, some 7)] := hr11457 _ (by kernel_rfl)
      obtain ⟨⟨v11459, q11458, s11460⟩, -⟩ := hr11457x
      obtain rfl : v11459 = .int .u64 (((xs2.getD 3 0) : Nat) : Int) := s11460
      obtain ⟨hX11461, hS11449⟩ := hJ11454
      have hF11448 : Fr 193 a11447 [(98, .int .u64 (((xs2.getD 3 0) : Nat) : Int))] := Fr.of hs11452 hd11453 ⟨q11458, trivial⟩
      refine s_pure hT (d := 16) (v := .int .u64 (((xs2.getD 3 0) : Nat) : Int)) (cs := []) (by kernel_rfl) (by kernel_rfl) trivial hF11448 ?_
      rintro a2 ha2 hF2; rw [ha2]
      exact hK11451 _ _ rfl (grown_refl _ _)
    · -- operation 20
      rintro a11463 w11462 b11466 KK11472 hs11468 hd11469 hJ11470 hb11471 hr11473 hK11467
      have hr11473x : RD SL11132 b11466 a11463 a11124 w11462 [(100, some 9)] := hr11473 _ (by kernel_rfl)
      obtain ⟨⟨v11475, q11474, s11476⟩, -⟩ := hr11473x
      obtain rfl : v11475 = .int .u64 (((xs2.getD 4 0) : Nat) : Int) := s11476
      obtain ⟨hX11477, hS11465⟩ := hJ11470
      have hF11464 : Fr 193 a11463 [(100, .int .u64 (((xs2.getD 4 0) : Nat) : Int))] := Fr.of hs11468 hd11469 ⟨q11474, trivial⟩
      refine s_pure hT (d := 17) (v := .int .u64 (((xs2.getD 4 0) : Nat) : Int)) (cs := []) (by kernel_rfl) (by kernel_rfl) trivial hF11464 ?_
      rintro a2 ha2 hF2; rw [ha2]
      exact hK11467 _ _ rfl (grown_refl _ _)
    · -- operation 21
      rintro a11479 w11478 b11482 KK11488 hs11484 hd11485 hJ11486 hb11487 hr11489 hK11483
      have hr11489x : RD SL11132 b11482 a11479 a11124 w11478 [(102, some 11)] := hr11489 _ (by kernel_rfl)
      obtain ⟨⟨v11491, q11490, s11492⟩, -⟩ := hr11489x
      obtain rfl : v11491 = .int .u64 (((xs2.getD 5 0) : Nat) : Int) := s11492
      obtain ⟨hX11493, hS11481⟩ := hJ11486
      have hF11480 : Fr 193 a11479 [(102, .int .u64 (((xs2.getD 5 0) : Nat) : Int))] := Fr.of hs11484 hd11485 ⟨q11490, trivial⟩
      refine s_pure hT (d := 18) (v := .int .u64 (((xs2.getD 5 0) : Nat) : Int)) (cs := []) (by kernel_rfl) (by kernel_rfl) trivial hF11480 ?_
      rintro a2 ha2 hF2; rw [ha2]
      exact hK11483 _ _ rfl (grown_refl _ _)
    · -- operation 22
      rintro a11495 w11494 b11498 KK11504 hs11500 hd11501 hJ11502 hb11503 hr11505 hK11499
      have hr11505x : RD SL11132 b11498 a11495 a11124 w11494 [(104, some 13)] := hr11505 _ (by kernel_rfl)
      obtain ⟨⟨v11507, q11506, s11508⟩, -⟩ := hr11505x
      obtain rfl : v11507 = .int .u64 (((xs2.getD 6 0) : Nat) : Int) := s11508
      obtain ⟨hX11509, hS11497⟩ := hJ11502
      have hF11496 : Fr 193 a11495 [(104, .int .u64 (((xs2.getD 6 0) : Nat) : Int))] := Fr.of hs11500 hd11501 ⟨q11506, trivial⟩
      refine s_pure hT (d := 19) (v := .int .u64 (((xs2.getD 6 0) : Nat) : Int)) (cs := []) (by kernel_rfl) (by kernel_rfl) trivial hF11496 ?_
      rintro a2 ha2 hF2; rw [ha2]
      exact hK11499 _ _ rfl (grown_refl _ _)
    · -- operation 23
      rintro a11511 w11510 b11514 KK11520 hs11516 hd11517 hJ11518 hb11519 hr11521 hK11515
      have hr11521x : RD SL11132 b11514 a11511 a11124 w11510 [(106, some 15)] := hr11521 _ (by kernel_rfl)
      obtain ⟨⟨v11523, q11522, s11524⟩, -⟩ := hr11521x
      obtain rfl : v11523 = .int .u64 (((xs2.getD 7 0) : Nat) : Int) := s11524
      obtain ⟨hX11525, hS11513⟩ := hJ11518
      have hF11512 : Fr 193 a11511 [(106, .int .u64 (((xs2.getD 7 0) : Nat) : Int))] := Fr.of hs11516 hd11517 ⟨q11522, trivial⟩
      refine s_pure hT (d := 20) (v := .int .u64 (((xs2.getD 7 0) : Nat) : Int)) (cs := []) (by kernel_rfl) (by kernel_rfl) trivial hF11512 ?_
      rintro a2 ha2 hF2; rw [ha2]
      exact hK11515 _ _ rfl (grown_refl _ _)
    · -- behind the region
      rintro a11526 w11527 hs11528 hd11529 ⟨⟨v11532, q11533, s11534⟩, ⟨v11535, q11536, s11537⟩, ⟨v11538, q11539, s11540⟩, ⟨v11541, q11542, s11543⟩, ⟨v11544, q11545, s11546⟩, ⟨v11547, q11548, s11549⟩, ⟨v11550, q11551, s11552⟩, ⟨v11553, q11554, s11555⟩, q11556, q11557, q11558, q11559, -⟩ ⟨hX11531, hS11530⟩
      obtain rfl : v11532 = .int .u64 (((xs2.getD 0 0) : Nat) : Int) := s11534
      obtain rfl : v11535 = .int .u64 (((xs2.getD 1 0) : Nat) : Int) := s11537
      obtain rfl : v11538 = .int .u64 (((xs2.getD 2 0) : Nat) : Int) := s11540
      obtain rfl : v11541 = .int .u64 (((xs2.getD 3 0) : Nat) : Int) := s11543
      obtain rfl : v11544 = .int .u64 (((xs2.getD 4 0) : Nat) : Int) := s11546
      obtain rfl : v11547 = .int .u64 (((xs2.getD 5 0) : Nat) : Int) := s11549
      obtain rfl : v11550 = .int .u64 (((xs2.getD 6 0) : Nat) : Int) := s11552
      obtain rfl : v11553 = .int .u64 (((xs2.getD 7 0) : Nat) : Int) := s11555
      have hF11560 : Fr 193 a11526 [(13, .int .u64 (((xs2.getD 0 0) : Nat) : Int)), (14, .int .u64 (((xs2.getD 1 0) : Nat) : Int)), (15, .int .u64 (((xs2.getD 2 0) : Nat) : Int)), (16, .int .u64 (((xs2.getD 3 0) : Nat) : Int)), (17, .int .u64 (((xs2.getD 4 0) : Nat) : Int)), (18, .int .u64 (((xs2.getD 5 0) : Nat) : Int)), (19, .int .u64 (((xs2.getD 6 0) : Nat) : Int)), (20, .int .u64 (((xs2.getD 7 0) : Nat) : Int)), (0, .pointer (some ⟨pb1, 0, none⟩)), (4, .pointer (some ⟨b3, 0, none⟩)), (6, .pointer (some ⟨b5, 0, none⟩)), (7, .pointer (some ⟨b25, 0, none⟩))] := Fr.of hs11528 hd11529 ⟨q11533, q11536, q11539, q11542, q11545, q11548, q11551, q11554, (Fr.init hF11126 q11556 (by kernel_rfl)), (Fr.init hF11126 q11557 (by kernel_rfl)), (Fr.init hF11126 q11558 (by kernel_rfl)), (Fr.init hF11126 q11559 (by kernel_rfl)), trivial⟩
      clear hF11126 hS11127 hs11528 hd11529 q11533 q11536 q11539 q11542 q11545 q11548 q11551 q11554 q11556 q11557 q11558 q11559
      refine hK11130 _ _ ?_
      obtain ⟨xj12013, hx12014, h12015⟩ := bnd_some h5190; clear h5190
      refine seqJ (fun a W => ∃ (x11997 : Nat), ∃ (x11999 : Nat), ∃ (x12001 : Nat), ∃ (x12003 : Nat), ∃ (x12005 : Nat), ∃ (x12007 : Nat), ∃ (x12009 : Nat), ∃ (x12011 : Nat), (x11997, x11999, x12001, x12003, x12005, x12007, x12009, x12011) = xj12013 ∧ (Fr 193 a [(4, .pointer (some ⟨b3, 0, none⟩)), (6, .pointer (some ⟨b5, 0, none⟩)), (13, .int .u64 ((x11997 : Nat) : Int)), (14, .int .u64 ((x11999 : Nat) : Int)), (15, .int .u64 ((x12001 : Nat) : Int)), (16, .int .u64 ((x12003 : Nat) : Int)), (17, .int .u64 ((x12005 : Nat) : Int)), (18, .int .u64 ((x12007 : Nat) : Int)), (19, .int .u64 ((x12009 : Nat) : Int)), (20, .int .u64 ((x12011 : Nat) : Int))]) ∧ (Heap w [] W [.blk b3 26 (vs .u64 xs2), .blk b5 26 (vs .u64 (List.replicate 8 0))]) ∧ (x11997 < 18446744073709551616) ∧ (x11999 < 18446744073709551616) ∧ (x12001 < 18446744073709551616) ∧ (x12003 < 18446744073709551616) ∧ (x12005 < 18446744073709551616) ∧ (x12007 < 18446744073709551616) ∧ (x12009 < 18446744073709551616) ∧ (x12011 < 18446744073709551616)) ?_ ?_
      · skip
        refine wp_seq_k (fun K12016 hK12017 => ?_)
        refine wp_region_lit ?_
        refine pu_end hT 1 _ hF11560 [13, 14, 15, 16, 17, 18, 19, 20, 0, 4, 6, 7, 107] (G := [(13, .int .u64 (((xs2.getD 0 0) : Nat) : Int)), (14, .int .u64 (((xs2.getD 1 0) : Nat) : Int)), (15, .int .u64 (((xs2.getD 2 0) : Nat) : Int)), (16, .int .u64 (((xs2.getD 3 0) : Nat) : Int)), (17, .int .u64 (((xs2.getD 4 0) : Nat) : Int)), (18, .int .u64 (((xs2.getD 5 0) : Nat) : Int)), (19, .int .u64 (((xs2.getD 6 0) : Nat) : Int)), (20, .int .u64 (((xs2.getD 7 0) : Nat) : Int)), (0, .pointer (some ⟨pb1, 0, none⟩)), (4, .pointer (some ⟨b3, 0, none⟩)), (6, .pointer (some ⟨b5, 0, none⟩)), (7, .pointer (some ⟨b25, 0, none⟩)), (107, .int .i64 0)]) (cs := []) (by kernel_rfl) rfl trivial ?_; clear hF11560 a11526; intro a12018 hF12019
        refine hK12017 _ _ ?_
        refine wp_block ?_
        refine loopR (F_sha512_block_l3 xs0 zs5185) xj12013 ((xs2.getD 0 0), (xs2.getD 1 0), (xs2.getD 2 0), (xs2.getD 3 0), (xs2.getD 4 0), (xs2.getD 5 0), (xs2.getD 6 0), (xs2.getD 7 0), 0) hx12014 (fun s a W => ∃ (x12232 : Nat), ∃ (x12234 : Nat), ∃ (x12236 : Nat), ∃ (x12238 : Nat), ∃ (x12240 : Nat), ∃ (x12242 : Nat), ∃ (x12244 : Nat), ∃ (x12246 : Nat), ∃ (x12248 : Nat), (x12232, x12234, x12236, x12238, x12240, x12242, x12244, x12246, x12248) = s ∧ (Fr 193 a [(0, .pointer (some ⟨pb1, 0, none⟩)), (4, .pointer (some ⟨b3, 0, none⟩)), (6, .pointer (some ⟨b5, 0, none⟩)), (7, .pointer (some ⟨b25, 0, none⟩)), (13, .int .u64 ((x12232 : Nat) : Int)), (14, .int .u64 ((x12234 : Nat) : Int)), (15, .int .u64 ((x12236 : Nat) : Int)), (16, .int .u64 ((x12238 : Nat) : Int)), (17, .int .u64 ((x12240 : Nat) : Int)), (18, .int .u64 ((x12242 : Nat) : Int)), (19, .int .u64 ((x12244 : Nat) : Int)), (20, .int .u64 ((x12246 : Nat) : Int)), (107, .int .i64 ((x12248 : Nat) : Int))]) ∧ (Heap w [] W [.blk b3 26 (vs .u64 xs2), .blk b5 26 (vs .u64 (List.replicate 8 0)), .blk b25 24 (vs .u64 zs5185)]) ∧ (x12232 < 18446744073709551616) ∧ (x12234 < 18446744073709551616) ∧ (x12236 < 18446744073709551616) ∧ (x12238 < 18446744073709551616) ∧ (x12240 < 18446744073709551616) ∧ (x12242 < 18446744073709551616) ∧ (x12244 < 18446744073709551616) ∧ (x12246 < 18446744073709551616)) ⟨(xs2.getD 0 0), (xs2.getD 1 0), (xs2.getD 2 0), (xs2.getD 3 0), (xs2.getD 4 0), (xs2.getD 5 0), (xs2.getD 6 0), (xs2.getD 7 0), 0, rfl, hF12019.pick [0, 4, 6, 7, 13, 14, 15, 16, 17, 18, 19, 20, 107] (by kernel_rfl), hS11530.pick [0, 1, 2] (by decide) rfl, (pb2.get (by decide) 0), (pb2.get (by decide) 1), (pb2.get (by decide) 2), (pb2.get (by decide) 3), (pb2.get (by decide) 4), (pb2.get (by decide) 5), (pb2.get (by decide) 6), (pb2.get (by decide) 7)⟩ ?_
        clear hF12019 hS11530 hx12014
        rintro k12355 _ a12350 w12351 ⟨x12232, x12234, x12236, x12238, x12240, x12242, x12244, x12246, x12248, rfl, hF12352, hS12353, hh12233, hh12235, hh12237, hh12239, hh12241, hh12243, hh12245, hh12247⟩ hit12349 K12348 hK12347
        obtain ⟨y12345, h12354, hy12346⟩ := iter_succ hit12349; clear hit12349
        unfold F_sha512_block_l3 at h12354; try dsimp only at h12354
        refine wp_seq_k (fun K12356 hK12357 => ?_)
        refine wp_region_lit ?_
        refine pu_end hT 1 _ hF12352 [0, 4, 6, 7, 13, 14, 15, 16, 17, 18, 19, 20, 107, 108] (G := [(0, .pointer (some ⟨pb1, 0, none⟩)), (4, .pointer (some ⟨b3, 0, none⟩)), (6, .pointer (some ⟨b5, 0, none⟩)), (7, .pointer (some ⟨b25, 0, none⟩)), (13, .int .u64 ((x12232 : Nat) : Int)), (14, .int .u64 ((x12234 : Nat) : Int)), (15, .int .u64 ((x12236 : Nat) : Int)), (16, .int .u64 ((x12238 : Nat) : Int)), (17, .int .u64 ((x12240 : Nat) : Int)), (18, .int .u64 ((x12242 : Nat) : Int)), (19, .int .u64 ((x12244 : Nat) : Int)), (20, .int .u64 ((x12246 : Nat) : Int)), (107, .int .i64 ((x12248 : Nat) : Int)), (108, .bool ((decide (((x12248 : Nat) : Int) < 80))))]) (cs := []) (by kernel_rfl) rfl trivial ?_; clear hF12352 a12350; intro a12358 hF12359
        refine hK12357 _ _ ?_
        refine wp_seq_k (fun K12362 hK12363 => ?_)
        rcases (ite_some h12354 : ((((x12248 : Nat) : Int) < 80) ∧ _) ∨ (¬ (((x12248 : Nat) : Int) < 80) ∧ _)) with ⟨hc12364, h12365⟩ | ⟨hc12364, h12365⟩
        · clear h12354
          have hF12366 : Fr 193 a12358 [(0, .pointer (some ⟨pb1, 0, none⟩)), (4, .pointer (some ⟨b3, 0, none⟩)), (6, .pointer (some ⟨b5, 0, none⟩)), (7, .pointer (some ⟨b25, 0, none⟩)), (13, .int .u64 ((x12232 : Nat) : Int)), (14, .int .u64 ((x12234 : Nat) : Int)), (15, .int .u64 ((x12236 : Nat) : Int)), (16, .int .u64 ((x12238 : Nat) : Int)), (17, .int .u64 ((x12240 : Nat) : Int)), (18, .int .u64 ((x12242 : Nat) : Int)), (19, .int .u64 ((x12244 : Nat) : Int)), (20, .int .u64 ((x12246 : Nat) : Int)), (107, .int .i64 ((x12248 : Nat) : Int)), (108, .bool true)] := hF12359.pick [0, 4, 6, 7, 13, 14, 15, 16, 17, 18, 19, 20, 107, 108] (by rw [decide_eq_true hc12364]; kernel_rfl); clear hF12359
          refine condT hF12366 (by kernel_rfl) ?_
          refine wp_skip ?_
          refine hK12363 _ _ ?_
          refine wp_seq_k (fun K12409 hK12410 => ?_)
          refine wp_block ?_
          refine wp_seq_k (fun K12411 hK12412 => ?_)
          refine wp_region_lit ?_
          refine pu_end hT 2 _ hF12366 [0, 4, 6, 7, 13, 14, 15, 16, 17, 18, 19, 20, 107, 21] (G := [(0, .pointer (some ⟨pb1, 0, none⟩)), (4, .pointer (some ⟨b3, 0, none⟩)), (6, .pointer (some ⟨b5, 0, none⟩)), (7, .pointer (some ⟨b25, 0, none⟩)), (13, .int .u64 ((x12232 : Nat) : Int)), (14, .int .u64 ((x12234 : Nat) : Int)), (15, .int .u64 ((x12236 : Nat) : Int)), (16, .int .u64 ((x12238 : Nat) : Int)), (17, .int .u64 ((x12240 : Nat) : Int)), (18, .int .u64 ((x12242 : Nat) : Int)), (19, .int .u64 ((x12244 : Nat) : Int)), (20, .int .u64 ((x12246 : Nat) : Int)), (107, .int .i64 ((x12248 : Nat) : Int)), (21, .int .i64 ((x12248 : Nat) : Int))]) (cs := []) (by kernel_rfl) rfl trivial ?_; clear hF12366 a12358; intro a12413 hF12414
          refine hK12412 _ _ ?_
          refine wp_seq_k (fun K12415 hK12416 => ?_)
          obtain ⟨x12417, hr12419, h12418⟩ := bnd_some h12365; clear h12365; replace hr12419 : F_sha512_rotr x12240 (14 : Int) = some (x12417) := hr12419
          obtain ⟨x12421, hr12423, h12422⟩ := bnd_some h12418; clear h12418; replace hr12423 : F_sha512_rotr x12240 (18 : Int) = some (x12421) := hr12423
          obtain ⟨x12425, hr12427, h12426⟩ := bnd_some h12422; clear h12422; replace hr12427 : F_sha512_rotr x12240 (41 : Int) = some (x12425) := hr12427
          obtain ⟨t12429, ht12430, h12431⟩ := ltb_some h12426; clear h12426; replace ht12430 : t12429 = ((((x12246 + ((x12417 ^^^ x12421) ^^^ x12425)) % 18446744073709551616) + ((x12240 &&& x12242) ^^^ ((18446744073709551616 - 1 - x12240) &&& x12244))) % 18446744073709551616) := ht12430
          obtain ⟨t12433, ht12434, h12435⟩ := ltb_some h12431; clear h12431; replace ht12434 : t12433 = ((((t12429 + (xs0.getD x12248 0)) % 18446744073709551616) + (zs5185.getD x12248 0)) % 18446744073709551616) := ht12434
          have hlt12437 := hS12353.ids
          have hsz12439 := hS12353.size
          let SL12438 : List SP := [SP.val (.int .u64 ((x12246 : Nat) : Int)), SP.val (.int .u64 ((x12240 : Nat) : Int)), SP.mk' (fun B v W => v = .int .u64 ((x12417 : Nat) : Int) ∧ (x12417 < 18446744073709551616)) (fun B v W W2 hh gg => by obtain ⟨e, hh12420⟩ := hh; exact ⟨e, hh12420⟩), SP.val (.int .u64 ((x12240 : Nat) : Int)), SP.mk' (fun B v W => v = .int .u64 ((x12421 : Nat) : Int) ∧ (x12421 < 18446744073709551616)) (fun B v W W2 hh gg => by obtain ⟨e, hh12424⟩ := hh; exact ⟨e, hh12424⟩), SP.mk' (fun B v W => v = .int .u64 (((x12417 ^^^ x12421) : Nat) : Int) ∧ (x12417 < 18446744073709551616) ∧ (x12421 < 18446744073709551616)) (fun B v W W2 hh gg => by obtain ⟨e, hh12420, hh12424⟩ := hh; exact ⟨e, hh12420, hh12424⟩), SP.val (.int .u64 ((x12240 : Nat) : Int)), SP.mk' (fun B v W => v = .int .u64 ((x12425 : Nat) : Int) ∧ (x12425 < 18446744073709551616)) (fun B v W W2 hh gg => by obtain ⟨e, hh12428⟩ := hh; exact ⟨e, hh12428⟩), SP.mk' (fun B v W => v = .int .u64 ((((x12417 ^^^ x12421) ^^^ x12425) : Nat) : Int) ∧ (x12417 < 18446744073709551616) ∧ (x12421 < 18446744073709551616) ∧ (x12425 < 18446744073709551616)) (fun B v W W2 hh gg => by obtain ⟨e, hh12420, hh12424, hh12428⟩ := hh; exact ⟨e, hh12420, hh12424, hh12428⟩), SP.val (.int .u64 ((((x12246 + ((x12417 ^^^ x12421) ^^^ x12425)) % 18446744073709551616) : Nat) : Int)), SP.val (.int .u64 ((x12240 : Nat) : Int)), SP.val (.int .u64 ((x12242 : Nat) : Int)), SP.val (.int .u64 (((x12240 &&& x12242) : Nat) : Int)), SP.val (.int .u64 ((x12240 : Nat) : Int)), SP.val (.int .u64 (((18446744073709551616 - 1 - x12240) : Nat) : Int)), SP.val (.int .u64 ((x12244 : Nat) : Int)), SP.val (.int .u64 ((((18446744073709551616 - 1 - x12240) &&& x12244) : Nat) : Int)), SP.val (.int .u64 ((((x12240 &&& x12242) ^^^ ((18446744073709551616 - 1 - x12240) &&& x12244)) : Nat) : Int)), SP.mk' (fun B v W => v = .int .u64 ((t12429 : Nat) : Int) ∧ (t12429 < 18446744073709551616)) (fun B v W W2 hh gg => by obtain ⟨e, hb12432⟩ := hh; exact ⟨e, hb12432⟩), SP.val (.pointer (some ⟨pb1, 0, none⟩)), SP.val (.int .i64 ((x12248 : Nat) : Int)), SP.val (.pointer (some ⟨pb1, 0, none⟩)), SP.val (.pointer (some ⟨pb1, (0 + x12248), none⟩)), SP.val (.int .u64 (((xs0.getD x12248 0) : Nat) : Int)), SP.val (.int .u64 ((((t12429 + (xs0.getD x12248 0)) % 18446744073709551616) : Nat) : Int)), SP.val (.int .i64 ((x12248 : Nat) : Int)), SP.val (.pointer (some ⟨b25, (0 + x12248), none⟩)), SP.val (.int .u64 (((zs5185.getD x12248 0) : Nat) : Int)), SP.val (.int .u64 ((((((t12429 + (xs0.getD x12248 0)) % 18446744073709551616) + (zs5185.getD x12248 0)) % 18446744073709551616) : Nat) : Int)), SP.mk' (fun B v W => v = .int .u64 ((t12433 : Nat) : Int) ∧ (t12433 < 18446744073709551616)) (fun B v W W2 hh gg => by obtain ⟨e, hb12436⟩ := hh; exact ⟨e, hb12436⟩)]
          refine region_rel (SL := SL12438) (J := (fun (B : Bool) (W : World) => w12351.heap.size ≤ W.heap.size ∧ Heap w [] W [.blk b3 26 (vs .u64 xs2), .blk b5 26 (vs .u64 (List.replicate 8 0)), .blk b25 24 (vs .u64 zs5185)])) (m := 30) wide (by kernel_rfl) (by kernel_rfl) hF12414 rfl ?_ ⟨Nat.le_refl _, hS12353⟩ ⟨?_, ?_, ?_, ?_, ?_, ?_, ?_, ?_, ?_, ?_, ?_, ?_, ?_, ?_, ?_, ?_, ?_, ?_, ?_, ?_, ?_, ?_, ?_, ?_, ?_, ?_, ?_, ?_, ?_, ?_, trivial⟩ [(22, some 29), (0, none), (4, none), (6, none), (7, none), (13, none), (14, none), (15, none), (16, none), (17, none), (18, none), (19, none), (107, none)] (by kernel_rfl) ?_
          · intro b W W' hj g; exact ⟨Nat.le_trans hj.1 g.size, hj.2.growN g⟩
          · -- operation 0
            rintro a12441 w12440 b12444 KK12450 hs12446 hd12447 hJ12448 hb12449 hr12451 hK12445
            have hr12451x : RD SL12438 b12444 a12441 a12413 w12440 [(20, none)] := hr12451 _ (by kernel_rfl)
            obtain ⟨q12452, -⟩ := hr12451x
            obtain ⟨hX12453, hS12443⟩ := hJ12448
            have hF12442 : Fr 193 a12441 [(20, .int .u64 ((x12246 : Nat) : Int))] := Fr.of hs12446 hd12447 ⟨(Fr.init hF12414 q12452 (by kernel_rfl)), trivial⟩
            refine s_pure hT (d := 110) (v := .int .u64 ((x12246 : Nat) : Int)) (cs := []) (by kernel_rfl) (by kernel_rfl) trivial hF12442 ?_
            rintro a2 ha2 hF2; rw [ha2]
            exact hK12445 _ _ rfl (grown_refl _ _)
          · -- operation 1
            rintro a12455 w12454 b12458 KK12464 hs12460 hd12461 hJ12462 hb12463 hr12465 hK12459
            have hr12465x : RD SL12438 b12458 a12455 a12413 w12454 [(17, none)] := hr12465 _ (by kernel_rfl)
            obtain ⟨q12466, -⟩ := hr12465x
            obtain ⟨hX12467, hS12457⟩ := hJ12462
            have hF12456 : Fr 193 a12455 [(17, .int .u64 ((x12240 : Nat) : Int))] := Fr.of hs12460 hd12461 ⟨(Fr.init hF12414 q12466 (by kernel_rfl)), trivial⟩
            refine s_pure hT (d := 111) (v := .int .u64 ((x12240 : Nat) : Int)) (cs := []) (by kernel_rfl) (by kernel_rfl) trivial hF12456 ?_
            rintro a2 ha2 hF2; rw [ha2]
            exact hK12459 _ _ rfl (grown_refl _ _)
          · -- operation 2
            rintro a12469 w12468 b12472 KK12478 hs12474 hd12475 hJ12476 hb12477 hr12479 hK12473
            have hr12479x : RD SL12438 b12472 a12469 a12413 w12468 [(111, some 1)] := hr12479 _ (by kernel_rfl)
            obtain ⟨⟨v12481, q12480, s12482⟩, -⟩ := hr12479x
            obtain rfl : v12481 = .int .u64 ((x12240 : Nat) : Int) := s12482
            obtain ⟨hX12483, hS12471⟩ := hJ12476
            have hF12470 : Fr 193 a12469 [(111, .int .u64 ((x12240 : Nat) : Int))] := Fr.of hs12474 hd12475 ⟨q12480, trivial⟩
            refine s_call (d := 112) (f := 67) (l := [.int .u64 ((x12240 : Nat) : Int), .int .i64 14]) (by kernel_rfl) hF12470 cl67 (W_sha512_rotr x12240 (14 : Int) _ hh12241 x12417 hr12419) ?_
            rintro a12484 w12485 v12486 ⟨rfl, hh12420, hC12487⟩ ha12488 hF12489
            have hS12490 : Heap w [] w12485 [.blk b3 26 (vs .u64 xs2), .blk b5 26 (vs .u64 (List.replicate 8 0)), .blk b25 24 (vs .u64 zs5185)] := Heap.call hS12471 hC12487
            rw [ha12488]
            exact hK12473 _ _ ⟨rfl, hh12420⟩ (hC12487.grown)
          · -- operation 3
            rintro a12492 w12491 b12495 KK12501 hs12497 hd12498 hJ12499 hb12500 hr12502 hK12496
            have hr12502x : RD SL12438 b12495 a12492 a12413 w12491 [(17, none)] := hr12502 _ (by kernel_rfl)
            obtain ⟨q12503, -⟩ := hr12502x
            obtain ⟨hX12504, hS12494⟩ := hJ12499
            have hF12493 : Fr 193 a12492 [(17, .int .u64 ((x12240 : Nat) : Int))] := Fr.of hs12497 hd12498 ⟨(Fr.init hF12414 q12503 (by kernel_rfl)), trivial⟩
            refine s_pure hT (d := 113) (v := .int .u64 ((x12240 : Nat) : Int)) (cs := []) (by kernel_rfl) (by kernel_rfl) trivial hF12493 ?_
            rintro a2 ha2 hF2; rw [ha2]
            exact hK12496 _ _ rfl (grown_refl _ _)
          · -- operation 4
            rintro a12506 w12505 b12509 KK12515 hs12511 hd12512 hJ12513 hb12514 hr12516 hK12510
            have hr12516x : RD SL12438 b12509 a12506 a12413 w12505 [(113, some 3)] := hr12516 _ (by kernel_rfl)
            obtain ⟨⟨v12518, q12517, s12519⟩, -⟩ := hr12516x
            obtain rfl : v12518 = .int .u64 ((x12240 : Nat) : Int) := s12519
            obtain ⟨hX12520, hS12508⟩ := hJ12513
            have hF12507 : Fr 193 a12506 [(113, .int .u64 ((x12240 : Nat) : Int))] := Fr.of hs12511 hd12512 ⟨q12517, trivial⟩
            refine s_call (d := 114) (f := 67) (l := [.int .u64 ((x12240 : Nat) : Int), .int .i64 18]) (by kernel_rfl) hF12507 cl67 (W_sha512_rotr x12240 (18 : Int) _ hh12241 x12421 hr12423) ?_
            rintro a12521 w12522 v12523 ⟨rfl, hh12424, hC12524⟩ ha12525 hF12526
            have hS12527 : Heap w [] w12522 [.blk b3 26 (vs .u64 xs2), .blk b5 26 (vs .u64 (List.replicate 8 0)), .blk b25 24 (vs .u64 zs5185)] := Heap.call hS12508 hC12524
            rw [ha12525]
            exact hK12510 _ _ ⟨rfl, hh12424⟩ (hC12524.grown)
          · -- operation 5
            rintro a12529 w12528 b12532 KK12538 hs12534 hd12535 hJ12536 hb12537 hr12539 hK12533
            have hr12539x : RD SL12438 b12532 a12529 a12413 w12528 [(112, some 2), (114, some 4)] := hr12539 _ (by kernel_rfl)
            obtain ⟨⟨v12541, q12540, s12542⟩, ⟨v12544, q12543, s12545⟩, -⟩ := hr12539x
            obtain ⟨rfl, hh12420⟩ := s12542
            obtain ⟨rfl, hh12424⟩ := s12545
            obtain ⟨hX12546, hS12531⟩ := hJ12536
            have hF12530 : Fr 193 a12529 [(112, .int .u64 ((x12417 : Nat) : Int)), (114, .int .u64 ((x12421 : Nat) : Int))] := Fr.of hs12534 hd12535 ⟨q12540, q12543, trivial⟩
            refine s_pure hT (d := 115) (v := .int .u64 (((x12417 ^^^ x12421) : Nat) : Int)) (cs := [x12417 < 18446744073709551616, x12421 < 18446744073709551616]) (by kernel_rfl) (by kernel_rfl) (And.intro hh12420 (And.intro hh12424 trivial)) hF12530 ?_
            rintro a2 ha2 hF2; rw [ha2]
            exact hK12533 _ _ ⟨rfl, hh12420, hh12424⟩ (grown_refl _ _)
          · -- operation 6
            rintro a12548 w12547 b12551 KK12557 hs12553 hd12554 hJ12555 hb12556 hr12558 hK12552
            have hr12558x : RD SL12438 b12551 a12548 a12413 w12547 [(17, none)] := hr12558 _ (by kernel_rfl)
            obtain ⟨q12559, -⟩ := hr12558x
            obtain ⟨hX12560, hS12550⟩ := hJ12555
            have hF12549 : Fr 193 a12548 [(17, .int .u64 ((x12240 : Nat) : Int))] := Fr.of hs12553 hd12554 ⟨(Fr.init hF12414 q12559 (by kernel_rfl)), trivial⟩
            refine s_pure hT (d := 116) (v := .int .u64 ((x12240 : Nat) : Int)) (cs := []) (by kernel_rfl) (by kernel_rfl) trivial hF12549 ?_
            rintro a2 ha2 hF2; rw [ha2]
            exact hK12552 _ _ rfl (grown_refl _ _)
          · -- operation 7
            rintro a12562 w12561 b12565 KK12571 hs12567 hd12568 hJ12569 hb12570 hr12572 hK12566
            have hr12572x : RD SL12438 b12565 a12562 a12413 w12561 [(116, some 6)] := hr12572 _ (by kernel_rfl)
            obtain ⟨⟨v12574, q12573, s12575⟩, -⟩ := hr12572x
            obtain rfl : v12574 = .int .u64 ((x12240 : Nat) : Int) := s12575
            obtain ⟨hX12576, hS12564⟩ := hJ12569
            have hF12563 : Fr 193 a12562 [(116, .int .u64 ((x12240 : Nat) : Int))] := Fr.of hs12567 hd12568 ⟨q12573, trivial⟩
            refine s_call (d := 117) (f := 67) (l := [.int .u64 ((x12240 : Nat) : Int), .int .i64 41]) (by kernel_rfl) hF12563 cl67 (W_sha512_rotr x12240 (41 : Int) _ hh12241 x12425 hr12427) ?_
            rintro a12577 w12578 v12579 ⟨rfl, hh12428, hC12580⟩ ha12581 hF12582
            have hS12583 : Heap w [] w12578 [.blk b3 26 (vs .u64 xs2), .blk b5 26 (vs .u64 (List.replicate 8 0)), .blk b25 24 (vs .u64 zs5185)] := Heap.call hS12564 hC12580
            rw [ha12581]
            exact hK12566 _ _ ⟨rfl, hh12428⟩ (hC12580.grown)
          · -- operation 8
            rintro a12585 w12584 b12588 KK12594 hs12590 hd12591 hJ12592 hb12593 hr12595 hK12589
            have hr12595x : RD SL12438 b12588 a12585 a12413 w12584 [(115, some 5), (117, some 7)] := hr12595 _ (by kernel_rfl)
            obtain ⟨⟨v12597, q12596, s12598⟩, ⟨v12600, q12599, s12601⟩, -⟩ := hr12595x
            obtain ⟨rfl, hh12420, hh12424⟩ := s12598
            obtain ⟨rfl, hh12428⟩ := s12601
            obtain ⟨hX12602, hS12587⟩ := hJ12592
            have hF12586 : Fr 193 a12585 [(115, .int .u64 (((x12417 ^^^ x12421) : Nat) : Int)), (117, .int .u64 ((x12425 : Nat) : Int))] := Fr.of hs12590 hd12591 ⟨q12596, q12599, trivial⟩
            refine s_pure hT (d := 118) (v := .int .u64 ((((x12417 ^^^ x12421) ^^^ x12425) : Nat) : Int)) (cs := [(x12417 ^^^ x12421) < 18446744073709551616, x12425 < 18446744073709551616]) (by kernel_rfl) (by kernel_rfl) (And.intro (lt_xor (n := 64) hh12420 hh12424) (And.intro hh12428 trivial)) hF12586 ?_
            rintro a2 ha2 hF2; rw [ha2]
            exact hK12589 _ _ ⟨rfl, hh12420, hh12424, hh12428⟩ (grown_refl _ _)
          · -- operation 9
            rintro a12604 w12603 b12607 KK12613 hs12609 hd12610 hJ12611 hb12612 hr12614 hK12608
            have hr12614x : RD SL12438 b12607 a12604 a12413 w12603 [(110, some 0), (118, some 8)] := hr12614 _ (by kernel_rfl)
            obtain ⟨⟨v12616, q12615, s12617⟩, ⟨v12619, q12618, s12620⟩, -⟩ := hr12614x
            obtain rfl : v12616 = .int .u64 ((x12246 : Nat) : Int) := s12617
            obtain ⟨rfl, hh12420, hh12424, hh12428⟩ := s12620
            obtain ⟨hX12621, hS12606⟩ := hJ12611
            have hF12605 : Fr 193 a12604 [(110, .int .u64 ((x12246 : Nat) : Int)), (118, .int .u64 ((((x12417 ^^^ x12421) ^^^ x12425) : Nat) : Int))] := Fr.of hs12609 hd12610 ⟨q12615, q12618, trivial⟩
            refine s_pure hT (d := 119) (v := .int .u64 ((((x12246 + ((x12417 ^^^ x12421) ^^^ x12425)) % 18446744073709551616) : Nat) : Int)) (cs := []) (by kernel_rfl) (by kernel_rfl) trivial hF12605 ?_
            rintro a2 ha2 hF2; rw [ha2]
            exact hK12608 _ _ rfl (grown_refl _ _)
          · -- operation 10
            rintro a12623 w12622 b12626 KK12632 hs12628 hd12629 hJ12630 hb12631 hr12633 hK12627
            have hr12633x : RD SL12438 b12626 a12623 a12413 w12622 [(17, none)] := hr12633 _ (by kernel_rfl)
            obtain ⟨q12634, -⟩ := hr12633x
            obtain ⟨hX12635, hS12625⟩ := hJ12630
            have hF12624 : Fr 193 a12623 [(17, .int .u64 ((x12240 : Nat) : Int))] := Fr.of hs12628 hd12629 ⟨(Fr.init hF12414 q12634 (by kernel_rfl)), trivial⟩
            refine s_pure hT (d := 120) (v := .int .u64 ((x12240 : Nat) : Int)) (cs := []) (by kernel_rfl) (by kernel_rfl) trivial hF12624 ?_
            rintro a2 ha2 hF2; rw [ha2]
            exact hK12627 _ _ rfl (grown_refl _ _)
          · -- operation 11
            rintro a12637 w12636 b12640 KK12646 hs12642 hd12643 hJ12644 hb12645 hr12647 hK12641
            have hr12647x : RD SL12438 b12640 a12637 a12413 w12636 [(18, none)] := hr12647 _ (by kernel_rfl)
            obtain ⟨q12648, -⟩ := hr12647x
            obtain ⟨hX12649, hS12639⟩ := hJ12644
            have hF12638 : Fr 193 a12637 [(18, .int .u64 ((x12242 : Nat) : Int))] := Fr.of hs12642 hd12643 ⟨(Fr.init hF12414 q12648 (by kernel_rfl)), trivial⟩
            refine s_pure hT (d := 121) (v := .int .u64 ((x12242 : Nat) : Int)) (cs := []) (by kernel_rfl) (by kernel_rfl) trivial hF12638 ?_
            rintro a2 ha2 hF2; rw [ha2]
            exact hK12641 _ _ rfl (grown_refl _ _)
          · -- operation 12
            rintro a12651 w12650 b12654 KK12660 hs12656 hd12657 hJ12658 hb12659 hr12661 hK12655
            have hr12661x : RD SL12438 b12654 a12651 a12413 w12650 [(120, some 10), (121, some 11)] := hr12661 _ (by kernel_rfl)
            obtain ⟨⟨v12663, q12662, s12664⟩, ⟨v12666, q12665, s12667⟩, -⟩ := hr12661x
            obtain rfl : v12663 = .int .u64 ((x12240 : Nat) : Int) := s12664
            obtain rfl : v12666 = .int .u64 ((x12242 : Nat) : Int) := s12667
            obtain ⟨hX12668, hS12653⟩ := hJ12658
            have hF12652 : Fr 193 a12651 [(120, .int .u64 ((x12240 : Nat) : Int)), (121, .int .u64 ((x12242 : Nat) : Int))] := Fr.of hs12656 hd12657 ⟨q12662, q12665, trivial⟩
            refine s_pure hT (d := 122) (v := .int .u64 (((x12240 &&& x12242) : Nat) : Int)) (cs := [x12240 < 18446744073709551616, x12242 < 18446744073709551616]) (by kernel_rfl) (by kernel_rfl) (And.intro hh12241 (And.intro hh12243 trivial)) hF12652 ?_
            rintro a2 ha2 hF2; rw [ha2]
            exact hK12655 _ _ rfl (grown_refl _ _)
          · -- operation 13
            rintro a12670 w12669 b12673 KK12679 hs12675 hd12676 hJ12677 hb12678 hr12680 hK12674
            have hr12680x : RD SL12438 b12673 a12670 a12413 w12669 [(17, none)] := hr12680 _ (by kernel_rfl)
            obtain ⟨q12681, -⟩ := hr12680x
            obtain ⟨hX12682, hS12672⟩ := hJ12677
            have hF12671 : Fr 193 a12670 [(17, .int .u64 ((x12240 : Nat) : Int))] := Fr.of hs12675 hd12676 ⟨(Fr.init hF12414 q12681 (by kernel_rfl)), trivial⟩
            refine s_pure hT (d := 123) (v := .int .u64 ((x12240 : Nat) : Int)) (cs := []) (by kernel_rfl) (by kernel_rfl) trivial hF12671 ?_
            rintro a2 ha2 hF2; rw [ha2]
            exact hK12674 _ _ rfl (grown_refl _ _)
          · -- operation 14
            rintro a12684 w12683 b12687 KK12693 hs12689 hd12690 hJ12691 hb12692 hr12694 hK12688
            have hr12694x : RD SL12438 b12687 a12684 a12413 w12683 [(123, some 13)] := hr12694 _ (by kernel_rfl)
            obtain ⟨⟨v12696, q12695, s12697⟩, -⟩ := hr12694x
            obtain rfl : v12696 = .int .u64 ((x12240 : Nat) : Int) := s12697
            obtain ⟨hX12698, hS12686⟩ := hJ12691
            have hF12685 : Fr 193 a12684 [(123, .int .u64 ((x12240 : Nat) : Int))] := Fr.of hs12689 hd12690 ⟨q12695, trivial⟩
            refine s_pure hT (d := 124) (v := .int .u64 (((18446744073709551616 - 1 - x12240) : Nat) : Int)) (cs := [x12240 < 18446744073709551616]) (by kernel_rfl) (by kernel_rfl) (And.intro hh12241 trivial) hF12685 ?_
            rintro a2 ha2 hF2; rw [ha2]
            exact hK12688 _ _ rfl (grown_refl _ _)
          · -- operation 15
            rintro a12700 w12699 b12703 KK12709 hs12705 hd12706 hJ12707 hb12708 hr12710 hK12704
            have hr12710x : RD SL12438 b12703 a12700 a12413 w12699 [(19, none)] := hr12710 _ (by kernel_rfl)
            obtain ⟨q12711, -⟩ := hr12710x
            obtain ⟨hX12712, hS12702⟩ := hJ12707
            have hF12701 : Fr 193 a12700 [(19, .int .u64 ((x12244 : Nat) : Int))] := Fr.of hs12705 hd12706 ⟨(Fr.init hF12414 q12711 (by kernel_rfl)), trivial⟩
            refine s_pure hT (d := 125) (v := .int .u64 ((x12244 : Nat) : Int)) (cs := []) (by kernel_rfl) (by kernel_rfl) trivial hF12701 ?_
            rintro a2 ha2 hF2; rw [ha2]
            exact hK12704 _ _ rfl (grown_refl _ _)
          · -- operation 16
            rintro a12714 w12713 b12717 KK12723 hs12719 hd12720 hJ12721 hb12722 hr12724 hK12718
            have hr12724x : RD SL12438 b12717 a12714 a12413 w12713 [(124, some 14), (125, some 15)] := hr12724 _ (by kernel_rfl)
            obtain ⟨⟨v12726, q12725, s12727⟩, ⟨v12729, q12728, s12730⟩, -⟩ := hr12724x
            obtain rfl : v12726 = .int .u64 (((18446744073709551616 - 1 - x12240) : Nat) : Int) := s12727
            obtain rfl : v12729 = .int .u64 ((x12244 : Nat) : Int) := s12730
            obtain ⟨hX12731, hS12716⟩ := hJ12721
            have hF12715 : Fr 193 a12714 [(124, .int .u64 (((18446744073709551616 - 1 - x12240) : Nat) : Int)), (125, .int .u64 ((x12244 : Nat) : Int))] := Fr.of hs12719 hd12720 ⟨q12725, q12728, trivial⟩
            refine s_pure hT (d := 126) (v := .int .u64 ((((18446744073709551616 - 1 - x12240) &&& x12244) : Nat) : Int)) (cs := [(18446744073709551616 - 1 - x12240) < 18446744073709551616, x12244 < 18446744073709551616]) (by kernel_rfl) (by kernel_rfl) (And.intro (lt_compl (by decide)) (And.intro hh12245 trivial)) hF12715 ?_
            rintro a2 ha2 hF2; rw [ha2]
            exact hK12718 _ _ rfl (grown_refl _ _)
          · -- operation 17
            rintro a12733 w12732 b12736 KK12742 hs12738 hd12739 hJ12740 hb12741 hr12743 hK12737
            have hr12743x : RD SL12438 b12736 a12733 a12413 w12732 [(122, some 12), (126, some 16)] := hr12743 _ (by kernel_rfl)
            obtain ⟨⟨v12745, q12744, s12746⟩, ⟨v12748, q12747, s12749⟩, -⟩ := hr12743x
            obtain rfl : v12745 = .int .u64 (((x12240 &&& x12242) : Nat) : Int) := s12746
            obtain rfl : v12748 = .int .u64 ((((18446744073709551616 - 1 - x12240) &&& x12244) : Nat) : Int) := s12749
            obtain ⟨hX12750, hS12735⟩ := hJ12740
            have hF12734 : Fr 193 a12733 [(122, .int .u64 (((x12240 &&& x12242) : Nat) : Int)), (126, .int .u64 ((((18446744073709551616 - 1 - x12240) &&& x12244) : Nat) : Int))] := Fr.of hs12738 hd12739 ⟨q12744, q12747, trivial⟩
            refine s_pure hT (d := 127) (v := .int .u64 ((((x12240 &&& x12242) ^^^ ((18446744073709551616 - 1 - x12240) &&& x12244)) : Nat) : Int)) (cs := [(x12240 &&& x12242) < 18446744073709551616, ((18446744073709551616 - 1 - x12240) &&& x12244) < 18446744073709551616]) (by kernel_rfl) (by kernel_rfl) (And.intro (lt_and hh12241) (And.intro (lt_and (lt_compl (by decide))) trivial)) hF12734 ?_
            rintro a2 ha2 hF2; rw [ha2]
            exact hK12737 _ _ rfl (grown_refl _ _)
          · -- operation 18
            rintro a12752 w12751 b12755 KK12761 hs12757 hd12758 hJ12759 hb12760 hr12762 hK12756
            have hr12762x : RD SL12438 b12755 a12752 a12413 w12751 [(119, some 9), (127, some 17)] := hr12762 _ (by kernel_rfl)
            obtain ⟨⟨v12764, q12763, s12765⟩, ⟨v12767, q12766, s12768⟩, -⟩ := hr12762x
            obtain rfl : v12764 = .int .u64 ((((x12246 + ((x12417 ^^^ x12421) ^^^ x12425)) % 18446744073709551616) : Nat) : Int) := s12765
            obtain rfl : v12767 = .int .u64 ((((x12240 &&& x12242) ^^^ ((18446744073709551616 - 1 - x12240) &&& x12244)) : Nat) : Int) := s12768
            obtain ⟨hX12769, hS12754⟩ := hJ12759
            have hF12753 : Fr 193 a12752 [(119, .int .u64 ((((x12246 + ((x12417 ^^^ x12421) ^^^ x12425)) % 18446744073709551616) : Nat) : Int)), (127, .int .u64 ((((x12240 &&& x12242) ^^^ ((18446744073709551616 - 1 - x12240) &&& x12244)) : Nat) : Int))] := Fr.of hs12757 hd12758 ⟨q12763, q12766, trivial⟩
            refine s_pure hT (d := 128) (v := .int .u64 ((((((x12246 + ((x12417 ^^^ x12421) ^^^ x12425)) % 18446744073709551616) + ((x12240 &&& x12242) ^^^ ((18446744073709551616 - 1 - x12240) &&& x12244))) % 18446744073709551616) : Nat) : Int)) (cs := []) (by kernel_rfl) (by kernel_rfl) trivial hF12753 ?_
            rintro a2 ha2 hF2; rw [ha2]
            have hb12432 : t12429 < 18446744073709551616 := by rw [ht12430]; exact (Nat.mod_lt _ (by decide))
            exact hK12756 _ _ ⟨(show (.int .u64 ((((((x12246 + ((x12417 ^^^ x12421) ^^^ x12425)) % 18446744073709551616) + ((x12240 &&& x12242) ^^^ ((18446744073709551616 - 1 - x12240) &&& x12244))) % 18446744073709551616) : Nat) : Int) : Value) = .int .u64 ((t12429 : Nat) : Int) by (rw [ht12430] <;> rfl)), hb12432⟩ (grown_refl _ _)
          · -- operation 19
            rintro a12771 w12770 b12774 KK12780 hs12776 hd12777 hJ12778 hb12779 hr12781 hK12775
            have hr12781x : RD SL12438 b12774 a12771 a12413 w12770 [(0, none)] := hr12781 _ (by kernel_rfl)
            obtain ⟨q12782, -⟩ := hr12781x
            obtain ⟨hX12783, hS12773⟩ := hJ12778
            have hF12772 : Fr 193 a12771 [(0, .pointer (some ⟨pb1, 0, none⟩))] := Fr.of hs12776 hd12777 ⟨(Fr.init hF12414 q12782 (by kernel_rfl)), trivial⟩
            refine s_pure hT (d := 129) (v := .pointer (some ⟨pb1, 0, none⟩)) (cs := []) (by kernel_rfl) (by kernel_rfl) trivial hF12772 ?_
            rintro a2 ha2 hF2; rw [ha2]
            exact hK12775 _ _ rfl (grown_refl _ _)
          · -- operation 20
            rintro a12785 w12784 b12788 KK12794 hs12790 hd12791 hJ12792 hb12793 hr12795 hK12789
            have hr12795x : RD SL12438 b12788 a12785 a12413 w12784 [(21, none)] := hr12795 _ (by kernel_rfl)
            obtain ⟨q12796, -⟩ := hr12795x
            obtain ⟨hX12797, hS12787⟩ := hJ12792
            have hF12786 : Fr 193 a12785 [(21, .int .i64 ((x12248 : Nat) : Int))] := Fr.of hs12790 hd12791 ⟨(Fr.init hF12414 q12796 (by kernel_rfl)), trivial⟩
            refine s_pure hT (d := 130) (v := .int .i64 ((x12248 : Nat) : Int)) (cs := []) (by kernel_rfl) (by kernel_rfl) trivial hF12786 ?_
            rintro a2 ha2 hF2; rw [ha2]
            exact hK12789 _ _ rfl (grown_refl _ _)
          · -- operation 21
            rintro a12799 w12798 b12802 KK12808 hs12804 hd12805 hJ12806 hb12807 hr12809 hK12803
            have hr12809x : RD SL12438 b12802 a12799 a12413 w12798 [(129, some 19)] := hr12809 _ (by kernel_rfl)
            obtain ⟨⟨v12811, q12810, s12812⟩, -⟩ := hr12809x
            obtain rfl : v12811 = .pointer (some ⟨pb1, 0, none⟩) := s12812
            obtain ⟨hX12813, hS12801⟩ := hJ12806
            have hF12800 : Fr 193 a12799 [(129, .pointer (some ⟨pb1, 0, none⟩))] := Fr.of hs12804 hd12805 ⟨q12810, trivial⟩
            refine s_pure hT (d := 131) (v := .pointer (some ⟨pb1, 0, none⟩)) (cs := []) (by kernel_rfl) (by kernel_rfl) trivial hF12800 ?_
            rintro a2 ha2 hF2; rw [ha2]
            exact hK12803 _ _ rfl (grown_refl _ _)
          · -- operation 22
            rintro a12815 w12814 b12818 KK12824 hs12820 hd12821 hJ12822 hb12823 hr12825 hK12819
            have hr12825x : RD SL12438 b12818 a12815 a12413 w12814 [(131, some 21), (130, some 20)] := hr12825 _ (by kernel_rfl)
            obtain ⟨⟨v12827, q12826, s12828⟩, ⟨v12830, q12829, s12831⟩, -⟩ := hr12825x
            obtain rfl : v12827 = .pointer (some ⟨pb1, 0, none⟩) := s12828
            obtain rfl : v12830 = .int .i64 ((x12248 : Nat) : Int) := s12831
            obtain ⟨hX12832, hS12817⟩ := hJ12822
            have hF12816 : Fr 193 a12815 [(131, .pointer (some ⟨pb1, 0, none⟩)), (130, .int .i64 ((x12248 : Nat) : Int))] := Fr.of hs12820 hd12821 ⟨q12826, q12829, trivial⟩
            refine s_pure hT (d := 132) (v := .pointer (some ⟨pb1, (0 + x12248), none⟩)) (cs := [0 ≤ ((x12248 : Nat) : Int), ((x12248 : Nat) : Int) < 80]) (by kernel_rfl) (by kernel_rfl) (And.intro (by omega) (And.intro hc12364 trivial)) hF12816 ?_
            rintro a2 ha2 hF2; rw [ha2]
            exact hK12819 _ _ rfl (grown_refl _ _)
          · -- operation 23
            rintro a12834 w12833 b12837 KK12843 hs12839 hd12840 hJ12841 hb12842 hr12844 hK12838
            have hr12844x : RD SL12438 b12837 a12834 a12413 w12833 [(132, some 22)] := hr12844 _ (by kernel_rfl)
            obtain ⟨⟨v12846, q12845, s12847⟩, -⟩ := hr12844x
            obtain rfl : v12846 = .pointer (some ⟨pb1, (0 + x12248), none⟩) := s12847
            obtain ⟨hX12848, hS12836⟩ := hJ12841
            have hF12835 : Fr 193 a12834 [(132, .pointer (some ⟨pb1, (0 + x12248), none⟩))] := Fr.of hs12839 hd12840 ⟨q12845, trivial⟩
            refine s_load hT (d := 133) (A := ⟨pb1, (0 + x12248), none⟩) (v := .int .u64 (((xs0.getD x12248 0) : Nat) : Int)) (by kernel_rfl) hF12835 (Cells.at (Blk.ex pB1 hS12836.ex).cells (vs_get .u64 xs0 (i := x12248) (by have := pl0; omega)) (by first | rfl | omega)) ?_
            rintro a12849 ha12851 hF12850
            rw [ha12851]
            exact hK12838 _ _ rfl (grown_refl _ _)
          · -- operation 24
            rintro a12853 w12852 b12856 KK12862 hs12858 hd12859 hJ12860 hb12861 hr12863 hK12857
            have hr12863x : RD SL12438 b12856 a12853 a12413 w12852 [(128, some 18), (133, some 23)] := hr12863 _ (by kernel_rfl)
            obtain ⟨⟨v12865, q12864, s12866⟩, ⟨v12868, q12867, s12869⟩, -⟩ := hr12863x
            obtain ⟨rfl, hb12432⟩ := s12866
            obtain rfl : v12868 = .int .u64 (((xs0.getD x12248 0) : Nat) : Int) := s12869
            obtain ⟨hX12870, hS12855⟩ := hJ12860
            have hF12854 : Fr 193 a12853 [(128, .int .u64 ((t12429 : Nat) : Int)), (133, .int .u64 (((xs0.getD x12248 0) : Nat) : Int))] := Fr.of hs12858 hd12859 ⟨q12864, q12867, trivial⟩
            refine s_pure hT (d := 134) (v := .int .u64 ((((t12429 + (xs0.getD x12248 0)) % 18446744073709551616) : Nat) : Int)) (cs := []) (by kernel_rfl) (by kernel_rfl) trivial hF12854 ?_
            rintro a2 ha2 hF2; rw [ha2]
            exact hK12857 _ _ rfl (grown_refl _ _)
          · -- operation 25
            rintro a12872 w12871 b12875 KK12881 hs12877 hd12878 hJ12879 hb12880 hr12882 hK12876
            have hr12882x : RD SL12438 b12875 a12872 a12413 w12871 [(21, none)] := hr12882 _ (by kernel_rfl)
            obtain ⟨q12883, -⟩ := hr12882x
            obtain ⟨hX12884, hS12874⟩ := hJ12879
            have hF12873 : Fr 193 a12872 [(21, .int .i64 ((x12248 : Nat) : Int))] := Fr.of hs12877 hd12878 ⟨(Fr.init hF12414 q12883 (by kernel_rfl)), trivial⟩
            refine s_pure hT (d := 135) (v := .int .i64 ((x12248 : Nat) : Int)) (cs := []) (by kernel_rfl) (by kernel_rfl) trivial hF12873 ?_
            rintro a2 ha2 hF2; rw [ha2]
            exact hK12876 _ _ rfl (grown_refl _ _)
          · -- operation 26
            rintro a12886 w12885 b12889 KK12895 hs12891 hd12892 hJ12893 hb12894 hr12896 hK12890
            have hr12896x : RD SL12438 b12889 a12886 a12413 w12885 [(7, none), (135, some 25)] := hr12896 _ (by kernel_rfl)
            obtain ⟨q12897, ⟨v12899, q12898, s12900⟩, -⟩ := hr12896x
            obtain rfl : v12899 = .int .i64 ((x12248 : Nat) : Int) := s12900
            obtain ⟨hX12901, hS12888⟩ := hJ12893
            have hF12887 : Fr 193 a12886 [(7, .pointer (some ⟨b25, 0, none⟩)), (135, .int .i64 ((x12248 : Nat) : Int))] := Fr.of hs12891 hd12892 ⟨(Fr.init hF12414 q12897 (by kernel_rfl)), q12898, trivial⟩
            refine s_pure hT (d := 136) (v := .pointer (some ⟨b25, (0 + x12248), none⟩)) (cs := [0 ≤ ((x12248 : Nat) : Int), ((x12248 : Nat) : Int) < 80]) (by kernel_rfl) (by kernel_rfl) (And.intro (by omega) (And.intro hc12364 trivial)) hF12887 ?_
            rintro a2 ha2 hF2; rw [ha2]
            exact hK12890 _ _ rfl (grown_refl _ _)
          · -- operation 27
            rintro a12903 w12902 b12906 KK12912 hs12908 hd12909 hJ12910 hb12911 hr12913 hK12907
            have hr12913x : RD SL12438 b12906 a12903 a12413 w12902 [(136, some 26)] := hr12913 _ (by kernel_rfl)
            obtain ⟨⟨v12915, q12914, s12916⟩, -⟩ := hr12913x
            obtain rfl : v12915 = .pointer (some ⟨b25, (0 + x12248), none⟩) := s12916
            obtain ⟨hX12917, hS12905⟩ := hJ12910
            have hF12904 : Fr 193 a12903 [(136, .pointer (some ⟨b25, (0 + x12248), none⟩))] := Fr.of hs12908 hd12909 ⟨q12914, trivial⟩
            refine s_load hT (d := 137) (A := ⟨b25, (0 + x12248), none⟩) (v := .int .u64 (((zs5185.getD x12248 0) : Nat) : Int)) (by kernel_rfl) hF12904 (Cells.at (hS12905.blk 2 rfl).cells (vs_get .u64 zs5185 (i := x12248) (by have := hh5186; omega)) (by first | rfl | omega)) ?_
            rintro a12918 ha12920 hF12919
            rw [ha12920]
            exact hK12907 _ _ rfl (grown_refl _ _)
          · -- operation 28
            rintro a12922 w12921 b12925 KK12931 hs12927 hd12928 hJ12929 hb12930 hr12932 hK12926
            have hr12932x : RD SL12438 b12925 a12922 a12413 w12921 [(134, some 24), (137, some 27)] := hr12932 _ (by kernel_rfl)
            obtain ⟨⟨v12934, q12933, s12935⟩, ⟨v12937, q12936, s12938⟩, -⟩ := hr12932x
            obtain rfl : v12934 = .int .u64 ((((t12429 + (xs0.getD x12248 0)) % 18446744073709551616) : Nat) : Int) := s12935
            obtain rfl : v12937 = .int .u64 (((zs5185.getD x12248 0) : Nat) : Int) := s12938
            obtain ⟨hX12939, hS12924⟩ := hJ12929
            have hF12923 : Fr 193 a12922 [(134, .int .u64 ((((t12429 + (xs0.getD x12248 0)) % 18446744073709551616) : Nat) : Int)), (137, .int .u64 (((zs5185.getD x12248 0) : Nat) : Int))] := Fr.of hs12927 hd12928 ⟨q12933, q12936, trivial⟩
            refine s_pure hT (d := 138) (v := .int .u64 ((((((t12429 + (xs0.getD x12248 0)) % 18446744073709551616) + (zs5185.getD x12248 0)) % 18446744073709551616) : Nat) : Int)) (cs := []) (by kernel_rfl) (by kernel_rfl) trivial hF12923 ?_
            rintro a2 ha2 hF2; rw [ha2]
            exact hK12926 _ _ rfl (grown_refl _ _)
          · -- operation 29
            rintro a12941 w12940 b12944 KK12950 hs12946 hd12947 hJ12948 hb12949 hr12951 hK12945
            have hr12951x : RD SL12438 b12944 a12941 a12413 w12940 [(138, some 28)] := hr12951 _ (by kernel_rfl)
            obtain ⟨⟨v12953, q12952, s12954⟩, -⟩ := hr12951x
            obtain rfl : v12953 = .int .u64 ((((((t12429 + (xs0.getD x12248 0)) % 18446744073709551616) + (zs5185.getD x12248 0)) % 18446744073709551616) : Nat) : Int) := s12954
            obtain ⟨hX12955, hS12943⟩ := hJ12948
            have hF12942 : Fr 193 a12941 [(138, .int .u64 ((((((t12429 + (xs0.getD x12248 0)) % 18446744073709551616) + (zs5185.getD x12248 0)) % 18446744073709551616) : Nat) : Int))] := Fr.of hs12946 hd12947 ⟨q12952, trivial⟩
            refine s_pure hT (d := 22) (v := .int .u64 ((((((t12429 + (xs0.getD x12248 0)) % 18446744073709551616) + (zs5185.getD x12248 0)) % 18446744073709551616) : Nat) : Int)) (cs := []) (by kernel_rfl) (by kernel_rfl) trivial hF12942 ?_
            rintro a2 ha2 hF2; rw [ha2]
            have hb12436 : t12433 < 18446744073709551616 := by rw [ht12434]; exact (Nat.mod_lt _ (by decide))
            exact hK12945 _ _ ⟨(show (.int .u64 ((((((t12429 + (xs0.getD x12248 0)) % 18446744073709551616) + (zs5185.getD x12248 0)) % 18446744073709551616) : Nat) : Int) : Value) = .int .u64 ((t12433 : Nat) : Int) by (rw [ht12434] <;> rfl)), hb12436⟩ (grown_refl _ _)
          · -- behind the region
            rintro a12956 w12957 hs12958 hd12959 ⟨⟨v12962, q12963, s12964⟩, q12965, q12966, q12967, q12968, q12969, q12970, q12971, q12972, q12973, q12974, q12975, q12976, -⟩ ⟨hX12961, hS12960⟩
            obtain ⟨rfl, hb12436⟩ := s12964
            have hF12977 : Fr 193 a12956 [(22, .int .u64 ((t12433 : Nat) : Int)), (0, .pointer (some ⟨pb1, 0, none⟩)), (4, .pointer (some ⟨b3, 0, none⟩)), (6, .pointer (some ⟨b5, 0, none⟩)), (7, .pointer (some ⟨b25, 0, none⟩)), (13, .int .u64 ((x12232 : Nat) : Int)), (14, .int .u64 ((x12234 : Nat) : Int)), (15, .int .u64 ((x12236 : Nat) : Int)), (16, .int .u64 ((x12238 : Nat) : Int)), (17, .int .u64 ((x12240 : Nat) : Int)), (18, .int .u64 ((x12242 : Nat) : Int)), (19, .int .u64 ((x12244 : Nat) : Int)), (107, .int .i64 ((x12248 : Nat) : Int))] := Fr.of hs12958 hd12959 ⟨q12963, (Fr.init hF12414 q12965 (by kernel_rfl)), (Fr.init hF12414 q12966 (by kernel_rfl)), (Fr.init hF12414 q12967 (by kernel_rfl)), (Fr.init hF12414 q12968 (by kernel_rfl)), (Fr.init hF12414 q12969 (by kernel_rfl)), (Fr.init hF12414 q12970 (by kernel_rfl)), (Fr.init hF12414 q12971 (by kernel_rfl)), (Fr.init hF12414 q12972 (by kernel_rfl)), (Fr.init hF12414 q12973 (by kernel_rfl)), (Fr.init hF12414 q12974 (by kernel_rfl)), (Fr.init hF12414 q12975 (by kernel_rfl)), (Fr.init hF12414 q12976 (by kernel_rfl)), trivial⟩
            clear hF12414 hS12353 hs12958 hd12959 q12963 q12965 q12966 q12967 q12968 q12969 q12970 q12971 q12972 q12973 q12974 q12975 q12976
            refine hK12416 _ _ ?_
            refine wp_seq_k (fun K12978 hK12979 => ?_)
            obtain ⟨x12980, hr12982, h12981⟩ := bnd_some h12435; clear h12435; replace hr12982 : F_sha512_rotr x12232 (28 : Int) = some (x12980) := hr12982
            obtain ⟨x12984, hr12986, h12985⟩ := bnd_some h12981; clear h12981; replace hr12986 : F_sha512_rotr x12232 (34 : Int) = some (x12984) := hr12986
            obtain ⟨x12988, hr12990, h12989⟩ := bnd_some h12985; clear h12985; replace hr12990 : F_sha512_rotr x12232 (39 : Int) = some (x12988) := hr12990
            obtain ⟨t12992, ht12993, h12994⟩ := ltb_some h12989; clear h12989; replace ht12993 : t12992 = ((((x12980 ^^^ x12984) ^^^ x12988) + (((x12232 &&& x12234) ^^^ (x12232 &&& x12236)) ^^^ (x12234 &&& x12236))) % 18446744073709551616) := ht12993
            refine wp_region_lit ?_
            refine pu hT 1 _ hF12977 [22, 0, 4, 6, 7, 13, 14, 15, 16, 17, 18, 19, 107, 139] (G := [(22, .int .u64 ((t12433 : Nat) : Int)), (0, .pointer (some ⟨pb1, 0, none⟩)), (4, .pointer (some ⟨b3, 0, none⟩)), (6, .pointer (some ⟨b5, 0, none⟩)), (7, .pointer (some ⟨b25, 0, none⟩)), (13, .int .u64 ((x12232 : Nat) : Int)), (14, .int .u64 ((x12234 : Nat) : Int)), (15, .int .u64 ((x12236 : Nat) : Int)), (16, .int .u64 ((x12238 : Nat) : Int)), (17, .int .u64 ((x12240 : Nat) : Int)), (18, .int .u64 ((x12242 : Nat) : Int)), (19, .int .u64 ((x12244 : Nat) : Int)), (107, .int .i64 ((x12248 : Nat) : Int)), (139, .int .u64 ((x12232 : Nat) : Int))]) (cs := []) (by kernel_rfl) trivial ?_; clear hF12977 a12956; intro a12996 hF12997
            refine wl (s_call (d := 140) (f := 67) (l := [.int .u64 ((x12232 : Nat) : Int), .int .i64 28]) (by kernel_rfl) hF12997 cl67 (W_sha512_rotr x12232 (28 : Int) _ hh12233 x12980 hr12982) ?_)
            rintro a12998 w12999 v13000 ⟨rfl, hh12983, hC13001⟩ ha13002 hF13003; clear ha13002 hF12997 a12996
            have hS13004 : Heap w [] w12999 [.blk b3 26 (vs .u64 xs2), .blk b5 26 (vs .u64 (List.replicate 8 0)), .blk b25 24 (vs .u64 zs5185)] := Heap.call hS12960 hC13001; clear hS12960
            have hF13005 := hF13003.pick [22, 0, 4, 6, 7, 13, 14, 15, 16, 17, 18, 19, 107, 140] (G := [(22, .int .u64 ((t12433 : Nat) : Int)), (0, .pointer (some ⟨pb1, 0, none⟩)), (4, .pointer (some ⟨b3, 0, none⟩)), (6, .pointer (some ⟨b5, 0, none⟩)), (7, .pointer (some ⟨b25, 0, none⟩)), (13, .int .u64 ((x12232 : Nat) : Int)), (14, .int .u64 ((x12234 : Nat) : Int)), (15, .int .u64 ((x12236 : Nat) : Int)), (16, .int .u64 ((x12238 : Nat) : Int)), (17, .int .u64 ((x12240 : Nat) : Int)), (18, .int .u64 ((x12242 : Nat) : Int)), (19, .int .u64 ((x12244 : Nat) : Int)), (107, .int .i64 ((x12248 : Nat) : Int)), (140, .int .u64 ((x12980 : Nat) : Int))]) (by kernel_rfl); clear hF13003
            refine pu hT 1 _ hF13005 [22, 0, 4, 6, 7, 13, 14, 15, 16, 17, 18, 19, 107, 140, 141] (G := [(22, .int .u64 ((t12433 : Nat) : Int)), (0, .pointer (some ⟨pb1, 0, none⟩)), (4, .pointer (some ⟨b3, 0, none⟩)), (6, .pointer (some ⟨b5, 0, none⟩)), (7, .pointer (some ⟨b25, 0, none⟩)), (13, .int .u64 ((x12232 : Nat) : Int)), (14, .int .u64 ((x12234 : Nat) : Int)), (15, .int .u64 ((x12236 : Nat) : Int)), (16, .int .u64 ((x12238 : Nat) : Int)), (17, .int .u64 ((x12240 : Nat) : Int)), (18, .int .u64 ((x12242 : Nat) : Int)), (19, .int .u64 ((x12244 : Nat) : Int)), (107, .int .i64 ((x12248 : Nat) : Int)), (140, .int .u64 ((x12980 : Nat) : Int)), (141, .int .u64 ((x12232 : Nat) : Int))]) (cs := []) (by kernel_rfl) trivial ?_; clear hF13005 a12998; intro a13006 hF13007
            refine wl (s_call (d := 142) (f := 67) (l := [.int .u64 ((x12232 : Nat) : Int), .int .i64 34]) (by kernel_rfl) hF13007 cl67 (W_sha512_rotr x12232 (34 : Int) _ hh12233 x12984 hr12986) ?_)
            rintro a13008 w13009 v13010 ⟨rfl, hh12987, hC13011⟩ ha13012 hF13013; clear ha13012 hF13007 a13006
            have hS13014 : Heap w [] w13009 [.blk b3 26 (vs .u64 xs2), .blk b5 26 (vs .u64 (List.replicate 8 0)), .blk b25 24 (vs .u64 zs5185)] := Heap.call hS13004 hC13011; clear hS13004
            have hF13015 := hF13013.pick [22, 0, 4, 6, 7, 13, 14, 15, 16, 17, 18, 19, 107, 140, 142] (G := [(22, .int .u64 ((t12433 : Nat) : Int)), (0, .pointer (some ⟨pb1, 0, none⟩)), (4, .pointer (some ⟨b3, 0, none⟩)), (6, .pointer (some ⟨b5, 0, none⟩)), (7, .pointer (some ⟨b25, 0, none⟩)), (13, .int .u64 ((x12232 : Nat) : Int)), (14, .int .u64 ((x12234 : Nat) : Int)), (15, .int .u64 ((x12236 : Nat) : Int)), (16, .int .u64 ((x12238 : Nat) : Int)), (17, .int .u64 ((x12240 : Nat) : Int)), (18, .int .u64 ((x12242 : Nat) : Int)), (19, .int .u64 ((x12244 : Nat) : Int)), (107, .int .i64 ((x12248 : Nat) : Int)), (140, .int .u64 ((x12980 : Nat) : Int)), (142, .int .u64 ((x12984 : Nat) : Int))]) (by kernel_rfl); clear hF13013
            refine pu hT 2 _ hF13015 [22, 0, 4, 6, 7, 13, 14, 15, 16, 17, 18, 19, 107, 143, 144] (G := [(22, .int .u64 ((t12433 : Nat) : Int)), (0, .pointer (some ⟨pb1, 0, none⟩)), (4, .pointer (some ⟨b3, 0, none⟩)), (6, .pointer (some ⟨b5, 0, none⟩)), (7, .pointer (some ⟨b25, 0, none⟩)), (13, .int .u64 ((x12232 : Nat) : Int)), (14, .int .u64 ((x12234 : Nat) : Int)), (15, .int .u64 ((x12236 : Nat) : Int)), (16, .int .u64 ((x12238 : Nat) : Int)), (17, .int .u64 ((x12240 : Nat) : Int)), (18, .int .u64 ((x12242 : Nat) : Int)), (19, .int .u64 ((x12244 : Nat) : Int)), (107, .int .i64 ((x12248 : Nat) : Int)), (143, .int .u64 (((x12980 ^^^ x12984) : Nat) : Int)), (144, .int .u64 ((x12232 : Nat) : Int))]) (cs := [x12980 < 18446744073709551616, x12984 < 18446744073709551616]) (by kernel_rfl) (And.intro hh12983 (And.intro hh12987 trivial)) ?_; clear hF13015 a13008; intro a13016 hF13017
            refine wl (s_call (d := 145) (f := 67) (l := [.int .u64 ((x12232 : Nat) : Int), .int .i64 39]) (by kernel_rfl) hF13017 cl67 (W_sha512_rotr x12232 (39 : Int) _ hh12233 x12988 hr12990) ?_)
            rintro a13018 w13019 v13020 ⟨rfl, hh12991, hC13021⟩ ha13022 hF13023; clear ha13022 hF13017 a13016
            have hS13024 : Heap w [] w13019 [.blk b3 26 (vs .u64 xs2), .blk b5 26 (vs .u64 (List.replicate 8 0)), .blk b25 24 (vs .u64 zs5185)] := Heap.call hS13014 hC13021; clear hS13014
            have hF13025 := hF13023.pick [22, 0, 4, 6, 7, 13, 14, 15, 16, 17, 18, 19, 107, 143, 145] (G := [(22, .int .u64 ((t12433 : Nat) : Int)), (0, .pointer (some ⟨pb1, 0, none⟩)), (4, .pointer (some ⟨b3, 0, none⟩)), (6, .pointer (some ⟨b5, 0, none⟩)), (7, .pointer (some ⟨b25, 0, none⟩)), (13, .int .u64 ((x12232 : Nat) : Int)), (14, .int .u64 ((x12234 : Nat) : Int)), (15, .int .u64 ((x12236 : Nat) : Int)), (16, .int .u64 ((x12238 : Nat) : Int)), (17, .int .u64 ((x12240 : Nat) : Int)), (18, .int .u64 ((x12242 : Nat) : Int)), (19, .int .u64 ((x12244 : Nat) : Int)), (107, .int .i64 ((x12248 : Nat) : Int)), (143, .int .u64 (((x12980 ^^^ x12984) : Nat) : Int)), (145, .int .u64 ((x12988 : Nat) : Int))]) (by kernel_rfl); clear hF13023
            refine pu_end hT 14 _ hF13025 [22, 0, 4, 6, 7, 13, 14, 15, 16, 17, 18, 19, 107, 23] (G := [(22, .int .u64 ((t12433 : Nat) : Int)), (0, .pointer (some ⟨pb1, 0, none⟩)), (4, .pointer (some ⟨b3, 0, none⟩)), (6, .pointer (some ⟨b5, 0, none⟩)), (7, .pointer (some ⟨b25, 0, none⟩)), (13, .int .u64 ((x12232 : Nat) : Int)), (14, .int .u64 ((x12234 : Nat) : Int)), (15, .int .u64 ((x12236 : Nat) : Int)), (16, .int .u64 ((x12238 : Nat) : Int)), (17, .int .u64 ((x12240 : Nat) : Int)), (18, .int .u64 ((x12242 : Nat) : Int)), (19, .int .u64 ((x12244 : Nat) : Int)), (107, .int .i64 ((x12248 : Nat) : Int)), (23, .int .u64 ((((((x12980 ^^^ x12984) ^^^ x12988) + (((x12232 &&& x12234) ^^^ (x12232 &&& x12236)) ^^^ (x12234 &&& x12236))) % 18446744073709551616) : Nat) : Int))]) (cs := [(x12980 ^^^ x12984) < 18446744073709551616, x12988 < 18446744073709551616, x12232 < 18446744073709551616, x12234 < 18446744073709551616, x12232 < 18446744073709551616, x12236 < 18446744073709551616, (x12232 &&& x12234) < 18446744073709551616, (x12232 &&& x12236) < 18446744073709551616, x12234 < 18446744073709551616, x12236 < 18446744073709551616, ((x12232 &&& x12234) ^^^ (x12232 &&& x12236)) < 18446744073709551616, (x12234 &&& x12236) < 18446744073709551616]) (by kernel_rfl) rfl (And.intro (lt_xor (n := 64) hh12983 hh12987) (And.intro hh12991 (And.intro hh12233 (And.intro hh12235 (And.intro hh12233 (And.intro hh12237 (And.intro (lt_and hh12233) (And.intro (lt_and hh12233) (And.intro hh12235 (And.intro hh12237 (And.intro (lt_xor (n := 64) (lt_and hh12233) (lt_and hh12233)) (And.intro (lt_and hh12235) trivial)))))))))))) ?_; clear hF13025 a13018; intro a13026 hF13027
            have hb12995 : t12992 < 18446744073709551616 := by rw [ht12993]; exact (Nat.mod_lt _ (by decide))
            have hF13028 : Fr 193 a13026 [(22, .int .u64 ((t12433 : Nat) : Int)), (0, .pointer (some ⟨pb1, 0, none⟩)), (4, .pointer (some ⟨b3, 0, none⟩)), (6, .pointer (some ⟨b5, 0, none⟩)), (7, .pointer (some ⟨b25, 0, none⟩)), (13, .int .u64 ((x12232 : Nat) : Int)), (14, .int .u64 ((x12234 : Nat) : Int)), (15, .int .u64 ((x12236 : Nat) : Int)), (16, .int .u64 ((x12238 : Nat) : Int)), (17, .int .u64 ((x12240 : Nat) : Int)), (18, .int .u64 ((x12242 : Nat) : Int)), (19, .int .u64 ((x12244 : Nat) : Int)), (107, .int .i64 ((x12248 : Nat) : Int)), (23, .int .u64 ((t12992 : Nat) : Int))] := hF13027.pick [22, 0, 4, 6, 7, 13, 14, 15, 16, 17, 18, 19, 107, 23] (by rw [ht12993]; kernel_rfl); clear hF13027
            refine hK12979 _ _ ?_
            refine wp_region_lit ?_
            refine pu_end hT 20 _ hF13028 [0, 4, 6, 7, 107, 13, 14, 15, 16, 17, 18, 19, 20] (G := [(0, .pointer (some ⟨pb1, 0, none⟩)), (4, .pointer (some ⟨b3, 0, none⟩)), (6, .pointer (some ⟨b5, 0, none⟩)), (7, .pointer (some ⟨b25, 0, none⟩)), (107, .int .i64 ((x12248 : Nat) : Int)), (13, .int .u64 ((((t12433 + t12992) % 18446744073709551616) : Nat) : Int)), (14, .int .u64 ((x12232 : Nat) : Int)), (15, .int .u64 ((x12234 : Nat) : Int)), (16, .int .u64 ((x12236 : Nat) : Int)), (17, .int .u64 ((((x12238 + t12433) % 18446744073709551616) : Nat) : Int)), (18, .int .u64 ((x12240 : Nat) : Int)), (19, .int .u64 ((x12242 : Nat) : Int)), (20, .int .u64 ((x12244 : Nat) : Int))]) (cs := []) (by kernel_rfl) rfl trivial ?_; clear hF13028 a13026; intro a13029 hF13030
            refine hK12410 _ _ ?_
            obtain ⟨g13032, h13031⟩ : ((((x12248 + 1) : Nat) : Int) ≤ 9223372036854775807) ∧ _ := gd_some h12994; clear h12994
            refine wp_region_lit ?_
            refine pu_end hT 2 _ hF13030 [0, 4, 6, 7, 13, 14, 15, 16, 17, 18, 19, 20, 107] (G := [(0, .pointer (some ⟨pb1, 0, none⟩)), (4, .pointer (some ⟨b3, 0, none⟩)), (6, .pointer (some ⟨b5, 0, none⟩)), (7, .pointer (some ⟨b25, 0, none⟩)), (13, .int .u64 ((((t12433 + t12992) % 18446744073709551616) : Nat) : Int)), (14, .int .u64 ((x12232 : Nat) : Int)), (15, .int .u64 ((x12234 : Nat) : Int)), (16, .int .u64 ((x12236 : Nat) : Int)), (17, .int .u64 ((((x12238 + t12433) % 18446744073709551616) : Nat) : Int)), (18, .int .u64 ((x12240 : Nat) : Int)), (19, .int .u64 ((x12242 : Nat) : Int)), (20, .int .u64 ((x12244 : Nat) : Int)), (107, .int .i64 (((x12248 + 1) : Nat) : Int))]) (cs := [-9223372036854775808 ≤ (((x12248 + 1) : Nat) : Int), (((x12248 + 1) : Nat) : Int) ≤ 9223372036854775807]) (by kernel_rfl) rfl (And.intro (by omega) (And.intro g13032 trivial)) ?_; clear hF13030 a13029; intro a13033 hF13034
            obtain rfl := Option.some.inj h13031
            exact hK12347 _ _ _ hy12346 ⟨((t12433 + t12992) % 18446744073709551616), x12232, x12234, x12236, ((x12238 + t12433) % 18446744073709551616), x12240, x12242, x12244, (x12248 + 1), rfl, hF13034.pick [0, 4, 6, 7, 13, 14, 15, 16, 17, 18, 19, 20, 107] (by kernel_rfl), hS13024.pick [0, 1, 2] (by decide) rfl, (Nat.mod_lt _ (by decide)), hh12233, hh12235, hh12237, (Nat.mod_lt _ (by decide)), hh12241, hh12243, hh12245⟩
        · clear h12354
          have hF13035 : Fr 193 a12358 [(0, .pointer (some ⟨pb1, 0, none⟩)), (4, .pointer (some ⟨b3, 0, none⟩)), (6, .pointer (some ⟨b5, 0, none⟩)), (7, .pointer (some ⟨b25, 0, none⟩)), (13, .int .u64 ((x12232 : Nat) : Int)), (14, .int .u64 ((x12234 : Nat) : Int)), (15, .int .u64 ((x12236 : Nat) : Int)), (16, .int .u64 ((x12238 : Nat) : Int)), (17, .int .u64 ((x12240 : Nat) : Int)), (18, .int .u64 ((x12242 : Nat) : Int)), (19, .int .u64 ((x12244 : Nat) : Int)), (20, .int .u64 ((x12246 : Nat) : Int)), (107, .int .i64 ((x12248 : Nat) : Int)), (108, .bool false)] := hF12359.pick [0, 4, 6, 7, 13, 14, 15, 16, 17, 18, 19, 20, 107, 108] (by rw [decide_eq_false hc12364]; kernel_rfl); clear hF12359
          refine condF hF13035 (by kernel_rfl) ?_
          refine wp_exit ?_
          obtain rfl := Option.some.inj h12365
          obtain rfl : _ = xj12013 := hy12346
          exact ⟨x12232, x12234, x12236, x12238, x12240, x12242, x12244, x12246, rfl, hF13035.pick [4, 6, 13, 14, 15, 16, 17, 18, 19, 20] (by kernel_rfl), hS12353.pick [0, 1] (by decide) rfl, hh12233, hh12235, hh12237, hh12239, hh12241, hh12243, hh12245, hh12247⟩
      · skip
        clear hx12014 hF11560 hS11530 
        rintro a13036 w13037 ⟨x11997, x11999, x12001, x12003, x12005, x12007, x12009, x12011, rfl, hF13038, hS13039, hh11998, hh12000, hh12002, hh12004, hh12006, hh12008, hh12010, hh12012⟩
        obtain ⟨xj13175, hx13176, h13177⟩ := bnd_some h12015; clear h12015
        refine seqJ (fun a W => ∃ (zs13171 : List Nat), zs13171 = xj13175 ∧ (Fr 193 a [(4, .pointer (some ⟨b3, 0, none⟩)), (6, .pointer (some ⟨b5, 0, none⟩))]) ∧ (Heap w [] W [.blk b3 26 (vs .u64 zs13171), .blk b5 26 (vs .u64 (List.replicate 8 0))]) ∧ (zs13171.length = 8) ∧ (LB 18446744073709551616 zs13171)) ?_ ?_
        · skip
          refine wp_seq_k (fun K13178 hK13179 => ?_)
          refine wp_region_lit ?_
          refine pu hT 8 _ hF13038 [4, 6, 172, 173, 174, 175, 176, 177, 178, 179] (G := [(4, .pointer (some ⟨b3, 0, none⟩)), (6, .pointer (some ⟨b5, 0, none⟩)), (172, .int .u64 ((x11997 : Nat) : Int)), (173, .int .u64 ((x11999 : Nat) : Int)), (174, .int .u64 ((x12001 : Nat) : Int)), (175, .int .u64 ((x12003 : Nat) : Int)), (176, .int .u64 ((x12005 : Nat) : Int)), (177, .int .u64 ((x12007 : Nat) : Int)), (178, .int .u64 ((x12009 : Nat) : Int)), (179, .int .u64 ((x12011 : Nat) : Int))]) (cs := []) (by kernel_rfl) trivial ?_; clear hF13038 a13036; intro a13180 hF13181
          refine wl (s_build (d := 180) (t := 26) (ps := [(0, .int .u64 ((x11997 : Nat) : Int)), (1, .int .u64 ((x11999 : Nat) : Int)), (2, .int .u64 ((x12001 : Nat) : Int)), (3, .int .u64 ((x12003 : Nat) : Int)), (4, .int .u64 ((x12005 : Nat) : Int)), (5, .int .u64 ((x12007 : Nat) : Int)), (6, .int .u64 ((x12009 : Nat) : Int)), (7, .int .u64 ((x12011 : Nat) : Int))]) (cs := (vs .u64 [x11997, x11999, x12001, x12003, x12005, x12007, x12009, x12011]).toArray) (by kernel_rfl) (by kernel_rfl) hF13181 ?_)
          rintro a13182 ha13184 hF13183; clear ha13184 hF13181 a13180
          have hF13185 := hF13183.pick [4, 6, 180] (G := [(4, .pointer (some ⟨b3, 0, none⟩)), (6, .pointer (some ⟨b5, 0, none⟩)), (180, .agg (vs .u64 [x11997, x11999, x12001, x12003, x12005, x12007, x12009, x12011]).toArray)]) (by kernel_rfl); clear hF13183
          refine pu_end hT 1 _ hF13185 [4, 6, 180, 181] (G := [(4, .pointer (some ⟨b3, 0, none⟩)), (6, .pointer (some ⟨b5, 0, none⟩)), (180, .agg (vs .u64 [x11997, x11999, x12001, x12003, x12005, x12007, x12009, x12011]).toArray), (181, .int .i64 0)]) (cs := []) (by kernel_rfl) rfl trivial ?_; clear hF13185 a13182; intro a13186 hF13187
          refine hK13179 _ _ ?_
          refine wp_block ?_
          refine loopR (F_sha512_block_l4 x11997 x11999 x12001 x12003 x12005 x12007 x12009 x12011) xj13175 (xs2, 0) hx13176 (fun s a W => ∃ (zs13243 : List Nat), ∃ (x13247 : Nat), (zs13243, x13247) = s ∧ (Fr 193 a [(4, .pointer (some ⟨b3, 0, none⟩)), (6, .pointer (some ⟨b5, 0, none⟩)), (180, .agg (vs .u64 [x11997, x11999, x12001, x12003, x12005, x12007, x12009, x12011]).toArray), (181, .int .i64 ((x13247 : Nat) : Int))]) ∧ (Heap w [] W [.blk b3 26 (vs .u64 zs13243), .blk b5 26 (vs .u64 (List.replicate 8 0))]) ∧ (zs13243.length = 8) ∧ (LB 18446744073709551616 zs13243)) ⟨xs2, 0, rfl, hF13187.pick [4, 6, 180, 181] (by kernel_rfl), hS13039.pick [0, 1] (by decide) rfl, pl2, pb2⟩ ?_
          clear hF13187 hS13039 hx13176
          rintro k13286 _ a13281 w13282 ⟨zs13243, x13247, rfl, hF13283, hS13284, hh13244, hh13245⟩ hit13280 K13279 hK13278
          obtain ⟨y13276, h13285, hy13277⟩ := iter_succ hit13280; clear hit13280
          unfold F_sha512_block_l4 at h13285; try dsimp only at h13285
          refine wp_seq_k (fun K13287 hK13288 => ?_)
          refine wp_region_lit ?_
          refine pu_end hT 1 _ hF13283 [4, 6, 180, 181, 182] (G := [(4, .pointer (some ⟨b3, 0, none⟩)), (6, .pointer (some ⟨b5, 0, none⟩)), (180, .agg (vs .u64 [x11997, x11999, x12001, x12003, x12005, x12007, x12009, x12011]).toArray), (181, .int .i64 ((x13247 : Nat) : Int)), (182, .bool ((decide (((x13247 : Nat) : Int) < 8))))]) (cs := []) (by kernel_rfl) rfl trivial ?_; clear hF13283 a13281; intro a13289 hF13290
          refine hK13288 _ _ ?_
          refine wp_seq_k (fun K13293 hK13294 => ?_)
          rcases (ite_some h13285 : ((((x13247 : Nat) : Int) < 8) ∧ _) ∨ (¬ (((x13247 : Nat) : Int) < 8) ∧ _)) with ⟨hc13295, h13296⟩ | ⟨hc13295, h13296⟩
          · clear h13285
            have hF13297 : Fr 193 a13289 [(4, .pointer (some ⟨b3, 0, none⟩)), (6, .pointer (some ⟨b5, 0, none⟩)), (180, .agg (vs .u64 [x11997, x11999, x12001, x12003, x12005, x12007, x12009, x12011]).toArray), (181, .int .i64 ((x13247 : Nat) : Int)), (182, .bool true)] := hF13290.pick [4, 6, 180, 181, 182] (by rw [decide_eq_true hc13295]; kernel_rfl); clear hF13290
            refine condT hF13297 (by kernel_rfl) ?_
            refine wp_skip ?_
            refine hK13294 _ _ ?_
            refine wp_seq_k (fun K13306 hK13307 => ?_)
            refine wp_block ?_
            refine wp_seq_k (fun K13308 hK13309 => ?_)
            obtain ⟨g13311, h13310⟩ : (x13247 < 8) ∧ _ := gd_some h13296; clear h13296
            obtain ⟨t13312, ht13313, h13314⟩ := ltb_some h13310; clear h13310; replace ht13313 : t13312 = ([x11997, x11999, x12001, x12003, x12005, x12007, x12009, x12011].getD x13247 0) := ht13313
            refine wp_region_lit ?_
            refine pu hT 1 _ hF13297 [4, 6, 180, 181, 183] (G := [(4, .pointer (some ⟨b3, 0, none⟩)), (6, .pointer (some ⟨b5, 0, none⟩)), (180, .agg (vs .u64 [x11997, x11999, x12001, x12003, x12005, x12007, x12009, x12011]).toArray), (181, .int .i64 ((x13247 : Nat) : Int)), (183, .int .i64 ((x13247 : Nat) : Int))]) (cs := []) (by kernel_rfl) trivial ?_; clear hF13297 a13289; intro a13316 hF13317
            refine wl (s_arrIdx hT (d := 184) (j := x13247) (m := 8) (k := .u64) (xs := [x11997, x11999, x12001, x12003, x12005, x12007, x12009, x12011]) (by kernel_rfl) hF13317 (by omega) (by have := (show ([x11997, x11999, x12001, x12003, x12005, x12007, x12009, x12011] : List Nat).length = 8 from rfl); omega) ?_)
            rintro a13318 ha13320 hF13319; clear ha13320 hF13317 a13316
            have hF13321 := hF13319.pick [4, 6, 180, 181, 183, 184] (G := [(4, .pointer (some ⟨b3, 0, none⟩)), (6, .pointer (some ⟨b5, 0, none⟩)), (180, .agg (vs .u64 [x11997, x11999, x12001, x12003, x12005, x12007, x12009, x12011]).toArray), (181, .int .i64 ((x13247 : Nat) : Int)), (183, .int .i64 ((x13247 : Nat) : Int)), (184, .int .u64 ((([x11997, x11999, x12001, x12003, x12005, x12007, x12009, x12011].getD x13247 0) : Nat) : Int))]) (by kernel_rfl); clear hF13319
            refine pu_end hT 2 _ hF13321 [4, 6, 180, 181, 24, 25] (G := [(4, .pointer (some ⟨b3, 0, none⟩)), (6, .pointer (some ⟨b5, 0, none⟩)), (180, .agg (vs .u64 [x11997, x11999, x12001, x12003, x12005, x12007, x12009, x12011]).toArray), (181, .int .i64 ((x13247 : Nat) : Int)), (24, .int .i64 ((x13247 : Nat) : Int)), (25, .int .u64 ((([x11997, x11999, x12001, x12003, x12005, x12007, x12009, x12011].getD x13247 0) : Nat) : Int))]) (cs := []) (by kernel_rfl) rfl trivial ?_; clear hF13321 a13318; intro a13322 hF13323
            have hb13315 : t13312 < 18446744073709551616 := by rw [ht13313]; exact ((LB.cons hh11998 (LB.cons hh12000 (LB.cons hh12002 (LB.cons hh12004 (LB.cons hh12006 (LB.cons hh12008 (LB.cons hh12010 (LB.cons hh12012 LB.nil)))))))).get (by decide) x13247)
            have hF13324 : Fr 193 a13322 [(4, .pointer (some ⟨b3, 0, none⟩)), (6, .pointer (some ⟨b5, 0, none⟩)), (180, .agg (vs .u64 [x11997, x11999, x12001, x12003, x12005, x12007, x12009, x12011]).toArray), (181, .int .i64 ((x13247 : Nat) : Int)), (24, .int .i64 ((x13247 : Nat) : Int)), (25, .int .u64 ((t13312 : Nat) : Int))] := hF13323.pick [4, 6, 180, 181, 24, 25] (by rw [ht13313]; kernel_rfl); clear hF13323
            refine hK13309 _ _ ?_
            refine wp_region_lit ?_
            refine pu hT 2 _ hF13324 [4, 6, 180, 181, 25, 185, 186] (G := [(4, .pointer (some ⟨b3, 0, none⟩)), (6, .pointer (some ⟨b5, 0, none⟩)), (180, .agg (vs .u64 [x11997, x11999, x12001, x12003, x12005, x12007, x12009, x12011]).toArray), (181, .int .i64 ((x13247 : Nat) : Int)), (25, .int .u64 ((t13312 : Nat) : Int)), (185, .int .i64 ((x13247 : Nat) : Int)), (186, .pointer (some ⟨b3, (0 + x13247), none⟩))]) (cs := [0 ≤ ((x13247 : Nat) : Int), ((x13247 : Nat) : Int) < 8]) (by kernel_rfl) (And.intro (by omega) (And.intro hc13295 trivial)) ?_; clear hF13324 a13322; intro a13325 hF13326
            refine wl (s_load hT (d := 187) (A := ⟨b3, (0 + x13247), none⟩) (v := .int .u64 (((zs13243.getD x13247 0) : Nat) : Int)) (by kernel_rfl) hF13326 (Cells.at (hS13284.blk 0 rfl).cells (vs_get .u64 zs13243 (i := x13247) (by have := hh13244; omega)) (by first | rfl | omega)) ?_)
            rintro a13327 ha13329 hF13328; clear ha13329 hF13326 a13325
            have hF13330 := hF13328.pick [4, 6, 180, 181, 25, 185, 187] (G := [(4, .pointer (some ⟨b3, 0, none⟩)), (6, .pointer (some ⟨b5, 0, none⟩)), (180, .agg (vs .u64 [x11997, x11999, x12001, x12003, x12005, x12007, x12009, x12011]).toArray), (181, .int .i64 ((x13247 : Nat) : Int)), (25, .int .u64 ((t13312 : Nat) : Int)), (185, .int .i64 ((x13247 : Nat) : Int)), (187, .int .u64 (((zs13243.getD x13247 0) : Nat) : Int))]) (by kernel_rfl); clear hF13328
            refine pu hT 3 _ hF13330 [4, 6, 180, 181, 189, 190] (G := [(4, .pointer (some ⟨b3, 0, none⟩)), (6, .pointer (some ⟨b5, 0, none⟩)), (180, .agg (vs .u64 [x11997, x11999, x12001, x12003, x12005, x12007, x12009, x12011]).toArray), (181, .int .i64 ((x13247 : Nat) : Int)), (189, .int .u64 (((((zs13243.getD x13247 0) + t13312) % 18446744073709551616) : Nat) : Int)), (190, .pointer (some ⟨b3, (0 + x13247), none⟩))]) (cs := [0 ≤ ((x13247 : Nat) : Int), ((x13247 : Nat) : Int) < 8]) (by kernel_rfl) (And.intro (by omega) (And.intro hc13295 trivial)) ?_; clear hF13330 a13327; intro a13331 hF13332
            refine wl (h_store hT (b := b3) (off := x13247) (p := ⟨b3, (0 + x13247), none⟩) (v := .int .u64 (((((zs13243.getD x13247 0) + t13312) % 18446744073709551616) : Nat) : Int)) (l' := vs .u64 (zs13243.set x13247 (((zs13243.getD x13247 0) + t13312) % 18446744073709551616))) (by kernel_rfl) hF13332 hS13284 0 rfl (by first | rfl | (congr 1; omega)) (by have := hh13244; simp only [zA, zS, zT, zD, zR, zC, zN, zV, zI] <;> omega) (by first | exact vs_set _ _ _ _ | exact vi_set _ _ _ | rfl) ?_)
            rintro a13333 w13334 ha13337 hF13338 hS13335 g13336; clear ha13337 hF13332 a13331 hS13284
            have hS13339 : Heap w [] w13334 [.blk b3 26 (vs .u64 (zs13243.set x13247 (((zs13243.getD x13247 0) + t13312) % 18446744073709551616))), .blk b5 26 (vs .u64 (List.replicate 8 0))] := hS13335; clear hS13335
            have hF13340 := hF13338.pick [4, 6, 180, 181] (G := [(4, .pointer (some ⟨b3, 0, none⟩)), (6, .pointer (some ⟨b5, 0, none⟩)), (180, .agg (vs .u64 [x11997, x11999, x12001, x12003, x12005, x12007, x12009, x12011]).toArray), (181, .int .i64 ((x13247 : Nat) : Int))]) (by kernel_rfl); clear hF13338
            refine wpList_nil ?_
            refine hK13307 _ _ ?_
            obtain ⟨g13342, h13341⟩ : ((((x13247 + 1) : Nat) : Int) ≤ 9223372036854775807) ∧ _ := gd_some h13314; clear h13314
            refine wp_region_lit ?_
            refine pu_end hT 2 _ hF13340 [4, 6, 180, 181] (G := [(4, .pointer (some ⟨b3, 0, none⟩)), (6, .pointer (some ⟨b5, 0, none⟩)), (180, .agg (vs .u64 [x11997, x11999, x12001, x12003, x12005, x12007, x12009, x12011]).toArray), (181, .int .i64 (((x13247 + 1) : Nat) : Int))]) (cs := [-9223372036854775808 ≤ (((x13247 + 1) : Nat) : Int), (((x13247 + 1) : Nat) : Int) ≤ 9223372036854775807]) (by kernel_rfl) rfl (And.intro (by omega) (And.intro g13342 trivial)) ?_; clear hF13340 a13333; intro a13343 hF13344
            obtain rfl := Option.some.inj h13341
            exact hK13278 _ _ _ hy13277 ⟨(zs13243.set x13247 (((zs13243.getD x13247 0) + t13312) % 18446744073709551616)), (x13247 + 1), rfl, hF13344.pick [4, 6, 180, 181] (by kernel_rfl), hS13339.pick [0, 1] (by decide) rfl, (len_set hh13244 x13247 (((zs13243.getD x13247 0) + t13312) % 18446744073709551616)), (hh13245.set (Nat.mod_lt _ (by decide)) x13247)⟩
          · clear h13285
            have hF13345 : Fr 193 a13289 [(4, .pointer (some ⟨b3, 0, none⟩)), (6, .pointer (some ⟨b5, 0, none⟩)), (180, .agg (vs .u64 [x11997, x11999, x12001, x12003, x12005, x12007, x12009, x12011]).toArray), (181, .int .i64 ((x13247 : Nat) : Int)), (182, .bool false)] := hF13290.pick [4, 6, 180, 181, 182] (by rw [decide_eq_false hc13295]; kernel_rfl); clear hF13290
            refine condF hF13345 (by kernel_rfl) ?_
            refine wp_exit ?_
            obtain rfl := Option.some.inj h13296
            obtain rfl : _ = xj13175 := hy13277
            exact ⟨zs13243, rfl, hF13345.pick [4, 6] (by kernel_rfl), hS13284.pick [0, 1] (by decide) rfl, hh13244, hh13245⟩
        · skip
          clear hx13176 hF13038 hS13039 
          rintro a13346 w13347 ⟨zs13171, rfl, hF13348, hS13349, hh13172, hh13173⟩
          refine wp_seq_k (fun K13351 hK13352 => ?_)
          refine wp_region_lit ?_
          refine wl (s_loadA hT (d := 192) (b := b3) (off := 0) (sz := 8) (l := vs .u64 zs13171) (by kernel_rfl) hF13348 (hS13349.blk 0 rfl).cells (by simp only [List.length_append, vs_length, vi_length, List.length_cons, List.length_nil, (hh13172 : zs13171.length = 8)]) ?_)
          rintro a13353 ha13355 hF13354; clear ha13355 hF13348 a13346
          have hF13356 := hF13354.pick [6, 192] (G := [(6, .pointer (some ⟨b5, 0, none⟩)), (192, .agg (vs .u64 zs13171).toArray)]) (by kernel_rfl); clear hF13354
          refine wl (h_storeV hT (b := b5) (l2 := vs .u64 zs13171) (sz := 8) (by kernel_rfl) hF13356 hS13349 1 rfl (by simp only [List.length_append, vs_length, vi_length, List.length_cons, List.length_nil, (hh13172 : zs13171.length = 8)]) (by simp only [List.length_append, vs_length, vi_length, List.length_cons, List.length_nil, (hh13172 : zs13171.length = 8), ((len_rep (α := Nat) 8 0) : (List.replicate 8 0).length = 8)]) (vs_one) ?_)
          rintro a13357 w13358 ha13361 hF13362 hS13359 g13360; clear ha13361 hF13356 a13353 hS13349
          have hS13363 : Heap w [] w13358 [.blk b3 26 (vs .u64 zs13171), .blk b5 26 (vs .u64 zs13171)] := hS13359; clear hS13359
          have hF13364 := hF13362.pick [6] (G := [(6, .pointer (some ⟨b5, 0, none⟩))]) (by kernel_rfl); clear hF13362
          refine wpList_nil ?_
          refine hK13352 _ _ ?_
          refine wp_ret ?_
          obtain rfl := Option.some.inj h13177
          refine retR1 (fn := Try.f45) (by first | exact .inl rfl | exact .inr rfl) hF13364 rfl (resC hT (t := 6) (ty := 26) (b := b5) (by kernel_rfl) (i := tr26) (by kernel_rfl) rfl (hS13363.blk 1 rfl) (show _ = 8 from by simp only [List.length_append, vs_length, vi_length, List.length_cons, List.length_nil, (hh13172 : zs13171.length = 8)])) ?_
          exact ⟨rfl, hh13172, hh13173, hS13363.pick [] (by decide) rfl⟩

noncomputable def F_sha512_Block (xs0 : List Nat) (xs1 : List Nat) : Option (List Nat × Nat) := if ((xs1.length : Nat) : Int) = 128 then (bnd (F_sha512_Rounds) fun (zs42 : List Nat) => bnd (F_sha512_block zs42 xs0 xs1) fun (zs75 : List Nat) => some (zs75, 0)) else (some ([0, 0, 0, 0, 0, 0, 0, 0], 1))
set_option maxHeartbeats 4000000 in
theorem W_sha512_Block (xs0 : List Nat) (pA1 : Option Addr) (pc1 : Nat) (xs1 : List Nat) (w : World) (pl0 : xs0.length = 8) (pb0 : LB 18446744073709551616 xs0) (pR1 : Rd w pA1 (vs .u8 xs1)) (pc_1 : xs1.length ≤ pc1) (pb1 : LB 256 xs1) (r0 : List Nat) (r1 : Nat) (h : F_sha512_Block xs0 xs1 = some (r0, r1)) :
    Calls Try.prog 24 [.agg (vs .u64 xs0).toArray, .slice pA1 xs1.length pc1].toArray w (Ret fun v w' => v = .tuple #[.agg (vs .u64 r0).toArray, .int .i64 ((r1 : Nat) : Int)] ∧ r0.length = 8 ∧ LB 18446744073709551616 r0 ∧ Heap w [] w' []) := by
  obtain ⟨r, hr0⟩ : ∃ r, r = (r0, r1) := ⟨_, rfl⟩; rw [← hr0] at h
  unfold F_sha512_Block at h
  refine enter Try.func24 rfl (n := 15) Try.ntmps24 (by simp) ?_
  intro a hF
  have hS := Heap.init w
  refine wp_seq_k (fun K1 hK2 => ?_)
  refine wp_region_lit ?_
  refine wl (h_alloc hT (d := 2) (T := 26) (l := vs .u64 xs0) (by kernel_rfl) hF hS ?_)
  rintro a7 w8 b3 hS9 g10 ha11 hF12; clear ha11 hF a hS
  have hS13 : Heap w [] w8 [.blk b3 26 (vs .u64 xs0)] := hS9; clear hS9
  have hF14 := hF12.pick [1, 2] (G := [(1, .slice pA1 xs1.length pc1), (2, .pointer (some ⟨b3, 0, none⟩))]) (by kernel_rfl); clear hF12
  refine wl (h_alloc hT (d := 4) (T := 26) (l := vs .u64 (List.replicate 8 0)) (by kernel_rfl) hF14 hS13 ?_)
  rintro a15 w16 b5 hS17 g18 ha19 hF20; clear ha19 hF14 a7 hS13
  have hS21 : Heap w [] w16 [.blk b5 26 (vs .u64 (List.replicate 8 0)), .blk b3 26 (vs .u64 xs0)] := hS17; clear hS17
  have hF22 := hF20.pick [1, 2, 4] (G := [(1, .slice pA1 xs1.length pc1), (2, .pointer (some ⟨b3, 0, none⟩)), (4, .pointer (some ⟨b5, 0, none⟩))]) (by kernel_rfl); clear hF20
  refine pu_end hT 1 _ hF22 [1, 2, 4] (G := [(1, .slice pA1 xs1.length pc1), (2, .pointer (some ⟨b3, 0, none⟩)), (4, .pointer (some ⟨b5, 0, none⟩))]) (cs := []) (by kernel_rfl) rfl trivial ?_; clear hF22 a15; intro a23 hF24
  refine hK2 _ _ ?_
  refine wp_seq_k (fun K31 hK32 => ?_)
  refine wp_seq_k (fun K33 hK34 => ?_)
  refine wp_region_lit ?_
  refine pu_end hT 3 _ hF24 [1, 2, 4, 9] (G := [(1, .slice pA1 xs1.length pc1), (2, .pointer (some ⟨b3, 0, none⟩)), (4, .pointer (some ⟨b5, 0, none⟩)), (9, .bool (!(decide (((xs1.length : Nat) : Int) = 128))))]) (cs := []) (by kernel_rfl) rfl trivial ?_; clear hF24 a23; intro a35 hF36
  refine hK34 _ _ ?_
  rcases (ite_some h : ((((xs1.length : Nat) : Int) = 128) ∧ _) ∨ (¬ (((xs1.length : Nat) : Int) = 128) ∧ _)) with ⟨hc37, h38⟩ | ⟨hc37, h38⟩
  · clear h
    have hF39 : Fr 15 a35 [(1, .slice pA1 xs1.length pc1), (2, .pointer (some ⟨b3, 0, none⟩)), (4, .pointer (some ⟨b5, 0, none⟩)), (9, .bool false)] := hF36.pick [1, 2, 4, 9] (by rw [decide_eq_true hc37]; kernel_rfl); clear hF36
    refine condF hF39 (by kernel_rfl) ?_
    refine wp_skip ?_
    refine hK32 _ _ ?_
    refine wp_seq_k (fun K40 hK41 => ?_)
    obtain ⟨zs42, hr44, h43⟩ := bnd_some h38; clear h38; replace hr44 : F_sha512_Rounds = some (zs42) := hr44
    refine wp_region_lit ?_
    refine wl (s_call (d := 11) (f := 16) (l := []) (by kernel_rfl) hF39 cl16 (W_sha512_Rounds _ zs42 hr44) ?_)
    rintro a49 w50 v51 ⟨rfl, hh45, hh46, hC52⟩ ha53 hF54; clear ha53 hF39 a35
    have hS55 : Heap w [] w50 [.blk b5 26 (vs .u64 (List.replicate 8 0)), .blk b3 26 (vs .u64 xs0)] := Heap.call hS21 hC52; clear hS21
    have hF56 := hF54.pick [1, 2, 4, 11] (G := [(1, .slice pA1 xs1.length pc1), (2, .pointer (some ⟨b3, 0, none⟩)), (4, .pointer (some ⟨b5, 0, none⟩)), (11, .agg (vs .u64 zs42).toArray)]) (by kernel_rfl); clear hF54
    refine wl (h_alloc hT (d := 6) (T := 24) (l := vs .u64 (List.replicate 80 0)) (by kernel_rfl) hF56 hS55 ?_)
    rintro a57 w58 b47 hS59 g60 ha61 hF62; clear ha61 hF56 a49 hS55
    have hS63 : Heap w [] w58 [.blk b47 24 (vs .u64 (List.replicate 80 0)), .blk b5 26 (vs .u64 (List.replicate 8 0)), .blk b3 26 (vs .u64 xs0)] := hS59; clear hS59
    have hF64 := hF62.pick [1, 2, 4, 11, 6] (G := [(1, .slice pA1 xs1.length pc1), (2, .pointer (some ⟨b3, 0, none⟩)), (4, .pointer (some ⟨b5, 0, none⟩)), (11, .agg (vs .u64 zs42).toArray), (6, .pointer (some ⟨b47, 0, none⟩))]) (by kernel_rfl); clear hF62
    refine wl (h_storeV hT (b := b47) (l2 := vs .u64 zs42) (sz := 80) (by kernel_rfl) hF64 hS63 0 rfl (by simp only [List.length_append, vs_length, vi_length, List.length_cons, List.length_nil, (hh45 : zs42.length = 80)]) (by simp only [List.length_append, vs_length, vi_length, List.length_cons, List.length_nil, (hh45 : zs42.length = 80), ((len_rep (α := Nat) 80 0) : (List.replicate 80 0).length = 80)]) (vs_one) ?_)
    rintro a65 w66 ha69 hF70 hS67 g68; clear ha69 hF64 a57 hS63
    have hS71 : Heap w [] w66 [.blk b47 24 (vs .u64 zs42), .blk b5 26 (vs .u64 (List.replicate 8 0)), .blk b3 26 (vs .u64 xs0)] := hS67; clear hS67
    have hF72 := hF70.pick [1, 2, 4, 6] (G := [(1, .slice pA1 xs1.length pc1), (2, .pointer (some ⟨b3, 0, none⟩)), (4, .pointer (some ⟨b5, 0, none⟩)), (6, .pointer (some ⟨b47, 0, none⟩))]) (by kernel_rfl); clear hF70
    refine wpList_nil ?_
    refine hK41 _ _ ?_
    refine wp_seq_k (fun K73 hK74 => ?_)
    obtain ⟨zs75, hr77, h76⟩ := bnd_some h43; clear h43; replace hr77 : F_sha512_block zs42 xs0 xs1 = some (zs75) := hr77
    refine wp_region_lit ?_
    refine wl (s_loadA hT (d := 12) (b := b3) (off := 0) (sz := 8) (l := vs .u64 xs0) (by kernel_rfl) hF72 (hS71.blk 2 rfl).cells (by simp only [List.length_append, vs_length, vi_length, List.length_cons, List.length_nil, (pl0 : xs0.length = 8)]) ?_)
    rintro a80 ha82 hF81; clear ha82 hF72 a65
    have hF83 := hF81.pick [1, 4, 6, 12] (G := [(1, .slice pA1 xs1.length pc1), (4, .pointer (some ⟨b5, 0, none⟩)), (6, .pointer (some ⟨b47, 0, none⟩)), (12, .agg (vs .u64 xs0).toArray)]) (by kernel_rfl); clear hF81
    refine pu hT 1 _ hF83 [4, 6, 12, 13] (G := [(4, .pointer (some ⟨b5, 0, none⟩)), (6, .pointer (some ⟨b47, 0, none⟩)), (12, .agg (vs .u64 xs0).toArray), (13, .slice pA1 xs1.length pc1)]) (cs := []) (by kernel_rfl) trivial ?_; clear hF83 a80; intro a84 hF85
    refine wl (s_call (d := 14) (f := 45) (l := [.pointer (some ⟨b47, 0, none⟩), .agg (vs .u64 xs0).toArray, .slice pA1 xs1.length pc1]) (by kernel_rfl) hF85 cl45 (W_sha512_block zs42 b47 xs0 pA1 pc1 xs1 _ hh45 hh46 (hS71.blk 0 rfl) pl0 pb0 (hS71.rd0 pR1) (by have := pc_1; have := (Eq.refl xs1.length); skip; have := (Eq.refl xs1.length); first | omega | (simp only [zA, zS, zT, zD, zR, zC, zN, zV, zI] <;> omega) | (simp only [zA, zS, zT, zD, zR, zC, zN, zV, zI] at * <;> omega)) pb1 zs75 hr77) ?_)
    rintro a86 w87 v88 ⟨rfl, hh78, hh79, hC89⟩ ha90 hF91; clear ha90 hF85 a84
    have hS92 : Heap w [] w87 [.blk b47 24 (vs .u64 zs42), .blk b5 26 (vs .u64 (List.replicate 8 0)), .blk b3 26 (vs .u64 xs0)] := Heap.call hS71 hC89; clear hS71
    have hF93 := hF91.pick [4, 14] (G := [(4, .pointer (some ⟨b5, 0, none⟩)), (14, .agg (vs .u64 zs75).toArray)]) (by kernel_rfl); clear hF91
    refine wl (h_storeV hT (b := b5) (l2 := vs .u64 zs75) (sz := 8) (by kernel_rfl) hF93 hS92 1 rfl (by simp only [List.length_append, vs_length, vi_length, List.length_cons, List.length_nil, (hh78 : zs75.length = 8)]) (by simp only [List.length_append, vs_length, vi_length, List.length_cons, List.length_nil, (hh78 : zs75.length = 8), ((len_rep (α := Nat) 8 0) : (List.replicate 8 0).length = 8)]) (vs_one) ?_)
    rintro a94 w95 ha98 hF99 hS96 g97; clear ha98 hF93 a86 hS92
    have hS100 : Heap w [] w95 [.blk b47 24 (vs .u64 zs42), .blk b5 26 (vs .u64 zs75), .blk b3 26 (vs .u64 xs0)] := hS96; clear hS96
    have hF101 := hF99.pick [4] (G := [(4, .pointer (some ⟨b5, 0, none⟩))]) (by kernel_rfl); clear hF99
    refine pu_end hT 1 _ hF101 [4, 5] (G := [(4, .pointer (some ⟨b5, 0, none⟩)), (5, .int .i64 0)]) (cs := []) (by kernel_rfl) rfl trivial ?_; clear hF101 a94; intro a102 hF103
    refine hK74 _ _ ?_
    refine wp_ret ?_
    obtain rfl := Option.some.inj h76
    obtain ⟨hr1, hs1⟩ := Prod.mk.inj hr0; clear hr0; obtain rfl := hr1
    obtain rfl := hs1
    refine retR2 (fn := Try.f24) (by first | exact .inl rfl | exact .inr rfl) hF103 rfl (resC hT (t := 4) (ty := 26) (b := b5) (by kernel_rfl) (i := tr26) (by kernel_rfl) rfl (hS100.blk 1 rfl) (show _ = 8 from by simp only [List.length_append, vs_length, vi_length, List.length_cons, List.length_nil, (hh78 : zs75.length = 8)])) (show ResAt Try.prog _ _ (.tmp 5) (.int .i64 0) from (show look [(4, .pointer (some ⟨b5, 0, none⟩)), (5, .int .i64 0)] 5 = some (.int .i64 0) by kernel_rfl)) ?_
    exact ⟨rfl, hh78, hh79, hS100.pick [] (by decide) rfl⟩
  · clear h
    have hF104 : Fr 15 a35 [(1, .slice pA1 xs1.length pc1), (2, .pointer (some ⟨b3, 0, none⟩)), (4, .pointer (some ⟨b5, 0, none⟩)), (9, .bool true)] := hF36.pick [1, 2, 4, 9] (by rw [decide_eq_false hc37]; kernel_rfl); clear hF36
    refine condT hF104 (by kernel_rfl) ?_
    refine wp_seq_k (fun K105 hK106 => ?_)
    refine wp_region_lit ?_
    refine wl (s_build (d := 10) (t := 26) (ps := []) (cs := (vs .u64 [0, 0, 0, 0, 0, 0, 0, 0]).toArray) (by kernel_rfl) (by kernel_rfl) hF104 ?_)
    rintro a107 ha109 hF108; clear ha109 hF104 a35
    have hF110 := hF108.pick [4, 10] (G := [(4, .pointer (some ⟨b5, 0, none⟩)), (10, .agg (vs .u64 [0, 0, 0, 0, 0, 0, 0, 0]).toArray)]) (by kernel_rfl); clear hF108
    refine wl (h_storeV hT (b := b5) (l2 := vs .u64 [0, 0, 0, 0, 0, 0, 0, 0]) (sz := 8) (by kernel_rfl) hF110 hS21 0 rfl (by simp only [List.length_append, vs_length, vi_length, List.length_cons, List.length_nil, ((show ([0, 0, 0, 0, 0, 0, 0, 0] : List Nat).length = 8 from rfl) : [0, 0, 0, 0, 0, 0, 0, 0].length = 8)]) (by simp only [List.length_append, vs_length, vi_length, List.length_cons, List.length_nil, ((show ([0, 0, 0, 0, 0, 0, 0, 0] : List Nat).length = 8 from rfl) : [0, 0, 0, 0, 0, 0, 0, 0].length = 8), ((len_rep (α := Nat) 8 0) : (List.replicate 8 0).length = 8)]) (vs_one) ?_)
    rintro a111 w112 ha115 hF116 hS113 g114; clear ha115 hF110 a107 hS21
    have hS117 : Heap w [] w112 [.blk b5 26 (vs .u64 [0, 0, 0, 0, 0, 0, 0, 0]), .blk b3 26 (vs .u64 xs0)] := hS113; clear hS113
    have hF118 := hF116.pick [4] (G := [(4, .pointer (some ⟨b5, 0, none⟩))]) (by kernel_rfl); clear hF116
    refine pu_end hT 1 _ hF118 [4, 5] (G := [(4, .pointer (some ⟨b5, 0, none⟩)), (5, .int .i64 1)]) (cs := []) (by kernel_rfl) rfl trivial ?_; clear hF118 a111; intro a119 hF120
    refine hK106 _ _ ?_
    refine wp_ret ?_
    obtain rfl := Option.some.inj h38
    obtain ⟨hr1, hs1⟩ := Prod.mk.inj hr0; clear hr0; obtain rfl := hr1
    obtain rfl := hs1
    refine retR2 (fn := Try.f24) (by first | exact .inl rfl | exact .inr rfl) hF120 rfl (resC hT (t := 4) (ty := 26) (b := b5) (by kernel_rfl) (i := tr26) (by kernel_rfl) rfl (hS117.blk 0 rfl) (show _ = 8 from by simp only [List.length_append, vs_length, vi_length, List.length_cons, List.length_nil, ((show ([0, 0, 0, 0, 0, 0, 0, 0] : List Nat).length = 8 from rfl) : [0, 0, 0, 0, 0, 0, 0, 0].length = 8)])) (show ResAt Try.prog _ _ (.tmp 5) (.int .i64 1) from (show look [(4, .pointer (some ⟨b5, 0, none⟩)), (5, .int .i64 1)] 5 = some (.int .i64 1) by kernel_rfl)) ?_
    exact ⟨rfl, (show ([0, 0, 0, 0, 0, 0, 0, 0] : List Nat).length = 8 from rfl), (LB.cons (by decide) (LB.cons (by decide) (LB.cons (by decide) (LB.cons (by decide) (LB.cons (by decide) (LB.cons (by decide) (LB.cons (by decide) (LB.cons (by decide) LB.nil)))))))), hS117.pick [] (by decide) rfl⟩

end Go.Proofs.Ytddphjmcoolinaa
