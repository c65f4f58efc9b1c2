/- Walks of functions, printed by auto.py. -/
import Derived.Test.YtddphjmcoolinaaVe
set_option linter.unusedVariables false
set_option linter.unusedSimpArgs false
set_option maxRecDepth 100000
namespace Go.Proofs.Ytddphjmcoolinaa
open Go.Proofs Go.RowKit
noncomputable def F_casemateref14_Pad_l1 : (List Nat) → Option ((List Nat) ⊕ (List Nat)) := fun (zs224 : List Nat) => gd ((((zs224.length + 16) : Nat) : Int) ≤ 9223372036854775807) (if ((((zs224.length + 16) % 128) : Nat) : Int) = 0 then (some (.inr zs224)) else (gd ((zs224.length + 1) * 1 ≤ 140737488355328) (some (.inl (zs224 ++ [0])))))
noncomputable def F_casemateref14_Pad_l2 : (List Nat × Nat) → Option ((List Nat × Nat) ⊕ (List Nat)) := fun (zs526, x529) => if ((x529 : Nat) : Int) < 8 then (gd ((zs526.length + 1) * 1 ≤ 140737488355328) (gd ((((x529 + 1) : Nat) : Int) ≤ 9223372036854775807) (some (.inl ((zs526 ++ [0]), (x529 + 1)))))) else (some (.inr zs526))
noncomputable def F_casemateref14_Pad_l3 (xs0 : List Nat) : (List Nat × Int) → Option ((List Nat × Int) ⊕ (List Nat)) := fun (zs965, x968) => if 0 ≤ x968 then (gd (-9223372036854775808 ≤ (8 * x968)) (gd ((8 * x968) ≤ 9223372036854775807) (gd ((zs965.length + 1) * 1 ≤ 140737488355328) (gd (-9223372036854775808 ≤ (x968 - 1)) (gd ((x968 - 1) ≤ 9223372036854775807) (some (.inl ((zs965 ++ [(((8 * xs0.length) / 2 ^ (((8 * x968) % 18446744073709551616).toNat)) % 256)]), (x968 - 1))))))))) else (some (.inr zs965))
noncomputable def F_casemateref14_Pad (xs0 : List Nat) : Option (List Nat) := gd ((0 + xs0.length) * 1 ≤ 140737488355328) (gd ((xs0.length + 1) * 1 ≤ 140737488355328) (bnd (run F_casemateref14_Pad_l1 (xs0 ++ [128]) : Option (List Nat)) (fun (zs168 : List Nat) => gd ((((8 * xs0.length) : Nat) : Int) ≤ 9223372036854775807) (gd ((8 * xs0.length) < 18446744073709551616) (bnd (run F_casemateref14_Pad_l2 (zs168, 0) : Option (List Nat)) (fun (zs454 : List Nat) => bnd (run (F_casemateref14_Pad_l3 xs0) (zs454, (7 : Int)) : Option (List Nat)) (fun (zs840 : List Nat) => some zs840)))))))
set_option maxHeartbeats 4000000 in
theorem W_casemateref14_Pad (pA0 : Option Addr) (pc0 : Nat) (xs0 : List Nat) (w : World) (pR0 : Rd w pA0 (vs .u8 xs0)) (pc_0 : xs0.length ≤ pc0) (pb0 : LB 256 xs0) (r : List Nat) (h : F_casemateref14_Pad xs0 = some r) :
    Calls Try.prog 23 [.slice pA0 xs0.length pc0].toArray w (Ret fun v w' => ∃ (A_0 : Option Addr), ∃ (c_1 : Nat), v = .slice A_0 r.length c_1 ∧ LB 256 r ∧ Heap w [] w' [.row 5 1 A_0 r.length c_1 (vs .u8 r)]) := by
  unfold F_casemateref14_Pad at h
  refine enter Try.func23 rfl (n := 46) Try.ntmps23 (by simp) ?_
  intro a hF
  have hS := Heap.init w
  refine wp_seq_k (fun K1 hK2 => ?_)
  refine wp_region_lit ?_
  refine pu_end hT 1 _ hF [0] (G := [(0, .slice pA0 xs0.length pc0)]) (cs := []) (by kernel_rfl) rfl trivial ?_; clear hF a; intro a3 hF4
  refine hK2 _ _ ?_
  refine wp_seq_k (fun K5 hK6 => ?_)
  refine wp_region_lit ?_
  refine pu_end hT 1 _ hF4 [0, 3] (G := [(0, .slice pA0 xs0.length pc0), (3, .slice none 0 0)]) (cs := []) (by kernel_rfl) rfl trivial ?_; clear hF4 a3; intro a7 hF8
  refine hK6 _ _ ?_
  refine wp_seq_k (fun K9 hK10 => ?_)
  obtain ⟨g12, h11⟩ : ((0 + xs0.length) * 1 ≤ 140737488355328) ∧ _ := gd_some h; clear h
  refine wp_region_lit ?_
  refine pu hT 2 _ hF8 [0, 3, 7, 8] (G := [(0, .slice pA0 xs0.length pc0), (3, .slice none 0 0), (7, .slice none 0 0), (8, .slice pA0 xs0.length pc0)]) (cs := []) (by kernel_rfl) trivial ?_; clear hF8 a7; intro a17 hF18
  have hS19 : Heap w [] w [.row 5 1 none 0 0 (vs .u8 [])] := Heap.row0 hS 5 1; clear hS
  refine wl (h_app hT (d := 9) (T := 5) (i := tr5) (m := 0) (c := 0) (m2 := xs0.length) (c2 := pc0) (A2 := pA0) (l2 := vs .u8 xs0) (n' := xs0.length) (l' := vs .u8 xs0) (by kernel_rfl) hF18 hS19 0 rfl rfl (by decide) (hS19.rd0 pR0) (by show _ = xs0.length * 1; have := (Eq.refl xs0.length); simp only [zA, zS, zT, zD, zR, zC, zN, zV, zI] <;> omega) vs_one (by show (0 + xs0.length) * 1 ≤ 140737488355328; first | exact g12 | omega) (by decide) (by have := (show ([] : List Nat).length = 0 from rfl); have := (Eq.refl xs0.length); first | omega | (simp only [zA, zS, zT, zD, zR, zC, zN, zV, zI] <;> omega) | (simp only [zA, zS, zT, zD, zR, zC, zN, zV, zI] at * <;> omega)) (by first | rfl | exact (vs_append _ _ _).symm | exact (vi_append _ _).symm | simp [vs, vi]) ?_)
  rintro a20 w21 A13 c14 hS22 g23 ha24 hF25; clear ha24 hF18 a17 hS19
  have hS26 : Heap w [] w21 [.row 5 1 A13 xs0.length c14 (vs .u8 xs0)] := hS22; clear hS22
  have hF27 := hF25.pick [0, 3, 9] (G := [(0, .slice pA0 xs0.length pc0), (3, .slice none 0 0), (9, .slice A13 xs0.length c14)]) (by kernel_rfl); clear hF25
  refine pu_end hT 1 _ hF27 [0, 3] (G := [(0, .slice pA0 xs0.length pc0), (3, .slice A13 xs0.length c14)]) (cs := []) (by kernel_rfl) rfl trivial ?_; clear hF27 a20; intro a28 hF29
  refine hK10 _ _ ?_
  refine wp_seq_k (fun K30 hK31 => ?_)
  obtain ⟨g35, h34⟩ : ((xs0.length + 1) * 1 ≤ 140737488355328) ∧ _ := gd_some h11; clear h11
  refine wp_region_lit ?_
  refine pu hT 1 _ hF29 [0, 3, 10] (G := [(0, .slice pA0 xs0.length pc0), (3, .slice A13 xs0.length c14), (10, .slice A13 xs0.length c14)]) (cs := []) (by kernel_rfl) trivial ?_; clear hF29 a28; intro a39 hF40
  refine wl (h_lit hT (d := 11) (T := 5) (l := vs .u8 [128]) (by kernel_rfl) hF40 hS26 (by simp [maxLen]) ?_)
  rintro a41 w42 A32 hS43 g44 ha45 hF46; clear ha45 hF40 a39 hS26
  have hS47 : Heap w [] w42 [.row 5 1 A32 1 1 (vs .u8 [128]), .row 5 1 A13 xs0.length c14 (vs .u8 xs0)] := hS43; clear hS43
  have hF48 := hF46.pick [0, 3, 10, 11] (G := [(0, .slice pA0 xs0.length pc0), (3, .slice A13 xs0.length c14), (10, .slice A13 xs0.length c14), (11, .slice A32 1 1)]) (by kernel_rfl); clear hF46
  refine wl (h_app hT (d := 12) (T := 5) (i := tr5) (m := xs0.length) (c := c14) (m2 := 1) (c2 := 1) (A2 := A32) (l2 := vs .u8 [128]) (n' := (xs0 ++ [128]).length) (l' := vs .u8 (xs0 ++ [128])) (by kernel_rfl) hF48 hS47 1 rfl rfl (by decide) (hS47.own 0 rfl).rd (by show _ = 1 * 1; have := (show ([128] : List Nat).length = 1 from rfl); simp only [zA, zS, zT, zD, zR, zC, zN, zV, zI] <;> omega) vs_one (by show (xs0.length + 1) * 1 ≤ 140737488355328; first | exact g35 | omega) (by decide) (by have := (Eq.refl xs0.length); have := (show ([128] : List Nat).length = 1 from rfl); first | omega | (simp only [zA, zS, zT, zD, zR, zC, zN, zV, zI] <;> omega) | (simp only [zA, zS, zT, zD, zR, zC, zN, zV, zI] at * <;> omega)) (by first | rfl | exact (vs_append _ _ _).symm | exact (vi_append _ _).symm | simp [vs, vi]) ?_)
  rintro a49 w50 A36 c37 hS51 g52 ha53 hF54; clear ha53 hF48 a41 hS47
  have hS55 : Heap w [] w50 [.row 5 1 A32 1 1 (vs .u8 [128]), .row 5 1 A36 ((xs0 ++ [128]).length) c37 (vs .u8 (xs0 ++ [128]))] := hS51; clear hS51
  have hF56 := hF54.pick [0, 3, 12] (G := [(0, .slice pA0 xs0.length pc0), (3, .slice A13 xs0.length c14), (12, .slice A36 ((xs0 ++ [128]).length) c37)]) (by kernel_rfl); clear hF54
  refine pu_end hT 1 _ hF56 [0, 3] (G := [(0, .slice pA0 xs0.length pc0), (3, .slice A36 ((xs0 ++ [128]).length) c37)]) (cs := []) (by kernel_rfl) rfl trivial ?_; clear hF56 a49; intro a57 hF58
  refine hK31 _ _ ?_
  obtain ⟨xj170, hx171, h172⟩ := bnd_some h34; clear h34
  refine seqJ (fun a W => ∃ (zs168 : List Nat), ∃ (A166 : Option Addr), ∃ (c167 : Nat), zs168 = xj170 ∧ (Fr 46 a [(0, .slice pA0 xs0.length pc0), (3, .slice A166 zs168.length c167)]) ∧ (Heap w [] W [.row 5 1 A166 zs168.length c167 (vs .u8 zs168)]) ∧ (LB 256 zs168)) ?_ ?_
  · skip
    refine wp_block ?_
    refine loopR F_casemateref14_Pad_l1 xj170 (xs0 ++ [128]) hx171 (fun s a W => ∃ (zs224 : List Nat), ∃ (A222 : Option Addr), ∃ (c223 : Nat), zs224 = s ∧ (Fr 46 a [(0, .slice pA0 xs0.length pc0), (3, .slice A222 zs224.length c223)]) ∧ (Heap w [] W [.row 5 1 A222 zs224.length c223 (vs .u8 zs224)]) ∧ (LB 256 zs224)) ⟨(xs0 ++ [128]), A36, c37, rfl, hF58.pick [0, 3] (by kernel_rfl), hS55.pick [1] (by decide) rfl, (pb0.app (LB.cons (by decide) LB.nil))⟩ ?_
    clear hF58 hS55 hx171
    rintro k257 _ a252 w253 ⟨zs224, A222, c223, rfl, hF254, hS255, hh225⟩ hit251 K250 hK249
    obtain ⟨y247, h256, hy248⟩ := iter_succ hit251; clear hit251
    unfold F_casemateref14_Pad_l1 at h256; try dsimp only at h256
    refine wp_seq_k (fun K264 hK265 => ?_)
    refine wp_seq_k (fun K266 hK267 => ?_)
    obtain ⟨g269, h268⟩ : ((((zs224.length + 16) : Nat) : Int) ≤ 9223372036854775807) ∧ _ := gd_some h256; clear h256
    refine wp_region_lit ?_
    refine pu_end hT 5 _ hF254 [0, 3, 17] (G := [(0, .slice pA0 xs0.length pc0), (3, .slice A222 zs224.length c223), (17, .bool (!(decide (((((zs224.length + 16) % 128) : Nat) : Int) = 0))))]) (cs := [-9223372036854775808 ≤ (((zs224.length + 16) : Nat) : Int), (((zs224.length + 16) : Nat) : Int) ≤ 9223372036854775807, 0 ≤ (((zs224.length + 16) : Nat) : Int), 0 < (128 : Int)]) (by kernel_rfl) rfl (And.intro (by omega) (And.intro g269 (And.intro (by omega) (And.intro (by decide) trivial)))) ?_; clear hF254 a252; intro a270 hF271
    refine hK267 _ _ ?_
    rcases (ite_some h268 : ((((((zs224.length + 16) % 128) : Nat) : Int) = 0) ∧ _) ∨ (¬ (((((zs224.length + 16) % 128) : Nat) : Int) = 0) ∧ _)) with ⟨hc272, h273⟩ | ⟨hc272, h273⟩
    · clear h268
      have hF274 : Fr 46 a270 [(0, .slice pA0 xs0.length pc0), (3, .slice A222 zs224.length c223), (17, .bool false)] := hF271.pick [0, 3, 17] (by rw [decide_eq_true hc272]; kernel_rfl); clear hF271
      refine condF hF274 (by kernel_rfl) ?_
      refine wp_exit ?_
      obtain rfl := Option.some.inj h273
      obtain rfl : _ = xj170 := hy248
      exact ⟨zs224, A222, c223, rfl, hF274.pick [0, 3] (by kernel_rfl), hS255.pick [0] (by decide) rfl, hh225⟩
    · clear h268
      have hF275 : Fr 46 a270 [(0, .slice pA0 xs0.length pc0), (3, .slice A222 zs224.length c223), (17, .bool true)] := hF271.pick [0, 3, 17] (by rw [decide_eq_false hc272]; kernel_rfl); clear hF271
      refine condT hF275 (by kernel_rfl) ?_
      refine wp_skip ?_
      refine hK265 _ _ ?_
      refine wp_block ?_
      obtain ⟨g279, h278⟩ : ((zs224.length + 1) * 1 ≤ 140737488355328) ∧ _ := gd_some h273; clear h273
      refine wp_region_lit ?_
      refine pu hT 1 _ hF275 [0, 3, 18] (G := [(0, .slice pA0 xs0.length pc0), (3, .slice A222 zs224.length c223), (18, .slice A222 zs224.length c223)]) (cs := []) (by kernel_rfl) trivial ?_; clear hF275 a270; intro a283 hF284
      refine wl (h_lit hT (d := 19) (T := 5) (l := vs .u8 [0]) (by kernel_rfl) hF284 hS255 (by simp [maxLen]) ?_)
      rintro a285 w286 A276 hS287 g288 ha289 hF290; clear ha289 hF284 a283 hS255
      have hS291 : Heap w [] w286 [.row 5 1 A276 1 1 (vs .u8 [0]), .row 5 1 A222 zs224.length c223 (vs .u8 zs224)] := hS287; clear hS287
      have hF292 := hF290.pick [0, 3, 18, 19] (G := [(0, .slice pA0 xs0.length pc0), (3, .slice A222 zs224.length c223), (18, .slice A222 zs224.length c223), (19, .slice A276 1 1)]) (by kernel_rfl); clear hF290
      refine wl (h_app hT (d := 20) (T := 5) (i := tr5) (m := zs224.length) (c := c223) (m2 := 1) (c2 := 1) (A2 := A276) (l2 := vs .u8 [0]) (n' := (zs224 ++ [0]).length) (l' := vs .u8 (zs224 ++ [0])) (by kernel_rfl) hF292 hS291 1 rfl rfl (by decide) (hS291.own 0 rfl).rd (by show _ = 1 * 1; have := (show ([0] : List Nat).length = 1 from rfl); simp only [zA, zS, zT, zD, zR, zC, zN, zV, zI] <;> omega) vs_one (by show (zs224.length + 1) * 1 ≤ 140737488355328; first | exact g279 | omega) (by decide) (by have := (Eq.refl zs224.length); have := (show ([0] : List Nat).length = 1 from rfl); first | omega | (simp only [zA, zS, zT, zD, zR, zC, zN, zV, zI] <;> omega) | (simp only [zA, zS, zT, zD, zR, zC, zN, zV, zI] at * <;> omega)) (by first | rfl | exact (vs_append _ _ _).symm | exact (vi_append _ _).symm | simp [vs, vi]) ?_)
      rintro a293 w294 A280 c281 hS295 g296 ha297 hF298; clear ha297 hF292 a285 hS291
      have hS299 : Heap w [] w294 [.row 5 1 A276 1 1 (vs .u8 [0]), .row 5 1 A280 ((zs224 ++ [0]).length) c281 (vs .u8 (zs224 ++ [0]))] := hS295; clear hS295
      have hF300 := hF298.pick [0, 3, 20] (G := [(0, .slice pA0 xs0.length pc0), (3, .slice A222 zs224.length c223), (20, .slice A280 ((zs224 ++ [0]).length) c281)]) (by kernel_rfl); clear hF298
      refine pu_end hT 1 _ hF300 [0, 3] (G := [(0, .slice pA0 xs0.length pc0), (3, .slice A280 ((zs224 ++ [0]).length) c281)]) (cs := []) (by kernel_rfl) rfl trivial ?_; clear hF300 a293; intro a301 hF302
      obtain rfl := Option.some.inj h278
      exact hK249 _ _ _ hy248 ⟨(zs224 ++ [0]), A280, c281, rfl, hF302.pick [0, 3] (by kernel_rfl), hS299.pick [1] (by decide) rfl, (hh225.app (LB.cons (by decide) LB.nil))⟩
  · skip
    clear hx171 hF58 hS55 
    rintro a303 w304 ⟨zs168, A166, c167, rfl, hF305, hS306, hh169⟩
    refine wp_seq_k (fun K308 hK309 => ?_)
    obtain ⟨g311, h310⟩ : ((((8 * xs0.length) : Nat) : Int) ≤ 9223372036854775807) ∧ _ := gd_some h172; clear h172
    obtain ⟨g313, h312⟩ : ((8 * xs0.length) < 18446744073709551616) ∧ _ := gd_some h310; clear h310
    refine wp_region_lit ?_
    refine pu_end hT 5 _ hF305 [3, 4] (G := [(3, .slice A166 zs168.length c167), (4, .int .u64 (((8 * xs0.length) : Nat) : Int))]) (cs := [-9223372036854775808 ≤ (((8 * xs0.length) : Nat) : Int), (((8 * xs0.length) : Nat) : Int) ≤ 9223372036854775807, (8 * xs0.length) < 18446744073709551616]) (by kernel_rfl) rfl (And.intro (Int.le_trans (by decide) (Int.natCast_nonneg _)) (And.intro g311 (And.intro g313 trivial))) ?_; clear hF305 a303; intro a314 hF315
    refine hK309 _ _ ?_
    obtain ⟨xj457, hx458, h459⟩ := bnd_some h312; clear h312
    refine seqJ (fun a W => ∃ (zs454 : List Nat), ∃ (A452 : Option Addr), ∃ (c453 : Nat), zs454 = xj457 ∧ (Fr 46 a [(3, .slice A452 zs454.length c453), (4, .int .u64 (((8 * xs0.length) : Nat) : Int))]) ∧ (Heap w [] W [.row 5 1 A452 zs454.length c453 (vs .u8 zs454)]) ∧ (LB 256 zs454) ∧ ((8 * xs0.length) < 18446744073709551616)) ?_ ?_
    · skip
      refine wp_seq_k (fun K460 hK461 => ?_)
      refine wp_region_lit ?_
      refine pu_end hT 1 _ hF315 [3, 4, 5] (G := [(3, .slice A166 zs168.length c167), (4, .int .u64 (((8 * xs0.length) : Nat) : Int)), (5, .int .i64 0)]) (cs := []) (by kernel_rfl) rfl trivial ?_; clear hF315 a314; intro a462 hF463
      refine hK461 _ _ ?_
      refine wp_block ?_
      refine loopR F_casemateref14_Pad_l2 xj457 (zs168, 0) hx458 (fun s a W => ∃ (zs526 : List Nat), ∃ (x529 : Nat), ∃ (A524 : Option Addr), ∃ (c525 : Nat), (zs526, x529) = s ∧ (Fr 46 a [(3, .slice A524 zs526.length c525), (4, .int .u64 (((8 * xs0.length) : Nat) : Int)), (5, .int .i64 ((x529 : Nat) : Int))]) ∧ (Heap w [] W [.row 5 1 A524 zs526.length c525 (vs .u8 zs526)]) ∧ (LB 256 zs526) ∧ ((8 * xs0.length) < 18446744073709551616)) ⟨zs168, 0, A166, c167, rfl, hF463.pick [3, 4, 5] (by kernel_rfl), hS306.pick [0] (by decide) rfl, hh169, g313⟩ ?_
      clear hF463 hS306 hx458
      rintro k568 _ a563 w564 ⟨zs526, x529, A524, c525, rfl, hF565, hS566, hh527, hh528⟩ hit562 K561 hK560
      obtain ⟨y558, h567, hy559⟩ := iter_succ hit562; clear hit562
      unfold F_casemateref14_Pad_l2 at h567; try dsimp only at h567
      refine wp_seq_k (fun K573 hK574 => ?_)
      refine wp_seq_k (fun K575 hK576 => ?_)
      refine wp_region_lit ?_
      refine pu_end hT 2 _ hF565 [3, 4, 5, 26] (G := [(3, .slice A524 zs526.length c525), (4, .int .u64 (((8 * xs0.length) : Nat) : Int)), (5, .int .i64 ((x529 : Nat) : Int)), (26, .bool ((decide (((x529 : Nat) : Int) < 8))))]) (cs := []) (by kernel_rfl) rfl trivial ?_; clear hF565 a563; intro a577 hF578
      refine hK576 _ _ ?_
      rcases (ite_some h567 : ((((x529 : Nat) : Int) < 8) ∧ _) ∨ (¬ (((x529 : Nat) : Int) < 8) ∧ _)) with ⟨hc579, h580⟩ | ⟨hc579, h580⟩
      · clear h567
        have hF581 : Fr 46 a577 [(3, .slice A524 zs526.length c525), (4, .int .u64 (((8 * xs0.length) : Nat) : Int)), (5, .int .i64 ((x529 : Nat) : Int)), (26, .bool true)] := hF578.pick [3, 4, 5, 26] (by rw [decide_eq_true hc579]; kernel_rfl); clear hF578
        refine condT hF581 (by kernel_rfl) ?_
        refine wp_skip ?_
        refine hK574 _ _ ?_
        refine wp_seq_k (fun K589 hK590 => ?_)
        refine wp_block ?_
        obtain ⟨g594, h593⟩ : ((zs526.length + 1) * 1 ≤ 140737488355328) ∧ _ := gd_some h580; clear h580
        refine wp_region_lit ?_
        refine pu hT 1 _ hF581 [3, 4, 5, 29] (G := [(3, .slice A524 zs526.length c525), (4, .int .u64 (((8 * xs0.length) : Nat) : Int)), (5, .int .i64 ((x529 : Nat) : Int)), (29, .slice A524 zs526.length c525)]) (cs := []) (by kernel_rfl) trivial ?_; clear hF581 a577; intro a598 hF599
        refine wl (h_lit hT (d := 30) (T := 5) (l := vs .u8 [0]) (by kernel_rfl) hF599 hS566 (by simp [maxLen]) ?_)
        rintro a600 w601 A591 hS602 g603 ha604 hF605; clear ha604 hF599 a598 hS566
        have hS606 : Heap w [] w601 [.row 5 1 A591 1 1 (vs .u8 [0]), .row 5 1 A524 zs526.length c525 (vs .u8 zs526)] := hS602; clear hS602
        have hF607 := hF605.pick [3, 4, 5, 29, 30] (G := [(3, .slice A524 zs526.length c525), (4, .int .u64 (((8 * xs0.length) : Nat) : Int)), (5, .int .i64 ((x529 : Nat) : Int)), (29, .slice A524 zs526.length c525), (30, .slice A591 1 1)]) (by kernel_rfl); clear hF605
        refine wl (h_app hT (d := 31) (T := 5) (i := tr5) (m := zs526.length) (c := c525) (m2 := 1) (c2 := 1) (A2 := A591) (l2 := vs .u8 [0]) (n' := (zs526 ++ [0]).length) (l' := vs .u8 (zs526 ++ [0])) (by kernel_rfl) hF607 hS606 1 rfl rfl (by decide) (hS606.own 0 rfl).rd (by show _ = 1 * 1; have := (show ([0] : List Nat).length = 1 from rfl); simp only [zA, zS, zT, zD, zR, zC, zN, zV, zI] <;> omega) vs_one (by show (zs526.length + 1) * 1 ≤ 140737488355328; first | exact g594 | omega) (by decide) (by have := (Eq.refl zs526.length); have := (show ([0] : List Nat).length = 1 from rfl); first | omega | (simp only [zA, zS, zT, zD, zR, zC, zN, zV, zI] <;> omega) | (simp only [zA, zS, zT, zD, zR, zC, zN, zV, zI] at * <;> omega)) (by first | rfl | exact (vs_append _ _ _).symm | exact (vi_append _ _).symm | simp [vs, vi]) ?_)
        rintro a608 w609 A595 c596 hS610 g611 ha612 hF613; clear ha612 hF607 a600 hS606
        have hS614 : Heap w [] w609 [.row 5 1 A591 1 1 (vs .u8 [0]), .row 5 1 A595 ((zs526 ++ [0]).length) c596 (vs .u8 (zs526 ++ [0]))] := hS610; clear hS610
        have hF615 := hF613.pick [3, 4, 5, 31] (G := [(3, .slice A524 zs526.length c525), (4, .int .u64 (((8 * xs0.length) : Nat) : Int)), (5, .int .i64 ((x529 : Nat) : Int)), (31, .slice A595 ((zs526 ++ [0]).length) c596)]) (by kernel_rfl); clear hF613
        refine pu_end hT 1 _ hF615 [4, 5, 3] (G := [(4, .int .u64 (((8 * xs0.length) : Nat) : Int)), (5, .int .i64 ((x529 : Nat) : Int)), (3, .slice A595 ((zs526 ++ [0]).length) c596)]) (cs := []) (by kernel_rfl) rfl trivial ?_; clear hF615 a608; intro a616 hF617
        refine hK590 _ _ ?_
        obtain ⟨g619, h618⟩ : ((((x529 + 1) : Nat) : Int) ≤ 9223372036854775807) ∧ _ := gd_some h593; clear h593
        refine wp_region_lit ?_
        refine pu_end hT 3 _ hF617 [4, 3, 5] (G := [(4, .int .u64 (((8 * xs0.length) : Nat) : Int)), (3, .slice A595 ((zs526 ++ [0]).length) c596), (5, .int .i64 (((x529 + 1) : Nat) : Int))]) (cs := [-9223372036854775808 ≤ (((x529 + 1) : Nat) : Int), (((x529 + 1) : Nat) : Int) ≤ 9223372036854775807]) (by kernel_rfl) rfl (And.intro (by omega) (And.intro g619 trivial)) ?_; clear hF617 a616; intro a620 hF621
        obtain rfl := Option.some.inj h618
        exact hK560 _ _ _ hy559 ⟨(zs526 ++ [0]), (x529 + 1), A595, c596, rfl, hF621.pick [3, 4, 5] (by kernel_rfl), hS614.pick [1] (by decide) rfl, (hh527.app (LB.cons (by decide) LB.nil)), hh528⟩
      · clear h567
        have hF622 : Fr 46 a577 [(3, .slice A524 zs526.length c525), (4, .int .u64 (((8 * xs0.length) : Nat) : Int)), (5, .int .i64 ((x529 : Nat) : Int)), (26, .bool false)] := hF578.pick [3, 4, 5, 26] (by rw [decide_eq_false hc579]; kernel_rfl); clear hF578
        refine condF hF622 (by kernel_rfl) ?_
        refine wp_exit ?_
        obtain rfl := Option.some.inj h580
        obtain rfl : _ = xj457 := hy559
        exact ⟨zs526, A524, c525, rfl, hF622.pick [3, 4] (by kernel_rfl), hS566.pick [0] (by decide) rfl, hh527, hh528⟩
    · skip
      clear hx458 hF315 hS306 
      rintro a623 w624 ⟨zs454, A452, c453, rfl, hF625, hS626, hh455, hh456⟩
      obtain ⟨xj842, hx843, h844⟩ := bnd_some h459; clear h459
      refine seqJ (fun a W => ∃ (zs840 : List Nat), ∃ (A838 : Option Addr), ∃ (c839 : Nat), zs840 = xj842 ∧ (Fr 46 a [(3, .slice A838 zs840.length c839)]) ∧ (Heap w [] W [.row 5 1 A838 zs840.length c839 (vs .u8 zs840)]) ∧ (LB 256 zs840)) ?_ ?_
      · skip
        refine wp_seq_k (fun K845 hK846 => ?_)
        refine wp_region_lit ?_
        refine pu_end hT 1 _ hF625 [3, 4, 6] (G := [(3, .slice A452 zs454.length c453), (4, .int .u64 (((8 * xs0.length) : Nat) : Int)), (6, .int .i64 7)]) (cs := []) (by kernel_rfl) rfl trivial ?_; clear hF625 a623; intro a847 hF848
        refine hK846 _ _ ?_
        refine wp_block ?_
        refine loopR (F_casemateref14_Pad_l3 xs0) xj842 (zs454, (7 : Int)) hx843 (fun s a W => ∃ (zs965 : List Nat), ∃ (x968 : Int), ∃ (A963 : Option Addr), ∃ (c964 : Nat), (zs965, x968) = s ∧ (Fr 46 a [(3, .slice A963 zs965.length c964), (4, .int .u64 (((8 * xs0.length) : Nat) : Int)), (6, .int .i64 x968)]) ∧ (Heap w [] W [.row 5 1 A963 zs965.length c964 (vs .u8 zs965)]) ∧ (LB 256 zs965) ∧ ((8 * xs0.length) < 18446744073709551616)) ⟨zs454, (7 : Int), A452, c453, rfl, hF848.pick [3, 4, 6] (by kernel_rfl), hS626.pick [0] (by decide) rfl, hh455, hh456⟩ ?_
        clear hF848 hS626 hx843
        rintro k1017 _ a1012 w1013 ⟨zs965, x968, A963, c964, rfl, hF1014, hS1015, hh966, hh967⟩ hit1011 K1010 hK1009
        obtain ⟨y1007, h1016, hy1008⟩ := iter_succ hit1011; clear hit1011
        unfold F_casemateref14_Pad_l3 at h1016; try dsimp only at h1016
        refine wp_seq_k (fun K1022 hK1023 => ?_)
        refine wp_seq_k (fun K1024 hK1025 => ?_)
        refine wp_region_lit ?_
        refine pu_end hT 2 _ hF1014 [3, 4, 6, 33] (G := [(3, .slice A963 zs965.length c964), (4, .int .u64 (((8 * xs0.length) : Nat) : Int)), (6, .int .i64 x968), (33, .bool ((decide (0 ≤ x968))))]) (cs := []) (by kernel_rfl) rfl trivial ?_; clear hF1014 a1012; intro a1026 hF1027
        refine hK1025 _ _ ?_
        rcases (ite_some h1016 : ((0 ≤ x968) ∧ _) ∨ (¬ (0 ≤ x968) ∧ _)) with ⟨hc1028, h1029⟩ | ⟨hc1028, h1029⟩
        · clear h1016
          have hF1030 : Fr 46 a1026 [(3, .slice A963 zs965.length c964), (4, .int .u64 (((8 * xs0.length) : Nat) : Int)), (6, .int .i64 x968), (33, .bool true)] := hF1027.pick [3, 4, 6, 33] (by rw [decide_eq_true hc1028]; kernel_rfl); clear hF1027
          refine condT hF1030 (by kernel_rfl) ?_
          refine wp_skip ?_
          refine hK1023 _ _ ?_
          refine wp_seq_k (fun K1042 hK1043 => ?_)
          refine wp_block ?_
          obtain ⟨g1045, h1044⟩ : (-9223372036854775808 ≤ (8 * x968)) ∧ _ := gd_some h1029; clear h1029
          obtain ⟨g1047, h1046⟩ : ((8 * x968) ≤ 9223372036854775807) ∧ _ := gd_some h1044; clear h1044
          obtain ⟨g1051, h1050⟩ : ((zs965.length + 1) * 1 ≤ 140737488355328) ∧ _ := gd_some h1046; clear h1046
          refine wp_region_lit ?_
          refine pu hT 4 _ hF1030 [3, 4, 6, 36, 37, 39] (G := [(3, .slice A963 zs965.length c964), (4, .int .u64 (((8 * xs0.length) : Nat) : Int)), (6, .int .i64 x968), (36, .slice A963 zs965.length c964), (37, .int .u64 (((8 * xs0.length) : Nat) : Int)), (39, .int .i64 (8 * x968))]) (cs := [-9223372036854775808 ≤ (8 * x968), (8 * x968) ≤ 9223372036854775807]) (by kernel_rfl) (And.intro g1045 (And.intro g1047 trivial)) ?_; clear hF1030 a1026; intro a1055 hF1056
          refine wl (s_conv64 hT (d := 40) (x := (8 * x968)) (y := ((8 * x968) % 18446744073709551616).toNat) (by kernel_rfl) hF1056 (by omega) ?_)
          rintro a1057 ha1059 hF1058; clear ha1059 hF1056 a1055
          have hF1060 := hF1058.pick [3, 4, 6, 36, 37, 40] (G := [(3, .slice A963 zs965.length c964), (4, .int .u64 (((8 * xs0.length) : Nat) : Int)), (6, .int .i64 x968), (36, .slice A963 zs965.length c964), (37, .int .u64 (((8 * xs0.length) : Nat) : Int)), (40, .int .u64 ((((8 * x968) % 18446744073709551616).toNat : Nat) : Int))]) (by kernel_rfl); clear hF1058
          refine pu hT 2 _ hF1060 [3, 4, 6, 36, 42] (G := [(3, .slice A963 zs965.length c964), (4, .int .u64 (((8 * xs0.length) : Nat) : Int)), (6, .int .i64 x968), (36, .slice A963 zs965.length c964), (42, .int .u8 (((((8 * xs0.length) / 2 ^ (((8 * x968) % 18446744073709551616).toNat)) % 256) : Nat) : Int))]) (cs := [(8 * xs0.length) < 18446744073709551616]) (by kernel_rfl) (And.intro hh967 trivial) ?_; clear hF1060 a1057; intro a1061 hF1062
          refine wl (h_lit hT (d := 43) (T := 5) (l := vs .u8 [(((8 * xs0.length) / 2 ^ (((8 * x968) % 18446744073709551616).toNat)) % 256)]) (by kernel_rfl) hF1062 hS1015 (by simp [maxLen]) ?_)
          rintro a1063 w1064 A1048 hS1065 g1066 ha1067 hF1068; clear ha1067 hF1062 a1061 hS1015
          have hS1069 : Heap w [] w1064 [.row 5 1 A1048 1 1 (vs .u8 [(((8 * xs0.length) / 2 ^ (((8 * x968) % 18446744073709551616).toNat)) % 256)]), .row 5 1 A963 zs965.length c964 (vs .u8 zs965)] := hS1065; clear hS1065
          have hF1070 := hF1068.pick [3, 4, 6, 36, 43] (G := [(3, .slice A963 zs965.length c964), (4, .int .u64 (((8 * xs0.length) : Nat) : Int)), (6, .int .i64 x968), (36, .slice A963 zs965.length c964), (43, .slice A1048 1 1)]) (by kernel_rfl); clear hF1068
          refine wl (h_app hT (d := 44) (T := 5) (i := tr5) (m := zs965.length) (c := c964) (m2 := 1) (c2 := 1) (A2 := A1048) (l2 := vs .u8 [(((8 * xs0.length) / 2 ^ (((8 * x968) % 18446744073709551616).toNat)) % 256)]) (n' := (zs965 ++ [(((8 * xs0.length) / 2 ^ (((8 * x968) % 18446744073709551616).toNat)) % 256)]).length) (l' := vs .u8 (zs965 ++ [(((8 * xs0.length) / 2 ^ (((8 * x968) % 18446744073709551616).toNat)) % 256)])) (by kernel_rfl) hF1070 hS1069 1 rfl rfl (by decide) (hS1069.own 0 rfl).rd (by show _ = 1 * 1; have := (show ([(((8 * xs0.length) / 2 ^ (((8 * x968) % 18446744073709551616).toNat)) % 256)] : List Nat).length = 1 from rfl); simp only [zA, zS, zT, zD, zR, zC, zN, zV, zI] <;> omega) vs_one (by show (zs965.length + 1) * 1 ≤ 140737488355328; first | exact g1051 | omega) (by decide) (by have := (Eq.refl zs965.length); have := (show ([(((8 * xs0.length) / 2 ^ (((8 * x968) % 18446744073709551616).toNat)) % 256)] : List Nat).length = 1 from rfl); first | omega | (simp only [zA, zS, zT, zD, zR, zC, zN, zV, zI] <;> omega) | (simp only [zA, zS, zT, zD, zR, zC, zN, zV, zI] at * <;> omega)) (by first | rfl | exact (vs_append _ _ _).symm | exact (vi_append _ _).symm | simp [vs, vi]) ?_)
          rintro a1071 w1072 A1052 c1053 hS1073 g1074 ha1075 hF1076; clear ha1075 hF1070 a1063 hS1069
          have hS1077 : Heap w [] w1072 [.row 5 1 A1048 1 1 (vs .u8 [(((8 * xs0.length) / 2 ^ (((8 * x968) % 18446744073709551616).toNat)) % 256)]), .row 5 1 A1052 ((zs965 ++ [(((8 * xs0.length) / 2 ^ (((8 * x968) % 18446744073709551616).toNat)) % 256)]).length) c1053 (vs .u8 (zs965 ++ [(((8 * xs0.length) / 2 ^ (((8 * x968) % 18446744073709551616).toNat)) % 256)]))] := hS1073; clear hS1073
          have hF1078 := hF1076.pick [3, 4, 6, 44] (G := [(3, .slice A963 zs965.length c964), (4, .int .u64 (((8 * xs0.length) : Nat) : Int)), (6, .int .i64 x968), (44, .slice A1052 ((zs965 ++ [(((8 * xs0.length) / 2 ^ (((8 * x968) % 18446744073709551616).toNat)) % 256)]).length) c1053)]) (by kernel_rfl); clear hF1076
          refine pu_end hT 1 _ hF1078 [4, 6, 3] (G := [(4, .int .u64 (((8 * xs0.length) : Nat) : Int)), (6, .int .i64 x968), (3, .slice A1052 ((zs965 ++ [(((8 * xs0.length) / 2 ^ (((8 * x968) % 18446744073709551616).toNat)) % 256)]).length) c1053)]) (cs := []) (by kernel_rfl) rfl trivial ?_; clear hF1078 a1071; intro a1079 hF1080
          refine hK1043 _ _ ?_
          obtain ⟨g1082, h1081⟩ : (-9223372036854775808 ≤ (x968 - 1)) ∧ _ := gd_some h1050; clear h1050
          obtain ⟨g1084, h1083⟩ : ((x968 - 1) ≤ 9223372036854775807) ∧ _ := gd_some h1081; clear h1081
          refine wp_region_lit ?_
          refine pu_end hT 3 _ hF1080 [4, 3, 6] (G := [(4, .int .u64 (((8 * xs0.length) : Nat) : Int)), (3, .slice A1052 ((zs965 ++ [(((8 * xs0.length) / 2 ^ (((8 * x968) % 18446744073709551616).toNat)) % 256)]).length) c1053), (6, .int .i64 (x968 - 1))]) (cs := [-9223372036854775808 ≤ (x968 - 1), (x968 - 1) ≤ 9223372036854775807]) (by kernel_rfl) rfl (And.intro g1082 (And.intro g1084 trivial)) ?_; clear hF1080 a1079; intro a1085 hF1086
          obtain rfl := Option.some.inj h1083
          exact hK1009 _ _ _ hy1008 ⟨(zs965 ++ [(((8 * xs0.length) / 2 ^ (((8 * x968) % 18446744073709551616).toNat)) % 256)]), (x968 - 1), A1052, c1053, rfl, hF1086.pick [3, 4, 6] (by kernel_rfl), hS1077.pick [1] (by decide) rfl, (hh966.app (LB.cons (Nat.mod_lt _ (by decide)) LB.nil)), hh967⟩
        · clear h1016
          have hF1087 : Fr 46 a1026 [(3, .slice A963 zs965.length c964), (4, .int .u64 (((8 * xs0.length) : Nat) : Int)), (6, .int .i64 x968), (33, .bool false)] := hF1027.pick [3, 4, 6, 33] (by rw [decide_eq_false hc1028]; kernel_rfl); clear hF1027
          refine condF hF1087 (by kernel_rfl) ?_
          refine wp_exit ?_
          obtain rfl := Option.some.inj h1029
          obtain rfl : _ = xj842 := hy1008
          exact ⟨zs965, A963, c964, rfl, hF1087.pick [3] (by kernel_rfl), hS1015.pick [0] (by decide) rfl, hh966⟩
      · skip
        clear hx843 hF625 hS626 
        rintro a1088 w1089 ⟨zs840, A838, c839, rfl, hF1090, hS1091, hh841⟩
        refine wp_seq_k (fun K1093 hK1094 => ?_)
        refine wp_region_lit ?_
        refine pu_end hT 2 _ hF1090 [2] (G := [(2, .slice A838 zs840.length c839)]) (cs := []) (by kernel_rfl) rfl trivial ?_; clear hF1090 a1088; intro a1095 hF1096
        refine hK1094 _ _ ?_
        refine wp_ret ?_
        obtain rfl := Option.some.inj h844
        refine ret1 hF1096 rfl (v := .slice A838 zs840.length c839) (by kernel_rfl) ?_
        exact ⟨A838, c839, rfl, hh841, hS1091.pick [0] (by decide) rfl⟩

noncomputable def F_casemateref14_Block_l2 (x7279 : Nat) (xs2 : List Nat) : (List Nat × Nat) → Option ((List Nat × Nat) ⊕ (List Nat × Nat)) := fun (zs9753, x9756) => if ((x9756 : Nat) : Int) < 8 then (gd ((((8 * x7279) : Nat) : Int) ≤ 9223372036854775807) (gd (((((8 * x7279) + x9756) : Nat) : Int) ≤ 9223372036854775807) (gd (((((8 * x7279) + x9756) : Nat) : Int) < ((xs2.length : Nat) : Int)) (gd ((((x9756 + 1) : Nat) : Int) ≤ 9223372036854775807) (some (.inl ((zs9753.set x7279 (((zs9753.getD x7279 0) * 2 ^ 8 % 18446744073709551616) ||| (xs2.getD ((8 * x7279) + x9756) 0))), (x9756 + 1)))))))) else (some (.inr (zs9753, x9756)))
noncomputable def F_casemateref14_Block_l1 (xs2 : List Nat) : (List Nat × Nat) → Option ((List Nat × Nat) ⊕ (List Nat)) := fun (zs7276, x7279) => if ((x7279 : Nat) : Int) < 80 then (bnd (bnd (if ((x7279 : Nat) : Int) < 16 then (bnd (run (F_casemateref14_Block_l2 x7279 xs2) (zs7276, 0) : Option (List Nat × Nat)) (fun (zs9680, x9683) => some (.inr zs9680))) else (some (.inl ())) : Option (Unit ⊕ (List Nat))) (sel (fun (_ : Unit) => gd (-9223372036854775808 ≤ (((x7279 : Nat) : Int) - 15)) (gd ((((x7279 : Nat) : Int) - 15) ≤ 9223372036854775807) (gd (0 ≤ (((x7279 : Nat) : Int) - 15)) (gd ((((x7279 : Nat) : Int) - 15) < 80) (bnd (F_casemateref14_rotr (zs7276.getD (x7279 - 15) 0) 1) fun (x10137 : Nat) => bnd (F_casemateref14_rotr (zs7276.getD (x7279 - 15) 0) 8) fun (x10141 : Nat) => ltb (((x10137 ^^^ x10141) ^^^ ((zs7276.getD (x7279 - 15) 0) / 2 ^ 7))) fun (t10145 : Nat) => gd (-9223372036854775808 ≤ (((x7279 : Nat) : Int) - 2)) (gd ((((x7279 : Nat) : Int) - 2) ≤ 9223372036854775807) (gd (0 ≤ (((x7279 : Nat) : Int) - 2)) (gd ((((x7279 : Nat) : Int) - 2) < 80) (bnd (F_casemateref14_rotr (zs7276.getD (x7279 - 2) 0) 19) fun (x10492 : Nat) => bnd (F_casemateref14_rotr (zs7276.getD (x7279 - 2) 0) 61) fun (x10496 : Nat) => ltb (((x10492 ^^^ x10496) ^^^ ((zs7276.getD (x7279 - 2) 0) / 2 ^ 6))) fun (t10500 : Nat) => gd (-9223372036854775808 ≤ (((x7279 : Nat) : Int) - 16)) (gd ((((x7279 : Nat) : Int) - 16) ≤ 9223372036854775807) (gd (0 ≤ (((x7279 : Nat) : Int) - 16)) (gd ((((x7279 : Nat) : Int) - 16) < 80) (gd (-9223372036854775808 ≤ (((x7279 : Nat) : Int) - 7)) (gd ((((x7279 : Nat) : Int) - 7) ≤ 9223372036854775807) (gd (0 ≤ (((x7279 : Nat) : Int) - 7)) (gd ((((x7279 : Nat) : Int) - 7) < 80) (some (zs7276.set x7279 (((((((zs7276.getD (x7279 - 16) 0) + t10145) % 18446744073709551616) + (zs7276.getD (x7279 - 7) 0)) % 18446744073709551616) + t10500) % 18446744073709551616)))))))))))))))))))) : Option (List Nat)) (fun (zs9243 : List Nat) => gd ((((x7279 + 1) : Nat) : Int) ≤ 9223372036854775807) (some (.inl (zs9243, (x7279 + 1)))))) else (some (.inr zs7276))
noncomputable def F_casemateref14_Block_l3 (xs0 : List Nat) (zs4965 : List Nat) : (List Nat × Nat) → Option ((List Nat × Nat) ⊕ (List Nat)) := fun (zs11659, x11662) => if ((x11662 : Nat) : Int) < 80 then (ltb ((((zs11659.getD 4 0) &&& (zs11659.getD 5 0)) ^^^ ((18446744073709551616 - 1 - (zs11659.getD 4 0)) &&& (zs11659.getD 6 0)))) fun (t11789 : Nat) => ltb (((((zs11659.getD 0 0) &&& (zs11659.getD 1 0)) ^^^ ((zs11659.getD 0 0) &&& (zs11659.getD 2 0))) ^^^ ((zs11659.getD 1 0) &&& (zs11659.getD 2 0)))) fun (t11822 : Nat) => bnd (F_casemateref14_three (zs11659.getD 4 0) 14 18 41) fun (x11867 : Nat) => ltb ((((((((((zs11659.getD 7 0) + x11867) % 18446744073709551616) + t11789) % 18446744073709551616) + (xs0.getD x11662 0)) % 18446744073709551616) + (zs4965.getD x11662 0)) % 18446744073709551616)) fun (t11871 : Nat) => bnd (F_casemateref14_three (zs11659.getD 0 0) 28 34 39) fun (x12192 : Nat) => gd ((((x11662 + 1) : Nat) : Int) ≤ 9223372036854775807) (some (.inl ([((t11871 + ((x12192 + t11822) % 18446744073709551616)) % 18446744073709551616), (zs11659.getD 0 0), (zs11659.getD 1 0), (zs11659.getD 2 0), (((zs11659.getD 3 0) + t11871) % 18446744073709551616), (zs11659.getD 4 0), (zs11659.getD 5 0), (zs11659.getD 6 0)], (x11662 + 1))))) else (some (.inr zs11659))
noncomputable def F_casemateref14_Block_l4 (xs1 : List Nat) : (List Nat × Nat) → Option ((List Nat × Nat) ⊕ (List Nat)) := fun (zs12403, x12406) => if ((x12406 : Nat) : Int) < 8 then (gd ((((x12406 + 1) : Nat) : Int) ≤ 9223372036854775807) (some (.inl ((zs12403.set x12406 (((zs12403.getD x12406 0) + (xs1.getD x12406 0)) % 18446744073709551616)), (x12406 + 1))))) else (some (.inr zs12403))
noncomputable def F_casemateref14_Block (xs0 : List Nat) (xs1 : List Nat) (xs2 : List Nat) : Option (List Nat) := bnd (run (F_casemateref14_Block_l1 xs2) ((List.replicate 80 0), 0) : Option (List Nat)) (fun (zs4965 : List Nat) => bnd (run (F_casemateref14_Block_l3 xs0 zs4965) (xs1, 0) : Option (List Nat)) (fun (zs11496 : List Nat) => bnd (run (F_casemateref14_Block_l4 xs1) (zs11496, 0) : Option (List Nat)) (fun (zs12358 : List Nat) => some zs12358)))
set_option maxHeartbeats 4000000 in
theorem W_casemateref14_Block (xs0 : List Nat) (xs1 : List Nat) (pA2 : Option Addr) (pc2 : Nat) (xs2 : List Nat) (w : World) (pl0 : xs0.length = 80) (pb0 : LB 18446744073709551616 xs0) (pl1 : xs1.length = 8) (pb1 : LB 18446744073709551616 xs1) (pR2 : Rd w pA2 (vs .u8 xs2)) (pc_2 : xs2.length ≤ pc2) (pb2 : LB 256 xs2) (r : List Nat) (h : F_casemateref14_Block xs0 xs1 xs2 = some r) :
    Calls Try.prog 25 [.agg (vs .u64 xs0).toArray, .agg (vs .u64 xs1).toArray, .slice pA2 xs2.length pc2].toArray w (Ret fun v w' => v = .agg (vs .u64 r).toArray ∧ r.length = 8 ∧ LB 18446744073709551616 r ∧ Heap w [] w' []) := by
  unfold F_casemateref14_Block at h
  refine enter Try.func25 rfl (n := 182) Try.ntmps25 (by simp) ?_
  intro a hF
  have hS := Heap.init w
  refine wp_seq_k (fun K1 hK2 => ?_)
  refine wp_region_lit ?_
  refine wl (h_alloc hT (d := 3) (T := 24) (l := vs .u64 xs0) (by kernel_rfl) hF hS ?_)
  rintro a9 w10 b3 hS11 g12 ha13 hF14; clear ha13 hF a hS
  have hS15 : Heap w [] w10 [.blk b3 24 (vs .u64 xs0)] := hS11; clear hS11
  have hF16 := hF14.pick [1, 2, 3] (G := [(1, .agg (vs .u64 xs1).toArray), (2, .slice pA2 xs2.length pc2), (3, .pointer (some ⟨b3, 0, none⟩))]) (by kernel_rfl); clear hF14
  refine wl (h_alloc hT (d := 4) (T := 26) (l := vs .u64 xs1) (by kernel_rfl) hF16 hS15 ?_)
  rintro a17 w18 b5 hS19 g20 ha21 hF22; clear ha21 hF16 a9 hS15
  have hS23 : Heap w [] w18 [.blk b5 26 (vs .u64 xs1), .blk b3 24 (vs .u64 xs0)] := hS19; clear hS19
  have hF24 := hF22.pick [2, 3, 4] (G := [(2, .slice pA2 xs2.length pc2), (3, .pointer (some ⟨b3, 0, none⟩)), (4, .pointer (some ⟨b5, 0, none⟩))]) (by kernel_rfl); clear hF22
  refine wl (h_alloc hT (d := 6) (T := 26) (l := vs .u64 (List.replicate 8 0)) (by kernel_rfl) hF24 hS23 ?_)
  rintro a25 w26 b7 hS27 g28 ha29 hF30; clear ha29 hF24 a17 hS23
  have hS31 : Heap w [] w26 [.blk b7 26 (vs .u64 (List.replicate 8 0)), .blk b5 26 (vs .u64 xs1), .blk b3 24 (vs .u64 xs0)] := hS27; clear hS27
  have hF32 := hF30.pick [2, 3, 4, 6] (G := [(2, .slice pA2 xs2.length pc2), (3, .pointer (some ⟨b3, 0, none⟩)), (4, .pointer (some ⟨b5, 0, none⟩)), (6, .pointer (some ⟨b7, 0, none⟩))]) (by kernel_rfl); clear hF30
  refine wpList_nil ?_
  refine hK2 _ _ ?_
  refine wp_seq_k (fun K33 hK34 => ?_)
  refine wp_region_lit ?_
  refine wl (h_alloc hT (d := 7) (T := 24) (l := vs .u64 (List.replicate 80 0)) (by kernel_rfl) hF32 hS31 ?_)
  rintro a37 w38 b35 hS39 g40 ha41 hF42; clear ha41 hF32 a25 hS31
  have hS43 : Heap w [] w38 [.blk b35 24 (vs .u64 (List.replicate 80 0)), .blk b7 26 (vs .u64 (List.replicate 8 0)), .blk b5 26 (vs .u64 xs1), .blk b3 24 (vs .u64 xs0)] := hS39; clear hS39
  have hF44 := hF42.pick [2, 3, 4, 6, 7] (G := [(2, .slice pA2 xs2.length pc2), (3, .pointer (some ⟨b3, 0, none⟩)), (4, .pointer (some ⟨b5, 0, none⟩)), (6, .pointer (some ⟨b7, 0, none⟩)), (7, .pointer (some ⟨b35, 0, none⟩))]) (by kernel_rfl); clear hF42
  refine wpList_nil ?_
  refine hK34 _ _ ?_
  obtain ⟨xj4968, hx4969, h4970⟩ := bnd_some h; clear h
  refine seqJ (fun a W => ∃ (zs4965 : List Nat), zs4965 = xj4968 ∧ (Fr 182 a [(3, .pointer (some ⟨b3, 0, none⟩)), (4, .pointer (some ⟨b5, 0, none⟩)), (6, .pointer (some ⟨b7, 0, none⟩)), (7, .pointer (some ⟨b35, 0, none⟩))]) ∧ (Heap w [] W [.blk b3 24 (vs .u64 xs0), .blk b5 26 (vs .u64 xs1), .blk b7 26 (vs .u64 (List.replicate 8 0)), .blk b35 24 (vs .u64 zs4965)]) ∧ (zs4965.length = 80) ∧ (LB 18446744073709551616 zs4965)) ?_ ?_
  · skip
    refine wp_seq_k (fun K4971 hK4972 => ?_)
    refine wp_region_lit ?_
    refine pu_end hT 1 _ hF44 [2, 3, 4, 6, 7, 8] (G := [(2, .slice pA2 xs2.length pc2), (3, .pointer (some ⟨b3, 0, none⟩)), (4, .pointer (some ⟨b5, 0, none⟩)), (6, .pointer (some ⟨b7, 0, none⟩)), (7, .pointer (some ⟨b35, 0, none⟩)), (8, .int .i64 0)]) (cs := []) (by kernel_rfl) rfl trivial ?_; clear hF44 a37; intro a4973 hF4974
    refine hK4972 _ _ ?_
    refine wp_block ?_
    refine loopR (F_casemateref14_Block_l1 xs2) xj4968 ((List.replicate 80 0), 0) hx4969 (fun s a W => ∃ (zs7276 : List Nat), ∃ (x7279 : Nat), (zs7276, x7279) = s ∧ (Fr 182 a [(2, .slice pA2 xs2.length pc2), (3, .pointer (some ⟨b3, 0, none⟩)), (4, .pointer (some ⟨b5, 0, none⟩)), (6, .pointer (some ⟨b7, 0, none⟩)), (7, .pointer (some ⟨b35, 0, none⟩)), (8, .int .i64 ((x7279 : Nat) : Int))]) ∧ (Heap w [] W [.blk b3 24 (vs .u64 xs0), .blk b5 26 (vs .u64 xs1), .blk b7 26 (vs .u64 (List.replicate 8 0)), .blk b35 24 (vs .u64 zs7276)]) ∧ (zs7276.length = 80) ∧ (LB 18446744073709551616 zs7276)) ⟨(List.replicate 80 0), 0, rfl, hF4974.pick [2, 3, 4, 6, 7, 8] (by kernel_rfl), hS43.pick [3, 2, 1, 0] (by decide) rfl, (len_rep (α := Nat) 80 0), (LB.rep (m := 18446744073709551616) (x := 0) (by decide) 80)⟩ ?_
    clear hF4974 hS43 hx4969
    rintro k8589 _ a8584 w8585 ⟨zs7276, x7279, rfl, hF8586, hS8587, hh7277, hh7278⟩ hit8583 K8582 hK8581
    obtain ⟨y8579, h8588, hy8580⟩ := iter_succ hit8583; clear hit8583
    unfold F_casemateref14_Block_l1 at h8588; try dsimp only at h8588
    refine wp_seq_k (fun K8594 hK8595 => ?_)
    refine wp_seq_k (fun K8596 hK8597 => ?_)
    refine wp_region_lit ?_
    refine pu_end hT 2 _ hF8586 [2, 3, 4, 6, 7, 8, 20] (G := [(2, .slice pA2 xs2.length pc2), (3, .pointer (some ⟨b3, 0, none⟩)), (4, .pointer (some ⟨b5, 0, none⟩)), (6, .pointer (some ⟨b7, 0, none⟩)), (7, .pointer (some ⟨b35, 0, none⟩)), (8, .int .i64 ((x7279 : Nat) : Int)), (20, .bool ((decide (((x7279 : Nat) : Int) < 80))))]) (cs := []) (by kernel_rfl) rfl trivial ?_; clear hF8586 a8584; intro a8598 hF8599
    refine hK8597 _ _ ?_
    rcases (ite_some h8588 : ((((x7279 : Nat) : Int) < 80) ∧ _) ∨ (¬ (((x7279 : Nat) : Int) < 80) ∧ _)) with ⟨hc8600, h8601⟩ | ⟨hc8600, h8601⟩
    · clear h8588
      have hF8602 : Fr 182 a8598 [(2, .slice pA2 xs2.length pc2), (3, .pointer (some ⟨b3, 0, none⟩)), (4, .pointer (some ⟨b5, 0, none⟩)), (6, .pointer (some ⟨b7, 0, none⟩)), (7, .pointer (some ⟨b35, 0, none⟩)), (8, .int .i64 ((x7279 : Nat) : Int)), (20, .bool true)] := hF8599.pick [2, 3, 4, 6, 7, 8, 20] (by rw [decide_eq_true hc8600]; kernel_rfl); clear hF8599
      refine condT hF8602 (by kernel_rfl) ?_
      refine wp_skip ?_
      refine hK8595 _ _ ?_
      obtain ⟨xj9246, hx9247, h9248⟩ := bnd_some h8601; clear h8601
      refine seqJ (fun a W => ∃ (zs9243 : List Nat), zs9243 = xj9246 ∧ (Fr 182 a [(2, .slice pA2 xs2.length pc2), (3, .pointer (some ⟨b3, 0, none⟩)), (4, .pointer (some ⟨b5, 0, none⟩)), (6, .pointer (some ⟨b7, 0, none⟩)), (7, .pointer (some ⟨b35, 0, none⟩)), (8, .int .i64 ((x7279 : Nat) : Int))]) ∧ (Heap w [] W [.blk b3 24 (vs .u64 xs0), .blk b5 26 (vs .u64 xs1), .blk b7 26 (vs .u64 (List.replicate 8 0)), .blk b35 24 (vs .u64 zs9243)]) ∧ (zs9243.length = 80) ∧ (LB 18446744073709551616 zs9243)) ?_ ?_
      · skip
        refine wp_block ?_
        obtain ⟨xj9535, hx9536, h9537⟩ := bnd_some hx9247; clear hx9247
        refine seqJ (fun a W => (.inl ()) = xj9535 ∧ (Fr 182 a [(2, .slice pA2 xs2.length pc2), (3, .pointer (some ⟨b3, 0, none⟩)), (4, .pointer (some ⟨b5, 0, none⟩)), (6, .pointer (some ⟨b7, 0, none⟩)), (7, .pointer (some ⟨b35, 0, none⟩)), (8, .int .i64 ((x7279 : Nat) : Int))]) ∧ (Heap w [] W [.blk b3 24 (vs .u64 xs0), .blk b5 26 (vs .u64 xs1), .blk b7 26 (vs .u64 (List.replicate 8 0)), .blk b35 24 (vs .u64 zs7276)])) ?_ ?_
        · skip
          refine wp_seq_k (fun K9538 hK9539 => ?_)
          refine wp_region_lit ?_
          refine pu_end hT 2 _ hF8602 [2, 3, 4, 6, 7, 8, 24] (G := [(2, .slice pA2 xs2.length pc2), (3, .pointer (some ⟨b3, 0, none⟩)), (4, .pointer (some ⟨b5, 0, none⟩)), (6, .pointer (some ⟨b7, 0, none⟩)), (7, .pointer (some ⟨b35, 0, none⟩)), (8, .int .i64 ((x7279 : Nat) : Int)), (24, .bool ((decide (((x7279 : Nat) : Int) < 16))))]) (cs := []) (by kernel_rfl) rfl trivial ?_; clear hF8602 a8598; intro a9540 hF9541
          refine hK9539 _ _ ?_
          rcases (ite_some hx9536 : ((((x7279 : Nat) : Int) < 16) ∧ _) ∨ (¬ (((x7279 : Nat) : Int) < 16) ∧ _)) with ⟨hc9542, h9543⟩ | ⟨hc9542, h9543⟩
          · clear hx9536
            have hF9544 : Fr 182 a9540 [(2, .slice pA2 xs2.length pc2), (3, .pointer (some ⟨b3, 0, none⟩)), (4, .pointer (some ⟨b5, 0, none⟩)), (6, .pointer (some ⟨b7, 0, none⟩)), (7, .pointer (some ⟨b35, 0, none⟩)), (8, .int .i64 ((x7279 : Nat) : Int)), (24, .bool true)] := hF9541.pick [2, 3, 4, 6, 7, 8, 24] (by rw [decide_eq_true hc9542]; kernel_rfl); clear hF9541
            refine condT hF9544 (by kernel_rfl) ?_
            obtain ⟨xj9684, hx9685, h9686⟩ := bnd_some h9543; clear h9543
            refine seqJ (fun a W => ∃ (zs9680 : List Nat), ∃ (x9683 : Nat), (zs9680, x9683) = xj9684 ∧ (Fr 182 a [(2, .slice pA2 xs2.length pc2), (3, .pointer (some ⟨b3, 0, none⟩)), (4, .pointer (some ⟨b5, 0, none⟩)), (6, .pointer (some ⟨b7, 0, none⟩)), (7, .pointer (some ⟨b35, 0, none⟩)), (8, .int .i64 ((x7279 : Nat) : Int)), (9, .int .i64 ((x9683 : Nat) : Int))]) ∧ (Heap w [] W [.blk b3 24 (vs .u64 xs0), .blk b5 26 (vs .u64 xs1), .blk b7 26 (vs .u64 (List.replicate 8 0)), .blk b35 24 (vs .u64 zs9680)]) ∧ (zs9680.length = 80) ∧ (LB 18446744073709551616 zs9680)) ?_ ?_
            · skip
              refine wp_seq_k (fun K9687 hK9688 => ?_)
              refine wp_region_lit ?_
              refine pu_end hT 1 _ hF9544 [2, 3, 4, 6, 7, 8, 9] (G := [(2, .slice pA2 xs2.length pc2), (3, .pointer (some ⟨b3, 0, none⟩)), (4, .pointer (some ⟨b5, 0, none⟩)), (6, .pointer (some ⟨b7, 0, none⟩)), (7, .pointer (some ⟨b35, 0, none⟩)), (8, .int .i64 ((x7279 : Nat) : Int)), (9, .int .i64 0)]) (cs := []) (by kernel_rfl) rfl trivial ?_; clear hF9544 a9540; intro a9689 hF9690
              refine hK9688 _ _ ?_
              refine wp_block ?_
              refine loopR (F_casemateref14_Block_l2 x7279 xs2) xj9684 (zs7276, 0) hx9685 (fun s a W => ∃ (zs9753 : List Nat), ∃ (x9756 : Nat), (zs9753, x9756) = s ∧ (Fr 182 a [(2, .slice pA2 xs2.length pc2), (3, .pointer (some ⟨b3, 0, none⟩)), (4, .pointer (some ⟨b5, 0, none⟩)), (6, .pointer (some ⟨b7, 0, none⟩)), (7, .pointer (some ⟨b35, 0, none⟩)), (8, .int .i64 ((x7279 : Nat) : Int)), (9, .int .i64 ((x9756 : Nat) : Int))]) ∧ (Heap w [] W [.blk b3 24 (vs .u64 xs0), .blk b5 26 (vs .u64 xs1), .blk b7 26 (vs .u64 (List.replicate 8 0)), .blk b35 24 (vs .u64 zs9753)]) ∧ (zs9753.length = 80) ∧ (LB 18446744073709551616 zs9753)) ⟨zs7276, 0, rfl, hF9690.pick [2, 3, 4, 6, 7, 8, 9] (by kernel_rfl), hS8587.pick [0, 1, 2, 3] (by decide) rfl, hh7277, hh7278⟩ ?_
              clear hF9690 hS8587 hx9685
              rintro k9793 _ a9788 w9789 ⟨zs9753, x9756, rfl, hF9790, hS9791, hh9754, hh9755⟩ hit9787 K9786 hK9785
              obtain ⟨y9783, h9792, hy9784⟩ := iter_succ hit9787; clear hit9787
              unfold F_casemateref14_Block_l2 at h9792; try dsimp only at h9792
              refine wp_seq_k (fun K9798 hK9799 => ?_)
              refine wp_seq_k (fun K9800 hK9801 => ?_)
              refine wp_region_lit ?_
              refine pu_end hT 2 _ hF9790 [2, 3, 4, 6, 7, 8, 9, 26] (G := [(2, .slice pA2 xs2.length pc2), (3, .pointer (some ⟨b3, 0, none⟩)), (4, .pointer (some ⟨b5, 0, none⟩)), (6, .pointer (some ⟨b7, 0, none⟩)), (7, .pointer (some ⟨b35, 0, none⟩)), (8, .int .i64 ((x7279 : Nat) : Int)), (9, .int .i64 ((x9756 : Nat) : Int)), (26, .bool ((decide (((x9756 : Nat) : Int) < 8))))]) (cs := []) (by kernel_rfl) rfl trivial ?_; clear hF9790 a9788; intro a9802 hF9803
              refine hK9801 _ _ ?_
              rcases (ite_some h9792 : ((((x9756 : Nat) : Int) < 8) ∧ _) ∨ (¬ (((x9756 : Nat) : Int) < 8) ∧ _)) with ⟨hc9804, h9805⟩ | ⟨hc9804, h9805⟩
              · clear h9792
                have hF9806 : Fr 182 a9802 [(2, .slice pA2 xs2.length pc2), (3, .pointer (some ⟨b3, 0, none⟩)), (4, .pointer (some ⟨b5, 0, none⟩)), (6, .pointer (some ⟨b7, 0, none⟩)), (7, .pointer (some ⟨b35, 0, none⟩)), (8, .int .i64 ((x7279 : Nat) : Int)), (9, .int .i64 ((x9756 : Nat) : Int)), (26, .bool true)] := hF9803.pick [2, 3, 4, 6, 7, 8, 9, 26] (by rw [decide_eq_true hc9804]; kernel_rfl); clear hF9803
                refine condT hF9806 (by kernel_rfl) ?_
                refine wp_skip ?_
                refine hK9799 _ _ ?_
                refine wp_seq_k (fun K9813 hK9814 => ?_)
                refine wp_block ?_
                obtain ⟨g9816, h9815⟩ : ((((8 * x7279) : Nat) : Int) ≤ 9223372036854775807) ∧ _ := gd_some h9805; clear h9805
                obtain ⟨g9818, h9817⟩ : (((((8 * x7279) + x9756) : Nat) : Int) ≤ 9223372036854775807) ∧ _ := gd_some h9815; clear h9815
                obtain ⟨g9820, h9819⟩ : (((((8 * x7279) + x9756) : Nat) : Int) < ((xs2.length : Nat) : Int)) ∧ _ := gd_some h9817; clear h9817
                have hlt9821 := hS9791.ids
                have hsz9823 := hS9791.size
                let SL9822 : List SP := [SP.val (.int .i64 ((x7279 : Nat) : Int)), SP.val (.int .i64 ((x7279 : Nat) : Int)), SP.val (.pointer (some ⟨b35, (0 + x7279), none⟩)), SP.val (.int .u64 (((zs9753.getD x7279 0) : Nat) : Int)), SP.val (.int .u64 ((((zs9753.getD x7279 0) * 2 ^ 8 % 18446744073709551616) : Nat) : Int)), SP.val (.slice pA2 xs2.length pc2), SP.val (.int .i64 ((x7279 : Nat) : Int)), SP.val (.int .i64 (((8 * x7279) : Nat) : Int)), SP.val (.int .i64 ((x9756 : Nat) : Int)), SP.val (.int .i64 ((((8 * x7279) + x9756) : Nat) : Int)), SP.val (.pointer (some ⟨(ablk pA2), (aoff pA2 + ((8 * x7279) + x9756)), none⟩)), SP.val (.int .u8 (((xs2.getD ((8 * x7279) + x9756) 0) : Nat) : Int)), SP.val (.int .u64 (((xs2.getD ((8 * x7279) + x9756) 0) : Nat) : Int)), SP.val (.int .u64 (((((zs9753.getD x7279 0) * 2 ^ 8 % 18446744073709551616) ||| (xs2.getD ((8 * x7279) + x9756) 0)) : Nat) : Int)), SP.val (.pointer (some ⟨b35, (0 + x7279), none⟩)), SP.any]
                refine region_rel (SL := SL9822) (J := (fun (B : Bool) (W : World) => match B with | true => w9789.heap.size ≤ W.heap.size ∧ Heap w [] W [.blk b3 24 (vs .u64 xs0), .blk b5 26 (vs .u64 xs1), .blk b7 26 (vs .u64 (List.replicate 8 0)), .blk b35 24 (vs .u64 (zs9753.set x7279 (((zs9753.getD x7279 0) * 2 ^ 8 % 18446744073709551616) ||| (xs2.getD ((8 * x7279) + x9756) 0))))] | false => w9789.heap.size ≤ W.heap.size ∧ Heap w [] W [.blk b3 24 (vs .u64 xs0), .blk b5 26 (vs .u64 xs1), .blk b7 26 (vs .u64 (List.replicate 8 0)), .blk b35 24 (vs .u64 zs9753)])) (m := 15) wide (by kernel_rfl) (by kernel_rfl) hF9806 rfl ?_ ⟨Nat.le_refl _, hS9791⟩ ⟨?_, ?_, ?_, ?_, ?_, ?_, ?_, ?_, ?_, ?_, ?_, ?_, ?_, ?_, ?_, ?_, trivial⟩ [(2, none), (3, none), (4, none), (6, none), (7, none), (8, none), (9, none)] (by kernel_rfl) ?_
                · intro b W W' hj g; cases b <;> exact ⟨Nat.le_trans hj.1 g.size, hj.2.growN g⟩
                · -- operation 0
                  rintro a9825 w9824 b9828 KK9834 hs9830 hd9831 hJ9832 hb9833 hr9835 hK9829
                  have hr9835x : RD SL9822 b9828 a9825 a9802 w9824 [(8, none)] := hr9835 _ (by kernel_rfl)
                  obtain ⟨q9836, -⟩ := hr9835x
                  obtain rfl : b9828 = false := by cases b9828; rfl; exact absurd ((hb9833 rfl).2 _ rfl) (by decide)
                  obtain ⟨hX9837, hS9827⟩ := hJ9832
                  have hF9826 : Fr 182 a9825 [(8, .int .i64 ((x7279 : Nat) : Int))] := Fr.of hs9830 hd9831 ⟨(Fr.init hF9806 q9836 (by kernel_rfl)), trivial⟩
                  refine s_pure hT (d := 29) (v := .int .i64 ((x7279 : Nat) : Int)) (cs := []) (by kernel_rfl) (by kernel_rfl) trivial hF9826 ?_
                  rintro a2 ha2 hF2; rw [ha2]
                  exact hK9829 _ _ rfl (grown_refl _ _)
                · -- operation 1
                  rintro a9839 w9838 b9842 KK9848 hs9844 hd9845 hJ9846 hb9847 hr9849 hK9843
                  have hr9849x : RD SL9822 b9842 a9839 a9802 w9838 [(8, none)] := hr9849 _ (by kernel_rfl)
                  obtain ⟨q9850, -⟩ := hr9849x
                  obtain rfl : b9842 = false := by cases b9842; rfl; exact absurd ((hb9847 rfl).2 _ rfl) (by decide)
                  obtain ⟨hX9851, hS9841⟩ := hJ9846
                  have hF9840 : Fr 182 a9839 [(8, .int .i64 ((x7279 : Nat) : Int))] := Fr.of hs9844 hd9845 ⟨(Fr.init hF9806 q9850 (by kernel_rfl)), trivial⟩
                  refine s_pure hT (d := 30) (v := .int .i64 ((x7279 : Nat) : Int)) (cs := []) (by kernel_rfl) (by kernel_rfl) trivial hF9840 ?_
                  rintro a2 ha2 hF2; rw [ha2]
                  exact hK9843 _ _ rfl (grown_refl _ _)
                · -- operation 2
                  rintro a9853 w9852 b9856 KK9862 hs9858 hd9859 hJ9860 hb9861 hr9863 hK9857
                  have hr9863x : RD SL9822 b9856 a9853 a9802 w9852 [(7, none), (30, some 1)] := hr9863 _ (by kernel_rfl)
                  obtain ⟨q9864, ⟨v9866, q9865, s9867⟩, -⟩ := hr9863x
                  obtain rfl : v9866 = .int .i64 ((x7279 : Nat) : Int) := s9867
                  obtain rfl : b9856 = false := by cases b9856; rfl; exact absurd ((hb9861 rfl).2 _ rfl) (by decide)
                  obtain ⟨hX9868, hS9855⟩ := hJ9860
                  have hF9854 : Fr 182 a9853 [(7, .pointer (some ⟨b35, 0, none⟩)), (30, .int .i64 ((x7279 : Nat) : Int))] := Fr.of hs9858 hd9859 ⟨(Fr.init hF9806 q9864 (by kernel_rfl)), q9865, trivial⟩
                  refine s_pure hT (d := 31) (v := .pointer (some ⟨b35, (0 + x7279), none⟩)) (cs := [0 ≤ ((x7279 : Nat) : Int), ((x7279 : Nat) : Int) < 80]) (by kernel_rfl) (by kernel_rfl) (And.intro (by omega) (And.intro hc8600 trivial)) hF9854 ?_
                  rintro a2 ha2 hF2; rw [ha2]
                  exact hK9857 _ _ rfl (grown_refl _ _)
                · -- operation 3
                  rintro a9870 w9869 b9873 KK9879 hs9875 hd9876 hJ9877 hb9878 hr9880 hK9874
                  have hr9880x : RD SL9822 b9873 a9870 a9802 w9869 [(31, some 2)] := hr9880 _ (by kernel_rfl)
                  obtain ⟨⟨v9882, q9881, s9883⟩, -⟩ := hr9880x
                  obtain rfl : v9882 = .pointer (some ⟨b35, (0 + x7279), none⟩) := s9883
                  obtain rfl : b9873 = false := by cases b9873; rfl; exact absurd ((hb9878 rfl).2 _ rfl) (by decide)
                  obtain ⟨hX9884, hS9872⟩ := hJ9877
                  have hF9871 : Fr 182 a9870 [(31, .pointer (some ⟨b35, (0 + x7279), none⟩))] := Fr.of hs9875 hd9876 ⟨q9881, trivial⟩
                  refine s_load hT (d := 32) (A := ⟨b35, (0 + x7279), none⟩) (v := .int .u64 (((zs9753.getD x7279 0) : Nat) : Int)) (by kernel_rfl) hF9871 (Cells.at (hS9872.blk 3 rfl).cells (vs_get .u64 zs9753 (i := x7279) (by have := hh9754; omega)) (by first | rfl | omega)) ?_
                  rintro a9885 ha9887 hF9886
                  rw [ha9887]
                  exact hK9874 _ _ rfl (grown_refl _ _)
                · -- operation 4
                  rintro a9889 w9888 b9892 KK9898 hs9894 hd9895 hJ9896 hb9897 hr9899 hK9893
                  have hr9899x : RD SL9822 b9892 a9889 a9802 w9888 [(32, some 3)] := hr9899 _ (by kernel_rfl)
                  obtain ⟨⟨v9901, q9900, s9902⟩, -⟩ := hr9899x
                  obtain rfl : v9901 = .int .u64 (((zs9753.getD x7279 0) : Nat) : Int) := s9902
                  obtain rfl : b9892 = false := by cases b9892; rfl; exact absurd ((hb9897 rfl).2 _ rfl) (by decide)
                  obtain ⟨hX9903, hS9891⟩ := hJ9896
                  have hF9890 : Fr 182 a9889 [(32, .int .u64 (((zs9753.getD x7279 0) : Nat) : Int))] := Fr.of hs9894 hd9895 ⟨q9900, trivial⟩
                  refine s_pure hT (d := 33) (v := .int .u64 ((((zs9753.getD x7279 0) * 2 ^ 8 % 18446744073709551616) : Nat) : Int)) (cs := []) (by kernel_rfl) (by kernel_rfl) trivial hF9890 ?_
                  rintro a2 ha2 hF2; rw [ha2]
                  exact hK9893 _ _ rfl (grown_refl _ _)
                · -- operation 5
                  rintro a9905 w9904 b9908 KK9914 hs9910 hd9911 hJ9912 hb9913 hr9915 hK9909
                  have hr9915x : RD SL9822 b9908 a9905 a9802 w9904 [(2, none)] := hr9915 _ (by kernel_rfl)
                  obtain ⟨q9916, -⟩ := hr9915x
                  obtain rfl : b9908 = false := by cases b9908; rfl; exact absurd ((hb9913 rfl).2 _ rfl) (by decide)
                  obtain ⟨hX9917, hS9907⟩ := hJ9912
                  have hF9906 : Fr 182 a9905 [(2, .slice pA2 xs2.length pc2)] := Fr.of hs9910 hd9911 ⟨(Fr.init hF9806 q9916 (by kernel_rfl)), trivial⟩
                  refine s_pure hT (d := 34) (v := .slice pA2 xs2.length pc2) (cs := []) (by kernel_rfl) (by kernel_rfl) trivial hF9906 ?_
                  rintro a2 ha2 hF2; rw [ha2]
                  exact hK9909 _ _ rfl (grown_refl _ _)
                · -- operation 6
                  rintro a9919 w9918 b9922 KK9928 hs9924 hd9925 hJ9926 hb9927 hr9929 hK9923
                  have hr9929x : RD SL9822 b9922 a9919 a9802 w9918 [(8, none)] := hr9929 _ (by kernel_rfl)
                  obtain ⟨q9930, -⟩ := hr9929x
                  obtain rfl : b9922 = false := by cases b9922; rfl; exact absurd ((hb9927 rfl).2 _ rfl) (by decide)
                  obtain ⟨hX9931, hS9921⟩ := hJ9926
                  have hF9920 : Fr 182 a9919 [(8, .int .i64 ((x7279 : Nat) : Int))] := Fr.of hs9924 hd9925 ⟨(Fr.init hF9806 q9930 (by kernel_rfl)), trivial⟩
                  refine s_pure hT (d := 35) (v := .int .i64 ((x7279 : Nat) : Int)) (cs := []) (by kernel_rfl) (by kernel_rfl) trivial hF9920 ?_
                  rintro a2 ha2 hF2; rw [ha2]
                  exact hK9923 _ _ rfl (grown_refl _ _)
                · -- operation 7
                  rintro a9933 w9932 b9936 KK9942 hs9938 hd9939 hJ9940 hb9941 hr9943 hK9937
                  have hr9943x : RD SL9822 b9936 a9933 a9802 w9932 [(35, some 6)] := hr9943 _ (by kernel_rfl)
                  obtain ⟨⟨v9945, q9944, s9946⟩, -⟩ := hr9943x
                  obtain rfl : v9945 = .int .i64 ((x7279 : Nat) : Int) := s9946
                  obtain rfl : b9936 = false := by cases b9936; rfl; exact absurd ((hb9941 rfl).2 _ rfl) (by decide)
                  obtain ⟨hX9947, hS9935⟩ := hJ9940
                  have hF9934 : Fr 182 a9933 [(35, .int .i64 ((x7279 : Nat) : Int))] := Fr.of hs9938 hd9939 ⟨q9944, trivial⟩
                  refine s_pure hT (d := 36) (v := .int .i64 (((8 * x7279) : Nat) : Int)) (cs := [-9223372036854775808 ≤ (((8 * x7279) : Nat) : Int), (((8 * x7279) : Nat) : Int) ≤ 9223372036854775807]) (by kernel_rfl) (by kernel_rfl) (And.intro (Int.le_trans (by decide) (Int.natCast_nonneg _)) (And.intro g9816 trivial)) hF9934 ?_
                  rintro a2 ha2 hF2; rw [ha2]
                  exact hK9937 _ _ rfl (grown_refl _ _)
                · -- operation 8
                  rintro a9949 w9948 b9952 KK9958 hs9954 hd9955 hJ9956 hb9957 hr9959 hK9953
                  have hr9959x : RD SL9822 b9952 a9949 a9802 w9948 [(9, none)] := hr9959 _ (by kernel_rfl)
                  obtain ⟨q9960, -⟩ := hr9959x
                  obtain rfl : b9952 = false := by cases b9952; rfl; exact absurd ((hb9957 rfl).2 _ rfl) (by decide)
                  obtain ⟨hX9961, hS9951⟩ := hJ9956
                  have hF9950 : Fr 182 a9949 [(9, .int .i64 ((x9756 : Nat) : Int))] := Fr.of hs9954 hd9955 ⟨(Fr.init hF9806 q9960 (by kernel_rfl)), trivial⟩
                  refine s_pure hT (d := 37) (v := .int .i64 ((x9756 : Nat) : Int)) (cs := []) (by kernel_rfl) (by kernel_rfl) trivial hF9950 ?_
                  rintro a2 ha2 hF2; rw [ha2]
                  exact hK9953 _ _ rfl (grown_refl _ _)
                · -- operation 9
                  rintro a9963 w9962 b9966 KK9972 hs9968 hd9969 hJ9970 hb9971 hr9973 hK9967
                  have hr9973x : RD SL9822 b9966 a9963 a9802 w9962 [(36, some 7), (37, some 8)] := hr9973 _ (by kernel_rfl)
                  obtain ⟨⟨v9975, q9974, s9976⟩, ⟨v9978, q9977, s9979⟩, -⟩ := hr9973x
                  obtain rfl : v9975 = .int .i64 (((8 * x7279) : Nat) : Int) := s9976
                  obtain rfl : v9978 = .int .i64 ((x9756 : Nat) : Int) := s9979
                  obtain rfl : b9966 = false := by cases b9966; rfl; exact absurd ((hb9971 rfl).2 _ rfl) (by decide)
                  obtain ⟨hX9980, hS9965⟩ := hJ9970
                  have hF9964 : Fr 182 a9963 [(36, .int .i64 (((8 * x7279) : Nat) : Int)), (37, .int .i64 ((x9756 : Nat) : Int))] := Fr.of hs9968 hd9969 ⟨q9974, q9977, trivial⟩
                  refine s_pure hT (d := 38) (v := .int .i64 ((((8 * x7279) + x9756) : Nat) : Int)) (cs := [-9223372036854775808 ≤ ((((8 * x7279) + x9756) : Nat) : Int), ((((8 * x7279) + x9756) : Nat) : Int) ≤ 9223372036854775807]) (by kernel_rfl) (by kernel_rfl) (And.intro (by omega) (And.intro g9818 trivial)) hF9964 ?_
                  rintro a2 ha2 hF2; rw [ha2]
                  exact hK9967 _ _ rfl (grown_refl _ _)
                · -- operation 10
                  rintro a9982 w9981 b9985 KK9991 hs9987 hd9988 hJ9989 hb9990 hr9992 hK9986
                  have hr9992x : RD SL9822 b9985 a9982 a9802 w9981 [(34, some 5), (38, some 9)] := hr9992 _ (by kernel_rfl)
                  obtain ⟨⟨v9994, q9993, s9995⟩, ⟨v9997, q9996, s9998⟩, -⟩ := hr9992x
                  obtain rfl : v9994 = .slice pA2 xs2.length pc2 := s9995
                  obtain rfl : v9997 = .int .i64 ((((8 * x7279) + x9756) : Nat) : Int) := s9998
                  obtain rfl : b9985 = false := by cases b9985; rfl; exact absurd ((hb9990 rfl).2 _ rfl) (by decide)
                  obtain ⟨hX9999, hS9984⟩ := hJ9989
                  have hF9983 : Fr 182 a9982 [(34, .slice pA2 xs2.length pc2), (38, .int .i64 ((((8 * x7279) + x9756) : Nat) : Int))] := Fr.of hs9987 hd9988 ⟨q9993, q9996, trivial⟩
                  refine s_pure hT (d := 39) (v := .pointer (some ⟨(ablk pA2), (aoff pA2 + ((8 * x7279) + x9756)), none⟩)) (cs := [0 ≤ ((((8 * x7279) + x9756) : Nat) : Int), ((((8 * x7279) + x9756) : Nat) : Int) < ((xs2.length : Nat) : Int), (pA2 : Option Addr) = some ⟨ablk pA2, aoff pA2, none⟩]) (by kernel_rfl) (by kernel_rfl) (And.intro (by omega) (And.intro g9820 (And.intro ((hS9984.rd0 pR2).some' (by have := (Eq.refl xs2.length); first | omega | (simp only [zA, zS, zT, zD, zR, zC, zN, zV, zI] <;> omega))) trivial))) hF9983 ?_
                  rintro a2 ha2 hF2; rw [ha2]
                  exact hK9986 _ _ rfl (grown_refl _ _)
                · -- operation 11
                  rintro a10001 w10000 b10004 KK10010 hs10006 hd10007 hJ10008 hb10009 hr10011 hK10005
                  have hr10011x : RD SL9822 b10004 a10001 a9802 w10000 [(39, some 10)] := hr10011 _ (by kernel_rfl)
                  obtain ⟨⟨v10013, q10012, s10014⟩, -⟩ := hr10011x
                  obtain rfl : v10013 = .pointer (some ⟨(ablk pA2), (aoff pA2 + ((8 * x7279) + x9756)), none⟩) := s10014
                  obtain rfl : b10004 = false := by cases b10004; rfl; exact absurd ((hb10009 rfl).2 _ rfl) (by decide)
                  obtain ⟨hX10015, hS10003⟩ := hJ10008
                  have hF10002 : Fr 182 a10001 [(39, .pointer (some ⟨(ablk pA2), (aoff pA2 + ((8 * x7279) + x9756)), none⟩))] := Fr.of hs10006 hd10007 ⟨q10012, trivial⟩
                  refine s_load hT (d := 40) (A := ⟨(ablk pA2), (aoff pA2 + ((8 * x7279) + x9756)), none⟩) (v := .int .u8 (((xs2.getD ((8 * x7279) + x9756) 0) : Nat) : Int)) (by kernel_rfl) hF10002 (Cells.at (hS10003.rd0 pR2).cells (vs_get .u8 xs2 (i := ((8 * x7279) + x9756)) (by have := (Eq.refl xs2.length); first | omega | (simp only [zA, zS, zT, zD, zR, zC, zN, zV, zI] <;> omega) | (simp [*]; done) | (simp [*]; omega))) (by first | rfl | omega)) ?_
                  rintro a10016 ha10018 hF10017
                  rw [ha10018]
                  exact hK10005 _ _ rfl (grown_refl _ _)
                · -- operation 12
                  rintro a10020 w10019 b10023 KK10029 hs10025 hd10026 hJ10027 hb10028 hr10030 hK10024
                  have hr10030x : RD SL9822 b10023 a10020 a9802 w10019 [(40, some 11)] := hr10030 _ (by kernel_rfl)
                  obtain ⟨⟨v10032, q10031, s10033⟩, -⟩ := hr10030x
                  obtain rfl : v10032 = .int .u8 (((xs2.getD ((8 * x7279) + x9756) 0) : Nat) : Int) := s10033
                  obtain rfl : b10023 = false := by cases b10023; rfl; exact absurd ((hb10028 rfl).2 _ rfl) (by decide)
                  obtain ⟨hX10034, hS10022⟩ := hJ10027
                  have hF10021 : Fr 182 a10020 [(40, .int .u8 (((xs2.getD ((8 * x7279) + x9756) 0) : Nat) : Int))] := Fr.of hs10025 hd10026 ⟨q10031, trivial⟩
                  refine s_pure hT (d := 41) (v := .int .u64 (((xs2.getD ((8 * x7279) + x9756) 0) : Nat) : Int)) (cs := [(xs2.getD ((8 * x7279) + x9756) 0) < 18446744073709551616]) (by kernel_rfl) (by kernel_rfl) (And.intro (Nat.lt_of_lt_of_le (pb2.get (by decide) ((8 * x7279) + x9756)) (by decide)) trivial) hF10021 ?_
                  rintro a2 ha2 hF2; rw [ha2]
                  exact hK10024 _ _ rfl (grown_refl _ _)
                · -- operation 13
                  rintro a10036 w10035 b10039 KK10045 hs10041 hd10042 hJ10043 hb10044 hr10046 hK10040
                  have hr10046x : RD SL9822 b10039 a10036 a9802 w10035 [(33, some 4), (41, some 12)] := hr10046 _ (by kernel_rfl)
                  obtain ⟨⟨v10048, q10047, s10049⟩, ⟨v10051, q10050, s10052⟩, -⟩ := hr10046x
                  obtain rfl : v10048 = .int .u64 ((((zs9753.getD x7279 0) * 2 ^ 8 % 18446744073709551616) : Nat) : Int) := s10049
                  obtain rfl : v10051 = .int .u64 (((xs2.getD ((8 * x7279) + x9756) 0) : Nat) : Int) := s10052
                  obtain rfl : b10039 = false := by cases b10039; rfl; exact absurd ((hb10044 rfl).2 _ rfl) (by decide)
                  obtain ⟨hX10053, hS10038⟩ := hJ10043
                  have hF10037 : Fr 182 a10036 [(33, .int .u64 ((((zs9753.getD x7279 0) * 2 ^ 8 % 18446744073709551616) : Nat) : Int)), (41, .int .u64 (((xs2.getD ((8 * x7279) + x9756) 0) : Nat) : Int))] := Fr.of hs10041 hd10042 ⟨q10047, q10050, trivial⟩
                  refine s_pure hT (d := 42) (v := .int .u64 (((((zs9753.getD x7279 0) * 2 ^ 8 % 18446744073709551616) ||| (xs2.getD ((8 * x7279) + x9756) 0)) : Nat) : Int)) (cs := [((zs9753.getD x7279 0) * 2 ^ 8 % 18446744073709551616) < 18446744073709551616, (xs2.getD ((8 * x7279) + x9756) 0) < 18446744073709551616]) (by kernel_rfl) (by kernel_rfl) (And.intro (Nat.mod_lt _ (by decide)) (And.intro (Nat.lt_of_lt_of_le (pb2.get (by decide) ((8 * x7279) + x9756)) (by decide)) trivial)) hF10037 ?_
                  rintro a2 ha2 hF2; rw [ha2]
                  exact hK10040 _ _ rfl (grown_refl _ _)
                · -- operation 14
                  rintro a10055 w10054 b10058 KK10064 hs10060 hd10061 hJ10062 hb10063 hr10065 hK10059
                  have hr10065x : RD SL9822 b10058 a10055 a9802 w10054 [(7, none), (29, some 0)] := hr10065 _ (by kernel_rfl)
                  obtain ⟨q10066, ⟨v10068, q10067, s10069⟩, -⟩ := hr10065x
                  obtain rfl : v10068 = .int .i64 ((x7279 : Nat) : Int) := s10069
                  obtain rfl : b10058 = false := by cases b10058; rfl; exact absurd ((hb10063 rfl).2 _ rfl) (by decide)
                  obtain ⟨hX10070, hS10057⟩ := hJ10062
                  have hF10056 : Fr 182 a10055 [(7, .pointer (some ⟨b35, 0, none⟩)), (29, .int .i64 ((x7279 : Nat) : Int))] := Fr.of hs10060 hd10061 ⟨(Fr.init hF9806 q10066 (by kernel_rfl)), q10067, trivial⟩
                  refine s_pure hT (d := 43) (v := .pointer (some ⟨b35, (0 + x7279), none⟩)) (cs := [0 ≤ ((x7279 : Nat) : Int), ((x7279 : Nat) : Int) < 80]) (by kernel_rfl) (by kernel_rfl) (And.intro (by omega) (And.intro hc8600 trivial)) hF10056 ?_
                  rintro a2 ha2 hF2; rw [ha2]
                  exact hK10059 _ _ rfl (grown_refl _ _)
                · -- operation 15
                  rintro a10072 w10071 b10075 KK10081 hs10077 hd10078 hJ10079 hb10080 hr10082 hK10076
                  have hr10082x : RD SL9822 b10075 a10072 a9802 w10071 [(43, some 14), (42, some 13)] := hr10082 _ (by kernel_rfl)
                  obtain ⟨⟨v10084, q10083, s10085⟩, ⟨v10087, q10086, s10088⟩, -⟩ := hr10082x
                  obtain rfl : v10084 = .pointer (some ⟨b35, (0 + x7279), none⟩) := s10085
                  obtain rfl : v10087 = .int .u64 (((((zs9753.getD x7279 0) * 2 ^ 8 % 18446744073709551616) ||| (xs2.getD ((8 * x7279) + x9756) 0)) : Nat) : Int) := s10088
                  obtain rfl : b10075 = false := by cases b10075; rfl; exact absurd rfl (hb10080 rfl).1
                  obtain ⟨hX10089, hS10074⟩ := hJ10079
                  have hF10073 : Fr 182 a10072 [(43, .pointer (some ⟨b35, (0 + x7279), none⟩)), (42, .int .u64 (((((zs9753.getD x7279 0) * 2 ^ 8 % 18446744073709551616) ||| (xs2.getD ((8 * x7279) + x9756) 0)) : Nat) : Int))] := Fr.of hs10077 hd10078 ⟨q10083, q10086, trivial⟩
                  refine h_store hT (b := b35) (off := x7279) (p := ⟨b35, (0 + x7279), none⟩) (v := .int .u64 (((((zs9753.getD x7279 0) * 2 ^ 8 % 18446744073709551616) ||| (xs2.getD ((8 * x7279) + x9756) 0)) : Nat) : Int)) (l' := vs .u64 (zs9753.set x7279 (((zs9753.getD x7279 0) * 2 ^ 8 % 18446744073709551616) ||| (xs2.getD ((8 * x7279) + x9756) 0)))) (by kernel_rfl) hF10073 hS10074 3 rfl (by first | rfl | (congr 1; omega)) (by have := hh9754; simp only [zA, zS, zT, zD, zR, zC, zN, zV, zI] <;> omega) (by first | exact vs_set _ _ _ _ | exact vi_set _ _ _ | rfl) ?_
                  rintro a10090 w10091 ha10094 hF10095 hS10092 g10093
                  have hS10096 : Heap w [] w10091 [.blk b3 24 (vs .u64 xs0), .blk b5 26 (vs .u64 xs1), .blk b7 26 (vs .u64 (List.replicate 8 0)), .blk b35 24 (vs .u64 (zs9753.set x7279 (((zs9753.getD x7279 0) * 2 ^ 8 % 18446744073709551616) ||| (xs2.getD ((8 * x7279) + x9756) 0))))] := hS10092; clear hS10092
                  rw [ha10094]; exact hK10076 undef _ trivial ⟨⟨.inl rfl, .inl rfl, .inl rfl, .inl rfl, .inl rfl, .inl rfl, .inl rfl, .inl rfl, .inl rfl, .inl rfl, .inl rfl, .inl rfl, .inl rfl, .inl rfl, .inl rfl, .inl rfl, trivial⟩, Nat.le_trans hX10089 g10093.size, hS10096⟩
                · -- behind the region
                  rintro a10097 w10098 hs10099 hd10100 ⟨q10103, q10104, q10105, q10106, q10107, q10108, q10109, -⟩ ⟨hX10102, hS10101⟩
                  have hF10110 : Fr 182 a10097 [(2, .slice pA2 xs2.length pc2), (3, .pointer (some ⟨b3, 0, none⟩)), (4, .pointer (some ⟨b5, 0, none⟩)), (6, .pointer (some ⟨b7, 0, none⟩)), (7, .pointer (some ⟨b35, 0, none⟩)), (8, .int .i64 ((x7279 : Nat) : Int)), (9, .int .i64 ((x9756 : Nat) : Int))] := Fr.of hs10099 hd10100 ⟨(Fr.init hF9806 q10103 (by kernel_rfl)), (Fr.init hF9806 q10104 (by kernel_rfl)), (Fr.init hF9806 q10105 (by kernel_rfl)), (Fr.init hF9806 q10106 (by kernel_rfl)), (Fr.init hF9806 q10107 (by kernel_rfl)), (Fr.init hF9806 q10108 (by kernel_rfl)), (Fr.init hF9806 q10109 (by kernel_rfl)), trivial⟩
                  clear hF9806 hS9791 hs10099 hd10100 q10103 q10104 q10105 q10106 q10107 q10108 q10109
                  refine hK9814 _ _ ?_
                  obtain ⟨g10112, h10111⟩ : ((((x9756 + 1) : Nat) : Int) ≤ 9223372036854775807) ∧ _ := gd_some h9819; clear h9819
                  refine wp_region_lit ?_
                  refine pu_end hT 3 _ hF10110 [2, 3, 4, 6, 7, 8, 9] (G := [(2, .slice pA2 xs2.length pc2), (3, .pointer (some ⟨b3, 0, none⟩)), (4, .pointer (some ⟨b5, 0, none⟩)), (6, .pointer (some ⟨b7, 0, none⟩)), (7, .pointer (some ⟨b35, 0, none⟩)), (8, .int .i64 ((x7279 : Nat) : Int)), (9, .int .i64 (((x9756 + 1) : Nat) : Int))]) (cs := [-9223372036854775808 ≤ (((x9756 + 1) : Nat) : Int), (((x9756 + 1) : Nat) : Int) ≤ 9223372036854775807]) (by kernel_rfl) rfl (And.intro (by omega) (And.intro g10112 trivial)) ?_; clear hF10110 a10097; intro a10113 hF10114
                  obtain rfl := Option.some.inj h10111
                  exact hK9785 _ _ _ hy9784 ⟨(zs9753.set x7279 (((zs9753.getD x7279 0) * 2 ^ 8 % 18446744073709551616) ||| (xs2.getD ((8 * x7279) + x9756) 0))), (x9756 + 1), rfl, hF10114.pick [2, 3, 4, 6, 7, 8, 9] (by kernel_rfl), hS10101.pick [0, 1, 2, 3] (by decide) rfl, (len_set hh9754 x7279 (((zs9753.getD x7279 0) * 2 ^ 8 % 18446744073709551616) ||| (xs2.getD ((8 * x7279) + x9756) 0))), (hh9755.set (lt_or (n := 64) (Nat.mod_lt _ (by decide)) (Nat.lt_of_lt_of_le (pb2.get (by decide) ((8 * x7279) + x9756)) (by decide))) x7279)⟩
              · clear h9792
                have hF10115 : Fr 182 a9802 [(2, .slice pA2 xs2.length pc2), (3, .pointer (some ⟨b3, 0, none⟩)), (4, .pointer (some ⟨b5, 0, none⟩)), (6, .pointer (some ⟨b7, 0, none⟩)), (7, .pointer (some ⟨b35, 0, none⟩)), (8, .int .i64 ((x7279 : Nat) : Int)), (9, .int .i64 ((x9756 : Nat) : Int)), (26, .bool false)] := hF9803.pick [2, 3, 4, 6, 7, 8, 9, 26] (by rw [decide_eq_false hc9804]; kernel_rfl); clear hF9803
                refine condF hF10115 (by kernel_rfl) ?_
                refine wp_exit ?_
                obtain rfl := Option.some.inj h9805
                obtain rfl : _ = xj9684 := hy9784
                exact ⟨zs9753, x9756, rfl, hF10115.pick [2, 3, 4, 6, 7, 8, 9] (by kernel_rfl), hS9791.pick [0, 1, 2, 3] (by decide) rfl, hh9754, hh9755⟩
            · skip
              clear hx9685 hF9544 hS8587 
              rintro a10116 w10117 ⟨zs9680, x9683, rfl, hF10118, hS10119, hh9681, hh9682⟩
              refine wp_exit ?_
              obtain rfl := Option.some.inj h9686
              obtain rfl := Option.some.inj (show some _ = some _ from h9537)
              exact ⟨zs9680, rfl, hF10118.pick [2, 3, 4, 6, 7, 8] (by kernel_rfl), hS10119.pick [0, 1, 2, 3] (by decide) rfl, hh9681, hh9682⟩
          · clear hx9536
            have hF10121 : Fr 182 a9540 [(2, .slice pA2 xs2.length pc2), (3, .pointer (some ⟨b3, 0, none⟩)), (4, .pointer (some ⟨b5, 0, none⟩)), (6, .pointer (some ⟨b7, 0, none⟩)), (7, .pointer (some ⟨b35, 0, none⟩)), (8, .int .i64 ((x7279 : Nat) : Int)), (24, .bool false)] := hF9541.pick [2, 3, 4, 6, 7, 8, 24] (by rw [decide_eq_false hc9542]; kernel_rfl); clear hF9541
            refine condF hF10121 (by kernel_rfl) ?_
            refine wp_skip ?_
            obtain rfl := Option.some.inj h9543
            exact ⟨rfl, hF10121.pick [2, 3, 4, 6, 7, 8] (by kernel_rfl), hS8587.pick [0, 1, 2, 3] (by decide) rfl⟩
        · skip
          clear hx9536 hF8602 hS8587 
          rintro a10122 w10123 ⟨rfl, hF10124, hS10125⟩
          refine wp_seq_k (fun K10127 hK10128 => ?_)
          obtain ⟨g10130, h10129⟩ : (-9223372036854775808 ≤ (((x7279 : Nat) : Int) - 15)) ∧ _ := gd_some h9537; clear h9537
          obtain ⟨g10132, h10131⟩ : ((((x7279 : Nat) : Int) - 15) ≤ 9223372036854775807) ∧ _ := gd_some h10129; clear h10129
          obtain ⟨g10134, h10133⟩ : (0 ≤ (((x7279 : Nat) : Int) - 15)) ∧ _ := gd_some h10131; clear h10131
          obtain ⟨g10136, h10135⟩ : ((((x7279 : Nat) : Int) - 15) < 80) ∧ _ := gd_some h10133; clear h10133
          obtain ⟨x10137, hr10139, h10138⟩ := bnd_some h10135; clear h10135; replace hr10139 : F_casemateref14_rotr (zs7276.getD (x7279 - 15) 0) 1 = some (x10137) := hr10139
          obtain ⟨x10141, hr10143, h10142⟩ := bnd_some h10138; clear h10138; replace hr10143 : F_casemateref14_rotr (zs7276.getD (x7279 - 15) 0) 8 = some (x10141) := hr10143
          obtain ⟨t10145, ht10146, h10147⟩ := ltb_some h10142; clear h10142; replace ht10146 : t10145 = ((x10137 ^^^ x10141) ^^^ ((zs7276.getD (x7279 - 15) 0) / 2 ^ 7)) := ht10146
          have hlt10149 := hS10125.ids
          have hsz10151 := hS10125.size
          let SL10150 : List SP := [SP.val (.int .i64 ((x7279 : Nat) : Int)), SP.val (.int .i64 (((x7279 : Nat) : Int) - 15)), SP.val (.pointer (some ⟨b35, (0 + (((x7279 : Nat) : Int) - 15).toNat), none⟩)), SP.val (.int .u64 (((zs7276.getD (x7279 - 15) 0) : Nat) : Int)), SP.mk' (fun B v W => v = .int .u64 ((x10137 : Nat) : Int) ∧ (x10137 < 18446744073709551616)) (fun B v W W2 hh gg => by obtain ⟨e, hh10140⟩ := hh; exact ⟨e, hh10140⟩), SP.val (.int .i64 ((x7279 : Nat) : Int)), SP.val (.int .i64 (((x7279 : Nat) : Int) - 15)), SP.val (.pointer (some ⟨b35, (0 + (((x7279 : Nat) : Int) - 15).toNat), none⟩)), SP.val (.int .u64 (((zs7276.getD (x7279 - 15) 0) : Nat) : Int)), SP.mk' (fun B v W => v = .int .u64 ((x10141 : Nat) : Int) ∧ (x10141 < 18446744073709551616)) (fun B v W W2 hh gg => by obtain ⟨e, hh10144⟩ := hh; exact ⟨e, hh10144⟩), SP.mk' (fun B v W => v = .int .u64 (((x10137 ^^^ x10141) : Nat) : Int) ∧ (x10137 < 18446744073709551616) ∧ (x10141 < 18446744073709551616)) (fun B v W W2 hh gg => by obtain ⟨e, hh10140, hh10144⟩ := hh; exact ⟨e, hh10140, hh10144⟩), SP.val (.int .i64 ((x7279 : Nat) : Int)), SP.val (.int .i64 (((x7279 : Nat) : Int) - 15)), SP.val (.pointer (some ⟨b35, (0 + (((x7279 : Nat) : Int) - 15).toNat), none⟩)), SP.val (.int .u64 (((zs7276.getD (x7279 - 15) 0) : Nat) : Int)), SP.val (.int .u64 ((((zs7276.getD (x7279 - 15) 0) / 2 ^ 7) : Nat) : Int)), SP.mk' (fun B v W => v = .int .u64 ((((x10137 ^^^ x10141) ^^^ ((zs7276.getD (x7279 - 15) 0) / 2 ^ 7)) : Nat) : Int) ∧ (x10137 < 18446744073709551616) ∧ (x10141 < 18446744073709551616)) (fun B v W W2 hh gg => by obtain ⟨e, hh10140, hh10144⟩ := hh; exact ⟨e, hh10140, hh10144⟩), SP.mk' (fun B v W => v = .int .u64 ((t10145 : Nat) : Int) ∧ (t10145 < 18446744073709551616)) (fun B v W W2 hh gg => by obtain ⟨e, hb10148⟩ := hh; exact ⟨e, hb10148⟩)]
          refine region_rel (SL := SL10150) (J := (fun (B : Bool) (W : World) => w10123.heap.size ≤ W.heap.size ∧ Heap w [] W [.blk b3 24 (vs .u64 xs0), .blk b5 26 (vs .u64 xs1), .blk b7 26 (vs .u64 (List.replicate 8 0)), .blk b35 24 (vs .u64 zs7276)])) (m := 18) wide (by kernel_rfl) (by kernel_rfl) hF10124 rfl ?_ ⟨Nat.le_refl _, hS10125⟩ ⟨?_, ?_, ?_, ?_, ?_, ?_, ?_, ?_, ?_, ?_, ?_, ?_, ?_, ?_, ?_, ?_, ?_, ?_, trivial⟩ [(10, some 17), (2, none), (3, none), (4, none), (6, none), (7, none), (8, none)] (by kernel_rfl) ?_
          · intro b W W' hj g; exact ⟨Nat.le_trans hj.1 g.size, hj.2.growN g⟩
          · -- operation 0
            rintro a10153 w10152 b10156 KK10162 hs10158 hd10159 hJ10160 hb10161 hr10163 hK10157
            have hr10163x : RD SL10150 b10156 a10153 a10122 w10152 [(8, none)] := hr10163 _ (by kernel_rfl)
            obtain ⟨q10164, -⟩ := hr10163x
            obtain ⟨hX10165, hS10155⟩ := hJ10160
            have hF10154 : Fr 182 a10153 [(8, .int .i64 ((x7279 : Nat) : Int))] := Fr.of hs10158 hd10159 ⟨(Fr.init hF10124 q10164 (by kernel_rfl)), trivial⟩
            refine s_pure hT (d := 44) (v := .int .i64 ((x7279 : Nat) : Int)) (cs := []) (by kernel_rfl) (by kernel_rfl) trivial hF10154 ?_
            rintro a2 ha2 hF2; rw [ha2]
            exact hK10157 _ _ rfl (grown_refl _ _)
          · -- operation 1
            rintro a10167 w10166 b10170 KK10176 hs10172 hd10173 hJ10174 hb10175 hr10177 hK10171
            have hr10177x : RD SL10150 b10170 a10167 a10122 w10166 [(44, some 0)] := hr10177 _ (by kernel_rfl)
            obtain ⟨⟨v10179, q10178, s10180⟩, -⟩ := hr10177x
            obtain rfl : v10179 = .int .i64 ((x7279 : Nat) : Int) := s10180
            obtain ⟨hX10181, hS10169⟩ := hJ10174
            have hF10168 : Fr 182 a10167 [(44, .int .i64 ((x7279 : Nat) : Int))] := Fr.of hs10172 hd10173 ⟨q10178, trivial⟩
            refine s_pure hT (d := 45) (v := .int .i64 (((x7279 : Nat) : Int) - 15)) (cs := [-9223372036854775808 ≤ (((x7279 : Nat) : Int) - 15), (((x7279 : Nat) : Int) - 15) ≤ 9223372036854775807]) (by kernel_rfl) (by kernel_rfl) (And.intro g10130 (And.intro g10132 trivial)) hF10168 ?_
            rintro a2 ha2 hF2; rw [ha2]
            exact hK10171 _ _ rfl (grown_refl _ _)
          · -- operation 2
            rintro a10183 w10182 b10186 KK10192 hs10188 hd10189 hJ10190 hb10191 hr10193 hK10187
            have hr10193x : RD SL10150 b10186 a10183 a10122 w10182 [(7, none), (45, some 1)] := hr10193 _ (by kernel_rfl)
            obtain ⟨q10194, ⟨v10196, q10195, s10197⟩, -⟩ := hr10193x
            obtain rfl : v10196 = .int .i64 (((x7279 : Nat) : Int) - 15) := s10197
            obtain ⟨hX10198, hS10185⟩ := hJ10190
            have hF10184 : Fr 182 a10183 [(7, .pointer (some ⟨b35, 0, none⟩)), (45, .int .i64 (((x7279 : Nat) : Int) - 15))] := Fr.of hs10188 hd10189 ⟨(Fr.init hF10124 q10194 (by kernel_rfl)), q10195, trivial⟩
            refine s_pure hT (d := 46) (v := .pointer (some ⟨b35, (0 + (((x7279 : Nat) : Int) - 15).toNat), none⟩)) (cs := [0 ≤ (((x7279 : Nat) : Int) - 15), (((x7279 : Nat) : Int) - 15) < 80]) (by kernel_rfl) (by kernel_rfl) (And.intro g10134 (And.intro g10136 trivial)) hF10184 ?_
            rintro a2 ha2 hF2; rw [ha2]
            exact hK10187 _ _ rfl (grown_refl _ _)
          · -- operation 3
            rintro a10200 w10199 b10203 KK10209 hs10205 hd10206 hJ10207 hb10208 hr10210 hK10204
            have hr10210x : RD SL10150 b10203 a10200 a10122 w10199 [(46, some 2)] := hr10210 _ (by kernel_rfl)
            obtain ⟨⟨v10212, q10211, s10213⟩, -⟩ := hr10210x
            obtain rfl : v10212 = .pointer (some ⟨b35, (0 + (((x7279 : Nat) : Int) - 15).toNat), none⟩) := s10213
            obtain ⟨hX10214, hS10202⟩ := hJ10207
            have hF10201 : Fr 182 a10200 [(46, .pointer (some ⟨b35, (0 + (((x7279 : Nat) : Int) - 15).toNat), none⟩))] := Fr.of hs10205 hd10206 ⟨q10211, trivial⟩
            refine s_load hT (d := 47) (A := ⟨b35, (0 + (((x7279 : Nat) : Int) - 15).toNat), none⟩) (v := .int .u64 (((zs7276.getD (x7279 - 15) 0) : Nat) : Int)) (by kernel_rfl) hF10201 (Cells.at (hS10202.blk 3 rfl).cells (vs_get .u64 zs7276 (i := (x7279 - 15)) (by have := hh7277; omega)) (by first | rfl | omega)) ?_
            rintro a10215 ha10217 hF10216
            rw [ha10217]
            exact hK10204 _ _ rfl (grown_refl _ _)
          · -- operation 4
            rintro a10219 w10218 b10222 KK10228 hs10224 hd10225 hJ10226 hb10227 hr10229 hK10223
            have hr10229x : RD SL10150 b10222 a10219 a10122 w10218 [(47, some 3)] := hr10229 _ (by kernel_rfl)
            obtain ⟨⟨v10231, q10230, s10232⟩, -⟩ := hr10229x
            obtain rfl : v10231 = .int .u64 (((zs7276.getD (x7279 - 15) 0) : Nat) : Int) := s10232
            obtain ⟨hX10233, hS10221⟩ := hJ10226
            have hF10220 : Fr 182 a10219 [(47, .int .u64 (((zs7276.getD (x7279 - 15) 0) : Nat) : Int))] := Fr.of hs10224 hd10225 ⟨q10230, trivial⟩
            refine s_call (d := 48) (f := 46) (l := [.int .u64 (((zs7276.getD (x7279 - 15) 0) : Nat) : Int), .int .u64 1]) (by kernel_rfl) hF10220 cl46 (W_casemateref14_rotr (zs7276.getD (x7279 - 15) 0) 1 _ (hh7278.get (by decide) (x7279 - 15)) (by decide) x10137 hr10139) ?_
            rintro a10234 w10235 v10236 ⟨rfl, hh10140, hC10237⟩ ha10238 hF10239
            have hS10240 : Heap w [] w10235 [.blk b3 24 (vs .u64 xs0), .blk b5 26 (vs .u64 xs1), .blk b7 26 (vs .u64 (List.replicate 8 0)), .blk b35 24 (vs .u64 zs7276)] := Heap.call hS10221 hC10237
            rw [ha10238]
            exact hK10223 _ _ ⟨rfl, hh10140⟩ (hC10237.grown)
          · -- operation 5
            rintro a10242 w10241 b10245 KK10251 hs10247 hd10248 hJ10249 hb10250 hr10252 hK10246
            have hr10252x : RD SL10150 b10245 a10242 a10122 w10241 [(8, none)] := hr10252 _ (by kernel_rfl)
            obtain ⟨q10253, -⟩ := hr10252x
            obtain ⟨hX10254, hS10244⟩ := hJ10249
            have hF10243 : Fr 182 a10242 [(8, .int .i64 ((x7279 : Nat) : Int))] := Fr.of hs10247 hd10248 ⟨(Fr.init hF10124 q10253 (by kernel_rfl)), trivial⟩
            refine s_pure hT (d := 49) (v := .int .i64 ((x7279 : Nat) : Int)) (cs := []) (by kernel_rfl) (by kernel_rfl) trivial hF10243 ?_
            rintro a2 ha2 hF2; rw [ha2]
            exact hK10246 _ _ rfl (grown_refl _ _)
          · -- operation 6
            rintro a10256 w10255 b10259 KK10265 hs10261 hd10262 hJ10263 hb10264 hr10266 hK10260
            have hr10266x : RD SL10150 b10259 a10256 a10122 w10255 [(49, some 5)] := hr10266 _ (by kernel_rfl)
            obtain ⟨⟨v10268, q10267, s10269⟩, -⟩ := hr10266x
            obtain rfl : v10268 = .int .i64 ((x7279 : Nat) : Int) := s10269
            obtain ⟨hX10270, hS10258⟩ := hJ10263
            have hF10257 : Fr 182 a10256 [(49, .int .i64 ((x7279 : Nat) : Int))] := Fr.of hs10261 hd10262 ⟨q10267, trivial⟩
            refine s_pure hT (d := 50) (v := .int .i64 (((x7279 : Nat) : Int) - 15)) (cs := [-9223372036854775808 ≤ (((x7279 : Nat) : Int) - 15), (((x7279 : Nat) : Int) - 15) ≤ 9223372036854775807]) (by kernel_rfl) (by kernel_rfl) (And.intro g10130 (And.intro g10132 trivial)) hF10257 ?_
            rintro a2 ha2 hF2; rw [ha2]
            exact hK10260 _ _ rfl (grown_refl _ _)
          · -- operation 7
            rintro a10272 w10271 b10275 KK10281 hs10277 hd10278 hJ10279 hb10280 hr10282 hK10276
            have hr10282x : RD SL10150 b10275 a10272 a10122 w10271 [(7, none), (50, some 6)] := hr10282 _ (by kernel_rfl)
            obtain ⟨q10283, ⟨v10285, q10284, s10286⟩, -⟩ := hr10282x
            obtain rfl : v10285 = .int .i64 (((x7279 : Nat) : Int) - 15) := s10286
            obtain ⟨hX10287, hS10274⟩ := hJ10279
            have hF10273 : Fr 182 a10272 [(7, .pointer (some ⟨b35, 0, none⟩)), (50, .int .i64 (((x7279 : Nat) : Int) - 15))] := Fr.of hs10277 hd10278 ⟨(Fr.init hF10124 q10283 (by kernel_rfl)), q10284, trivial⟩
            refine s_pure hT (d := 51) (v := .pointer (some ⟨b35, (0 + (((x7279 : Nat) : Int) - 15).toNat), none⟩)) (cs := [0 ≤ (((x7279 : Nat) : Int) - 15), (((x7279 : Nat) : Int) - 15) < 80]) (by kernel_rfl) (by kernel_rfl) (And.intro g10134 (And.intro g10136 trivial)) hF10273 ?_
            rintro a2 ha2 hF2; rw [ha2]
            exact hK10276 _ _ rfl (grown_refl _ _)
          · -- operation 8
            rintro a10289 w10288 b10292 KK10298 hs10294 hd10295 hJ10296 hb10297 hr10299 hK10293
            have hr10299x : RD SL10150 b10292 a10289 a10122 w10288 [(51, some 7)] := hr10299 _ (by kernel_rfl)
            obtain ⟨⟨v10301, q10300, s10302⟩, -⟩ := hr10299x
            obtain rfl : v10301 = .pointer (some ⟨b35, (0 + (((x7279 : Nat) : Int) - 15).toNat), none⟩) := s10302
            obtain ⟨hX10303, hS10291⟩ := hJ10296
            have hF10290 : Fr 182 a10289 [(51, .pointer (some ⟨b35, (0 + (((x7279 : Nat) : Int) - 15).toNat), none⟩))] := Fr.of hs10294 hd10295 ⟨q10300, trivial⟩
            refine s_load hT (d := 52) (A := ⟨b35, (0 + (((x7279 : Nat) : Int) - 15).toNat), none⟩) (v := .int .u64 (((zs7276.getD (x7279 - 15) 0) : Nat) : Int)) (by kernel_rfl) hF10290 (Cells.at (hS10291.blk 3 rfl).cells (vs_get .u64 zs7276 (i := (x7279 - 15)) (by have := hh7277; omega)) (by first | rfl | omega)) ?_
            rintro a10304 ha10306 hF10305
            rw [ha10306]
            exact hK10293 _ _ rfl (grown_refl _ _)
          · -- operation 9
            rintro a10308 w10307 b10311 KK10317 hs10313 hd10314 hJ10315 hb10316 hr10318 hK10312
            have hr10318x : RD SL10150 b10311 a10308 a10122 w10307 [(52, some 8)] := hr10318 _ (by kernel_rfl)
            obtain ⟨⟨v10320, q10319, s10321⟩, -⟩ := hr10318x
            obtain rfl : v10320 = .int .u64 (((zs7276.getD (x7279 - 15) 0) : Nat) : Int) := s10321
            obtain ⟨hX10322, hS10310⟩ := hJ10315
            have hF10309 : Fr 182 a10308 [(52, .int .u64 (((zs7276.getD (x7279 - 15) 0) : Nat) : Int))] := Fr.of hs10313 hd10314 ⟨q10319, trivial⟩
            refine s_call (d := 53) (f := 46) (l := [.int .u64 (((zs7276.getD (x7279 - 15) 0) : Nat) : Int), .int .u64 8]) (by kernel_rfl) hF10309 cl46 (W_casemateref14_rotr (zs7276.getD (x7279 - 15) 0) 8 _ (hh7278.get (by decide) (x7279 - 15)) (by decide) x10141 hr10143) ?_
            rintro a10323 w10324 v10325 ⟨rfl, hh10144, hC10326⟩ ha10327 hF10328
            have hS10329 : Heap w [] w10324 [.blk b3 24 (vs .u64 xs0), .blk b5 26 (vs .u64 xs1), .blk b7 26 (vs .u64 (List.replicate 8 0)), .blk b35 24 (vs .u64 zs7276)] := Heap.call hS10310 hC10326
            rw [ha10327]
            exact hK10312 _ _ ⟨rfl, hh10144⟩ (hC10326.grown)
          · -- operation 10
            rintro a10331 w10330 b10334 KK10340 hs10336 hd10337 hJ10338 hb10339 hr10341 hK10335
            have hr10341x : RD SL10150 b10334 a10331 a10122 w10330 [(48, some 4), (53, some 9)] := hr10341 _ (by kernel_rfl)
            obtain ⟨⟨v10343, q10342, s10344⟩, ⟨v10346, q10345, s10347⟩, -⟩ := hr10341x
            obtain ⟨rfl, hh10140⟩ := s10344
            obtain ⟨rfl, hh10144⟩ := s10347
            obtain ⟨hX10348, hS10333⟩ := hJ10338
            have hF10332 : Fr 182 a10331 [(48, .int .u64 ((x10137 : Nat) : Int)), (53, .int .u64 ((x10141 : Nat) : Int))] := Fr.of hs10336 hd10337 ⟨q10342, q10345, trivial⟩
            refine s_pure hT (d := 54) (v := .int .u64 (((x10137 ^^^ x10141) : Nat) : Int)) (cs := [x10137 < 18446744073709551616, x10141 < 18446744073709551616]) (by kernel_rfl) (by kernel_rfl) (And.intro hh10140 (And.intro hh10144 trivial)) hF10332 ?_
            rintro a2 ha2 hF2; rw [ha2]
            exact hK10335 _ _ ⟨rfl, hh10140, hh10144⟩ (grown_refl _ _)
          · -- operation 11
            rintro a10350 w10349 b10353 KK10359 hs10355 hd10356 hJ10357 hb10358 hr10360 hK10354
            have hr10360x : RD SL10150 b10353 a10350 a10122 w10349 [(8, none)] := hr10360 _ (by kernel_rfl)
            obtain ⟨q10361, -⟩ := hr10360x
            obtain ⟨hX10362, hS10352⟩ := hJ10357
            have hF10351 : Fr 182 a10350 [(8, .int .i64 ((x7279 : Nat) : Int))] := Fr.of hs10355 hd10356 ⟨(Fr.init hF10124 q10361 (by kernel_rfl)), trivial⟩
            refine s_pure hT (d := 55) (v := .int .i64 ((x7279 : Nat) : Int)) (cs := []) (by kernel_rfl) (by kernel_rfl) trivial hF10351 ?_
            rintro a2 ha2 hF2; rw [ha2]
            exact hK10354 _ _ rfl (grown_refl _ _)
          · -- operation 12
            rintro a10364 w10363 b10367 KK10373 hs10369 hd10370 hJ10371 hb10372 hr10374 hK10368
            have hr10374x : RD SL10150 b10367 a10364 a10122 w10363 [(55, some 11)] := hr10374 _ (by kernel_rfl)
            obtain ⟨⟨v10376, q10375, s10377⟩, -⟩ := hr10374x
            obtain rfl : v10376 = .int .i64 ((x7279 : Nat) : Int) := s10377
            obtain ⟨hX10378, hS10366⟩ := hJ10371
            have hF10365 : Fr 182 a10364 [(55, .int .i64 ((x7279 : Nat) : Int))] := Fr.of hs10369 hd10370 ⟨q10375, trivial⟩
            refine s_pure hT (d := 56) (v := .int .i64 (((x7279 : Nat) : Int) - 15)) (cs := [-9223372036854775808 ≤ (((x7279 : Nat) : Int) - 15), (((x7279 : Nat) : Int) - 15) ≤ 9223372036854775807]) (by kernel_rfl) (by kernel_rfl) (And.intro g10130 (And.intro g10132 trivial)) hF10365 ?_
            rintro a2 ha2 hF2; rw [ha2]
            exact hK10368 _ _ rfl (grown_refl _ _)
          · -- operation 13
            rintro a10380 w10379 b10383 KK10389 hs10385 hd10386 hJ10387 hb10388 hr10390 hK10384
            have hr10390x : RD SL10150 b10383 a10380 a10122 w10379 [(7, none), (56, some 12)] := hr10390 _ (by kernel_rfl)
            obtain ⟨q10391, ⟨v10393, q10392, s10394⟩, -⟩ := hr10390x
            obtain rfl : v10393 = .int .i64 (((x7279 : Nat) : Int) - 15) := s10394
            obtain ⟨hX10395, hS10382⟩ := hJ10387
            have hF10381 : Fr 182 a10380 [(7, .pointer (some ⟨b35, 0, none⟩)), (56, .int .i64 (((x7279 : Nat) : Int) - 15))] := Fr.of hs10385 hd10386 ⟨(Fr.init hF10124 q10391 (by kernel_rfl)), q10392, trivial⟩
            refine s_pure hT (d := 57) (v := .pointer (some ⟨b35, (0 + (((x7279 : Nat) : Int) - 15).toNat), none⟩)) (cs := [0 ≤ (((x7279 : Nat) : Int) - 15), (((x7279 : Nat) : Int) - 15) < 80]) (by kernel_rfl) (by kernel_rfl) (And.intro g10134 (And.intro g10136 trivial)) hF10381 ?_
            rintro a2 ha2 hF2; rw [ha2]
            exact hK10384 _ _ rfl (grown_refl _ _)
          · -- operation 14
            rintro a10397 w10396 b10400 KK10406 hs10402 hd10403 hJ10404 hb10405 hr10407 hK10401
            have hr10407x : RD SL10150 b10400 a10397 a10122 w10396 [(57, some 13)] := hr10407 _ (by kernel_rfl)
            obtain ⟨⟨v10409, q10408, s10410⟩, -⟩ := hr10407x
            obtain rfl : v10409 = .pointer (some ⟨b35, (0 + (((x7279 : Nat) : Int) - 15).toNat), none⟩) := s10410
            obtain ⟨hX10411, hS10399⟩ := hJ10404
            have hF10398 : Fr 182 a10397 [(57, .pointer (some ⟨b35, (0 + (((x7279 : Nat) : Int) - 15).toNat), none⟩))] := Fr.of hs10402 hd10403 ⟨q10408, trivial⟩
            refine s_load hT (d := 58) (A := ⟨b35, (0 + (((x7279 : Nat) : Int) - 15).toNat), none⟩) (v := .int .u64 (((zs7276.getD (x7279 - 15) 0) : Nat) : Int)) (by kernel_rfl) hF10398 (Cells.at (hS10399.blk 3 rfl).cells (vs_get .u64 zs7276 (i := (x7279 - 15)) (by have := hh7277; omega)) (by first | rfl | omega)) ?_
            rintro a10412 ha10414 hF10413
            rw [ha10414]
            exact hK10401 _ _ rfl (grown_refl _ _)
          · -- operation 15
            rintro a10416 w10415 b10419 KK10425 hs10421 hd10422 hJ10423 hb10424 hr10426 hK10420
            have hr10426x : RD SL10150 b10419 a10416 a10122 w10415 [(58, some 14)] := hr10426 _ (by kernel_rfl)
            obtain ⟨⟨v10428, q10427, s10429⟩, -⟩ := hr10426x
            obtain rfl : v10428 = .int .u64 (((zs7276.getD (x7279 - 15) 0) : Nat) : Int) := s10429
            obtain ⟨hX10430, hS10418⟩ := hJ10423
            have hF10417 : Fr 182 a10416 [(58, .int .u64 (((zs7276.getD (x7279 - 15) 0) : Nat) : Int))] := Fr.of hs10421 hd10422 ⟨q10427, trivial⟩
            refine s_pure hT (d := 59) (v := .int .u64 ((((zs7276.getD (x7279 - 15) 0) / 2 ^ 7) : Nat) : Int)) (cs := [(zs7276.getD (x7279 - 15) 0) < 18446744073709551616]) (by kernel_rfl) (by kernel_rfl) (And.intro (hh7278.get (by decide) (x7279 - 15)) trivial) hF10417 ?_
            rintro a2 ha2 hF2; rw [ha2]
            exact hK10420 _ _ rfl (grown_refl _ _)
          · -- operation 16
            rintro a10432 w10431 b10435 KK10441 hs10437 hd10438 hJ10439 hb10440 hr10442 hK10436
            have hr10442x : RD SL10150 b10435 a10432 a10122 w10431 [(54, some 10), (59, some 15)] := hr10442 _ (by kernel_rfl)
            obtain ⟨⟨v10444, q10443, s10445⟩, ⟨v10447, q10446, s10448⟩, -⟩ := hr10442x
            obtain ⟨rfl, hh10140, hh10144⟩ := s10445
            obtain rfl : v10447 = .int .u64 ((((zs7276.getD (x7279 - 15) 0) / 2 ^ 7) : Nat) : Int) := s10448
            obtain ⟨hX10449, hS10434⟩ := hJ10439
            have hF10433 : Fr 182 a10432 [(54, .int .u64 (((x10137 ^^^ x10141) : Nat) : Int)), (59, .int .u64 ((((zs7276.getD (x7279 - 15) 0) / 2 ^ 7) : Nat) : Int))] := Fr.of hs10437 hd10438 ⟨q10443, q10446, trivial⟩
            refine s_pure hT (d := 60) (v := .int .u64 ((((x10137 ^^^ x10141) ^^^ ((zs7276.getD (x7279 - 15) 0) / 2 ^ 7)) : Nat) : Int)) (cs := [(x10137 ^^^ x10141) < 18446744073709551616, ((zs7276.getD (x7279 - 15) 0) / 2 ^ 7) < 18446744073709551616]) (by kernel_rfl) (by kernel_rfl) (And.intro (lt_xor (n := 64) hh10140 hh10144) (And.intro (lt_div (hh7278.get (by decide) (x7279 - 15)) _) trivial)) hF10433 ?_
            rintro a2 ha2 hF2; rw [ha2]
            exact hK10436 _ _ ⟨rfl, hh10140, hh10144⟩ (grown_refl _ _)
          · -- operation 17
            rintro a10451 w10450 b10454 KK10460 hs10456 hd10457 hJ10458 hb10459 hr10461 hK10455
            have hr10461x : RD SL10150 b10454 a10451 a10122 w10450 [(60, some 16)] := hr10461 _ (by kernel_rfl)
            obtain ⟨⟨v10463, q10462, s10464⟩, -⟩ := hr10461x
            obtain ⟨rfl, hh10140, hh10144⟩ := s10464
            obtain ⟨hX10465, hS10453⟩ := hJ10458
            have hF10452 : Fr 182 a10451 [(60, .int .u64 ((((x10137 ^^^ x10141) ^^^ ((zs7276.getD (x7279 - 15) 0) / 2 ^ 7)) : Nat) : Int))] := Fr.of hs10456 hd10457 ⟨q10462, trivial⟩
            refine s_pure hT (d := 10) (v := .int .u64 ((((x10137 ^^^ x10141) ^^^ ((zs7276.getD (x7279 - 15) 0) / 2 ^ 7)) : Nat) : Int)) (cs := []) (by kernel_rfl) (by kernel_rfl) trivial hF10452 ?_
            rintro a2 ha2 hF2; rw [ha2]
            have hb10148 : t10145 < 18446744073709551616 := by rw [ht10146]; exact (lt_xor (n := 64) (lt_xor (n := 64) hh10140 hh10144) (lt_div (hh7278.get (by decide) (x7279 - 15)) _))
            exact hK10455 _ _ ⟨(show (.int .u64 ((((x10137 ^^^ x10141) ^^^ ((zs7276.getD (x7279 - 15) 0) / 2 ^ 7)) : Nat) : Int) : Value) = .int .u64 ((t10145 : Nat) : Int) by (rw [ht10146] <;> rfl)), hb10148⟩ (grown_refl _ _)
          · -- behind the region
            rintro a10466 w10467 hs10468 hd10469 ⟨⟨v10472, q10473, s10474⟩, q10475, q10476, q10477, q10478, q10479, q10480, -⟩ ⟨hX10471, hS10470⟩
            obtain ⟨rfl, hb10148⟩ := s10474
            have hF10481 : Fr 182 a10466 [(10, .int .u64 ((t10145 : Nat) : Int)), (2, .slice pA2 xs2.length pc2), (3, .pointer (some ⟨b3, 0, none⟩)), (4, .pointer (some ⟨b5, 0, none⟩)), (6, .pointer (some ⟨b7, 0, none⟩)), (7, .pointer (some ⟨b35, 0, none⟩)), (8, .int .i64 ((x7279 : Nat) : Int))] := Fr.of hs10468 hd10469 ⟨q10473, (Fr.init hF10124 q10475 (by kernel_rfl)), (Fr.init hF10124 q10476 (by kernel_rfl)), (Fr.init hF10124 q10477 (by kernel_rfl)), (Fr.init hF10124 q10478 (by kernel_rfl)), (Fr.init hF10124 q10479 (by kernel_rfl)), (Fr.init hF10124 q10480 (by kernel_rfl)), trivial⟩
            clear hF10124 hS10125 hs10468 hd10469 q10473 q10475 q10476 q10477 q10478 q10479 q10480
            refine hK10128 _ _ ?_
            refine wp_seq_k (fun K10482 hK10483 => ?_)
            obtain ⟨g10485, h10484⟩ : (-9223372036854775808 ≤ (((x7279 : Nat) : Int) - 2)) ∧ _ := gd_some h10147; clear h10147
            obtain ⟨g10487, h10486⟩ : ((((x7279 : Nat) : Int) - 2) ≤ 9223372036854775807) ∧ _ := gd_some h10484; clear h10484
            obtain ⟨g10489, h10488⟩ : (0 ≤ (((x7279 : Nat) : Int) - 2)) ∧ _ := gd_some h10486; clear h10486
            obtain ⟨g10491, h10490⟩ : ((((x7279 : Nat) : Int) - 2) < 80) ∧ _ := gd_some h10488; clear h10488
            obtain ⟨x10492, hr10494, h10493⟩ := bnd_some h10490; clear h10490; replace hr10494 : F_casemateref14_rotr (zs7276.getD (x7279 - 2) 0) 19 = some (x10492) := hr10494
            obtain ⟨x10496, hr10498, h10497⟩ := bnd_some h10493; clear h10493; replace hr10498 : F_casemateref14_rotr (zs7276.getD (x7279 - 2) 0) 61 = some (x10496) := hr10498
            obtain ⟨t10500, ht10501, h10502⟩ := ltb_some h10497; clear h10497; replace ht10501 : t10500 = ((x10492 ^^^ x10496) ^^^ ((zs7276.getD (x7279 - 2) 0) / 2 ^ 6)) := ht10501
            have hlt10504 := hS10470.ids
            have hsz10506 := hS10470.size
            let SL10505 : List SP := [SP.val (.int .i64 ((x7279 : Nat) : Int)), SP.val (.int .i64 (((x7279 : Nat) : Int) - 2)), SP.val (.pointer (some ⟨b35, (0 + (((x7279 : Nat) : Int) - 2).toNat), none⟩)), SP.val (.int .u64 (((zs7276.getD (x7279 - 2) 0) : Nat) : Int)), SP.mk' (fun B v W => v = .int .u64 ((x10492 : Nat) : Int) ∧ (x10492 < 18446744073709551616)) (fun B v W W2 hh gg => by obtain ⟨e, hh10495⟩ := hh; exact ⟨e, hh10495⟩), SP.val (.int .i64 ((x7279 : Nat) : Int)), SP.val (.int .i64 (((x7279 : Nat) : Int) - 2)), SP.val (.pointer (some ⟨b35, (0 + (((x7279 : Nat) : Int) - 2).toNat), none⟩)), SP.val (.int .u64 (((zs7276.getD (x7279 - 2) 0) : Nat) : Int)), SP.mk' (fun B v W => v = .int .u64 ((x10496 : Nat) : Int) ∧ (x10496 < 18446744073709551616)) (fun B v W W2 hh gg => by obtain ⟨e, hh10499⟩ := hh; exact ⟨e, hh10499⟩), SP.mk' (fun B v W => v = .int .u64 (((x10492 ^^^ x10496) : Nat) : Int) ∧ (x10492 < 18446744073709551616) ∧ (x10496 < 18446744073709551616)) (fun B v W W2 hh gg => by obtain ⟨e, hh10495, hh10499⟩ := hh; exact ⟨e, hh10495, hh10499⟩), SP.val (.int .i64 ((x7279 : Nat) : Int)), SP.val (.int .i64 (((x7279 : Nat) : Int) - 2)), SP.val (.pointer (some ⟨b35, (0 + (((x7279 : Nat) : Int) - 2).toNat), none⟩)), SP.val (.int .u64 (((zs7276.getD (x7279 - 2) 0) : Nat) : Int)), SP.val (.int .u64 ((((zs7276.getD (x7279 - 2) 0) / 2 ^ 6) : Nat) : Int)), SP.mk' (fun B v W => v = .int .u64 ((((x10492 ^^^ x10496) ^^^ ((zs7276.getD (x7279 - 2) 0) / 2 ^ 6)) : Nat) : Int) ∧ (x10492 < 18446744073709551616) ∧ (x10496 < 18446744073709551616)) (fun B v W W2 hh gg => by obtain ⟨e, hh10495, hh10499⟩ := hh; exact ⟨e, hh10495, hh10499⟩), SP.mk' (fun B v W => v = .int .u64 ((t10500 : Nat) : Int) ∧ (t10500 < 18446744073709551616)) (fun B v W W2 hh gg => by obtain ⟨e, hb10503⟩ := hh; exact ⟨e, hb10503⟩)]
            refine region_rel (SL := SL10505) (J := (fun (B : Bool) (W : World) => w10467.heap.size ≤ W.heap.size ∧ Heap w [] W [.blk b3 24 (vs .u64 xs0), .blk b5 26 (vs .u64 xs1), .blk b7 26 (vs .u64 (List.replicate 8 0)), .blk b35 24 (vs .u64 zs7276)])) (m := 18) wide (by kernel_rfl) (by kernel_rfl) hF10481 rfl ?_ ⟨Nat.le_refl _, hS10470⟩ ⟨?_, ?_, ?_, ?_, ?_, ?_, ?_, ?_, ?_, ?_, ?_, ?_, ?_, ?_, ?_, ?_, ?_, ?_, trivial⟩ [(11, some 17), (10, none), (2, none), (3, none), (4, none), (6, none), (7, none), (8, none)] (by kernel_rfl) ?_
            · intro b W W' hj g; exact ⟨Nat.le_trans hj.1 g.size, hj.2.growN g⟩
            · -- operation 0
              rintro a10508 w10507 b10511 KK10517 hs10513 hd10514 hJ10515 hb10516 hr10518 hK10512
              have hr10518x : RD SL10505 b10511 a10508 a10466 w10507 [(8, none)] := hr10518 _ (by kernel_rfl)
              obtain ⟨q10519, -⟩ := hr10518x
              obtain ⟨hX10520, hS10510⟩ := hJ10515
              have hF10509 : Fr 182 a10508 [(8, .int .i64 ((x7279 : Nat) : Int))] := Fr.of hs10513 hd10514 ⟨(Fr.init hF10481 q10519 (by kernel_rfl)), trivial⟩
              refine s_pure hT (d := 61) (v := .int .i64 ((x7279 : Nat) : Int)) (cs := []) (by kernel_rfl) (by kernel_rfl) trivial hF10509 ?_
              rintro a2 ha2 hF2; rw [ha2]
              exact hK10512 _ _ rfl (grown_refl _ _)
            · -- operation 1
              rintro a10522 w10521 b10525 KK10531 hs10527 hd10528 hJ10529 hb10530 hr10532 hK10526
              have hr10532x : RD SL10505 b10525 a10522 a10466 w10521 [(61, some 0)] := hr10532 _ (by kernel_rfl)
              obtain ⟨⟨v10534, q10533, s10535⟩, -⟩ := hr10532x
              obtain rfl : v10534 = .int .i64 ((x7279 : Nat) : Int) := s10535
              obtain ⟨hX10536, hS10524⟩ := hJ10529
              have hF10523 : Fr 182 a10522 [(61, .int .i64 ((x7279 : Nat) : Int))] := Fr.of hs10527 hd10528 ⟨q10533, trivial⟩
              refine s_pure hT (d := 62) (v := .int .i64 (((x7279 : Nat) : Int) - 2)) (cs := [-9223372036854775808 ≤ (((x7279 : Nat) : Int) - 2), (((x7279 : Nat) : Int) - 2) ≤ 9223372036854775807]) (by kernel_rfl) (by kernel_rfl) (And.intro g10485 (And.intro g10487 trivial)) hF10523 ?_
              rintro a2 ha2 hF2; rw [ha2]
              exact hK10526 _ _ rfl (grown_refl _ _)
            · -- operation 2
              rintro a10538 w10537 b10541 KK10547 hs10543 hd10544 hJ10545 hb10546 hr10548 hK10542
              have hr10548x : RD SL10505 b10541 a10538 a10466 w10537 [(7, none), (62, some 1)] := hr10548 _ (by kernel_rfl)
              obtain ⟨q10549, ⟨v10551, q10550, s10552⟩, -⟩ := hr10548x
              obtain rfl : v10551 = .int .i64 (((x7279 : Nat) : Int) - 2) := s10552
              obtain ⟨hX10553, hS10540⟩ := hJ10545
              have hF10539 : Fr 182 a10538 [(7, .pointer (some ⟨b35, 0, none⟩)), (62, .int .i64 (((x7279 : Nat) : Int) - 2))] := Fr.of hs10543 hd10544 ⟨(Fr.init hF10481 q10549 (by kernel_rfl)), q10550, trivial⟩
              refine s_pure hT (d := 63) (v := .pointer (some ⟨b35, (0 + (((x7279 : Nat) : Int) - 2).toNat), none⟩)) (cs := [0 ≤ (((x7279 : Nat) : Int) - 2), (((x7279 : Nat) : Int) - 2) < 80]) (by kernel_rfl) (by kernel_rfl) (And.intro g10489 (And.intro g10491 trivial)) hF10539 ?_
              rintro a2 ha2 hF2; rw [ha2]
              exact hK10542 _ _ rfl (grown_refl _ _)
            · -- operation 3
              rintro a10555 w10554 b10558 KK10564 hs10560 hd10561 hJ10562 hb10563 hr10565 hK10559
              have hr10565x : RD SL10505 b10558 a10555 a10466 w10554 [(63, some 2)] := hr10565 _ (by kernel_rfl)
              obtain ⟨⟨v10567, q10566, s10568⟩, -⟩ := hr10565x
              obtain rfl : v10567 = .pointer (some ⟨b35, (0 + (((x7279 : Nat) : Int) - 2).toNat), none⟩) := s10568
              obtain ⟨hX10569, hS10557⟩ := hJ10562
              have hF10556 : Fr 182 a10555 [(63, .pointer (some ⟨b35, (0 + (((x7279 : Nat) : Int) - 2).toNat), none⟩))] := Fr.of hs10560 hd10561 ⟨q10566, trivial⟩
              refine s_load hT (d := 64) (A := ⟨b35, (0 + (((x7279 : Nat) : Int) - 2).toNat), none⟩) (v := .int .u64 (((zs7276.getD (x7279 - 2) 0) : Nat) : Int)) (by kernel_rfl) hF10556 (Cells.at (hS10557.blk 3 rfl).cells (vs_get .u64 zs7276 (i := (x7279 - 2)) (by have := hh7277; omega)) (by first | rfl | omega)) ?_
              rintro a10570 ha10572 hF10571
              rw [ha10572]
              exact hK10559 _ _ rfl (grown_refl _ _)
            · -- operation 4
              rintro a10574 w10573 b10577 KK10583 hs10579 hd10580 hJ10581 hb10582 hr10584 hK10578
              have hr10584x : RD SL10505 b10577 a10574 a10466 w10573 [(64, some 3)] := hr10584 _ (by kernel_rfl)
              obtain ⟨⟨v10586, q10585, s10587⟩, -⟩ := hr10584x
              obtain rfl : v10586 = .int .u64 (((zs7276.getD (x7279 - 2) 0) : Nat) : Int) := s10587
              obtain ⟨hX10588, hS10576⟩ := hJ10581
              have hF10575 : Fr 182 a10574 [(64, .int .u64 (((zs7276.getD (x7279 - 2) 0) : Nat) : Int))] := Fr.of hs10579 hd10580 ⟨q10585, trivial⟩
              refine s_call (d := 65) (f := 46) (l := [.int .u64 (((zs7276.getD (x7279 - 2) 0) : Nat) : Int), .int .u64 19]) (by kernel_rfl) hF10575 cl46 (W_casemateref14_rotr (zs7276.getD (x7279 - 2) 0) 19 _ (hh7278.get (by decide) (x7279 - 2)) (by decide) x10492 hr10494) ?_
              rintro a10589 w10590 v10591 ⟨rfl, hh10495, hC10592⟩ ha10593 hF10594
              have hS10595 : Heap w [] w10590 [.blk b3 24 (vs .u64 xs0), .blk b5 26 (vs .u64 xs1), .blk b7 26 (vs .u64 (List.replicate 8 0)), .blk b35 24 (vs .u64 zs7276)] := Heap.call hS10576 hC10592
              rw [ha10593]
              exact hK10578 _ _ ⟨rfl, hh10495⟩ (hC10592.grown)
            · -- operation 5
              rintro a10597 w10596 b10600 KK10606 hs10602 hd10603 hJ10604 hb10605 hr10607 hK10601
              have hr10607x : RD SL10505 b10600 a10597 a10466 w10596 [(8, none)] := hr10607 _ (by kernel_rfl)
              obtain ⟨q10608, -⟩ := hr10607x
              obtain ⟨hX10609, hS10599⟩ := hJ10604
              have hF10598 : Fr 182 a10597 [(8, .int .i64 ((x7279 : Nat) : Int))] := Fr.of hs10602 hd10603 ⟨(Fr.init hF10481 q10608 (by kernel_rfl)), trivial⟩
              refine s_pure hT (d := 66) (v := .int .i64 ((x7279 : Nat) : Int)) (cs := []) (by kernel_rfl) (by kernel_rfl) trivial hF10598 ?_
              rintro a2 ha2 hF2; rw [ha2]
              exact hK10601 _ _ rfl (grown_refl _ _)
            · -- operation 6
              rintro a10611 w10610 b10614 KK10620 hs10616 hd10617 hJ10618 hb10619 hr10621 hK10615
              have hr10621x : RD SL10505 b10614 a10611 a10466 w10610 [(66, some 5)] := hr10621 _ (by kernel_rfl)
              obtain ⟨⟨v10623, q10622, s10624⟩, -⟩ := hr10621x
              obtain rfl : v10623 = .int .i64 ((x7279 : Nat) : Int) := s10624
              obtain ⟨hX10625, hS10613⟩ := hJ10618
              have hF10612 : Fr 182 a10611 [(66, .int .i64 ((x7279 : Nat) : Int))] := Fr.of hs10616 hd10617 ⟨q10622, trivial⟩
              refine s_pure hT (d := 67) (v := .int .i64 (((x7279 : Nat) : Int) - 2)) (cs := [-9223372036854775808 ≤ (((x7279 : Nat) : Int) - 2), (((x7279 : Nat) : Int) - 2) ≤ 9223372036854775807]) (by kernel_rfl) (by kernel_rfl) (And.intro g10485 (And.intro g10487 trivial)) hF10612 ?_
              rintro a2 ha2 hF2; rw [ha2]
              exact hK10615 _ _ rfl (grown_refl _ _)
            · -- operation 7
              rintro a10627 w10626 b10630 KK10636 hs10632 hd10633 hJ10634 hb10635 hr10637 hK10631
              have hr10637x : RD SL10505 b10630 a10627 a10466 w10626 [(7, none), (67, some 6)] := hr10637 _ (by kernel_rfl)
              obtain ⟨q10638, ⟨v10640, q10639, s10641⟩, -⟩ := hr10637x
              obtain rfl : v10640 = .int .i64 (((x7279 : Nat) : Int) - 2) := s10641
              obtain ⟨hX10642, hS10629⟩ := hJ10634
              have hF10628 : Fr 182 a10627 [(7, .pointer (some ⟨b35, 0, none⟩)), (67, .int .i64 (((x7279 : Nat) : Int) - 2))] := Fr.of hs10632 hd10633 ⟨(Fr.init hF10481 q10638 (by kernel_rfl)), q10639, trivial⟩
              refine s_pure hT (d := 68) (v := .pointer (some ⟨b35, (0 + (((x7279 : Nat) : Int) - 2).toNat), none⟩)) (cs := [0 ≤ (((x7279 : Nat) : Int) - 2), (((x7279 : Nat) : Int) - 2) < 80]) (by kernel_rfl) (by kernel_rfl) (And.intro g10489 (And.intro g10491 trivial)) hF10628 ?_
              rintro a2 ha2 hF2; rw [ha2]
              exact hK10631 _ _ rfl (grown_refl _ _)
            · -- operation 8
              rintro a10644 w10643 b10647 KK10653 hs10649 hd10650 hJ10651 hb10652 hr10654 hK10648
              have hr10654x : RD SL10505 b10647 a10644 a10466 w10643 [(68, some 7)] := hr10654 _ (by kernel_rfl)
              obtain ⟨⟨v10656, q10655, s10657⟩, -⟩ := hr10654x
              obtain rfl : v10656 = .pointer (some ⟨b35, (0 + (((x7279 : Nat) : Int) - 2).toNat), none⟩) := s10657
              obtain ⟨hX10658, hS10646⟩ := hJ10651
              have hF10645 : Fr 182 a10644 [(68, .pointer (some ⟨b35, (0 + (((x7279 : Nat) : Int) - 2).toNat), none⟩))] := Fr.of hs10649 hd10650 ⟨q10655, trivial⟩
              refine s_load hT (d := 69) (A := ⟨b35, (0 + (((x7279 : Nat) : Int) - 2).toNat), none⟩) (v := .int .u64 (((zs7276.getD (x7279 - 2) 0) : Nat) : Int)) (by kernel_rfl) hF10645 (Cells.at (hS10646.blk 3 rfl).cells (vs_get .u64 zs7276 (i := (x7279 - 2)) (by have := hh7277; omega)) (by first | rfl | omega)) ?_
              rintro a10659 ha10661 hF10660
              rw [ha10661]
              exact hK10648 _ _ rfl (grown_refl _ _)
            · -- operation 9
              rintro a10663 w10662 b10666 KK10672 hs10668 hd10669 hJ10670 hb10671 hr10673 hK10667
              have hr10673x : RD SL10505 b10666 a10663 a10466 w10662 [(69, some 8)] := hr10673 _ (by kernel_rfl)
              obtain ⟨⟨v10675, q10674, s10676⟩, -⟩ := hr10673x
              obtain rfl : v10675 = .int .u64 (((zs7276.getD (x7279 - 2) 0) : Nat) : Int) := s10676
              obtain ⟨hX10677, hS10665⟩ := hJ10670
              have hF10664 : Fr 182 a10663 [(69, .int .u64 (((zs7276.getD (x7279 - 2) 0) : Nat) : Int))] := Fr.of hs10668 hd10669 ⟨q10674, trivial⟩
              refine s_call (d := 70) (f := 46) (l := [.int .u64 (((zs7276.getD (x7279 - 2) 0) : Nat) : Int), .int .u64 61]) (by kernel_rfl) hF10664 cl46 (W_casemateref14_rotr (zs7276.getD (x7279 - 2) 0) 61 _ (hh7278.get (by decide) (x7279 - 2)) (by decide) x10496 hr10498) ?_
              rintro a10678 w10679 v10680 ⟨rfl, hh10499, hC10681⟩ ha10682 hF10683
              have hS10684 : Heap w [] w10679 [.blk b3 24 (vs .u64 xs0), .blk b5 26 (vs .u64 xs1), .blk b7 26 (vs .u64 (List.replicate 8 0)), .blk b35 24 (vs .u64 zs7276)] := Heap.call hS10665 hC10681
              rw [ha10682]
              exact hK10667 _ _ ⟨rfl, hh10499⟩ (hC10681.grown)
            · -- operation 10
              rintro a10686 w10685 b10689 KK10695 hs10691 hd10692 hJ10693 hb10694 hr10696 hK10690
              have hr10696x : RD SL10505 b10689 a10686 a10466 w10685 [(65, some 4), (70, some 9)] := hr10696 _ (by kernel_rfl)
              obtain ⟨⟨v10698, q10697, s10699⟩, ⟨v10701, q10700, s10702⟩, -⟩ := hr10696x
              obtain ⟨rfl, hh10495⟩ := s10699
              obtain ⟨rfl, hh10499⟩ := s10702
              obtain ⟨hX10703, hS10688⟩ := hJ10693
              have hF10687 : Fr 182 a10686 [(65, .int .u64 ((x10492 : Nat) : Int)), (70, .int .u64 ((x10496 : Nat) : Int))] := Fr.of hs10691 hd10692 ⟨q10697, q10700, trivial⟩
              refine s_pure hT (d := 71) (v := .int .u64 (((x10492 ^^^ x10496) : Nat) : Int)) (cs := [x10492 < 18446744073709551616, x10496 < 18446744073709551616]) (by kernel_rfl) (by kernel_rfl) (And.intro hh10495 (And.intro hh10499 trivial)) hF10687 ?_
              rintro a2 ha2 hF2; rw [ha2]
              exact hK10690 _ _ ⟨rfl, hh10495, hh10499⟩ (grown_refl _ _)
            · -- operation 11
              rintro a10705 w10704 b10708 KK10714 hs10710 hd10711 hJ10712 hb10713 hr10715 hK10709
              have hr10715x : RD SL10505 b10708 a10705 a10466 w10704 [(8, none)] := hr10715 _ (by kernel_rfl)
              obtain ⟨q10716, -⟩ := hr10715x
              obtain ⟨hX10717, hS10707⟩ := hJ10712
              have hF10706 : Fr 182 a10705 [(8, .int .i64 ((x7279 : Nat) : Int))] := Fr.of hs10710 hd10711 ⟨(Fr.init hF10481 q10716 (by kernel_rfl)), trivial⟩
              refine s_pure hT (d := 72) (v := .int .i64 ((x7279 : Nat) : Int)) (cs := []) (by kernel_rfl) (by kernel_rfl) trivial hF10706 ?_
              rintro a2 ha2 hF2; rw [ha2]
              exact hK10709 _ _ rfl (grown_refl _ _)
            · -- operation 12
              rintro a10719 w10718 b10722 KK10728 hs10724 hd10725 hJ10726 hb10727 hr10729 hK10723
              have hr10729x : RD SL10505 b10722 a10719 a10466 w10718 [(72, some 11)] := hr10729 _ (by kernel_rfl)
              obtain ⟨⟨v10731, q10730, s10732⟩, -⟩ := hr10729x
              obtain rfl : v10731 = .int .i64 ((x7279 : Nat) : Int) := s10732
              obtain ⟨hX10733, hS10721⟩ := hJ10726
              have hF10720 : Fr 182 a10719 [(72, .int .i64 ((x7279 : Nat) : Int))] := Fr.of hs10724 hd10725 ⟨q10730, trivial⟩
              refine s_pure hT (d := 73) (v := .int .i64 (((x7279 : Nat) : Int) - 2)) (cs := [-9223372036854775808 ≤ (((x7279 : Nat) : Int) - 2), (((x7279 : Nat) : Int) - 2) ≤ 9223372036854775807]) (by kernel_rfl) (by kernel_rfl) (And.intro g10485 (And.intro g10487 trivial)) hF10720 ?_
              rintro a2 ha2 hF2; rw [ha2]
              exact hK10723 _ _ rfl (grown_refl _ _)
            · -- operation 13
              rintro a10735 w10734 b10738 KK10744 hs10740 hd10741 hJ10742 hb10743 hr10745 hK10739
              have hr10745x : RD SL10505 b10738 a10735 a10466 w10734 [(7, none), (73, some 12)] := hr10745 _ (by kernel_rfl)
              obtain ⟨q10746, ⟨v10748, q10747, s10749⟩, -⟩ := hr10745x
              obtain rfl : v10748 = .int .i64 (((x7279 : Nat) : Int) - 2) := s10749
              obtain ⟨hX10750, hS10737⟩ := hJ10742
              have hF10736 : Fr 182 a10735 [(7, .pointer (some ⟨b35, 0, none⟩)), (73, .int .i64 (((x7279 : Nat) : Int) - 2))] := Fr.of hs10740 hd10741 ⟨(Fr.init hF10481 q10746 (by kernel_rfl)), q10747, trivial⟩
              refine s_pure hT (d := 74) (v := .pointer (some ⟨b35, (0 + (((x7279 : Nat) : Int) - 2).toNat), none⟩)) (cs := [0 ≤ (((x7279 : Nat) : Int) - 2), (((x7279 : Nat) : Int) - 2) < 80]) (by kernel_rfl) (by kernel_rfl) (And.intro g10489 (And.intro g10491 trivial)) hF10736 ?_
              rintro a2 ha2 hF2; rw [ha2]
              exact hK10739 _ _ rfl (grown_refl _ _)
            · -- operation 14
              rintro a10752 w10751 b10755 KK10761 hs10757 hd10758 hJ10759 hb10760 hr10762 hK10756
              have hr10762x : RD SL10505 b10755 a10752 a10466 w10751 [(74, some 13)] := hr10762 _ (by kernel_rfl)
              obtain ⟨⟨v10764, q10763, s10765⟩, -⟩ := hr10762x
              obtain rfl : v10764 = .pointer (some ⟨b35, (0 + (((x7279 : Nat) : Int) - 2).toNat), none⟩) := s10765
              obtain ⟨hX10766, hS10754⟩ := hJ10759
              have hF10753 : Fr 182 a10752 [(74, .pointer (some ⟨b35, (0 + (((x7279 : Nat) : Int) - 2).toNat), none⟩))] := Fr.of hs10757 hd10758 ⟨q10763, trivial⟩
              refine s_load hT (d := 75) (A := ⟨b35, (0 + (((x7279 : Nat) : Int) - 2).toNat), none⟩) (v := .int .u64 (((zs7276.getD (x7279 - 2) 0) : Nat) : Int)) (by kernel_rfl) hF10753 (Cells.at (hS10754.blk 3 rfl).cells (vs_get .u64 zs7276 (i := (x7279 - 2)) (by have := hh7277; omega)) (by first | rfl | omega)) ?_
              rintro a10767 ha10769 hF10768
              rw [ha10769]
              exact hK10756 _ _ rfl (grown_refl _ _)
            · -- operation 15
              rintro a10771 w10770 b10774 KK10780 hs10776 hd10777 hJ10778 hb10779 hr10781 hK10775
              have hr10781x : RD SL10505 b10774 a10771 a10466 w10770 [(75, some 14)] := hr10781 _ (by kernel_rfl)
              obtain ⟨⟨v10783, q10782, s10784⟩, -⟩ := hr10781x
              obtain rfl : v10783 = .int .u64 (((zs7276.getD (x7279 - 2) 0) : Nat) : Int) := s10784
              obtain ⟨hX10785, hS10773⟩ := hJ10778
              have hF10772 : Fr 182 a10771 [(75, .int .u64 (((zs7276.getD (x7279 - 2) 0) : Nat) : Int))] := Fr.of hs10776 hd10777 ⟨q10782, trivial⟩
              refine s_pure hT (d := 76) (v := .int .u64 ((((zs7276.getD (x7279 - 2) 0) / 2 ^ 6) : Nat) : Int)) (cs := [(zs7276.getD (x7279 - 2) 0) < 18446744073709551616]) (by kernel_rfl) (by kernel_rfl) (And.intro (hh7278.get (by decide) (x7279 - 2)) trivial) hF10772 ?_
              rintro a2 ha2 hF2; rw [ha2]
              exact hK10775 _ _ rfl (grown_refl _ _)
            · -- operation 16
              rintro a10787 w10786 b10790 KK10796 hs10792 hd10793 hJ10794 hb10795 hr10797 hK10791
              have hr10797x : RD SL10505 b10790 a10787 a10466 w10786 [(71, some 10), (76, some 15)] := hr10797 _ (by kernel_rfl)
              obtain ⟨⟨v10799, q10798, s10800⟩, ⟨v10802, q10801, s10803⟩, -⟩ := hr10797x
              obtain ⟨rfl, hh10495, hh10499⟩ := s10800
              obtain rfl : v10802 = .int .u64 ((((zs7276.getD (x7279 - 2) 0) / 2 ^ 6) : Nat) : Int) := s10803
              obtain ⟨hX10804, hS10789⟩ := hJ10794
              have hF10788 : Fr 182 a10787 [(71, .int .u64 (((x10492 ^^^ x10496) : Nat) : Int)), (76, .int .u64 ((((zs7276.getD (x7279 - 2) 0) / 2 ^ 6) : Nat) : Int))] := Fr.of hs10792 hd10793 ⟨q10798, q10801, trivial⟩
              refine s_pure hT (d := 77) (v := .int .u64 ((((x10492 ^^^ x10496) ^^^ ((zs7276.getD (x7279 - 2) 0) / 2 ^ 6)) : Nat) : Int)) (cs := [(x10492 ^^^ x10496) < 18446744073709551616, ((zs7276.getD (x7279 - 2) 0) / 2 ^ 6) < 18446744073709551616]) (by kernel_rfl) (by kernel_rfl) (And.intro (lt_xor (n := 64) hh10495 hh10499) (And.intro (lt_div (hh7278.get (by decide) (x7279 - 2)) _) trivial)) hF10788 ?_
              rintro a2 ha2 hF2; rw [ha2]
              exact hK10791 _ _ ⟨rfl, hh10495, hh10499⟩ (grown_refl _ _)
            · -- operation 17
              rintro a10806 w10805 b10809 KK10815 hs10811 hd10812 hJ10813 hb10814 hr10816 hK10810
              have hr10816x : RD SL10505 b10809 a10806 a10466 w10805 [(77, some 16)] := hr10816 _ (by kernel_rfl)
              obtain ⟨⟨v10818, q10817, s10819⟩, -⟩ := hr10816x
              obtain ⟨rfl, hh10495, hh10499⟩ := s10819
              obtain ⟨hX10820, hS10808⟩ := hJ10813
              have hF10807 : Fr 182 a10806 [(77, .int .u64 ((((x10492 ^^^ x10496) ^^^ ((zs7276.getD (x7279 - 2) 0) / 2 ^ 6)) : Nat) : Int))] := Fr.of hs10811 hd10812 ⟨q10817, trivial⟩
              refine s_pure hT (d := 11) (v := .int .u64 ((((x10492 ^^^ x10496) ^^^ ((zs7276.getD (x7279 - 2) 0) / 2 ^ 6)) : Nat) : Int)) (cs := []) (by kernel_rfl) (by kernel_rfl) trivial hF10807 ?_
              rintro a2 ha2 hF2; rw [ha2]
              have hb10503 : t10500 < 18446744073709551616 := by rw [ht10501]; exact (lt_xor (n := 64) (lt_xor (n := 64) hh10495 hh10499) (lt_div (hh7278.get (by decide) (x7279 - 2)) _))
              exact hK10810 _ _ ⟨(show (.int .u64 ((((x10492 ^^^ x10496) ^^^ ((zs7276.getD (x7279 - 2) 0) / 2 ^ 6)) : Nat) : Int) : Value) = .int .u64 ((t10500 : Nat) : Int) by (rw [ht10501] <;> rfl)), hb10503⟩ (grown_refl _ _)
            · -- behind the region
              rintro a10821 w10822 hs10823 hd10824 ⟨⟨v10827, q10828, s10829⟩, q10830, q10831, q10832, q10833, q10834, q10835, q10836, -⟩ ⟨hX10826, hS10825⟩
              obtain ⟨rfl, hb10503⟩ := s10829
              have hF10837 : Fr 182 a10821 [(11, .int .u64 ((t10500 : Nat) : Int)), (10, .int .u64 ((t10145 : Nat) : Int)), (2, .slice pA2 xs2.length pc2), (3, .pointer (some ⟨b3, 0, none⟩)), (4, .pointer (some ⟨b5, 0, none⟩)), (6, .pointer (some ⟨b7, 0, none⟩)), (7, .pointer (some ⟨b35, 0, none⟩)), (8, .int .i64 ((x7279 : Nat) : Int))] := Fr.of hs10823 hd10824 ⟨q10828, (Fr.init hF10481 q10830 (by kernel_rfl)), (Fr.init hF10481 q10831 (by kernel_rfl)), (Fr.init hF10481 q10832 (by kernel_rfl)), (Fr.init hF10481 q10833 (by kernel_rfl)), (Fr.init hF10481 q10834 (by kernel_rfl)), (Fr.init hF10481 q10835 (by kernel_rfl)), (Fr.init hF10481 q10836 (by kernel_rfl)), trivial⟩
              clear hF10481 hS10470 hs10823 hd10824 q10828 q10830 q10831 q10832 q10833 q10834 q10835 q10836
              refine hK10483 _ _ ?_
              obtain ⟨g10839, h10838⟩ : (-9223372036854775808 ≤ (((x7279 : Nat) : Int) - 16)) ∧ _ := gd_some h10502; clear h10502
              obtain ⟨g10841, h10840⟩ : ((((x7279 : Nat) : Int) - 16) ≤ 9223372036854775807) ∧ _ := gd_some h10838; clear h10838
              obtain ⟨g10843, h10842⟩ : (0 ≤ (((x7279 : Nat) : Int) - 16)) ∧ _ := gd_some h10840; clear h10840
              obtain ⟨g10845, h10844⟩ : ((((x7279 : Nat) : Int) - 16) < 80) ∧ _ := gd_some h10842; clear h10842
              obtain ⟨g10847, h10846⟩ : (-9223372036854775808 ≤ (((x7279 : Nat) : Int) - 7)) ∧ _ := gd_some h10844; clear h10844
              obtain ⟨g10849, h10848⟩ : ((((x7279 : Nat) : Int) - 7) ≤ 9223372036854775807) ∧ _ := gd_some h10846; clear h10846
              obtain ⟨g10851, h10850⟩ : (0 ≤ (((x7279 : Nat) : Int) - 7)) ∧ _ := gd_some h10848; clear h10848
              obtain ⟨g10853, h10852⟩ : ((((x7279 : Nat) : Int) - 7) < 80) ∧ _ := gd_some h10850; clear h10850
              have hlt10854 := hS10825.ids
              have hsz10856 := hS10825.size
              let SL10855 : List SP := [SP.val (.int .i64 ((x7279 : Nat) : Int)), SP.val (.int .i64 ((x7279 : Nat) : Int)), SP.val (.int .i64 (((x7279 : Nat) : Int) - 16)), SP.val (.pointer (some ⟨b35, (0 + (((x7279 : Nat) : Int) - 16).toNat), none⟩)), SP.val (.int .u64 (((zs7276.getD (x7279 - 16) 0) : Nat) : Int)), SP.val (.int .u64 ((t10145 : Nat) : Int)), SP.val (.int .u64 (((((zs7276.getD (x7279 - 16) 0) + t10145) % 18446744073709551616) : Nat) : Int)), SP.val (.int .i64 ((x7279 : Nat) : Int)), SP.val (.int .i64 (((x7279 : Nat) : Int) - 7)), SP.val (.pointer (some ⟨b35, (0 + (((x7279 : Nat) : Int) - 7).toNat), none⟩)), SP.val (.int .u64 (((zs7276.getD (x7279 - 7) 0) : Nat) : Int)), SP.val (.int .u64 (((((((zs7276.getD (x7279 - 16) 0) + t10145) % 18446744073709551616) + (zs7276.getD (x7279 - 7) 0)) % 18446744073709551616) : Nat) : Int)), SP.val (.int .u64 ((t10500 : Nat) : Int)), SP.val (.int .u64 (((((((((zs7276.getD (x7279 - 16) 0) + t10145) % 18446744073709551616) + (zs7276.getD (x7279 - 7) 0)) % 18446744073709551616) + t10500) % 18446744073709551616) : Nat) : Int)), SP.val (.pointer (some ⟨b35, (0 + x7279), none⟩)), SP.any]
              refine region_rel (SL := SL10855) (J := (fun (B : Bool) (W : World) => match B with | true => w10822.heap.size ≤ W.heap.size ∧ Heap w [] W [.blk b3 24 (vs .u64 xs0), .blk b5 26 (vs .u64 xs1), .blk b7 26 (vs .u64 (List.replicate 8 0)), .blk b35 24 (vs .u64 (zs7276.set x7279 (((((((zs7276.getD (x7279 - 16) 0) + t10145) % 18446744073709551616) + (zs7276.getD (x7279 - 7) 0)) % 18446744073709551616) + t10500) % 18446744073709551616)))] | false => w10822.heap.size ≤ W.heap.size ∧ Heap w [] W [.blk b3 24 (vs .u64 xs0), .blk b5 26 (vs .u64 xs1), .blk b7 26 (vs .u64 (List.replicate 8 0)), .blk b35 24 (vs .u64 zs7276)])) (m := 15) wide (by kernel_rfl) (by kernel_rfl) hF10837 rfl ?_ ⟨Nat.le_refl _, hS10825⟩ ⟨?_, ?_, ?_, ?_, ?_, ?_, ?_, ?_, ?_, ?_, ?_, ?_, ?_, ?_, ?_, ?_, trivial⟩ [(2, none), (3, none), (4, none), (6, none), (7, none), (8, none)] (by kernel_rfl) ?_
              · intro b W W' hj g; cases b <;> exact ⟨Nat.le_trans hj.1 g.size, hj.2.growN g⟩
              · -- operation 0
                rintro a10858 w10857 b10861 KK10867 hs10863 hd10864 hJ10865 hb10866 hr10868 hK10862
                have hr10868x : RD SL10855 b10861 a10858 a10821 w10857 [(8, none)] := hr10868 _ (by kernel_rfl)
                obtain ⟨q10869, -⟩ := hr10868x
                obtain rfl : b10861 = false := by cases b10861; rfl; exact absurd ((hb10866 rfl).2 _ rfl) (by decide)
                obtain ⟨hX10870, hS10860⟩ := hJ10865
                have hF10859 : Fr 182 a10858 [(8, .int .i64 ((x7279 : Nat) : Int))] := Fr.of hs10863 hd10864 ⟨(Fr.init hF10837 q10869 (by kernel_rfl)), trivial⟩
                refine s_pure hT (d := 78) (v := .int .i64 ((x7279 : Nat) : Int)) (cs := []) (by kernel_rfl) (by kernel_rfl) trivial hF10859 ?_
                rintro a2 ha2 hF2; rw [ha2]
                exact hK10862 _ _ rfl (grown_refl _ _)
              · -- operation 1
                rintro a10872 w10871 b10875 KK10881 hs10877 hd10878 hJ10879 hb10880 hr10882 hK10876
                have hr10882x : RD SL10855 b10875 a10872 a10821 w10871 [(8, none)] := hr10882 _ (by kernel_rfl)
                obtain ⟨q10883, -⟩ := hr10882x
                obtain rfl : b10875 = false := by cases b10875; rfl; exact absurd ((hb10880 rfl).2 _ rfl) (by decide)
                obtain ⟨hX10884, hS10874⟩ := hJ10879
                have hF10873 : Fr 182 a10872 [(8, .int .i64 ((x7279 : Nat) : Int))] := Fr.of hs10877 hd10878 ⟨(Fr.init hF10837 q10883 (by kernel_rfl)), trivial⟩
                refine s_pure hT (d := 79) (v := .int .i64 ((x7279 : Nat) : Int)) (cs := []) (by kernel_rfl) (by kernel_rfl) trivial hF10873 ?_
                rintro a2 ha2 hF2; rw [ha2]
                exact hK10876 _ _ rfl (grown_refl _ _)
              · -- operation 2
                rintro a10886 w10885 b10889 KK10895 hs10891 hd10892 hJ10893 hb10894 hr10896 hK10890
                have hr10896x : RD SL10855 b10889 a10886 a10821 w10885 [(79, some 1)] := hr10896 _ (by kernel_rfl)
                obtain ⟨⟨v10898, q10897, s10899⟩, -⟩ := hr10896x
                obtain rfl : v10898 = .int .i64 ((x7279 : Nat) : Int) := s10899
                obtain rfl : b10889 = false := by cases b10889; rfl; exact absurd ((hb10894 rfl).2 _ rfl) (by decide)
                obtain ⟨hX10900, hS10888⟩ := hJ10893
                have hF10887 : Fr 182 a10886 [(79, .int .i64 ((x7279 : Nat) : Int))] := Fr.of hs10891 hd10892 ⟨q10897, trivial⟩
                refine s_pure hT (d := 80) (v := .int .i64 (((x7279 : Nat) : Int) - 16)) (cs := [-9223372036854775808 ≤ (((x7279 : Nat) : Int) - 16), (((x7279 : Nat) : Int) - 16) ≤ 9223372036854775807]) (by kernel_rfl) (by kernel_rfl) (And.intro g10839 (And.intro g10841 trivial)) hF10887 ?_
                rintro a2 ha2 hF2; rw [ha2]
                exact hK10890 _ _ rfl (grown_refl _ _)
              · -- operation 3
                rintro a10902 w10901 b10905 KK10911 hs10907 hd10908 hJ10909 hb10910 hr10912 hK10906
                have hr10912x : RD SL10855 b10905 a10902 a10821 w10901 [(7, none), (80, some 2)] := hr10912 _ (by kernel_rfl)
                obtain ⟨q10913, ⟨v10915, q10914, s10916⟩, -⟩ := hr10912x
                obtain rfl : v10915 = .int .i64 (((x7279 : Nat) : Int) - 16) := s10916
                obtain rfl : b10905 = false := by cases b10905; rfl; exact absurd ((hb10910 rfl).2 _ rfl) (by decide)
                obtain ⟨hX10917, hS10904⟩ := hJ10909
                have hF10903 : Fr 182 a10902 [(7, .pointer (some ⟨b35, 0, none⟩)), (80, .int .i64 (((x7279 : Nat) : Int) - 16))] := Fr.of hs10907 hd10908 ⟨(Fr.init hF10837 q10913 (by kernel_rfl)), q10914, trivial⟩
                refine s_pure hT (d := 81) (v := .pointer (some ⟨b35, (0 + (((x7279 : Nat) : Int) - 16).toNat), none⟩)) (cs := [0 ≤ (((x7279 : Nat) : Int) - 16), (((x7279 : Nat) : Int) - 16) < 80]) (by kernel_rfl) (by kernel_rfl) (And.intro g10843 (And.intro g10845 trivial)) hF10903 ?_
                rintro a2 ha2 hF2; rw [ha2]
                exact hK10906 _ _ rfl (grown_refl _ _)
              · -- operation 4
                rintro a10919 w10918 b10922 KK10928 hs10924 hd10925 hJ10926 hb10927 hr10929 hK10923
                have hr10929x : RD SL10855 b10922 a10919 a10821 w10918 [(81, some 3)] := hr10929 _ (by kernel_rfl)
                obtain ⟨⟨v10931, q10930, s10932⟩, -⟩ := hr10929x
                obtain rfl : v10931 = .pointer (some ⟨b35, (0 + (((x7279 : Nat) : Int) - 16).toNat), none⟩) := s10932
                obtain rfl : b10922 = false := by cases b10922; rfl; exact absurd ((hb10927 rfl).2 _ rfl) (by decide)
                obtain ⟨hX10933, hS10921⟩ := hJ10926
                have hF10920 : Fr 182 a10919 [(81, .pointer (some ⟨b35, (0 + (((x7279 : Nat) : Int) - 16).toNat), none⟩))] := Fr.of hs10924 hd10925 ⟨q10930, trivial⟩
                refine s_load hT (d := 82) (A := ⟨b35, (0 + (((x7279 : Nat) : Int) - 16).toNat), none⟩) (v := .int .u64 (((zs7276.getD (x7279 - 16) 0) : Nat) : Int)) (by kernel_rfl) hF10920 (Cells.at (hS10921.blk 3 rfl).cells (vs_get .u64 zs7276 (i := (x7279 - 16)) (by have := hh7277; omega)) (by first | rfl | omega)) ?_
                rintro a10934 ha10936 hF10935
                rw [ha10936]
                exact hK10923 _ _ rfl (grown_refl _ _)
              · -- operation 5
                rintro a10938 w10937 b10941 KK10947 hs10943 hd10944 hJ10945 hb10946 hr10948 hK10942
                have hr10948x : RD SL10855 b10941 a10938 a10821 w10937 [(10, none)] := hr10948 _ (by kernel_rfl)
                obtain ⟨q10949, -⟩ := hr10948x
                obtain rfl : b10941 = false := by cases b10941; rfl; exact absurd ((hb10946 rfl).2 _ rfl) (by decide)
                obtain ⟨hX10950, hS10940⟩ := hJ10945
                have hF10939 : Fr 182 a10938 [(10, .int .u64 ((t10145 : Nat) : Int))] := Fr.of hs10943 hd10944 ⟨(Fr.init hF10837 q10949 (by kernel_rfl)), trivial⟩
                refine s_pure hT (d := 83) (v := .int .u64 ((t10145 : Nat) : Int)) (cs := []) (by kernel_rfl) (by kernel_rfl) trivial hF10939 ?_
                rintro a2 ha2 hF2; rw [ha2]
                exact hK10942 _ _ rfl (grown_refl _ _)
              · -- operation 6
                rintro a10952 w10951 b10955 KK10961 hs10957 hd10958 hJ10959 hb10960 hr10962 hK10956
                have hr10962x : RD SL10855 b10955 a10952 a10821 w10951 [(82, some 4), (83, some 5)] := hr10962 _ (by kernel_rfl)
                obtain ⟨⟨v10964, q10963, s10965⟩, ⟨v10967, q10966, s10968⟩, -⟩ := hr10962x
                obtain rfl : v10964 = .int .u64 (((zs7276.getD (x7279 - 16) 0) : Nat) : Int) := s10965
                obtain rfl : v10967 = .int .u64 ((t10145 : Nat) : Int) := s10968
                obtain rfl : b10955 = false := by cases b10955; rfl; exact absurd ((hb10960 rfl).2 _ rfl) (by decide)
                obtain ⟨hX10969, hS10954⟩ := hJ10959
                have hF10953 : Fr 182 a10952 [(82, .int .u64 (((zs7276.getD (x7279 - 16) 0) : Nat) : Int)), (83, .int .u64 ((t10145 : Nat) : Int))] := Fr.of hs10957 hd10958 ⟨q10963, q10966, trivial⟩
                refine s_pure hT (d := 84) (v := .int .u64 (((((zs7276.getD (x7279 - 16) 0) + t10145) % 18446744073709551616) : Nat) : Int)) (cs := []) (by kernel_rfl) (by kernel_rfl) trivial hF10953 ?_
                rintro a2 ha2 hF2; rw [ha2]
                exact hK10956 _ _ rfl (grown_refl _ _)
              · -- operation 7
                rintro a10971 w10970 b10974 KK10980 hs10976 hd10977 hJ10978 hb10979 hr10981 hK10975
                have hr10981x : RD SL10855 b10974 a10971 a10821 w10970 [(8, none)] := hr10981 _ (by kernel_rfl)
                obtain ⟨q10982, -⟩ := hr10981x
                obtain rfl : b10974 = false := by cases b10974; rfl; exact absurd ((hb10979 rfl).2 _ rfl) (by decide)
                obtain ⟨hX10983, hS10973⟩ := hJ10978
                have hF10972 : Fr 182 a10971 [(8, .int .i64 ((x7279 : Nat) : Int))] := Fr.of hs10976 hd10977 ⟨(Fr.init hF10837 q10982 (by kernel_rfl)), trivial⟩
                refine s_pure hT (d := 85) (v := .int .i64 ((x7279 : Nat) : Int)) (cs := []) (by kernel_rfl) (by kernel_rfl) trivial hF10972 ?_
                rintro a2 ha2 hF2; rw [ha2]
                exact hK10975 _ _ rfl (grown_refl _ _)
              · -- operation 8
                rintro a10985 w10984 b10988 KK10994 hs10990 hd10991 hJ10992 hb10993 hr10995 hK10989
                have hr10995x : RD SL10855 b10988 a10985 a10821 w10984 [(85, some 7)] := hr10995 _ (by kernel_rfl)
                obtain ⟨⟨v10997, q10996, s10998⟩, -⟩ := hr10995x
                obtain rfl : v10997 = .int .i64 ((x7279 : Nat) : Int) := s10998
                obtain rfl : b10988 = false := by cases b10988; rfl; exact absurd ((hb10993 rfl).2 _ rfl) (by decide)
                obtain ⟨hX10999, hS10987⟩ := hJ10992
                have hF10986 : Fr 182 a10985 [(85, .int .i64 ((x7279 : Nat) : Int))] := Fr.of hs10990 hd10991 ⟨q10996, trivial⟩
                refine s_pure hT (d := 86) (v := .int .i64 (((x7279 : Nat) : Int) - 7)) (cs := [-9223372036854775808 ≤ (((x7279 : Nat) : Int) - 7), (((x7279 : Nat) : Int) - 7) ≤ 9223372036854775807]) (by kernel_rfl) (by kernel_rfl) (And.intro g10847 (And.intro g10849 trivial)) hF10986 ?_
                rintro a2 ha2 hF2; rw [ha2]
                exact hK10989 _ _ rfl (grown_refl _ _)
              · -- operation 9
                rintro a11001 w11000 b11004 KK11010 hs11006 hd11007 hJ11008 hb11009 hr11011 hK11005
                have hr11011x : RD SL10855 b11004 a11001 a10821 w11000 [(7, none), (86, some 8)] := hr11011 _ (by kernel_rfl)
                obtain ⟨q11012, ⟨v11014, q11013, s11015⟩, -⟩ := hr11011x
                obtain rfl : v11014 = .int .i64 (((x7279 : Nat) : Int) - 7) := s11015
                obtain rfl : b11004 = false := by cases b11004; rfl; exact absurd ((hb11009 rfl).2 _ rfl) (by decide)
                obtain ⟨hX11016, hS11003⟩ := hJ11008
                have hF11002 : Fr 182 a11001 [(7, .pointer (some ⟨b35, 0, none⟩)), (86, .int .i64 (((x7279 : Nat) : Int) - 7))] := Fr.of hs11006 hd11007 ⟨(Fr.init hF10837 q11012 (by kernel_rfl)), q11013, trivial⟩
                refine s_pure hT (d := 87) (v := .pointer (some ⟨b35, (0 + (((x7279 : Nat) : Int) - 7).toNat), none⟩)) (cs := [0 ≤ (((x7279 : Nat) : Int) - 7), (((x7279 : Nat) : Int) - 7) < 80]) (by kernel_rfl) (by kernel_rfl) (And.intro g10851 (And.intro g10853 trivial)) hF11002 ?_
                rintro a2 ha2 hF2; rw [ha2]
                exact hK11005 _ _ rfl (grown_refl _ _)
              · -- operation 10
                rintro a11018 w11017 b11021 KK11027 hs11023 hd11024 hJ11025 hb11026 hr11028 hK11022
                have hr11028x : RD SL10855 b11021 a11018 a10821 w11017 [(87, some 9)] := hr11028 _ (by kernel_rfl)
                obtain ⟨⟨v11030, q11029, s11031⟩, -⟩ := hr11028x
                obtain rfl : v11030 = .pointer (some ⟨b35, (0 + (((x7279 : Nat) : Int) - 7).toNat), none⟩) := s11031
                obtain rfl : b11021 = false := by cases b11021; rfl; exact absurd ((hb11026 rfl).2 _ rfl) (by decide)
                obtain ⟨hX11032, hS11020⟩ := hJ11025
                have hF11019 : Fr 182 a11018 [(87, .pointer (some ⟨b35, (0 + (((x7279 : Nat) : Int) - 7).toNat), none⟩))] := Fr.of hs11023 hd11024 ⟨q11029, trivial⟩
                refine s_load hT (d := 88) (A := ⟨b35, (0 + (((x7279 : Nat) : Int) - 7).toNat), none⟩) (v := .int .u64 (((zs7276.getD (x7279 - 7) 0) : Nat) : Int)) (by kernel_rfl) hF11019 (Cells.at (hS11020.blk 3 rfl).cells (vs_get .u64 zs7276 (i := (x7279 - 7)) (by have := hh7277; omega)) (by first | rfl | omega)) ?_
                rintro a11033 ha11035 hF11034
                rw [ha11035]
                exact hK11022 _ _ rfl (grown_refl _ _)
              · -- operation 11
                rintro a11037 w11036 b11040 KK11046 hs11042 hd11043 hJ11044 hb11045 hr11047 hK11041
                have hr11047x : RD SL10855 b11040 a11037 a10821 w11036 [(84, some 6), (88, some 10)] := hr11047 _ (by kernel_rfl)
                obtain ⟨⟨v11049, q11048, s11050⟩, ⟨v11052, q11051, s11053⟩, -⟩ := hr11047x
                obtain rfl : v11049 = .int .u64 (((((zs7276.getD (x7279 - 16) 0) + t10145) % 18446744073709551616) : Nat) : Int) := s11050
                obtain rfl : v11052 = .int .u64 (((zs7276.getD (x7279 - 7) 0) : Nat) : Int) := s11053
                obtain rfl : b11040 = false := by cases b11040; rfl; exact absurd ((hb11045 rfl).2 _ rfl) (by decide)
                obtain ⟨hX11054, hS11039⟩ := hJ11044
                have hF11038 : Fr 182 a11037 [(84, .int .u64 (((((zs7276.getD (x7279 - 16) 0) + t10145) % 18446744073709551616) : Nat) : Int)), (88, .int .u64 (((zs7276.getD (x7279 - 7) 0) : Nat) : Int))] := Fr.of hs11042 hd11043 ⟨q11048, q11051, trivial⟩
                refine s_pure hT (d := 89) (v := .int .u64 (((((((zs7276.getD (x7279 - 16) 0) + t10145) % 18446744073709551616) + (zs7276.getD (x7279 - 7) 0)) % 18446744073709551616) : Nat) : Int)) (cs := []) (by kernel_rfl) (by kernel_rfl) trivial hF11038 ?_
                rintro a2 ha2 hF2; rw [ha2]
                exact hK11041 _ _ rfl (grown_refl _ _)
              · -- operation 12
                rintro a11056 w11055 b11059 KK11065 hs11061 hd11062 hJ11063 hb11064 hr11066 hK11060
                have hr11066x : RD SL10855 b11059 a11056 a10821 w11055 [(11, none)] := hr11066 _ (by kernel_rfl)
                obtain ⟨q11067, -⟩ := hr11066x
                obtain rfl : b11059 = false := by cases b11059; rfl; exact absurd ((hb11064 rfl).2 _ rfl) (by decide)
                obtain ⟨hX11068, hS11058⟩ := hJ11063
                have hF11057 : Fr 182 a11056 [(11, .int .u64 ((t10500 : Nat) : Int))] := Fr.of hs11061 hd11062 ⟨(Fr.init hF10837 q11067 (by kernel_rfl)), trivial⟩
                refine s_pure hT (d := 90) (v := .int .u64 ((t10500 : Nat) : Int)) (cs := []) (by kernel_rfl) (by kernel_rfl) trivial hF11057 ?_
                rintro a2 ha2 hF2; rw [ha2]
                exact hK11060 _ _ rfl (grown_refl _ _)
              · -- operation 13
                rintro a11070 w11069 b11073 KK11079 hs11075 hd11076 hJ11077 hb11078 hr11080 hK11074
                have hr11080x : RD SL10855 b11073 a11070 a10821 w11069 [(89, some 11), (90, some 12)] := hr11080 _ (by kernel_rfl)
                obtain ⟨⟨v11082, q11081, s11083⟩, ⟨v11085, q11084, s11086⟩, -⟩ := hr11080x
                obtain rfl : v11082 = .int .u64 (((((((zs7276.getD (x7279 - 16) 0) + t10145) % 18446744073709551616) + (zs7276.getD (x7279 - 7) 0)) % 18446744073709551616) : Nat) : Int) := s11083
                obtain rfl : v11085 = .int .u64 ((t10500 : Nat) : Int) := s11086
                obtain rfl : b11073 = false := by cases b11073; rfl; exact absurd ((hb11078 rfl).2 _ rfl) (by decide)
                obtain ⟨hX11087, hS11072⟩ := hJ11077
                have hF11071 : Fr 182 a11070 [(89, .int .u64 (((((((zs7276.getD (x7279 - 16) 0) + t10145) % 18446744073709551616) + (zs7276.getD (x7279 - 7) 0)) % 18446744073709551616) : Nat) : Int)), (90, .int .u64 ((t10500 : Nat) : Int))] := Fr.of hs11075 hd11076 ⟨q11081, q11084, trivial⟩
                refine s_pure hT (d := 91) (v := .int .u64 (((((((((zs7276.getD (x7279 - 16) 0) + t10145) % 18446744073709551616) + (zs7276.getD (x7279 - 7) 0)) % 18446744073709551616) + t10500) % 18446744073709551616) : Nat) : Int)) (cs := []) (by kernel_rfl) (by kernel_rfl) trivial hF11071 ?_
                rintro a2 ha2 hF2; rw [ha2]
                exact hK11074 _ _ rfl (grown_refl _ _)
              · -- operation 14
                rintro a11089 w11088 b11092 KK11098 hs11094 hd11095 hJ11096 hb11097 hr11099 hK11093
                have hr11099x : RD SL10855 b11092 a11089 a10821 w11088 [(7, none), (78, some 0)] := hr11099 _ (by kernel_rfl)
                obtain ⟨q11100, ⟨v11102, q11101, s11103⟩, -⟩ := hr11099x
                obtain rfl : v11102 = .int .i64 ((x7279 : Nat) : Int) := s11103
                obtain rfl : b11092 = false := by cases b11092; rfl; exact absurd ((hb11097 rfl).2 _ rfl) (by decide)
                obtain ⟨hX11104, hS11091⟩ := hJ11096
                have hF11090 : Fr 182 a11089 [(7, .pointer (some ⟨b35, 0, none⟩)), (78, .int .i64 ((x7279 : Nat) : Int))] := Fr.of hs11094 hd11095 ⟨(Fr.init hF10837 q11100 (by kernel_rfl)), q11101, trivial⟩
                refine s_pure hT (d := 92) (v := .pointer (some ⟨b35, (0 + x7279), none⟩)) (cs := [0 ≤ ((x7279 : Nat) : Int), ((x7279 : Nat) : Int) < 80]) (by kernel_rfl) (by kernel_rfl) (And.intro (by omega) (And.intro hc8600 trivial)) hF11090 ?_
                rintro a2 ha2 hF2; rw [ha2]
                exact hK11093 _ _ rfl (grown_refl _ _)
              · -- operation 15
                rintro a11106 w11105 b11109 KK11115 hs11111 hd11112 hJ11113 hb11114 hr11116 hK11110
                have hr11116x : RD SL10855 b11109 a11106 a10821 w11105 [(92, some 14), (91, some 13)] := hr11116 _ (by kernel_rfl)
                obtain ⟨⟨v11118, q11117, s11119⟩, ⟨v11121, q11120, s11122⟩, -⟩ := hr11116x
                obtain rfl : v11118 = .pointer (some ⟨b35, (0 + x7279), none⟩) := s11119
                obtain rfl : v11121 = .int .u64 (((((((((zs7276.getD (x7279 - 16) 0) + t10145) % 18446744073709551616) + (zs7276.getD (x7279 - 7) 0)) % 18446744073709551616) + t10500) % 18446744073709551616) : Nat) : Int) := s11122
                obtain rfl : b11109 = false := by cases b11109; rfl; exact absurd rfl (hb11114 rfl).1
                obtain ⟨hX11123, hS11108⟩ := hJ11113
                have hF11107 : Fr 182 a11106 [(92, .pointer (some ⟨b35, (0 + x7279), none⟩)), (91, .int .u64 (((((((((zs7276.getD (x7279 - 16) 0) + t10145) % 18446744073709551616) + (zs7276.getD (x7279 - 7) 0)) % 18446744073709551616) + t10500) % 18446744073709551616) : Nat) : Int))] := Fr.of hs11111 hd11112 ⟨q11117, q11120, trivial⟩
                refine h_store hT (b := b35) (off := x7279) (p := ⟨b35, (0 + x7279), none⟩) (v := .int .u64 (((((((((zs7276.getD (x7279 - 16) 0) + t10145) % 18446744073709551616) + (zs7276.getD (x7279 - 7) 0)) % 18446744073709551616) + t10500) % 18446744073709551616) : Nat) : Int)) (l' := vs .u64 (zs7276.set x7279 (((((((zs7276.getD (x7279 - 16) 0) + t10145) % 18446744073709551616) + (zs7276.getD (x7279 - 7) 0)) % 18446744073709551616) + t10500) % 18446744073709551616))) (by kernel_rfl) hF11107 hS11108 3 rfl (by first | rfl | (congr 1; omega)) (by have := hh7277; simp only [zA, zS, zT, zD, zR, zC, zN, zV, zI] <;> omega) (by first | exact vs_set _ _ _ _ | exact vi_set _ _ _ | rfl) ?_
                rintro a11124 w11125 ha11128 hF11129 hS11126 g11127
                have hS11130 : Heap w [] w11125 [.blk b3 24 (vs .u64 xs0), .blk b5 26 (vs .u64 xs1), .blk b7 26 (vs .u64 (List.replicate 8 0)), .blk b35 24 (vs .u64 (zs7276.set x7279 (((((((zs7276.getD (x7279 - 16) 0) + t10145) % 18446744073709551616) + (zs7276.getD (x7279 - 7) 0)) % 18446744073709551616) + t10500) % 18446744073709551616)))] := hS11126; clear hS11126
                rw [ha11128]; exact hK11110 undef _ trivial ⟨⟨.inl rfl, .inl rfl, .inl rfl, .inl rfl, .inl rfl, .inl rfl, .inl rfl, .inl rfl, .inl rfl, .inl rfl, .inl rfl, .inl rfl, .inl rfl, .inl rfl, .inl rfl, .inl rfl, trivial⟩, Nat.le_trans hX11123 g11127.size, hS11130⟩
              · -- behind the region
                rintro a11131 w11132 hs11133 hd11134 ⟨q11137, q11138, q11139, q11140, q11141, q11142, -⟩ ⟨hX11136, hS11135⟩
                have hF11143 : Fr 182 a11131 [(2, .slice pA2 xs2.length pc2), (3, .pointer (some ⟨b3, 0, none⟩)), (4, .pointer (some ⟨b5, 0, none⟩)), (6, .pointer (some ⟨b7, 0, none⟩)), (7, .pointer (some ⟨b35, 0, none⟩)), (8, .int .i64 ((x7279 : Nat) : Int))] := Fr.of hs11133 hd11134 ⟨(Fr.init hF10837 q11137 (by kernel_rfl)), (Fr.init hF10837 q11138 (by kernel_rfl)), (Fr.init hF10837 q11139 (by kernel_rfl)), (Fr.init hF10837 q11140 (by kernel_rfl)), (Fr.init hF10837 q11141 (by kernel_rfl)), (Fr.init hF10837 q11142 (by kernel_rfl)), trivial⟩
                clear hF10837 hS10825 hs11133 hd11134 q11137 q11138 q11139 q11140 q11141 q11142
                obtain rfl := Option.some.inj h10852
                exact ⟨(zs7276.set x7279 (((((((zs7276.getD (x7279 - 16) 0) + t10145) % 18446744073709551616) + (zs7276.getD (x7279 - 7) 0)) % 18446744073709551616) + t10500) % 18446744073709551616)), rfl, hF11143.pick [2, 3, 4, 6, 7, 8] (by kernel_rfl), hS11135.pick [0, 1, 2, 3] (by decide) rfl, (len_set hh7277 x7279 (((((((zs7276.getD (x7279 - 16) 0) + t10145) % 18446744073709551616) + (zs7276.getD (x7279 - 7) 0)) % 18446744073709551616) + t10500) % 18446744073709551616)), (hh7278.set (Nat.mod_lt _ (by decide)) x7279)⟩
      · skip
        clear hx9247 hF8602 hS8587 
        rintro a11144 w11145 ⟨zs9243, rfl, hF11146, hS11147, hh9244, hh9245⟩
        obtain ⟨g11150, h11149⟩ : ((((x7279 + 1) : Nat) : Int) ≤ 9223372036854775807) ∧ _ := gd_some h9248; clear h9248
        refine wp_region_lit ?_
        refine pu_end hT 3 _ hF11146 [2, 3, 4, 6, 7, 8] (G := [(2, .slice pA2 xs2.length pc2), (3, .pointer (some ⟨b3, 0, none⟩)), (4, .pointer (some ⟨b5, 0, none⟩)), (6, .pointer (some ⟨b7, 0, none⟩)), (7, .pointer (some ⟨b35, 0, none⟩)), (8, .int .i64 (((x7279 + 1) : Nat) : Int))]) (cs := [-9223372036854775808 ≤ (((x7279 + 1) : Nat) : Int), (((x7279 + 1) : Nat) : Int) ≤ 9223372036854775807]) (by kernel_rfl) rfl (And.intro (by omega) (And.intro g11150 trivial)) ?_; clear hF11146 a11144; intro a11151 hF11152
        obtain rfl := Option.some.inj h11149
        exact hK8581 _ _ _ hy8580 ⟨zs9243, (x7279 + 1), rfl, hF11152.pick [2, 3, 4, 6, 7, 8] (by kernel_rfl), hS11147.pick [0, 1, 2, 3] (by decide) rfl, hh9244, hh9245⟩
    · clear h8588
      have hF11153 : Fr 182 a8598 [(2, .slice pA2 xs2.length pc2), (3, .pointer (some ⟨b3, 0, none⟩)), (4, .pointer (some ⟨b5, 0, none⟩)), (6, .pointer (some ⟨b7, 0, none⟩)), (7, .pointer (some ⟨b35, 0, none⟩)), (8, .int .i64 ((x7279 : Nat) : Int)), (20, .bool false)] := hF8599.pick [2, 3, 4, 6, 7, 8, 20] (by rw [decide_eq_false hc8600]; kernel_rfl); clear hF8599
      refine condF hF11153 (by kernel_rfl) ?_
      refine wp_exit ?_
      obtain rfl := Option.some.inj h8601
      obtain rfl : _ = xj4968 := hy8580
      exact ⟨zs7276, rfl, hF11153.pick [3, 4, 6, 7] (by kernel_rfl), hS8587.pick [0, 1, 2, 3] (by decide) rfl, hh7277, hh7278⟩
  · skip
    clear hx4969 hF44 hS43 
    rintro a11154 w11155 ⟨zs4965, rfl, hF11156, hS11157, hh4966, hh4967⟩
    refine wp_seq_k (fun K11159 hK11160 => ?_)
    refine wp_region_lit ?_
    refine wl (s_loadA hT (d := 93) (b := b5) (off := 0) (sz := 8) (l := vs .u64 xs1) (by kernel_rfl) hF11156 (hS11157.blk 1 rfl).cells (by simp only [List.length_append, vs_length, vi_length, List.length_cons, List.length_nil, (pl1 : xs1.length = 8)]) ?_)
    rintro a11163 ha11165 hF11164; clear ha11165 hF11156 a11154
    have hF11166 := hF11164.pick [3, 4, 6, 7, 93] (G := [(3, .pointer (some ⟨b3, 0, none⟩)), (4, .pointer (some ⟨b5, 0, none⟩)), (6, .pointer (some ⟨b7, 0, none⟩)), (7, .pointer (some ⟨b35, 0, none⟩)), (93, .agg (vs .u64 xs1).toArray)]) (by kernel_rfl); clear hF11164
    refine wl (h_alloc hT (d := 12) (T := 26) (l := vs .u64 (List.replicate 8 0)) (by kernel_rfl) hF11166 hS11157 ?_)
    rintro a11167 w11168 b11161 hS11169 g11170 ha11171 hF11172; clear ha11171 hF11166 a11163 hS11157
    have hS11173 : Heap w [] w11168 [.blk b11161 26 (vs .u64 (List.replicate 8 0)), .blk b3 24 (vs .u64 xs0), .blk b5 26 (vs .u64 xs1), .blk b7 26 (vs .u64 (List.replicate 8 0)), .blk b35 24 (vs .u64 zs4965)] := hS11169; clear hS11169
    have hF11174 := hF11172.pick [3, 4, 6, 7, 93, 12] (G := [(3, .pointer (some ⟨b3, 0, none⟩)), (4, .pointer (some ⟨b5, 0, none⟩)), (6, .pointer (some ⟨b7, 0, none⟩)), (7, .pointer (some ⟨b35, 0, none⟩)), (93, .agg (vs .u64 xs1).toArray), (12, .pointer (some ⟨b11161, 0, none⟩))]) (by kernel_rfl); clear hF11172
    refine wl (h_storeV hT (b := b11161) (l2 := vs .u64 xs1) (sz := 8) (by kernel_rfl) hF11174 hS11173 0 rfl (by simp only [List.length_append, vs_length, vi_length, List.length_cons, List.length_nil, (pl1 : xs1.length = 8)]) (by simp only [List.length_append, vs_length, vi_length, List.length_cons, List.length_nil, (pl1 : xs1.length = 8), ((len_rep (α := Nat) 8 0) : (List.replicate 8 0).length = 8)]) (vs_one) ?_)
    rintro a11175 w11176 ha11179 hF11180 hS11177 g11178; clear ha11179 hF11174 a11167 hS11173
    have hS11181 : Heap w [] w11176 [.blk b11161 26 (vs .u64 xs1), .blk b3 24 (vs .u64 xs0), .blk b5 26 (vs .u64 xs1), .blk b7 26 (vs .u64 (List.replicate 8 0)), .blk b35 24 (vs .u64 zs4965)] := hS11177; clear hS11177
    have hF11182 := hF11180.pick [3, 4, 6, 7, 12] (G := [(3, .pointer (some ⟨b3, 0, none⟩)), (4, .pointer (some ⟨b5, 0, none⟩)), (6, .pointer (some ⟨b7, 0, none⟩)), (7, .pointer (some ⟨b35, 0, none⟩)), (12, .pointer (some ⟨b11161, 0, none⟩))]) (by kernel_rfl); clear hF11180
    refine wpList_nil ?_
    refine hK11160 _ _ ?_
    obtain ⟨xj11499, hx11500, h11501⟩ := bnd_some h4970; clear h4970
    refine seqJ (fun a W => ∃ (zs11496 : List Nat), zs11496 = xj11499 ∧ (Fr 182 a [(4, .pointer (some ⟨b5, 0, none⟩)), (6, .pointer (some ⟨b7, 0, none⟩)), (12, .pointer (some ⟨b11161, 0, none⟩))]) ∧ (Heap w [] W [.blk b5 26 (vs .u64 xs1), .blk b7 26 (vs .u64 (List.replicate 8 0)), .blk b11161 26 (vs .u64 zs11496)]) ∧ (zs11496.length = 8) ∧ (LB 18446744073709551616 zs11496)) ?_ ?_
    · skip
      refine wp_seq_k (fun K11502 hK11503 => ?_)
      refine wp_region_lit ?_
      refine pu_end hT 1 _ hF11182 [3, 4, 6, 7, 12, 13] (G := [(3, .pointer (some ⟨b3, 0, none⟩)), (4, .pointer (some ⟨b5, 0, none⟩)), (6, .pointer (some ⟨b7, 0, none⟩)), (7, .pointer (some ⟨b35, 0, none⟩)), (12, .pointer (some ⟨b11161, 0, none⟩)), (13, .int .i64 0)]) (cs := []) (by kernel_rfl) rfl trivial ?_; clear hF11182 a11175; intro a11504 hF11505
      refine hK11503 _ _ ?_
      refine wp_block ?_
      refine loopR (F_casemateref14_Block_l3 xs0 zs4965) xj11499 (xs1, 0) hx11500 (fun s a W => ∃ (zs11659 : List Nat), ∃ (x11662 : Nat), (zs11659, x11662) = s ∧ (Fr 182 a [(3, .pointer (some ⟨b3, 0, none⟩)), (4, .pointer (some ⟨b5, 0, none⟩)), (6, .pointer (some ⟨b7, 0, none⟩)), (7, .pointer (some ⟨b35, 0, none⟩)), (12, .pointer (some ⟨b11161, 0, none⟩)), (13, .int .i64 ((x11662 : Nat) : Int))]) ∧ (Heap w [] W [.blk b3 24 (vs .u64 xs0), .blk b5 26 (vs .u64 xs1), .blk b7 26 (vs .u64 (List.replicate 8 0)), .blk b35 24 (vs .u64 zs4965), .blk b11161 26 (vs .u64 zs11659)]) ∧ (zs11659.length = 8) ∧ (LB 18446744073709551616 zs11659)) ⟨xs1, 0, rfl, hF11505.pick [3, 4, 6, 7, 12, 13] (by kernel_rfl), hS11181.pick [1, 2, 3, 4, 0] (by decide) rfl, pl1, pb1⟩ ?_
      clear hF11505 hS11181 hx11500
      rintro k11743 _ a11738 w11739 ⟨zs11659, x11662, rfl, hF11740, hS11741, hh11660, hh11661⟩ hit11737 K11736 hK11735
      obtain ⟨y11733, h11742, hy11734⟩ := iter_succ hit11737; clear hit11737
      unfold F_casemateref14_Block_l3 at h11742; try dsimp only at h11742
      refine wp_seq_k (fun K11748 hK11749 => ?_)
      refine wp_seq_k (fun K11750 hK11751 => ?_)
      refine wp_region_lit ?_
      refine pu_end hT 2 _ hF11740 [3, 4, 6, 7, 12, 13, 95] (G := [(3, .pointer (some ⟨b3, 0, none⟩)), (4, .pointer (some ⟨b5, 0, none⟩)), (6, .pointer (some ⟨b7, 0, none⟩)), (7, .pointer (some ⟨b35, 0, none⟩)), (12, .pointer (some ⟨b11161, 0, none⟩)), (13, .int .i64 ((x11662 : Nat) : Int)), (95, .bool ((decide (((x11662 : Nat) : Int) < 80))))]) (cs := []) (by kernel_rfl) rfl trivial ?_; clear hF11740 a11738; intro a11752 hF11753
      refine hK11751 _ _ ?_
      rcases (ite_some h11742 : ((((x11662 : Nat) : Int) < 80) ∧ _) ∨ (¬ (((x11662 : Nat) : Int) < 80) ∧ _)) with ⟨hc11754, h11755⟩ | ⟨hc11754, h11755⟩
      · clear h11742
        have hF11756 : Fr 182 a11752 [(3, .pointer (some ⟨b3, 0, none⟩)), (4, .pointer (some ⟨b5, 0, none⟩)), (6, .pointer (some ⟨b7, 0, none⟩)), (7, .pointer (some ⟨b35, 0, none⟩)), (12, .pointer (some ⟨b11161, 0, none⟩)), (13, .int .i64 ((x11662 : Nat) : Int)), (95, .bool true)] := hF11753.pick [3, 4, 6, 7, 12, 13, 95] (by rw [decide_eq_true hc11754]; kernel_rfl); clear hF11753
        refine condT hF11756 (by kernel_rfl) ?_
        refine wp_skip ?_
        refine hK11749 _ _ ?_
        refine wp_seq_k (fun K11785 hK11786 => ?_)
        refine wp_block ?_
        refine wp_seq_k (fun K11787 hK11788 => ?_)
        obtain ⟨t11789, ht11790, h11791⟩ := ltb_some h11755; clear h11755; replace ht11790 : t11789 = (((zs11659.getD 4 0) &&& (zs11659.getD 5 0)) ^^^ ((18446744073709551616 - 1 - (zs11659.getD 4 0)) &&& (zs11659.getD 6 0))) := ht11790
        refine wp_region_lit ?_
        refine pu hT 1 _ hF11756 [3, 4, 6, 7, 12, 13, 98] (G := [(3, .pointer (some ⟨b3, 0, none⟩)), (4, .pointer (some ⟨b5, 0, none⟩)), (6, .pointer (some ⟨b7, 0, none⟩)), (7, .pointer (some ⟨b35, 0, none⟩)), (12, .pointer (some ⟨b11161, 0, none⟩)), (13, .int .i64 ((x11662 : Nat) : Int)), (98, .pointer (some ⟨b11161, 4, none⟩))]) (cs := [0 ≤ (4 : Int), (4 : Int) < 8]) (by kernel_rfl) (And.intro (by omega) (And.intro (by decide) trivial)) ?_; clear hF11756 a11752; intro a11793 hF11794
        refine wl (s_load hT (d := 99) (A := ⟨b11161, 4, none⟩) (v := .int .u64 (((zs11659.getD 4 0) : Nat) : Int)) (by kernel_rfl) hF11794 (Cells.at (hS11741.blk 4 rfl).cells (vs_get .u64 zs11659 (i := 4) (by have := hh11660; omega)) (by first | rfl | omega)) ?_)
        rintro a11795 ha11797 hF11796; clear ha11797 hF11794 a11793
        have hF11798 := hF11796.pick [3, 4, 6, 7, 12, 13, 99] (G := [(3, .pointer (some ⟨b3, 0, none⟩)), (4, .pointer (some ⟨b5, 0, none⟩)), (6, .pointer (some ⟨b7, 0, none⟩)), (7, .pointer (some ⟨b35, 0, none⟩)), (12, .pointer (some ⟨b11161, 0, none⟩)), (13, .int .i64 ((x11662 : Nat) : Int)), (99, .int .u64 (((zs11659.getD 4 0) : Nat) : Int))]) (by kernel_rfl); clear hF11796
        refine pu hT 1 _ hF11798 [3, 4, 6, 7, 12, 13, 99, 100] (G := [(3, .pointer (some ⟨b3, 0, none⟩)), (4, .pointer (some ⟨b5, 0, none⟩)), (6, .pointer (some ⟨b7, 0, none⟩)), (7, .pointer (some ⟨b35, 0, none⟩)), (12, .pointer (some ⟨b11161, 0, none⟩)), (13, .int .i64 ((x11662 : Nat) : Int)), (99, .int .u64 (((zs11659.getD 4 0) : Nat) : Int)), (100, .pointer (some ⟨b11161, 5, none⟩))]) (cs := [0 ≤ (5 : Int), (5 : Int) < 8]) (by kernel_rfl) (And.intro (by omega) (And.intro (by decide) trivial)) ?_; clear hF11798 a11795; intro a11799 hF11800
        refine wl (s_load hT (d := 101) (A := ⟨b11161, 5, none⟩) (v := .int .u64 (((zs11659.getD 5 0) : Nat) : Int)) (by kernel_rfl) hF11800 (Cells.at (hS11741.blk 4 rfl).cells (vs_get .u64 zs11659 (i := 5) (by have := hh11660; omega)) (by first | rfl | omega)) ?_)
        rintro a11801 ha11803 hF11802; clear ha11803 hF11800 a11799
        have hF11804 := hF11802.pick [3, 4, 6, 7, 12, 13, 99, 101] (G := [(3, .pointer (some ⟨b3, 0, none⟩)), (4, .pointer (some ⟨b5, 0, none⟩)), (6, .pointer (some ⟨b7, 0, none⟩)), (7, .pointer (some ⟨b35, 0, none⟩)), (12, .pointer (some ⟨b11161, 0, none⟩)), (13, .int .i64 ((x11662 : Nat) : Int)), (99, .int .u64 (((zs11659.getD 4 0) : Nat) : Int)), (101, .int .u64 (((zs11659.getD 5 0) : Nat) : Int))]) (by kernel_rfl); clear hF11802
        refine pu hT 2 _ hF11804 [3, 4, 6, 7, 12, 13, 102, 103] (G := [(3, .pointer (some ⟨b3, 0, none⟩)), (4, .pointer (some ⟨b5, 0, none⟩)), (6, .pointer (some ⟨b7, 0, none⟩)), (7, .pointer (some ⟨b35, 0, none⟩)), (12, .pointer (some ⟨b11161, 0, none⟩)), (13, .int .i64 ((x11662 : Nat) : Int)), (102, .int .u64 ((((zs11659.getD 4 0) &&& (zs11659.getD 5 0)) : Nat) : Int)), (103, .pointer (some ⟨b11161, 4, none⟩))]) (cs := [(zs11659.getD 4 0) < 18446744073709551616, (zs11659.getD 5 0) < 18446744073709551616, 0 ≤ (4 : Int), (4 : Int) < 8]) (by kernel_rfl) (And.intro (hh11661.get (by decide) 4) (And.intro (hh11661.get (by decide) 5) (And.intro (by omega) (And.intro (by decide) trivial)))) ?_; clear hF11804 a11801; intro a11805 hF11806
        refine wl (s_load hT (d := 104) (A := ⟨b11161, 4, none⟩) (v := .int .u64 (((zs11659.getD 4 0) : Nat) : Int)) (by kernel_rfl) hF11806 (Cells.at (hS11741.blk 4 rfl).cells (vs_get .u64 zs11659 (i := 4) (by have := hh11660; omega)) (by first | rfl | omega)) ?_)
        rintro a11807 ha11809 hF11808; clear ha11809 hF11806 a11805
        have hF11810 := hF11808.pick [3, 4, 6, 7, 12, 13, 102, 104] (G := [(3, .pointer (some ⟨b3, 0, none⟩)), (4, .pointer (some ⟨b5, 0, none⟩)), (6, .pointer (some ⟨b7, 0, none⟩)), (7, .pointer (some ⟨b35, 0, none⟩)), (12, .pointer (some ⟨b11161, 0, none⟩)), (13, .int .i64 ((x11662 : Nat) : Int)), (102, .int .u64 ((((zs11659.getD 4 0) &&& (zs11659.getD 5 0)) : Nat) : Int)), (104, .int .u64 (((zs11659.getD 4 0) : Nat) : Int))]) (by kernel_rfl); clear hF11808
        refine pu hT 2 _ hF11810 [3, 4, 6, 7, 12, 13, 102, 105, 106] (G := [(3, .pointer (some ⟨b3, 0, none⟩)), (4, .pointer (some ⟨b5, 0, none⟩)), (6, .pointer (some ⟨b7, 0, none⟩)), (7, .pointer (some ⟨b35, 0, none⟩)), (12, .pointer (some ⟨b11161, 0, none⟩)), (13, .int .i64 ((x11662 : Nat) : Int)), (102, .int .u64 ((((zs11659.getD 4 0) &&& (zs11659.getD 5 0)) : Nat) : Int)), (105, .int .u64 (((18446744073709551616 - 1 - (zs11659.getD 4 0)) : Nat) : Int)), (106, .pointer (some ⟨b11161, 6, none⟩))]) (cs := [(zs11659.getD 4 0) < 18446744073709551616, 0 ≤ (6 : Int), (6 : Int) < 8]) (by kernel_rfl) (And.intro (hh11661.get (by decide) 4) (And.intro (by omega) (And.intro (by decide) trivial))) ?_; clear hF11810 a11807; intro a11811 hF11812
        refine wl (s_load hT (d := 107) (A := ⟨b11161, 6, none⟩) (v := .int .u64 (((zs11659.getD 6 0) : Nat) : Int)) (by kernel_rfl) hF11812 (Cells.at (hS11741.blk 4 rfl).cells (vs_get .u64 zs11659 (i := 6) (by have := hh11660; omega)) (by first | rfl | omega)) ?_)
        rintro a11813 ha11815 hF11814; clear ha11815 hF11812 a11811
        have hF11816 := hF11814.pick [3, 4, 6, 7, 12, 13, 102, 105, 107] (G := [(3, .pointer (some ⟨b3, 0, none⟩)), (4, .pointer (some ⟨b5, 0, none⟩)), (6, .pointer (some ⟨b7, 0, none⟩)), (7, .pointer (some ⟨b35, 0, none⟩)), (12, .pointer (some ⟨b11161, 0, none⟩)), (13, .int .i64 ((x11662 : Nat) : Int)), (102, .int .u64 ((((zs11659.getD 4 0) &&& (zs11659.getD 5 0)) : Nat) : Int)), (105, .int .u64 (((18446744073709551616 - 1 - (zs11659.getD 4 0)) : Nat) : Int)), (107, .int .u64 (((zs11659.getD 6 0) : Nat) : Int))]) (by kernel_rfl); clear hF11814
        refine pu_end hT 3 _ hF11816 [3, 4, 6, 7, 12, 13, 14] (G := [(3, .pointer (some ⟨b3, 0, none⟩)), (4, .pointer (some ⟨b5, 0, none⟩)), (6, .pointer (some ⟨b7, 0, none⟩)), (7, .pointer (some ⟨b35, 0, none⟩)), (12, .pointer (some ⟨b11161, 0, none⟩)), (13, .int .i64 ((x11662 : Nat) : Int)), (14, .int .u64 (((((zs11659.getD 4 0) &&& (zs11659.getD 5 0)) ^^^ ((18446744073709551616 - 1 - (zs11659.getD 4 0)) &&& (zs11659.getD 6 0))) : Nat) : Int))]) (cs := [(18446744073709551616 - 1 - (zs11659.getD 4 0)) < 18446744073709551616, (zs11659.getD 6 0) < 18446744073709551616, ((zs11659.getD 4 0) &&& (zs11659.getD 5 0)) < 18446744073709551616, ((18446744073709551616 - 1 - (zs11659.getD 4 0)) &&& (zs11659.getD 6 0)) < 18446744073709551616]) (by kernel_rfl) rfl (And.intro (lt_compl (by decide)) (And.intro (hh11661.get (by decide) 6) (And.intro (lt_and (hh11661.get (by decide) 4)) (And.intro (lt_and (lt_compl (by decide))) trivial)))) ?_; clear hF11816 a11813; intro a11817 hF11818
        have hb11792 : t11789 < 18446744073709551616 := by rw [ht11790]; exact (lt_xor (n := 64) (lt_and (hh11661.get (by decide) 4)) (lt_and (lt_compl (by decide))))
        have hF11819 : Fr 182 a11817 [(3, .pointer (some ⟨b3, 0, none⟩)), (4, .pointer (some ⟨b5, 0, none⟩)), (6, .pointer (some ⟨b7, 0, none⟩)), (7, .pointer (some ⟨b35, 0, none⟩)), (12, .pointer (some ⟨b11161, 0, none⟩)), (13, .int .i64 ((x11662 : Nat) : Int)), (14, .int .u64 ((t11789 : Nat) : Int))] := hF11818.pick [3, 4, 6, 7, 12, 13, 14] (by rw [ht11790]; kernel_rfl); clear hF11818
        refine hK11788 _ _ ?_
        refine wp_seq_k (fun K11820 hK11821 => ?_)
        obtain ⟨t11822, ht11823, h11824⟩ := ltb_some h11791; clear h11791; replace ht11823 : t11822 = ((((zs11659.getD 0 0) &&& (zs11659.getD 1 0)) ^^^ ((zs11659.getD 0 0) &&& (zs11659.getD 2 0))) ^^^ ((zs11659.getD 1 0) &&& (zs11659.getD 2 0))) := ht11823
        refine wp_region_lit ?_
        refine pu hT 1 _ hF11819 [3, 4, 6, 7, 12, 13, 14, 110] (G := [(3, .pointer (some ⟨b3, 0, none⟩)), (4, .pointer (some ⟨b5, 0, none⟩)), (6, .pointer (some ⟨b7, 0, none⟩)), (7, .pointer (some ⟨b35, 0, none⟩)), (12, .pointer (some ⟨b11161, 0, none⟩)), (13, .int .i64 ((x11662 : Nat) : Int)), (14, .int .u64 ((t11789 : Nat) : Int)), (110, .pointer (some ⟨b11161, 0, none⟩))]) (cs := [0 ≤ (0 : Int), (0 : Int) < 8]) (by kernel_rfl) (And.intro (by omega) (And.intro (by decide) trivial)) ?_; clear hF11819 a11817; intro a11826 hF11827
        refine wl (s_load hT (d := 111) (A := ⟨b11161, 0, none⟩) (v := .int .u64 (((zs11659.getD 0 0) : Nat) : Int)) (by kernel_rfl) hF11827 (Cells.at (hS11741.blk 4 rfl).cells (vs_get .u64 zs11659 (i := 0) (by have := hh11660; omega)) (by first | rfl | omega)) ?_)
        rintro a11828 ha11830 hF11829; clear ha11830 hF11827 a11826
        have hF11831 := hF11829.pick [3, 4, 6, 7, 12, 13, 14, 111] (G := [(3, .pointer (some ⟨b3, 0, none⟩)), (4, .pointer (some ⟨b5, 0, none⟩)), (6, .pointer (some ⟨b7, 0, none⟩)), (7, .pointer (some ⟨b35, 0, none⟩)), (12, .pointer (some ⟨b11161, 0, none⟩)), (13, .int .i64 ((x11662 : Nat) : Int)), (14, .int .u64 ((t11789 : Nat) : Int)), (111, .int .u64 (((zs11659.getD 0 0) : Nat) : Int))]) (by kernel_rfl); clear hF11829
        refine pu hT 1 _ hF11831 [3, 4, 6, 7, 12, 13, 14, 111, 112] (G := [(3, .pointer (some ⟨b3, 0, none⟩)), (4, .pointer (some ⟨b5, 0, none⟩)), (6, .pointer (some ⟨b7, 0, none⟩)), (7, .pointer (some ⟨b35, 0, none⟩)), (12, .pointer (some ⟨b11161, 0, none⟩)), (13, .int .i64 ((x11662 : Nat) : Int)), (14, .int .u64 ((t11789 : Nat) : Int)), (111, .int .u64 (((zs11659.getD 0 0) : Nat) : Int)), (112, .pointer (some ⟨b11161, 1, none⟩))]) (cs := [0 ≤ (1 : Int), (1 : Int) < 8]) (by kernel_rfl) (And.intro (by omega) (And.intro (by decide) trivial)) ?_; clear hF11831 a11828; intro a11832 hF11833
        refine wl (s_load hT (d := 113) (A := ⟨b11161, 1, none⟩) (v := .int .u64 (((zs11659.getD 1 0) : Nat) : Int)) (by kernel_rfl) hF11833 (Cells.at (hS11741.blk 4 rfl).cells (vs_get .u64 zs11659 (i := 1) (by have := hh11660; omega)) (by first | rfl | omega)) ?_)
        rintro a11834 ha11836 hF11835; clear ha11836 hF11833 a11832
        have hF11837 := hF11835.pick [3, 4, 6, 7, 12, 13, 14, 111, 113] (G := [(3, .pointer (some ⟨b3, 0, none⟩)), (4, .pointer (some ⟨b5, 0, none⟩)), (6, .pointer (some ⟨b7, 0, none⟩)), (7, .pointer (some ⟨b35, 0, none⟩)), (12, .pointer (some ⟨b11161, 0, none⟩)), (13, .int .i64 ((x11662 : Nat) : Int)), (14, .int .u64 ((t11789 : Nat) : Int)), (111, .int .u64 (((zs11659.getD 0 0) : Nat) : Int)), (113, .int .u64 (((zs11659.getD 1 0) : Nat) : Int))]) (by kernel_rfl); clear hF11835
        refine pu hT 2 _ hF11837 [3, 4, 6, 7, 12, 13, 14, 114, 115] (G := [(3, .pointer (some ⟨b3, 0, none⟩)), (4, .pointer (some ⟨b5, 0, none⟩)), (6, .pointer (some ⟨b7, 0, none⟩)), (7, .pointer (some ⟨b35, 0, none⟩)), (12, .pointer (some ⟨b11161, 0, none⟩)), (13, .int .i64 ((x11662 : Nat) : Int)), (14, .int .u64 ((t11789 : Nat) : Int)), (114, .int .u64 ((((zs11659.getD 0 0) &&& (zs11659.getD 1 0)) : Nat) : Int)), (115, .pointer (some ⟨b11161, 0, none⟩))]) (cs := [(zs11659.getD 0 0) < 18446744073709551616, (zs11659.getD 1 0) < 18446744073709551616, 0 ≤ (0 : Int), (0 : Int) < 8]) (by kernel_rfl) (And.intro (hh11661.get (by decide) 0) (And.intro (hh11661.get (by decide) 1) (And.intro (by omega) (And.intro (by decide) trivial)))) ?_; clear hF11837 a11834; intro a11838 hF11839
        refine wl (s_load hT (d := 116) (A := ⟨b11161, 0, none⟩) (v := .int .u64 (((zs11659.getD 0 0) : Nat) : Int)) (by kernel_rfl) hF11839 (Cells.at (hS11741.blk 4 rfl).cells (vs_get .u64 zs11659 (i := 0) (by have := hh11660; omega)) (by first | rfl | omega)) ?_)
        rintro a11840 ha11842 hF11841; clear ha11842 hF11839 a11838
        have hF11843 := hF11841.pick [3, 4, 6, 7, 12, 13, 14, 114, 116] (G := [(3, .pointer (some ⟨b3, 0, none⟩)), (4, .pointer (some ⟨b5, 0, none⟩)), (6, .pointer (some ⟨b7, 0, none⟩)), (7, .pointer (some ⟨b35, 0, none⟩)), (12, .pointer (some ⟨b11161, 0, none⟩)), (13, .int .i64 ((x11662 : Nat) : Int)), (14, .int .u64 ((t11789 : Nat) : Int)), (114, .int .u64 ((((zs11659.getD 0 0) &&& (zs11659.getD 1 0)) : Nat) : Int)), (116, .int .u64 (((zs11659.getD 0 0) : Nat) : Int))]) (by kernel_rfl); clear hF11841
        refine pu hT 1 _ hF11843 [3, 4, 6, 7, 12, 13, 14, 114, 116, 117] (G := [(3, .pointer (some ⟨b3, 0, none⟩)), (4, .pointer (some ⟨b5, 0, none⟩)), (6, .pointer (some ⟨b7, 0, none⟩)), (7, .pointer (some ⟨b35, 0, none⟩)), (12, .pointer (some ⟨b11161, 0, none⟩)), (13, .int .i64 ((x11662 : Nat) : Int)), (14, .int .u64 ((t11789 : Nat) : Int)), (114, .int .u64 ((((zs11659.getD 0 0) &&& (zs11659.getD 1 0)) : Nat) : Int)), (116, .int .u64 (((zs11659.getD 0 0) : Nat) : Int)), (117, .pointer (some ⟨b11161, 2, none⟩))]) (cs := [0 ≤ (2 : Int), (2 : Int) < 8]) (by kernel_rfl) (And.intro (by omega) (And.intro (by decide) trivial)) ?_; clear hF11843 a11840; intro a11844 hF11845
        refine wl (s_load hT (d := 118) (A := ⟨b11161, 2, none⟩) (v := .int .u64 (((zs11659.getD 2 0) : Nat) : Int)) (by kernel_rfl) hF11845 (Cells.at (hS11741.blk 4 rfl).cells (vs_get .u64 zs11659 (i := 2) (by have := hh11660; omega)) (by first | rfl | omega)) ?_)
        rintro a11846 ha11848 hF11847; clear ha11848 hF11845 a11844
        have hF11849 := hF11847.pick [3, 4, 6, 7, 12, 13, 14, 114, 116, 118] (G := [(3, .pointer (some ⟨b3, 0, none⟩)), (4, .pointer (some ⟨b5, 0, none⟩)), (6, .pointer (some ⟨b7, 0, none⟩)), (7, .pointer (some ⟨b35, 0, none⟩)), (12, .pointer (some ⟨b11161, 0, none⟩)), (13, .int .i64 ((x11662 : Nat) : Int)), (14, .int .u64 ((t11789 : Nat) : Int)), (114, .int .u64 ((((zs11659.getD 0 0) &&& (zs11659.getD 1 0)) : Nat) : Int)), (116, .int .u64 (((zs11659.getD 0 0) : Nat) : Int)), (118, .int .u64 (((zs11659.getD 2 0) : Nat) : Int))]) (by kernel_rfl); clear hF11847
        refine pu hT 3 _ hF11849 [3, 4, 6, 7, 12, 13, 14, 120, 121] (G := [(3, .pointer (some ⟨b3, 0, none⟩)), (4, .pointer (some ⟨b5, 0, none⟩)), (6, .pointer (some ⟨b7, 0, none⟩)), (7, .pointer (some ⟨b35, 0, none⟩)), (12, .pointer (some ⟨b11161, 0, none⟩)), (13, .int .i64 ((x11662 : Nat) : Int)), (14, .int .u64 ((t11789 : Nat) : Int)), (120, .int .u64 (((((zs11659.getD 0 0) &&& (zs11659.getD 1 0)) ^^^ ((zs11659.getD 0 0) &&& (zs11659.getD 2 0))) : Nat) : Int)), (121, .pointer (some ⟨b11161, 1, none⟩))]) (cs := [(zs11659.getD 0 0) < 18446744073709551616, (zs11659.getD 2 0) < 18446744073709551616, ((zs11659.getD 0 0) &&& (zs11659.getD 1 0)) < 18446744073709551616, ((zs11659.getD 0 0) &&& (zs11659.getD 2 0)) < 18446744073709551616, 0 ≤ (1 : Int), (1 : Int) < 8]) (by kernel_rfl) (And.intro (hh11661.get (by decide) 0) (And.intro (hh11661.get (by decide) 2) (And.intro (lt_and (hh11661.get (by decide) 0)) (And.intro (lt_and (hh11661.get (by decide) 0)) (And.intro (by omega) (And.intro (by decide) trivial)))))) ?_; clear hF11849 a11846; intro a11850 hF11851
        refine wl (s_load hT (d := 122) (A := ⟨b11161, 1, none⟩) (v := .int .u64 (((zs11659.getD 1 0) : Nat) : Int)) (by kernel_rfl) hF11851 (Cells.at (hS11741.blk 4 rfl).cells (vs_get .u64 zs11659 (i := 1) (by have := hh11660; omega)) (by first | rfl | omega)) ?_)
        rintro a11852 ha11854 hF11853; clear ha11854 hF11851 a11850
        have hF11855 := hF11853.pick [3, 4, 6, 7, 12, 13, 14, 120, 122] (G := [(3, .pointer (some ⟨b3, 0, none⟩)), (4, .pointer (some ⟨b5, 0, none⟩)), (6, .pointer (some ⟨b7, 0, none⟩)), (7, .pointer (some ⟨b35, 0, none⟩)), (12, .pointer (some ⟨b11161, 0, none⟩)), (13, .int .i64 ((x11662 : Nat) : Int)), (14, .int .u64 ((t11789 : Nat) : Int)), (120, .int .u64 (((((zs11659.getD 0 0) &&& (zs11659.getD 1 0)) ^^^ ((zs11659.getD 0 0) &&& (zs11659.getD 2 0))) : Nat) : Int)), (122, .int .u64 (((zs11659.getD 1 0) : Nat) : Int))]) (by kernel_rfl); clear hF11853
        refine pu hT 1 _ hF11855 [3, 4, 6, 7, 12, 13, 14, 120, 122, 123] (G := [(3, .pointer (some ⟨b3, 0, none⟩)), (4, .pointer (some ⟨b5, 0, none⟩)), (6, .pointer (some ⟨b7, 0, none⟩)), (7, .pointer (some ⟨b35, 0, none⟩)), (12, .pointer (some ⟨b11161, 0, none⟩)), (13, .int .i64 ((x11662 : Nat) : Int)), (14, .int .u64 ((t11789 : Nat) : Int)), (120, .int .u64 (((((zs11659.getD 0 0) &&& (zs11659.getD 1 0)) ^^^ ((zs11659.getD 0 0) &&& (zs11659.getD 2 0))) : Nat) : Int)), (122, .int .u64 (((zs11659.getD 1 0) : Nat) : Int)), (123, .pointer (some ⟨b11161, 2, none⟩))]) (cs := [0 ≤ (2 : Int), (2 : Int) < 8]) (by kernel_rfl) (And.intro (by omega) (And.intro (by decide) trivial)) ?_; clear hF11855 a11852; intro a11856 hF11857
        refine wl (s_load hT (d := 124) (A := ⟨b11161, 2, none⟩) (v := .int .u64 (((zs11659.getD 2 0) : Nat) : Int)) (by kernel_rfl) hF11857 (Cells.at (hS11741.blk 4 rfl).cells (vs_get .u64 zs11659 (i := 2) (by have := hh11660; omega)) (by first | rfl | omega)) ?_)
        rintro a11858 ha11860 hF11859; clear ha11860 hF11857 a11856
        have hF11861 := hF11859.pick [3, 4, 6, 7, 12, 13, 14, 120, 122, 124] (G := [(3, .pointer (some ⟨b3, 0, none⟩)), (4, .pointer (some ⟨b5, 0, none⟩)), (6, .pointer (some ⟨b7, 0, none⟩)), (7, .pointer (some ⟨b35, 0, none⟩)), (12, .pointer (some ⟨b11161, 0, none⟩)), (13, .int .i64 ((x11662 : Nat) : Int)), (14, .int .u64 ((t11789 : Nat) : Int)), (120, .int .u64 (((((zs11659.getD 0 0) &&& (zs11659.getD 1 0)) ^^^ ((zs11659.getD 0 0) &&& (zs11659.getD 2 0))) : Nat) : Int)), (122, .int .u64 (((zs11659.getD 1 0) : Nat) : Int)), (124, .int .u64 (((zs11659.getD 2 0) : Nat) : Int))]) (by kernel_rfl); clear hF11859
        refine pu_end hT 3 _ hF11861 [3, 4, 6, 7, 12, 13, 14, 15] (G := [(3, .pointer (some ⟨b3, 0, none⟩)), (4, .pointer (some ⟨b5, 0, none⟩)), (6, .pointer (some ⟨b7, 0, none⟩)), (7, .pointer (some ⟨b35, 0, none⟩)), (12, .pointer (some ⟨b11161, 0, none⟩)), (13, .int .i64 ((x11662 : Nat) : Int)), (14, .int .u64 ((t11789 : Nat) : Int)), (15, .int .u64 ((((((zs11659.getD 0 0) &&& (zs11659.getD 1 0)) ^^^ ((zs11659.getD 0 0) &&& (zs11659.getD 2 0))) ^^^ ((zs11659.getD 1 0) &&& (zs11659.getD 2 0))) : Nat) : Int))]) (cs := [(zs11659.getD 1 0) < 18446744073709551616, (zs11659.getD 2 0) < 18446744073709551616, (((zs11659.getD 0 0) &&& (zs11659.getD 1 0)) ^^^ ((zs11659.getD 0 0) &&& (zs11659.getD 2 0))) < 18446744073709551616, ((zs11659.getD 1 0) &&& (zs11659.getD 2 0)) < 18446744073709551616]) (by kernel_rfl) rfl (And.intro (hh11661.get (by decide) 1) (And.intro (hh11661.get (by decide) 2) (And.intro (lt_xor (n := 64) (lt_and (hh11661.get (by decide) 0)) (lt_and (hh11661.get (by decide) 0))) (And.intro (lt_and (hh11661.get (by decide) 1)) trivial)))) ?_; clear hF11861 a11858; intro a11862 hF11863
        have hb11825 : t11822 < 18446744073709551616 := by rw [ht11823]; exact (lt_xor (n := 64) (lt_xor (n := 64) (lt_and (hh11661.get (by decide) 0)) (lt_and (hh11661.get (by decide) 0))) (lt_and (hh11661.get (by decide) 1)))
        have hF11864 : Fr 182 a11862 [(3, .pointer (some ⟨b3, 0, none⟩)), (4, .pointer (some ⟨b5, 0, none⟩)), (6, .pointer (some ⟨b7, 0, none⟩)), (7, .pointer (some ⟨b35, 0, none⟩)), (12, .pointer (some ⟨b11161, 0, none⟩)), (13, .int .i64 ((x11662 : Nat) : Int)), (14, .int .u64 ((t11789 : Nat) : Int)), (15, .int .u64 ((t11822 : Nat) : Int))] := hF11863.pick [3, 4, 6, 7, 12, 13, 14, 15] (by rw [ht11823]; kernel_rfl); clear hF11863
        refine hK11821 _ _ ?_
        refine wp_seq_k (fun K11865 hK11866 => ?_)
        obtain ⟨x11867, hr11869, h11868⟩ := bnd_some h11824; clear h11824; replace hr11869 : F_casemateref14_three (zs11659.getD 4 0) 14 18 41 = some (x11867) := hr11869
        obtain ⟨t11871, ht11872, h11873⟩ := ltb_some h11868; clear h11868; replace ht11872 : t11871 = (((((((((zs11659.getD 7 0) + x11867) % 18446744073709551616) + t11789) % 18446744073709551616) + (xs0.getD x11662 0)) % 18446744073709551616) + (zs4965.getD x11662 0)) % 18446744073709551616) := ht11872
        have hlt11875 := hS11741.ids
        have hsz11877 := hS11741.size
        let SL11876 : List SP := [SP.val (.pointer (some ⟨b11161, 7, none⟩)), SP.val (.int .u64 (((zs11659.getD 7 0) : Nat) : Int)), SP.val (.pointer (some ⟨b11161, 4, none⟩)), SP.val (.int .u64 (((zs11659.getD 4 0) : Nat) : Int)), SP.mk' (fun B v W => v = .int .u64 ((x11867 : Nat) : Int) ∧ (x11867 < 18446744073709551616)) (fun B v W W2 hh gg => by obtain ⟨e, hh11870⟩ := hh; exact ⟨e, hh11870⟩), SP.val (.int .u64 (((((zs11659.getD 7 0) + x11867) % 18446744073709551616) : Nat) : Int)), SP.val (.int .u64 ((t11789 : Nat) : Int)), SP.val (.int .u64 (((((((zs11659.getD 7 0) + x11867) % 18446744073709551616) + t11789) % 18446744073709551616) : Nat) : Int)), SP.val (.int .i64 ((x11662 : Nat) : Int)), SP.val (.pointer (some ⟨b3, (0 + x11662), none⟩)), SP.val (.int .u64 (((xs0.getD x11662 0) : Nat) : Int)), SP.val (.int .u64 (((((((((zs11659.getD 7 0) + x11867) % 18446744073709551616) + t11789) % 18446744073709551616) + (xs0.getD x11662 0)) % 18446744073709551616) : Nat) : Int)), SP.val (.int .i64 ((x11662 : Nat) : Int)), SP.val (.pointer (some ⟨b35, (0 + x11662), none⟩)), SP.val (.int .u64 (((zs4965.getD x11662 0) : Nat) : Int)), SP.mk' (fun B v W => v = .int .u64 ((t11871 : Nat) : Int) ∧ (t11871 < 18446744073709551616)) (fun B v W W2 hh gg => by obtain ⟨e, hb11874⟩ := hh; exact ⟨e, hb11874⟩), SP.mk' (fun B v W => v = .int .u64 ((t11871 : Nat) : Int) ∧ (t11871 < 18446744073709551616)) (fun B v W W2 hh gg => by obtain ⟨e, hb11874⟩ := hh; exact ⟨e, hb11874⟩)]
        refine region_rel (SL := SL11876) (J := (fun (B : Bool) (W : World) => w11739.heap.size ≤ W.heap.size ∧ Heap w [] W [.blk b3 24 (vs .u64 xs0), .blk b5 26 (vs .u64 xs1), .blk b7 26 (vs .u64 (List.replicate 8 0)), .blk b35 24 (vs .u64 zs4965), .blk b11161 26 (vs .u64 zs11659)])) (m := 17) wide (by kernel_rfl) (by kernel_rfl) hF11864 rfl ?_ ⟨Nat.le_refl _, hS11741⟩ ⟨?_, ?_, ?_, ?_, ?_, ?_, ?_, ?_, ?_, ?_, ?_, ?_, ?_, ?_, ?_, ?_, ?_, trivial⟩ [(16, some 16), (3, none), (4, none), (6, none), (7, none), (12, none), (13, none), (15, none)] (by kernel_rfl) ?_
        · intro b W W' hj g; exact ⟨Nat.le_trans hj.1 g.size, hj.2.growN g⟩
        · -- operation 0
          rintro a11879 w11878 b11882 KK11888 hs11884 hd11885 hJ11886 hb11887 hr11889 hK11883
          have hr11889x : RD SL11876 b11882 a11879 a11862 w11878 [(12, none)] := hr11889 _ (by kernel_rfl)
          obtain ⟨q11890, -⟩ := hr11889x
          obtain ⟨hX11891, hS11881⟩ := hJ11886
          have hF11880 : Fr 182 a11879 [(12, .pointer (some ⟨b11161, 0, none⟩))] := Fr.of hs11884 hd11885 ⟨(Fr.init hF11864 q11890 (by kernel_rfl)), trivial⟩
          refine s_pure hT (d := 127) (v := .pointer (some ⟨b11161, 7, none⟩)) (cs := [0 ≤ (7 : Int), (7 : Int) < 8]) (by kernel_rfl) (by kernel_rfl) (And.intro (by omega) (And.intro (by decide) trivial)) hF11880 ?_
          rintro a2 ha2 hF2; rw [ha2]
          exact hK11883 _ _ rfl (grown_refl _ _)
        · -- operation 1
          rintro a11893 w11892 b11896 KK11902 hs11898 hd11899 hJ11900 hb11901 hr11903 hK11897
          have hr11903x : RD SL11876 b11896 a11893 a11862 w11892 [(127, some 0)] := hr11903 _ (by kernel_rfl)
          obtain ⟨⟨v11905, q11904, s11906⟩, -⟩ := hr11903x
          obtain rfl : v11905 = .pointer (some ⟨b11161, 7, none⟩) := s11906
          obtain ⟨hX11907, hS11895⟩ := hJ11900
          have hF11894 : Fr 182 a11893 [(127, .pointer (some ⟨b11161, 7, none⟩))] := Fr.of hs11898 hd11899 ⟨q11904, trivial⟩
          refine s_load hT (d := 128) (A := ⟨b11161, 7, none⟩) (v := .int .u64 (((zs11659.getD 7 0) : Nat) : Int)) (by kernel_rfl) hF11894 (Cells.at (hS11895.blk 4 rfl).cells (vs_get .u64 zs11659 (i := 7) (by have := hh11660; omega)) (by first | rfl | omega)) ?_
          rintro a11908 ha11910 hF11909
          rw [ha11910]
          exact hK11897 _ _ rfl (grown_refl _ _)
        · -- operation 2
          rintro a11912 w11911 b11915 KK11921 hs11917 hd11918 hJ11919 hb11920 hr11922 hK11916
          have hr11922x : RD SL11876 b11915 a11912 a11862 w11911 [(12, none)] := hr11922 _ (by kernel_rfl)
          obtain ⟨q11923, -⟩ := hr11922x
          obtain ⟨hX11924, hS11914⟩ := hJ11919
          have hF11913 : Fr 182 a11912 [(12, .pointer (some ⟨b11161, 0, none⟩))] := Fr.of hs11917 hd11918 ⟨(Fr.init hF11864 q11923 (by kernel_rfl)), trivial⟩
          refine s_pure hT (d := 129) (v := .pointer (some ⟨b11161, 4, none⟩)) (cs := [0 ≤ (4 : Int), (4 : Int) < 8]) (by kernel_rfl) (by kernel_rfl) (And.intro (by omega) (And.intro (by decide) trivial)) hF11913 ?_
          rintro a2 ha2 hF2; rw [ha2]
          exact hK11916 _ _ rfl (grown_refl _ _)
        · -- operation 3
          rintro a11926 w11925 b11929 KK11935 hs11931 hd11932 hJ11933 hb11934 hr11936 hK11930
          have hr11936x : RD SL11876 b11929 a11926 a11862 w11925 [(129, some 2)] := hr11936 _ (by kernel_rfl)
          obtain ⟨⟨v11938, q11937, s11939⟩, -⟩ := hr11936x
          obtain rfl : v11938 = .pointer (some ⟨b11161, 4, none⟩) := s11939
          obtain ⟨hX11940, hS11928⟩ := hJ11933
          have hF11927 : Fr 182 a11926 [(129, .pointer (some ⟨b11161, 4, none⟩))] := Fr.of hs11931 hd11932 ⟨q11937, trivial⟩
          refine s_load hT (d := 130) (A := ⟨b11161, 4, none⟩) (v := .int .u64 (((zs11659.getD 4 0) : Nat) : Int)) (by kernel_rfl) hF11927 (Cells.at (hS11928.blk 4 rfl).cells (vs_get .u64 zs11659 (i := 4) (by have := hh11660; omega)) (by first | rfl | omega)) ?_
          rintro a11941 ha11943 hF11942
          rw [ha11943]
          exact hK11930 _ _ rfl (grown_refl _ _)
        · -- operation 4
          rintro a11945 w11944 b11948 KK11954 hs11950 hd11951 hJ11952 hb11953 hr11955 hK11949
          have hr11955x : RD SL11876 b11948 a11945 a11862 w11944 [(130, some 3)] := hr11955 _ (by kernel_rfl)
          obtain ⟨⟨v11957, q11956, s11958⟩, -⟩ := hr11955x
          obtain rfl : v11957 = .int .u64 (((zs11659.getD 4 0) : Nat) : Int) := s11958
          obtain ⟨hX11959, hS11947⟩ := hJ11952
          have hF11946 : Fr 182 a11945 [(130, .int .u64 (((zs11659.getD 4 0) : Nat) : Int))] := Fr.of hs11950 hd11951 ⟨q11956, trivial⟩
          refine s_call (d := 131) (f := 47) (l := [.int .u64 (((zs11659.getD 4 0) : Nat) : Int), .int .u64 14, .int .u64 18, .int .u64 41]) (by kernel_rfl) hF11946 cl47 (W_casemateref14_three (zs11659.getD 4 0) 14 18 41 _ (hh11661.get (by decide) 4) (by decide) (by decide) (by decide) x11867 hr11869) ?_
          rintro a11960 w11961 v11962 ⟨rfl, hh11870, hC11963⟩ ha11964 hF11965
          have hS11966 : Heap w [] w11961 [.blk b3 24 (vs .u64 xs0), .blk b5 26 (vs .u64 xs1), .blk b7 26 (vs .u64 (List.replicate 8 0)), .blk b35 24 (vs .u64 zs4965), .blk b11161 26 (vs .u64 zs11659)] := Heap.call hS11947 hC11963
          rw [ha11964]
          exact hK11949 _ _ ⟨rfl, hh11870⟩ (hC11963.grown)
        · -- operation 5
          rintro a11968 w11967 b11971 KK11977 hs11973 hd11974 hJ11975 hb11976 hr11978 hK11972
          have hr11978x : RD SL11876 b11971 a11968 a11862 w11967 [(128, some 1), (131, some 4)] := hr11978 _ (by kernel_rfl)
          obtain ⟨⟨v11980, q11979, s11981⟩, ⟨v11983, q11982, s11984⟩, -⟩ := hr11978x
          obtain rfl : v11980 = .int .u64 (((zs11659.getD 7 0) : Nat) : Int) := s11981
          obtain ⟨rfl, hh11870⟩ := s11984
          obtain ⟨hX11985, hS11970⟩ := hJ11975
          have hF11969 : Fr 182 a11968 [(128, .int .u64 (((zs11659.getD 7 0) : Nat) : Int)), (131, .int .u64 ((x11867 : Nat) : Int))] := Fr.of hs11973 hd11974 ⟨q11979, q11982, trivial⟩
          refine s_pure hT (d := 132) (v := .int .u64 (((((zs11659.getD 7 0) + x11867) % 18446744073709551616) : Nat) : Int)) (cs := []) (by kernel_rfl) (by kernel_rfl) trivial hF11969 ?_
          rintro a2 ha2 hF2; rw [ha2]
          exact hK11972 _ _ rfl (grown_refl _ _)
        · -- operation 6
          rintro a11987 w11986 b11990 KK11996 hs11992 hd11993 hJ11994 hb11995 hr11997 hK11991
          have hr11997x : RD SL11876 b11990 a11987 a11862 w11986 [(14, none)] := hr11997 _ (by kernel_rfl)
          obtain ⟨q11998, -⟩ := hr11997x
          obtain ⟨hX11999, hS11989⟩ := hJ11994
          have hF11988 : Fr 182 a11987 [(14, .int .u64 ((t11789 : Nat) : Int))] := Fr.of hs11992 hd11993 ⟨(Fr.init hF11864 q11998 (by kernel_rfl)), trivial⟩
          refine s_pure hT (d := 133) (v := .int .u64 ((t11789 : Nat) : Int)) (cs := []) (by kernel_rfl) (by kernel_rfl) trivial hF11988 ?_
          rintro a2 ha2 hF2; rw [ha2]
          exact hK11991 _ _ rfl (grown_refl _ _)
        · -- operation 7
          rintro a12001 w12000 b12004 KK12010 hs12006 hd12007 hJ12008 hb12009 hr12011 hK12005
          have hr12011x : RD SL11876 b12004 a12001 a11862 w12000 [(132, some 5), (133, some 6)] := hr12011 _ (by kernel_rfl)
          obtain ⟨⟨v12013, q12012, s12014⟩, ⟨v12016, q12015, s12017⟩, -⟩ := hr12011x
          obtain rfl : v12013 = .int .u64 (((((zs11659.getD 7 0) + x11867) % 18446744073709551616) : Nat) : Int) := s12014
          obtain rfl : v12016 = .int .u64 ((t11789 : Nat) : Int) := s12017
          obtain ⟨hX12018, hS12003⟩ := hJ12008
          have hF12002 : Fr 182 a12001 [(132, .int .u64 (((((zs11659.getD 7 0) + x11867) % 18446744073709551616) : Nat) : Int)), (133, .int .u64 ((t11789 : Nat) : Int))] := Fr.of hs12006 hd12007 ⟨q12012, q12015, trivial⟩
          refine s_pure hT (d := 134) (v := .int .u64 (((((((zs11659.getD 7 0) + x11867) % 18446744073709551616) + t11789) % 18446744073709551616) : Nat) : Int)) (cs := []) (by kernel_rfl) (by kernel_rfl) trivial hF12002 ?_
          rintro a2 ha2 hF2; rw [ha2]
          exact hK12005 _ _ rfl (grown_refl _ _)
        · -- operation 8
          rintro a12020 w12019 b12023 KK12029 hs12025 hd12026 hJ12027 hb12028 hr12030 hK12024
          have hr12030x : RD SL11876 b12023 a12020 a11862 w12019 [(13, none)] := hr12030 _ (by kernel_rfl)
          obtain ⟨q12031, -⟩ := hr12030x
          obtain ⟨hX12032, hS12022⟩ := hJ12027
          have hF12021 : Fr 182 a12020 [(13, .int .i64 ((x11662 : Nat) : Int))] := Fr.of hs12025 hd12026 ⟨(Fr.init hF11864 q12031 (by kernel_rfl)), trivial⟩
          refine s_pure hT (d := 135) (v := .int .i64 ((x11662 : Nat) : Int)) (cs := []) (by kernel_rfl) (by kernel_rfl) trivial hF12021 ?_
          rintro a2 ha2 hF2; rw [ha2]
          exact hK12024 _ _ rfl (grown_refl _ _)
        · -- operation 9
          rintro a12034 w12033 b12037 KK12043 hs12039 hd12040 hJ12041 hb12042 hr12044 hK12038
          have hr12044x : RD SL11876 b12037 a12034 a11862 w12033 [(3, none), (135, some 8)] := hr12044 _ (by kernel_rfl)
          obtain ⟨q12045, ⟨v12047, q12046, s12048⟩, -⟩ := hr12044x
          obtain rfl : v12047 = .int .i64 ((x11662 : Nat) : Int) := s12048
          obtain ⟨hX12049, hS12036⟩ := hJ12041
          have hF12035 : Fr 182 a12034 [(3, .pointer (some ⟨b3, 0, none⟩)), (135, .int .i64 ((x11662 : Nat) : Int))] := Fr.of hs12039 hd12040 ⟨(Fr.init hF11864 q12045 (by kernel_rfl)), q12046, trivial⟩
          refine s_pure hT (d := 136) (v := .pointer (some ⟨b3, (0 + x11662), none⟩)) (cs := [0 ≤ ((x11662 : Nat) : Int), ((x11662 : Nat) : Int) < 80]) (by kernel_rfl) (by kernel_rfl) (And.intro (by omega) (And.intro hc11754 trivial)) hF12035 ?_
          rintro a2 ha2 hF2; rw [ha2]
          exact hK12038 _ _ rfl (grown_refl _ _)
        · -- operation 10
          rintro a12051 w12050 b12054 KK12060 hs12056 hd12057 hJ12058 hb12059 hr12061 hK12055
          have hr12061x : RD SL11876 b12054 a12051 a11862 w12050 [(136, some 9)] := hr12061 _ (by kernel_rfl)
          obtain ⟨⟨v12063, q12062, s12064⟩, -⟩ := hr12061x
          obtain rfl : v12063 = .pointer (some ⟨b3, (0 + x11662), none⟩) := s12064
          obtain ⟨hX12065, hS12053⟩ := hJ12058
          have hF12052 : Fr 182 a12051 [(136, .pointer (some ⟨b3, (0 + x11662), none⟩))] := Fr.of hs12056 hd12057 ⟨q12062, trivial⟩
          refine s_load hT (d := 137) (A := ⟨b3, (0 + x11662), none⟩) (v := .int .u64 (((xs0.getD x11662 0) : Nat) : Int)) (by kernel_rfl) hF12052 (Cells.at (hS12053.blk 0 rfl).cells (vs_get .u64 xs0 (i := x11662) (by have := pl0; omega)) (by first | rfl | omega)) ?_
          rintro a12066 ha12068 hF12067
          rw [ha12068]
          exact hK12055 _ _ rfl (grown_refl _ _)
        · -- operation 11
          rintro a12070 w12069 b12073 KK12079 hs12075 hd12076 hJ12077 hb12078 hr12080 hK12074
          have hr12080x : RD SL11876 b12073 a12070 a11862 w12069 [(134, some 7), (137, some 10)] := hr12080 _ (by kernel_rfl)
          obtain ⟨⟨v12082, q12081, s12083⟩, ⟨v12085, q12084, s12086⟩, -⟩ := hr12080x
          obtain rfl : v12082 = .int .u64 (((((((zs11659.getD 7 0) + x11867) % 18446744073709551616) + t11789) % 18446744073709551616) : Nat) : Int) := s12083
          obtain rfl : v12085 = .int .u64 (((xs0.getD x11662 0) : Nat) : Int) := s12086
          obtain ⟨hX12087, hS12072⟩ := hJ12077
          have hF12071 : Fr 182 a12070 [(134, .int .u64 (((((((zs11659.getD 7 0) + x11867) % 18446744073709551616) + t11789) % 18446744073709551616) : Nat) : Int)), (137, .int .u64 (((xs0.getD x11662 0) : Nat) : Int))] := Fr.of hs12075 hd12076 ⟨q12081, q12084, trivial⟩
          refine s_pure hT (d := 138) (v := .int .u64 (((((((((zs11659.getD 7 0) + x11867) % 18446744073709551616) + t11789) % 18446744073709551616) + (xs0.getD x11662 0)) % 18446744073709551616) : Nat) : Int)) (cs := []) (by kernel_rfl) (by kernel_rfl) trivial hF12071 ?_
          rintro a2 ha2 hF2; rw [ha2]
          exact hK12074 _ _ rfl (grown_refl _ _)
        · -- operation 12
          rintro a12089 w12088 b12092 KK12098 hs12094 hd12095 hJ12096 hb12097 hr12099 hK12093
          have hr12099x : RD SL11876 b12092 a12089 a11862 w12088 [(13, none)] := hr12099 _ (by kernel_rfl)
          obtain ⟨q12100, -⟩ := hr12099x
          obtain ⟨hX12101, hS12091⟩ := hJ12096
          have hF12090 : Fr 182 a12089 [(13, .int .i64 ((x11662 : Nat) : Int))] := Fr.of hs12094 hd12095 ⟨(Fr.init hF11864 q12100 (by kernel_rfl)), trivial⟩
          refine s_pure hT (d := 139) (v := .int .i64 ((x11662 : Nat) : Int)) (cs := []) (by kernel_rfl) (by kernel_rfl) trivial hF12090 ?_
          rintro a2 ha2 hF2; rw [ha2]
          exact hK12093 _ _ rfl (grown_refl _ _)
        · -- operation 13
          rintro a12103 w12102 b12106 KK12112 hs12108 hd12109 hJ12110 hb12111 hr12113 hK12107
          have hr12113x : RD SL11876 b12106 a12103 a11862 w12102 [(7, none), (139, some 12)] := hr12113 _ (by kernel_rfl)
          obtain ⟨q12114, ⟨v12116, q12115, s12117⟩, -⟩ := hr12113x
          obtain rfl : v12116 = .int .i64 ((x11662 : Nat) : Int) := s12117
          obtain ⟨hX12118, hS12105⟩ := hJ12110
          have hF12104 : Fr 182 a12103 [(7, .pointer (some ⟨b35, 0, none⟩)), (139, .int .i64 ((x11662 : Nat) : Int))] := Fr.of hs12108 hd12109 ⟨(Fr.init hF11864 q12114 (by kernel_rfl)), q12115, trivial⟩
          refine s_pure hT (d := 140) (v := .pointer (some ⟨b35, (0 + x11662), none⟩)) (cs := [0 ≤ ((x11662 : Nat) : Int), ((x11662 : Nat) : Int) < 80]) (by kernel_rfl) (by kernel_rfl) (And.intro (by omega) (And.intro hc11754 trivial)) hF12104 ?_
          rintro a2 ha2 hF2; rw [ha2]
          exact hK12107 _ _ rfl (grown_refl _ _)
        · -- operation 14
          rintro a12120 w12119 b12123 KK12129 hs12125 hd12126 hJ12127 hb12128 hr12130 hK12124
          have hr12130x : RD SL11876 b12123 a12120 a11862 w12119 [(140, some 13)] := hr12130 _ (by kernel_rfl)
          obtain ⟨⟨v12132, q12131, s12133⟩, -⟩ := hr12130x
          obtain rfl : v12132 = .pointer (some ⟨b35, (0 + x11662), none⟩) := s12133
          obtain ⟨hX12134, hS12122⟩ := hJ12127
          have hF12121 : Fr 182 a12120 [(140, .pointer (some ⟨b35, (0 + x11662), none⟩))] := Fr.of hs12125 hd12126 ⟨q12131, trivial⟩
          refine s_load hT (d := 141) (A := ⟨b35, (0 + x11662), none⟩) (v := .int .u64 (((zs4965.getD x11662 0) : Nat) : Int)) (by kernel_rfl) hF12121 (Cells.at (hS12122.blk 3 rfl).cells (vs_get .u64 zs4965 (i := x11662) (by have := hh4966; omega)) (by first | rfl | omega)) ?_
          rintro a12135 ha12137 hF12136
          rw [ha12137]
          exact hK12124 _ _ rfl (grown_refl _ _)
        · -- operation 15
          rintro a12139 w12138 b12142 KK12148 hs12144 hd12145 hJ12146 hb12147 hr12149 hK12143
          have hr12149x : RD SL11876 b12142 a12139 a11862 w12138 [(138, some 11), (141, some 14)] := hr12149 _ (by kernel_rfl)
          obtain ⟨⟨v12151, q12150, s12152⟩, ⟨v12154, q12153, s12155⟩, -⟩ := hr12149x
          obtain rfl : v12151 = .int .u64 (((((((((zs11659.getD 7 0) + x11867) % 18446744073709551616) + t11789) % 18446744073709551616) + (xs0.getD x11662 0)) % 18446744073709551616) : Nat) : Int) := s12152
          obtain rfl : v12154 = .int .u64 (((zs4965.getD x11662 0) : Nat) : Int) := s12155
          obtain ⟨hX12156, hS12141⟩ := hJ12146
          have hF12140 : Fr 182 a12139 [(138, .int .u64 (((((((((zs11659.getD 7 0) + x11867) % 18446744073709551616) + t11789) % 18446744073709551616) + (xs0.getD x11662 0)) % 18446744073709551616) : Nat) : Int)), (141, .int .u64 (((zs4965.getD x11662 0) : Nat) : Int))] := Fr.of hs12144 hd12145 ⟨q12150, q12153, trivial⟩
          refine s_pure hT (d := 142) (v := .int .u64 (((((((((((zs11659.getD 7 0) + x11867) % 18446744073709551616) + t11789) % 18446744073709551616) + (xs0.getD x11662 0)) % 18446744073709551616) + (zs4965.getD x11662 0)) % 18446744073709551616) : Nat) : Int)) (cs := []) (by kernel_rfl) (by kernel_rfl) trivial hF12140 ?_
          rintro a2 ha2 hF2; rw [ha2]
          have hb11874 : t11871 < 18446744073709551616 := by rw [ht11872]; exact (Nat.mod_lt _ (by decide))
          exact hK12143 _ _ ⟨(show (.int .u64 (((((((((((zs11659.getD 7 0) + x11867) % 18446744073709551616) + t11789) % 18446744073709551616) + (xs0.getD x11662 0)) % 18446744073709551616) + (zs4965.getD x11662 0)) % 18446744073709551616) : Nat) : Int) : Value) = .int .u64 ((t11871 : Nat) : Int) by (rw [ht11872] <;> rfl)), hb11874⟩ (grown_refl _ _)
        · -- operation 16
          rintro a12158 w12157 b12161 KK12167 hs12163 hd12164 hJ12165 hb12166 hr12168 hK12162
          have hr12168x : RD SL11876 b12161 a12158 a11862 w12157 [(142, some 15)] := hr12168 _ (by kernel_rfl)
          obtain ⟨⟨v12170, q12169, s12171⟩, -⟩ := hr12168x
          obtain ⟨rfl, hb11874⟩ := s12171
          obtain ⟨hX12172, hS12160⟩ := hJ12165
          have hF12159 : Fr 182 a12158 [(142, .int .u64 ((t11871 : Nat) : Int))] := Fr.of hs12163 hd12164 ⟨q12169, trivial⟩
          refine s_pure hT (d := 16) (v := .int .u64 ((t11871 : Nat) : Int)) (cs := []) (by kernel_rfl) (by kernel_rfl) trivial hF12159 ?_
          rintro a2 ha2 hF2; rw [ha2]
          exact hK12162 _ _ ⟨rfl, hb11874⟩ (grown_refl _ _)
        · -- behind the region
          rintro a12173 w12174 hs12175 hd12176 ⟨⟨v12179, q12180, s12181⟩, q12182, q12183, q12184, q12185, q12186, q12187, q12188, -⟩ ⟨hX12178, hS12177⟩
          obtain ⟨rfl, hb11874⟩ := s12181
          have hF12189 : Fr 182 a12173 [(16, .int .u64 ((t11871 : Nat) : Int)), (3, .pointer (some ⟨b3, 0, none⟩)), (4, .pointer (some ⟨b5, 0, none⟩)), (6, .pointer (some ⟨b7, 0, none⟩)), (7, .pointer (some ⟨b35, 0, none⟩)), (12, .pointer (some ⟨b11161, 0, none⟩)), (13, .int .i64 ((x11662 : Nat) : Int)), (15, .int .u64 ((t11822 : Nat) : Int))] := Fr.of hs12175 hd12176 ⟨q12180, (Fr.init hF11864 q12182 (by kernel_rfl)), (Fr.init hF11864 q12183 (by kernel_rfl)), (Fr.init hF11864 q12184 (by kernel_rfl)), (Fr.init hF11864 q12185 (by kernel_rfl)), (Fr.init hF11864 q12186 (by kernel_rfl)), (Fr.init hF11864 q12187 (by kernel_rfl)), (Fr.init hF11864 q12188 (by kernel_rfl)), trivial⟩
          clear hF11864 hS11741 hs12175 hd12176 q12180 q12182 q12183 q12184 q12185 q12186 q12187 q12188
          refine hK11866 _ _ ?_
          refine wp_seq_k (fun K12190 hK12191 => ?_)
          obtain ⟨x12192, hr12194, h12193⟩ := bnd_some h11873; clear h11873; replace hr12194 : F_casemateref14_three (zs11659.getD 0 0) 28 34 39 = some (x12192) := hr12194
          refine wp_region_lit ?_
          refine pu hT 1 _ hF12189 [16, 3, 4, 6, 7, 12, 13, 15, 143] (G := [(16, .int .u64 ((t11871 : Nat) : Int)), (3, .pointer (some ⟨b3, 0, none⟩)), (4, .pointer (some ⟨b5, 0, none⟩)), (6, .pointer (some ⟨b7, 0, none⟩)), (7, .pointer (some ⟨b35, 0, none⟩)), (12, .pointer (some ⟨b11161, 0, none⟩)), (13, .int .i64 ((x11662 : Nat) : Int)), (15, .int .u64 ((t11822 : Nat) : Int)), (143, .pointer (some ⟨b11161, 0, none⟩))]) (cs := [0 ≤ (0 : Int), (0 : Int) < 8]) (by kernel_rfl) (And.intro (by omega) (And.intro (by decide) trivial)) ?_; clear hF12189 a12173; intro a12196 hF12197
          refine wl (s_load hT (d := 144) (A := ⟨b11161, 0, none⟩) (v := .int .u64 (((zs11659.getD 0 0) : Nat) : Int)) (by kernel_rfl) hF12197 (Cells.at (hS12177.blk 4 rfl).cells (vs_get .u64 zs11659 (i := 0) (by have := hh11660; omega)) (by first | rfl | omega)) ?_)
          rintro a12198 ha12200 hF12199; clear ha12200 hF12197 a12196
          have hF12201 := hF12199.pick [16, 3, 4, 6, 7, 12, 13, 15, 144] (G := [(16, .int .u64 ((t11871 : Nat) : Int)), (3, .pointer (some ⟨b3, 0, none⟩)), (4, .pointer (some ⟨b5, 0, none⟩)), (6, .pointer (some ⟨b7, 0, none⟩)), (7, .pointer (some ⟨b35, 0, none⟩)), (12, .pointer (some ⟨b11161, 0, none⟩)), (13, .int .i64 ((x11662 : Nat) : Int)), (15, .int .u64 ((t11822 : Nat) : Int)), (144, .int .u64 (((zs11659.getD 0 0) : Nat) : Int))]) (by kernel_rfl); clear hF12199
          refine wl (s_call (d := 145) (f := 47) (l := [.int .u64 (((zs11659.getD 0 0) : Nat) : Int), .int .u64 28, .int .u64 34, .int .u64 39]) (by kernel_rfl) hF12201 cl47 (W_casemateref14_three (zs11659.getD 0 0) 28 34 39 _ (hh11661.get (by decide) 0) (by decide) (by decide) (by decide) x12192 hr12194) ?_)
          rintro a12202 w12203 v12204 ⟨rfl, hh12195, hC12205⟩ ha12206 hF12207; clear ha12206 hF12201 a12198
          have hS12208 : Heap w [] w12203 [.blk b3 24 (vs .u64 xs0), .blk b5 26 (vs .u64 xs1), .blk b7 26 (vs .u64 (List.replicate 8 0)), .blk b35 24 (vs .u64 zs4965), .blk b11161 26 (vs .u64 zs11659)] := Heap.call hS12177 hC12205; clear hS12177
          have hF12209 := hF12207.pick [16, 3, 4, 6, 7, 12, 13, 15, 145] (G := [(16, .int .u64 ((t11871 : Nat) : Int)), (3, .pointer (some ⟨b3, 0, none⟩)), (4, .pointer (some ⟨b5, 0, none⟩)), (6, .pointer (some ⟨b7, 0, none⟩)), (7, .pointer (some ⟨b35, 0, none⟩)), (12, .pointer (some ⟨b11161, 0, none⟩)), (13, .int .i64 ((x11662 : Nat) : Int)), (15, .int .u64 ((t11822 : Nat) : Int)), (145, .int .u64 ((x12192 : Nat) : Int))]) (by kernel_rfl); clear hF12207
          refine pu_end hT 3 _ hF12209 [16, 3, 4, 6, 7, 12, 13, 17] (G := [(16, .int .u64 ((t11871 : Nat) : Int)), (3, .pointer (some ⟨b3, 0, none⟩)), (4, .pointer (some ⟨b5, 0, none⟩)), (6, .pointer (some ⟨b7, 0, none⟩)), (7, .pointer (some ⟨b35, 0, none⟩)), (12, .pointer (some ⟨b11161, 0, none⟩)), (13, .int .i64 ((x11662 : Nat) : Int)), (17, .int .u64 ((((x12192 + t11822) % 18446744073709551616) : Nat) : Int))]) (cs := []) (by kernel_rfl) rfl trivial ?_; clear hF12209 a12202; intro a12210 hF12211
          refine hK12191 _ _ ?_
          refine wp_region_lit ?_
          refine pu hT 4 _ hF12211 [16, 3, 4, 6, 7, 12, 13, 150, 151] (G := [(16, .int .u64 ((t11871 : Nat) : Int)), (3, .pointer (some ⟨b3, 0, none⟩)), (4, .pointer (some ⟨b5, 0, none⟩)), (6, .pointer (some ⟨b7, 0, none⟩)), (7, .pointer (some ⟨b35, 0, none⟩)), (12, .pointer (some ⟨b11161, 0, none⟩)), (13, .int .i64 ((x11662 : Nat) : Int)), (150, .int .u64 ((((t11871 + ((x12192 + t11822) % 18446744073709551616)) % 18446744073709551616) : Nat) : Int)), (151, .pointer (some ⟨b11161, 0, none⟩))]) (cs := [0 ≤ (0 : Int), (0 : Int) < 8]) (by kernel_rfl) (And.intro (by omega) (And.intro (by decide) trivial)) ?_; clear hF12211 a12210; intro a12212 hF12213
          refine wl (s_load hT (d := 152) (A := ⟨b11161, 0, none⟩) (v := .int .u64 (((zs11659.getD 0 0) : Nat) : Int)) (by kernel_rfl) hF12213 (Cells.at (hS12208.blk 4 rfl).cells (vs_get .u64 zs11659 (i := 0) (by have := hh11660; omega)) (by first | rfl | omega)) ?_)
          rintro a12214 ha12216 hF12215; clear ha12216 hF12213 a12212
          have hF12217 := hF12215.pick [16, 3, 4, 6, 7, 12, 13, 150, 152] (G := [(16, .int .u64 ((t11871 : Nat) : Int)), (3, .pointer (some ⟨b3, 0, none⟩)), (4, .pointer (some ⟨b5, 0, none⟩)), (6, .pointer (some ⟨b7, 0, none⟩)), (7, .pointer (some ⟨b35, 0, none⟩)), (12, .pointer (some ⟨b11161, 0, none⟩)), (13, .int .i64 ((x11662 : Nat) : Int)), (150, .int .u64 ((((t11871 + ((x12192 + t11822) % 18446744073709551616)) % 18446744073709551616) : Nat) : Int)), (152, .int .u64 (((zs11659.getD 0 0) : Nat) : Int))]) (by kernel_rfl); clear hF12215
          refine pu hT 1 _ hF12217 [16, 3, 4, 6, 7, 12, 13, 150, 152, 153] (G := [(16, .int .u64 ((t11871 : Nat) : Int)), (3, .pointer (some ⟨b3, 0, none⟩)), (4, .pointer (some ⟨b5, 0, none⟩)), (6, .pointer (some ⟨b7, 0, none⟩)), (7, .pointer (some ⟨b35, 0, none⟩)), (12, .pointer (some ⟨b11161, 0, none⟩)), (13, .int .i64 ((x11662 : Nat) : Int)), (150, .int .u64 ((((t11871 + ((x12192 + t11822) % 18446744073709551616)) % 18446744073709551616) : Nat) : Int)), (152, .int .u64 (((zs11659.getD 0 0) : Nat) : Int)), (153, .pointer (some ⟨b11161, 1, none⟩))]) (cs := [0 ≤ (1 : Int), (1 : Int) < 8]) (by kernel_rfl) (And.intro (by omega) (And.intro (by decide) trivial)) ?_; clear hF12217 a12214; intro a12218 hF12219
          refine wl (s_load hT (d := 154) (A := ⟨b11161, 1, none⟩) (v := .int .u64 (((zs11659.getD 1 0) : Nat) : Int)) (by kernel_rfl) hF12219 (Cells.at (hS12208.blk 4 rfl).cells (vs_get .u64 zs11659 (i := 1) (by have := hh11660; omega)) (by first | rfl | omega)) ?_)
          rintro a12220 ha12222 hF12221; clear ha12222 hF12219 a12218
          have hF12223 := hF12221.pick [16, 3, 4, 6, 7, 12, 13, 150, 152, 154] (G := [(16, .int .u64 ((t11871 : Nat) : Int)), (3, .pointer (some ⟨b3, 0, none⟩)), (4, .pointer (some ⟨b5, 0, none⟩)), (6, .pointer (some ⟨b7, 0, none⟩)), (7, .pointer (some ⟨b35, 0, none⟩)), (12, .pointer (some ⟨b11161, 0, none⟩)), (13, .int .i64 ((x11662 : Nat) : Int)), (150, .int .u64 ((((t11871 + ((x12192 + t11822) % 18446744073709551616)) % 18446744073709551616) : Nat) : Int)), (152, .int .u64 (((zs11659.getD 0 0) : Nat) : Int)), (154, .int .u64 (((zs11659.getD 1 0) : Nat) : Int))]) (by kernel_rfl); clear hF12221
          refine pu hT 1 _ hF12223 [16, 3, 4, 6, 7, 12, 13, 150, 152, 154, 155] (G := [(16, .int .u64 ((t11871 : Nat) : Int)), (3, .pointer (some ⟨b3, 0, none⟩)), (4, .pointer (some ⟨b5, 0, none⟩)), (6, .pointer (some ⟨b7, 0, none⟩)), (7, .pointer (some ⟨b35, 0, none⟩)), (12, .pointer (some ⟨b11161, 0, none⟩)), (13, .int .i64 ((x11662 : Nat) : Int)), (150, .int .u64 ((((t11871 + ((x12192 + t11822) % 18446744073709551616)) % 18446744073709551616) : Nat) : Int)), (152, .int .u64 (((zs11659.getD 0 0) : Nat) : Int)), (154, .int .u64 (((zs11659.getD 1 0) : Nat) : Int)), (155, .pointer (some ⟨b11161, 2, none⟩))]) (cs := [0 ≤ (2 : Int), (2 : Int) < 8]) (by kernel_rfl) (And.intro (by omega) (And.intro (by decide) trivial)) ?_; clear hF12223 a12220; intro a12224 hF12225
          refine wl (s_load hT (d := 156) (A := ⟨b11161, 2, none⟩) (v := .int .u64 (((zs11659.getD 2 0) : Nat) : Int)) (by kernel_rfl) hF12225 (Cells.at (hS12208.blk 4 rfl).cells (vs_get .u64 zs11659 (i := 2) (by have := hh11660; omega)) (by first | rfl | omega)) ?_)
          rintro a12226 ha12228 hF12227; clear ha12228 hF12225 a12224
          have hF12229 := hF12227.pick [16, 3, 4, 6, 7, 12, 13, 150, 152, 154, 156] (G := [(16, .int .u64 ((t11871 : Nat) : Int)), (3, .pointer (some ⟨b3, 0, none⟩)), (4, .pointer (some ⟨b5, 0, none⟩)), (6, .pointer (some ⟨b7, 0, none⟩)), (7, .pointer (some ⟨b35, 0, none⟩)), (12, .pointer (some ⟨b11161, 0, none⟩)), (13, .int .i64 ((x11662 : Nat) : Int)), (150, .int .u64 ((((t11871 + ((x12192 + t11822) % 18446744073709551616)) % 18446744073709551616) : Nat) : Int)), (152, .int .u64 (((zs11659.getD 0 0) : Nat) : Int)), (154, .int .u64 (((zs11659.getD 1 0) : Nat) : Int)), (156, .int .u64 (((zs11659.getD 2 0) : Nat) : Int))]) (by kernel_rfl); clear hF12227
          refine pu hT 1 _ hF12229 [16, 3, 4, 6, 7, 12, 13, 150, 152, 154, 156, 157] (G := [(16, .int .u64 ((t11871 : Nat) : Int)), (3, .pointer (some ⟨b3, 0, none⟩)), (4, .pointer (some ⟨b5, 0, none⟩)), (6, .pointer (some ⟨b7, 0, none⟩)), (7, .pointer (some ⟨b35, 0, none⟩)), (12, .pointer (some ⟨b11161, 0, none⟩)), (13, .int .i64 ((x11662 : Nat) : Int)), (150, .int .u64 ((((t11871 + ((x12192 + t11822) % 18446744073709551616)) % 18446744073709551616) : Nat) : Int)), (152, .int .u64 (((zs11659.getD 0 0) : Nat) : Int)), (154, .int .u64 (((zs11659.getD 1 0) : Nat) : Int)), (156, .int .u64 (((zs11659.getD 2 0) : Nat) : Int)), (157, .pointer (some ⟨b11161, 3, none⟩))]) (cs := [0 ≤ (3 : Int), (3 : Int) < 8]) (by kernel_rfl) (And.intro (by omega) (And.intro (by decide) trivial)) ?_; clear hF12229 a12226; intro a12230 hF12231
          refine wl (s_load hT (d := 158) (A := ⟨b11161, 3, none⟩) (v := .int .u64 (((zs11659.getD 3 0) : Nat) : Int)) (by kernel_rfl) hF12231 (Cells.at (hS12208.blk 4 rfl).cells (vs_get .u64 zs11659 (i := 3) (by have := hh11660; omega)) (by first | rfl | omega)) ?_)
          rintro a12232 ha12234 hF12233; clear ha12234 hF12231 a12230
          have hF12235 := hF12233.pick [16, 3, 4, 6, 7, 12, 13, 150, 152, 154, 156, 158] (G := [(16, .int .u64 ((t11871 : Nat) : Int)), (3, .pointer (some ⟨b3, 0, none⟩)), (4, .pointer (some ⟨b5, 0, none⟩)), (6, .pointer (some ⟨b7, 0, none⟩)), (7, .pointer (some ⟨b35, 0, none⟩)), (12, .pointer (some ⟨b11161, 0, none⟩)), (13, .int .i64 ((x11662 : Nat) : Int)), (150, .int .u64 ((((t11871 + ((x12192 + t11822) % 18446744073709551616)) % 18446744073709551616) : Nat) : Int)), (152, .int .u64 (((zs11659.getD 0 0) : Nat) : Int)), (154, .int .u64 (((zs11659.getD 1 0) : Nat) : Int)), (156, .int .u64 (((zs11659.getD 2 0) : Nat) : Int)), (158, .int .u64 (((zs11659.getD 3 0) : Nat) : Int))]) (by kernel_rfl); clear hF12233
          refine pu hT 3 _ hF12235 [3, 4, 6, 7, 12, 13, 150, 152, 154, 156, 160, 161] (G := [(3, .pointer (some ⟨b3, 0, none⟩)), (4, .pointer (some ⟨b5, 0, none⟩)), (6, .pointer (some ⟨b7, 0, none⟩)), (7, .pointer (some ⟨b35, 0, none⟩)), (12, .pointer (some ⟨b11161, 0, none⟩)), (13, .int .i64 ((x11662 : Nat) : Int)), (150, .int .u64 ((((t11871 + ((x12192 + t11822) % 18446744073709551616)) % 18446744073709551616) : Nat) : Int)), (152, .int .u64 (((zs11659.getD 0 0) : Nat) : Int)), (154, .int .u64 (((zs11659.getD 1 0) : Nat) : Int)), (156, .int .u64 (((zs11659.getD 2 0) : Nat) : Int)), (160, .int .u64 (((((zs11659.getD 3 0) + t11871) % 18446744073709551616) : Nat) : Int)), (161, .pointer (some ⟨b11161, 4, none⟩))]) (cs := [0 ≤ (4 : Int), (4 : Int) < 8]) (by kernel_rfl) (And.intro (by omega) (And.intro (by decide) trivial)) ?_; clear hF12235 a12232; intro a12236 hF12237
          refine wl (s_load hT (d := 162) (A := ⟨b11161, 4, none⟩) (v := .int .u64 (((zs11659.getD 4 0) : Nat) : Int)) (by kernel_rfl) hF12237 (Cells.at (hS12208.blk 4 rfl).cells (vs_get .u64 zs11659 (i := 4) (by have := hh11660; omega)) (by first | rfl | omega)) ?_)
          rintro a12238 ha12240 hF12239; clear ha12240 hF12237 a12236
          have hF12241 := hF12239.pick [3, 4, 6, 7, 12, 13, 150, 152, 154, 156, 160, 162] (G := [(3, .pointer (some ⟨b3, 0, none⟩)), (4, .pointer (some ⟨b5, 0, none⟩)), (6, .pointer (some ⟨b7, 0, none⟩)), (7, .pointer (some ⟨b35, 0, none⟩)), (12, .pointer (some ⟨b11161, 0, none⟩)), (13, .int .i64 ((x11662 : Nat) : Int)), (150, .int .u64 ((((t11871 + ((x12192 + t11822) % 18446744073709551616)) % 18446744073709551616) : Nat) : Int)), (152, .int .u64 (((zs11659.getD 0 0) : Nat) : Int)), (154, .int .u64 (((zs11659.getD 1 0) : Nat) : Int)), (156, .int .u64 (((zs11659.getD 2 0) : Nat) : Int)), (160, .int .u64 (((((zs11659.getD 3 0) + t11871) % 18446744073709551616) : Nat) : Int)), (162, .int .u64 (((zs11659.getD 4 0) : Nat) : Int))]) (by kernel_rfl); clear hF12239
          refine pu hT 1 _ hF12241 [3, 4, 6, 7, 12, 13, 150, 152, 154, 156, 160, 162, 163] (G := [(3, .pointer (some ⟨b3, 0, none⟩)), (4, .pointer (some ⟨b5, 0, none⟩)), (6, .pointer (some ⟨b7, 0, none⟩)), (7, .pointer (some ⟨b35, 0, none⟩)), (12, .pointer (some ⟨b11161, 0, none⟩)), (13, .int .i64 ((x11662 : Nat) : Int)), (150, .int .u64 ((((t11871 + ((x12192 + t11822) % 18446744073709551616)) % 18446744073709551616) : Nat) : Int)), (152, .int .u64 (((zs11659.getD 0 0) : Nat) : Int)), (154, .int .u64 (((zs11659.getD 1 0) : Nat) : Int)), (156, .int .u64 (((zs11659.getD 2 0) : Nat) : Int)), (160, .int .u64 (((((zs11659.getD 3 0) + t11871) % 18446744073709551616) : Nat) : Int)), (162, .int .u64 (((zs11659.getD 4 0) : Nat) : Int)), (163, .pointer (some ⟨b11161, 5, none⟩))]) (cs := [0 ≤ (5 : Int), (5 : Int) < 8]) (by kernel_rfl) (And.intro (by omega) (And.intro (by decide) trivial)) ?_; clear hF12241 a12238; intro a12242 hF12243
          refine wl (s_load hT (d := 164) (A := ⟨b11161, 5, none⟩) (v := .int .u64 (((zs11659.getD 5 0) : Nat) : Int)) (by kernel_rfl) hF12243 (Cells.at (hS12208.blk 4 rfl).cells (vs_get .u64 zs11659 (i := 5) (by have := hh11660; omega)) (by first | rfl | omega)) ?_)
          rintro a12244 ha12246 hF12245; clear ha12246 hF12243 a12242
          have hF12247 := hF12245.pick [3, 4, 6, 7, 12, 13, 150, 152, 154, 156, 160, 162, 164] (G := [(3, .pointer (some ⟨b3, 0, none⟩)), (4, .pointer (some ⟨b5, 0, none⟩)), (6, .pointer (some ⟨b7, 0, none⟩)), (7, .pointer (some ⟨b35, 0, none⟩)), (12, .pointer (some ⟨b11161, 0, none⟩)), (13, .int .i64 ((x11662 : Nat) : Int)), (150, .int .u64 ((((t11871 + ((x12192 + t11822) % 18446744073709551616)) % 18446744073709551616) : Nat) : Int)), (152, .int .u64 (((zs11659.getD 0 0) : Nat) : Int)), (154, .int .u64 (((zs11659.getD 1 0) : Nat) : Int)), (156, .int .u64 (((zs11659.getD 2 0) : Nat) : Int)), (160, .int .u64 (((((zs11659.getD 3 0) + t11871) % 18446744073709551616) : Nat) : Int)), (162, .int .u64 (((zs11659.getD 4 0) : Nat) : Int)), (164, .int .u64 (((zs11659.getD 5 0) : Nat) : Int))]) (by kernel_rfl); clear hF12245
          refine pu hT 1 _ hF12247 [3, 4, 6, 7, 12, 13, 150, 152, 154, 156, 160, 162, 164, 165] (G := [(3, .pointer (some ⟨b3, 0, none⟩)), (4, .pointer (some ⟨b5, 0, none⟩)), (6, .pointer (some ⟨b7, 0, none⟩)), (7, .pointer (some ⟨b35, 0, none⟩)), (12, .pointer (some ⟨b11161, 0, none⟩)), (13, .int .i64 ((x11662 : Nat) : Int)), (150, .int .u64 ((((t11871 + ((x12192 + t11822) % 18446744073709551616)) % 18446744073709551616) : Nat) : Int)), (152, .int .u64 (((zs11659.getD 0 0) : Nat) : Int)), (154, .int .u64 (((zs11659.getD 1 0) : Nat) : Int)), (156, .int .u64 (((zs11659.getD 2 0) : Nat) : Int)), (160, .int .u64 (((((zs11659.getD 3 0) + t11871) % 18446744073709551616) : Nat) : Int)), (162, .int .u64 (((zs11659.getD 4 0) : Nat) : Int)), (164, .int .u64 (((zs11659.getD 5 0) : Nat) : Int)), (165, .pointer (some ⟨b11161, 6, none⟩))]) (cs := [0 ≤ (6 : Int), (6 : Int) < 8]) (by kernel_rfl) (And.intro (by omega) (And.intro (by decide) trivial)) ?_; clear hF12247 a12244; intro a12248 hF12249
          refine wl (s_load hT (d := 166) (A := ⟨b11161, 6, none⟩) (v := .int .u64 (((zs11659.getD 6 0) : Nat) : Int)) (by kernel_rfl) hF12249 (Cells.at (hS12208.blk 4 rfl).cells (vs_get .u64 zs11659 (i := 6) (by have := hh11660; omega)) (by first | rfl | omega)) ?_)
          rintro a12250 ha12252 hF12251; clear ha12252 hF12249 a12248
          have hF12253 := hF12251.pick [3, 4, 6, 7, 12, 13, 150, 152, 154, 156, 160, 162, 164, 166] (G := [(3, .pointer (some ⟨b3, 0, none⟩)), (4, .pointer (some ⟨b5, 0, none⟩)), (6, .pointer (some ⟨b7, 0, none⟩)), (7, .pointer (some ⟨b35, 0, none⟩)), (12, .pointer (some ⟨b11161, 0, none⟩)), (13, .int .i64 ((x11662 : Nat) : Int)), (150, .int .u64 ((((t11871 + ((x12192 + t11822) % 18446744073709551616)) % 18446744073709551616) : Nat) : Int)), (152, .int .u64 (((zs11659.getD 0 0) : Nat) : Int)), (154, .int .u64 (((zs11659.getD 1 0) : Nat) : Int)), (156, .int .u64 (((zs11659.getD 2 0) : Nat) : Int)), (160, .int .u64 (((((zs11659.getD 3 0) + t11871) % 18446744073709551616) : Nat) : Int)), (162, .int .u64 (((zs11659.getD 4 0) : Nat) : Int)), (164, .int .u64 (((zs11659.getD 5 0) : Nat) : Int)), (166, .int .u64 (((zs11659.getD 6 0) : Nat) : Int))]) (by kernel_rfl); clear hF12251
          refine wl (s_build (d := 167) (t := 26) (ps := [(0, .int .u64 ((((t11871 + ((x12192 + t11822) % 18446744073709551616)) % 18446744073709551616) : Nat) : Int)), (1, .int .u64 (((zs11659.getD 0 0) : Nat) : Int)), (2, .int .u64 (((zs11659.getD 1 0) : Nat) : Int)), (3, .int .u64 (((zs11659.getD 2 0) : Nat) : Int)), (4, .int .u64 (((((zs11659.getD 3 0) + t11871) % 18446744073709551616) : Nat) : Int)), (5, .int .u64 (((zs11659.getD 4 0) : Nat) : Int)), (6, .int .u64 (((zs11659.getD 5 0) : Nat) : Int)), (7, .int .u64 (((zs11659.getD 6 0) : Nat) : Int))]) (cs := (vs .u64 [((t11871 + ((x12192 + t11822) % 18446744073709551616)) % 18446744073709551616), (zs11659.getD 0 0), (zs11659.getD 1 0), (zs11659.getD 2 0), (((zs11659.getD 3 0) + t11871) % 18446744073709551616), (zs11659.getD 4 0), (zs11659.getD 5 0), (zs11659.getD 6 0)]).toArray) (by kernel_rfl) (by kernel_rfl) hF12253 ?_)
          rintro a12254 ha12256 hF12255; clear ha12256 hF12253 a12250
          have hF12257 := hF12255.pick [3, 4, 6, 7, 12, 13, 167] (G := [(3, .pointer (some ⟨b3, 0, none⟩)), (4, .pointer (some ⟨b5, 0, none⟩)), (6, .pointer (some ⟨b7, 0, none⟩)), (7, .pointer (some ⟨b35, 0, none⟩)), (12, .pointer (some ⟨b11161, 0, none⟩)), (13, .int .i64 ((x11662 : Nat) : Int)), (167, .agg (vs .u64 [((t11871 + ((x12192 + t11822) % 18446744073709551616)) % 18446744073709551616), (zs11659.getD 0 0), (zs11659.getD 1 0), (zs11659.getD 2 0), (((zs11659.getD 3 0) + t11871) % 18446744073709551616), (zs11659.getD 4 0), (zs11659.getD 5 0), (zs11659.getD 6 0)]).toArray)]) (by kernel_rfl); clear hF12255
          refine wl (h_storeV hT (b := b11161) (l2 := vs .u64 [((t11871 + ((x12192 + t11822) % 18446744073709551616)) % 18446744073709551616), (zs11659.getD 0 0), (zs11659.getD 1 0), (zs11659.getD 2 0), (((zs11659.getD 3 0) + t11871) % 18446744073709551616), (zs11659.getD 4 0), (zs11659.getD 5 0), (zs11659.getD 6 0)]) (sz := 8) (by kernel_rfl) hF12257 hS12208 4 rfl (by simp only [List.length_append, vs_length, vi_length, List.length_cons, List.length_nil, ((show ([((t11871 + ((x12192 + t11822) % 18446744073709551616)) % 18446744073709551616), (zs11659.getD 0 0), (zs11659.getD 1 0), (zs11659.getD 2 0), (((zs11659.getD 3 0) + t11871) % 18446744073709551616), (zs11659.getD 4 0), (zs11659.getD 5 0), (zs11659.getD 6 0)] : List Nat).length = 8 from rfl) : [((t11871 + ((x12192 + t11822) % 18446744073709551616)) % 18446744073709551616), (zs11659.getD 0 0), (zs11659.getD 1 0), (zs11659.getD 2 0), (((zs11659.getD 3 0) + t11871) % 18446744073709551616), (zs11659.getD 4 0), (zs11659.getD 5 0), (zs11659.getD 6 0)].length = 8)]) (by simp only [List.length_append, vs_length, vi_length, List.length_cons, List.length_nil, ((show ([((t11871 + ((x12192 + t11822) % 18446744073709551616)) % 18446744073709551616), (zs11659.getD 0 0), (zs11659.getD 1 0), (zs11659.getD 2 0), (((zs11659.getD 3 0) + t11871) % 18446744073709551616), (zs11659.getD 4 0), (zs11659.getD 5 0), (zs11659.getD 6 0)] : List Nat).length = 8 from rfl) : [((t11871 + ((x12192 + t11822) % 18446744073709551616)) % 18446744073709551616), (zs11659.getD 0 0), (zs11659.getD 1 0), (zs11659.getD 2 0), (((zs11659.getD 3 0) + t11871) % 18446744073709551616), (zs11659.getD 4 0), (zs11659.getD 5 0), (zs11659.getD 6 0)].length = 8), (hh11660 : zs11659.length = 8)]) (vs_one) ?_)
          rintro a12258 w12259 ha12262 hF12263 hS12260 g12261; clear ha12262 hF12257 a12254 hS12208
          have hS12264 : Heap w [] w12259 [.blk b3 24 (vs .u64 xs0), .blk b5 26 (vs .u64 xs1), .blk b7 26 (vs .u64 (List.replicate 8 0)), .blk b35 24 (vs .u64 zs4965), .blk b11161 26 (vs .u64 [((t11871 + ((x12192 + t11822) % 18446744073709551616)) % 18446744073709551616), (zs11659.getD 0 0), (zs11659.getD 1 0), (zs11659.getD 2 0), (((zs11659.getD 3 0) + t11871) % 18446744073709551616), (zs11659.getD 4 0), (zs11659.getD 5 0), (zs11659.getD 6 0)])] := hS12260; clear hS12260
          have hF12265 := hF12263.pick [3, 4, 6, 7, 12, 13] (G := [(3, .pointer (some ⟨b3, 0, none⟩)), (4, .pointer (some ⟨b5, 0, none⟩)), (6, .pointer (some ⟨b7, 0, none⟩)), (7, .pointer (some ⟨b35, 0, none⟩)), (12, .pointer (some ⟨b11161, 0, none⟩)), (13, .int .i64 ((x11662 : Nat) : Int))]) (by kernel_rfl); clear hF12263
          refine wpList_nil ?_
          refine hK11786 _ _ ?_
          obtain ⟨g12267, h12266⟩ : ((((x11662 + 1) : Nat) : Int) ≤ 9223372036854775807) ∧ _ := gd_some h12193; clear h12193
          refine wp_region_lit ?_
          refine pu_end hT 3 _ hF12265 [3, 4, 6, 7, 12, 13] (G := [(3, .pointer (some ⟨b3, 0, none⟩)), (4, .pointer (some ⟨b5, 0, none⟩)), (6, .pointer (some ⟨b7, 0, none⟩)), (7, .pointer (some ⟨b35, 0, none⟩)), (12, .pointer (some ⟨b11161, 0, none⟩)), (13, .int .i64 (((x11662 + 1) : Nat) : Int))]) (cs := [-9223372036854775808 ≤ (((x11662 + 1) : Nat) : Int), (((x11662 + 1) : Nat) : Int) ≤ 9223372036854775807]) (by kernel_rfl) rfl (And.intro (by omega) (And.intro g12267 trivial)) ?_; clear hF12265 a12258; intro a12268 hF12269
          obtain rfl := Option.some.inj h12266
          exact hK11735 _ _ _ hy11734 ⟨[((t11871 + ((x12192 + t11822) % 18446744073709551616)) % 18446744073709551616), (zs11659.getD 0 0), (zs11659.getD 1 0), (zs11659.getD 2 0), (((zs11659.getD 3 0) + t11871) % 18446744073709551616), (zs11659.getD 4 0), (zs11659.getD 5 0), (zs11659.getD 6 0)], (x11662 + 1), rfl, hF12269.pick [3, 4, 6, 7, 12, 13] (by kernel_rfl), hS12264.pick [0, 1, 2, 3, 4] (by decide) rfl, (show ([((t11871 + ((x12192 + t11822) % 18446744073709551616)) % 18446744073709551616), (zs11659.getD 0 0), (zs11659.getD 1 0), (zs11659.getD 2 0), (((zs11659.getD 3 0) + t11871) % 18446744073709551616), (zs11659.getD 4 0), (zs11659.getD 5 0), (zs11659.getD 6 0)] : List Nat).length = 8 from rfl), (LB.cons (Nat.mod_lt _ (by decide)) (LB.cons (hh11661.get (by decide) 0) (LB.cons (hh11661.get (by decide) 1) (LB.cons (hh11661.get (by decide) 2) (LB.cons (Nat.mod_lt _ (by decide)) (LB.cons (hh11661.get (by decide) 4) (LB.cons (hh11661.get (by decide) 5) (LB.cons (hh11661.get (by decide) 6) LB.nil))))))))⟩
      · clear h11742
        have hF12270 : Fr 182 a11752 [(3, .pointer (some ⟨b3, 0, none⟩)), (4, .pointer (some ⟨b5, 0, none⟩)), (6, .pointer (some ⟨b7, 0, none⟩)), (7, .pointer (some ⟨b35, 0, none⟩)), (12, .pointer (some ⟨b11161, 0, none⟩)), (13, .int .i64 ((x11662 : Nat) : Int)), (95, .bool false)] := hF11753.pick [3, 4, 6, 7, 12, 13, 95] (by rw [decide_eq_false hc11754]; kernel_rfl); clear hF11753
        refine condF hF12270 (by kernel_rfl) ?_
        refine wp_exit ?_
        obtain rfl := Option.some.inj h11755
        obtain rfl : _ = xj11499 := hy11734
        exact ⟨zs11659, rfl, hF12270.pick [4, 6, 12] (by kernel_rfl), hS11741.pick [1, 2, 4] (by decide) rfl, hh11660, hh11661⟩
    · skip
      clear hx11500 hF11182 hS11181 
      rintro a12271 w12272 ⟨zs11496, rfl, hF12273, hS12274, hh11497, hh11498⟩
      obtain ⟨xj12361, hx12362, h12363⟩ := bnd_some h11501; clear h11501
      refine seqJ (fun a W => ∃ (zs12358 : List Nat), zs12358 = xj12361 ∧ (Fr 182 a [(6, .pointer (some ⟨b7, 0, none⟩)), (12, .pointer (some ⟨b11161, 0, none⟩))]) ∧ (Heap w [] W [.blk b7 26 (vs .u64 (List.replicate 8 0)), .blk b11161 26 (vs .u64 zs12358)]) ∧ (zs12358.length = 8) ∧ (LB 18446744073709551616 zs12358)) ?_ ?_
      · skip
        refine wp_seq_k (fun K12364 hK12365 => ?_)
        refine wp_region_lit ?_
        refine pu_end hT 1 _ hF12273 [4, 6, 12, 18] (G := [(4, .pointer (some ⟨b5, 0, none⟩)), (6, .pointer (some ⟨b7, 0, none⟩)), (12, .pointer (some ⟨b11161, 0, none⟩)), (18, .int .i64 0)]) (cs := []) (by kernel_rfl) rfl trivial ?_; clear hF12273 a12271; intro a12366 hF12367
        refine hK12365 _ _ ?_
        refine wp_block ?_
        refine loopR (F_casemateref14_Block_l4 xs1) xj12361 (zs11496, 0) hx12362 (fun s a W => ∃ (zs12403 : List Nat), ∃ (x12406 : Nat), (zs12403, x12406) = s ∧ (Fr 182 a [(4, .pointer (some ⟨b5, 0, none⟩)), (6, .pointer (some ⟨b7, 0, none⟩)), (12, .pointer (some ⟨b11161, 0, none⟩)), (18, .int .i64 ((x12406 : Nat) : Int))]) ∧ (Heap w [] W [.blk b5 26 (vs .u64 xs1), .blk b7 26 (vs .u64 (List.replicate 8 0)), .blk b11161 26 (vs .u64 zs12403)]) ∧ (zs12403.length = 8) ∧ (LB 18446744073709551616 zs12403)) ⟨zs11496, 0, rfl, hF12367.pick [4, 6, 12, 18] (by kernel_rfl), hS12274.pick [0, 1, 2] (by decide) rfl, hh11497, hh11498⟩ ?_
        clear hF12367 hS12274 hx12362
        rintro k12431 _ a12426 w12427 ⟨zs12403, x12406, rfl, hF12428, hS12429, hh12404, hh12405⟩ hit12425 K12424 hK12423
        obtain ⟨y12421, h12430, hy12422⟩ := iter_succ hit12425; clear hit12425
        unfold F_casemateref14_Block_l4 at h12430; try dsimp only at h12430
        refine wp_seq_k (fun K12436 hK12437 => ?_)
        refine wp_seq_k (fun K12438 hK12439 => ?_)
        refine wp_region_lit ?_
        refine pu_end hT 2 _ hF12428 [4, 6, 12, 18, 169] (G := [(4, .pointer (some ⟨b5, 0, none⟩)), (6, .pointer (some ⟨b7, 0, none⟩)), (12, .pointer (some ⟨b11161, 0, none⟩)), (18, .int .i64 ((x12406 : Nat) : Int)), (169, .bool ((decide (((x12406 : Nat) : Int) < 8))))]) (cs := []) (by kernel_rfl) rfl trivial ?_; clear hF12428 a12426; intro a12440 hF12441
        refine hK12439 _ _ ?_
        rcases (ite_some h12430 : ((((x12406 : Nat) : Int) < 8) ∧ _) ∨ (¬ (((x12406 : Nat) : Int) < 8) ∧ _)) with ⟨hc12442, h12443⟩ | ⟨hc12442, h12443⟩
        · clear h12430
          have hF12444 : Fr 182 a12440 [(4, .pointer (some ⟨b5, 0, none⟩)), (6, .pointer (some ⟨b7, 0, none⟩)), (12, .pointer (some ⟨b11161, 0, none⟩)), (18, .int .i64 ((x12406 : Nat) : Int)), (169, .bool true)] := hF12441.pick [4, 6, 12, 18, 169] (by rw [decide_eq_true hc12442]; kernel_rfl); clear hF12441
          refine condT hF12444 (by kernel_rfl) ?_
          refine wp_skip ?_
          refine hK12437 _ _ ?_
          refine wp_seq_k (fun K12445 hK12446 => ?_)
          refine wp_block ?_
          have hlt12447 := hS12429.ids
          have hsz12449 := hS12429.size
          let SL12448 : List SP := [SP.val (.int .i64 ((x12406 : Nat) : Int)), SP.val (.int .i64 ((x12406 : Nat) : Int)), SP.val (.pointer (some ⟨b11161, (0 + x12406), none⟩)), SP.val (.int .u64 (((zs12403.getD x12406 0) : Nat) : Int)), SP.val (.int .i64 ((x12406 : Nat) : Int)), SP.val (.pointer (some ⟨b5, (0 + x12406), none⟩)), SP.val (.int .u64 (((xs1.getD x12406 0) : Nat) : Int)), SP.val (.int .u64 (((((zs12403.getD x12406 0) + (xs1.getD x12406 0)) % 18446744073709551616) : Nat) : Int)), SP.val (.pointer (some ⟨b11161, (0 + x12406), none⟩)), SP.any]
          refine region_rel (SL := SL12448) (J := (fun (B : Bool) (W : World) => match B with | true => w12427.heap.size ≤ W.heap.size ∧ Heap w [] W [.blk b5 26 (vs .u64 xs1), .blk b7 26 (vs .u64 (List.replicate 8 0)), .blk b11161 26 (vs .u64 (zs12403.set x12406 (((zs12403.getD x12406 0) + (xs1.getD x12406 0)) % 18446744073709551616)))] | false => w12427.heap.size ≤ W.heap.size ∧ Heap w [] W [.blk b5 26 (vs .u64 xs1), .blk b7 26 (vs .u64 (List.replicate 8 0)), .blk b11161 26 (vs .u64 zs12403)])) (m := 9) wide (by kernel_rfl) (by kernel_rfl) hF12444 rfl ?_ ⟨Nat.le_refl _, hS12429⟩ ⟨?_, ?_, ?_, ?_, ?_, ?_, ?_, ?_, ?_, ?_, trivial⟩ [(4, none), (6, none), (12, none), (18, none)] (by kernel_rfl) ?_
          · intro b W W' hj g; cases b <;> exact ⟨Nat.le_trans hj.1 g.size, hj.2.growN g⟩
          · -- operation 0
            rintro a12451 w12450 b12454 KK12460 hs12456 hd12457 hJ12458 hb12459 hr12461 hK12455
            have hr12461x : RD SL12448 b12454 a12451 a12440 w12450 [(18, none)] := hr12461 _ (by kernel_rfl)
            obtain ⟨q12462, -⟩ := hr12461x
            obtain rfl : b12454 = false := by cases b12454; rfl; exact absurd ((hb12459 rfl).2 _ rfl) (by decide)
            obtain ⟨hX12463, hS12453⟩ := hJ12458
            have hF12452 : Fr 182 a12451 [(18, .int .i64 ((x12406 : Nat) : Int))] := Fr.of hs12456 hd12457 ⟨(Fr.init hF12444 q12462 (by kernel_rfl)), trivial⟩
            refine s_pure hT (d := 172) (v := .int .i64 ((x12406 : Nat) : Int)) (cs := []) (by kernel_rfl) (by kernel_rfl) trivial hF12452 ?_
            rintro a2 ha2 hF2; rw [ha2]
            exact hK12455 _ _ rfl (grown_refl _ _)
          · -- operation 1
            rintro a12465 w12464 b12468 KK12474 hs12470 hd12471 hJ12472 hb12473 hr12475 hK12469
            have hr12475x : RD SL12448 b12468 a12465 a12440 w12464 [(18, none)] := hr12475 _ (by kernel_rfl)
            obtain ⟨q12476, -⟩ := hr12475x
            obtain rfl : b12468 = false := by cases b12468; rfl; exact absurd ((hb12473 rfl).2 _ rfl) (by decide)
            obtain ⟨hX12477, hS12467⟩ := hJ12472
            have hF12466 : Fr 182 a12465 [(18, .int .i64 ((x12406 : Nat) : Int))] := Fr.of hs12470 hd12471 ⟨(Fr.init hF12444 q12476 (by kernel_rfl)), trivial⟩
            refine s_pure hT (d := 173) (v := .int .i64 ((x12406 : Nat) : Int)) (cs := []) (by kernel_rfl) (by kernel_rfl) trivial hF12466 ?_
            rintro a2 ha2 hF2; rw [ha2]
            exact hK12469 _ _ rfl (grown_refl _ _)
          · -- operation 2
            rintro a12479 w12478 b12482 KK12488 hs12484 hd12485 hJ12486 hb12487 hr12489 hK12483
            have hr12489x : RD SL12448 b12482 a12479 a12440 w12478 [(12, none), (173, some 1)] := hr12489 _ (by kernel_rfl)
            obtain ⟨q12490, ⟨v12492, q12491, s12493⟩, -⟩ := hr12489x
            obtain rfl : v12492 = .int .i64 ((x12406 : Nat) : Int) := s12493
            obtain rfl : b12482 = false := by cases b12482; rfl; exact absurd ((hb12487 rfl).2 _ rfl) (by decide)
            obtain ⟨hX12494, hS12481⟩ := hJ12486
            have hF12480 : Fr 182 a12479 [(12, .pointer (some ⟨b11161, 0, none⟩)), (173, .int .i64 ((x12406 : Nat) : Int))] := Fr.of hs12484 hd12485 ⟨(Fr.init hF12444 q12490 (by kernel_rfl)), q12491, trivial⟩
            refine s_pure hT (d := 174) (v := .pointer (some ⟨b11161, (0 + x12406), none⟩)) (cs := [0 ≤ ((x12406 : Nat) : Int), ((x12406 : Nat) : Int) < 8]) (by kernel_rfl) (by kernel_rfl) (And.intro (by omega) (And.intro hc12442 trivial)) hF12480 ?_
            rintro a2 ha2 hF2; rw [ha2]
            exact hK12483 _ _ rfl (grown_refl _ _)
          · -- operation 3
            rintro a12496 w12495 b12499 KK12505 hs12501 hd12502 hJ12503 hb12504 hr12506 hK12500
            have hr12506x : RD SL12448 b12499 a12496 a12440 w12495 [(174, some 2)] := hr12506 _ (by kernel_rfl)
            obtain ⟨⟨v12508, q12507, s12509⟩, -⟩ := hr12506x
            obtain rfl : v12508 = .pointer (some ⟨b11161, (0 + x12406), none⟩) := s12509
            obtain rfl : b12499 = false := by cases b12499; rfl; exact absurd ((hb12504 rfl).2 _ rfl) (by decide)
            obtain ⟨hX12510, hS12498⟩ := hJ12503
            have hF12497 : Fr 182 a12496 [(174, .pointer (some ⟨b11161, (0 + x12406), none⟩))] := Fr.of hs12501 hd12502 ⟨q12507, trivial⟩
            refine s_load hT (d := 175) (A := ⟨b11161, (0 + x12406), none⟩) (v := .int .u64 (((zs12403.getD x12406 0) : Nat) : Int)) (by kernel_rfl) hF12497 (Cells.at (hS12498.blk 2 rfl).cells (vs_get .u64 zs12403 (i := x12406) (by have := hh12404; omega)) (by first | rfl | omega)) ?_
            rintro a12511 ha12513 hF12512
            rw [ha12513]
            exact hK12500 _ _ rfl (grown_refl _ _)
          · -- operation 4
            rintro a12515 w12514 b12518 KK12524 hs12520 hd12521 hJ12522 hb12523 hr12525 hK12519
            have hr12525x : RD SL12448 b12518 a12515 a12440 w12514 [(18, none)] := hr12525 _ (by kernel_rfl)
            obtain ⟨q12526, -⟩ := hr12525x
            obtain rfl : b12518 = false := by cases b12518; rfl; exact absurd ((hb12523 rfl).2 _ rfl) (by decide)
            obtain ⟨hX12527, hS12517⟩ := hJ12522
            have hF12516 : Fr 182 a12515 [(18, .int .i64 ((x12406 : Nat) : Int))] := Fr.of hs12520 hd12521 ⟨(Fr.init hF12444 q12526 (by kernel_rfl)), trivial⟩
            refine s_pure hT (d := 176) (v := .int .i64 ((x12406 : Nat) : Int)) (cs := []) (by kernel_rfl) (by kernel_rfl) trivial hF12516 ?_
            rintro a2 ha2 hF2; rw [ha2]
            exact hK12519 _ _ rfl (grown_refl _ _)
          · -- operation 5
            rintro a12529 w12528 b12532 KK12538 hs12534 hd12535 hJ12536 hb12537 hr12539 hK12533
            have hr12539x : RD SL12448 b12532 a12529 a12440 w12528 [(4, none), (176, some 4)] := hr12539 _ (by kernel_rfl)
            obtain ⟨q12540, ⟨v12542, q12541, s12543⟩, -⟩ := hr12539x
            obtain rfl : v12542 = .int .i64 ((x12406 : Nat) : Int) := s12543
            obtain rfl : b12532 = false := by cases b12532; rfl; exact absurd ((hb12537 rfl).2 _ rfl) (by decide)
            obtain ⟨hX12544, hS12531⟩ := hJ12536
            have hF12530 : Fr 182 a12529 [(4, .pointer (some ⟨b5, 0, none⟩)), (176, .int .i64 ((x12406 : Nat) : Int))] := Fr.of hs12534 hd12535 ⟨(Fr.init hF12444 q12540 (by kernel_rfl)), q12541, trivial⟩
            refine s_pure hT (d := 177) (v := .pointer (some ⟨b5, (0 + x12406), none⟩)) (cs := [0 ≤ ((x12406 : Nat) : Int), ((x12406 : Nat) : Int) < 8]) (by kernel_rfl) (by kernel_rfl) (And.intro (by omega) (And.intro hc12442 trivial)) hF12530 ?_
            rintro a2 ha2 hF2; rw [ha2]
            exact hK12533 _ _ rfl (grown_refl _ _)
          · -- operation 6
            rintro a12546 w12545 b12549 KK12555 hs12551 hd12552 hJ12553 hb12554 hr12556 hK12550
            have hr12556x : RD SL12448 b12549 a12546 a12440 w12545 [(177, some 5)] := hr12556 _ (by kernel_rfl)
            obtain ⟨⟨v12558, q12557, s12559⟩, -⟩ := hr12556x
            obtain rfl : v12558 = .pointer (some ⟨b5, (0 + x12406), none⟩) := s12559
            obtain rfl : b12549 = false := by cases b12549; rfl; exact absurd ((hb12554 rfl).2 _ rfl) (by decide)
            obtain ⟨hX12560, hS12548⟩ := hJ12553
            have hF12547 : Fr 182 a12546 [(177, .pointer (some ⟨b5, (0 + x12406), none⟩))] := Fr.of hs12551 hd12552 ⟨q12557, trivial⟩
            refine s_load hT (d := 178) (A := ⟨b5, (0 + x12406), none⟩) (v := .int .u64 (((xs1.getD x12406 0) : Nat) : Int)) (by kernel_rfl) hF12547 (Cells.at (hS12548.blk 0 rfl).cells (vs_get .u64 xs1 (i := x12406) (by have := pl1; omega)) (by first | rfl | omega)) ?_
            rintro a12561 ha12563 hF12562
            rw [ha12563]
            exact hK12550 _ _ rfl (grown_refl _ _)
          · -- operation 7
            rintro a12565 w12564 b12568 KK12574 hs12570 hd12571 hJ12572 hb12573 hr12575 hK12569
            have hr12575x : RD SL12448 b12568 a12565 a12440 w12564 [(175, some 3), (178, some 6)] := hr12575 _ (by kernel_rfl)
            obtain ⟨⟨v12577, q12576, s12578⟩, ⟨v12580, q12579, s12581⟩, -⟩ := hr12575x
            obtain rfl : v12577 = .int .u64 (((zs12403.getD x12406 0) : Nat) : Int) := s12578
            obtain rfl : v12580 = .int .u64 (((xs1.getD x12406 0) : Nat) : Int) := s12581
            obtain rfl : b12568 = false := by cases b12568; rfl; exact absurd ((hb12573 rfl).2 _ rfl) (by decide)
            obtain ⟨hX12582, hS12567⟩ := hJ12572
            have hF12566 : Fr 182 a12565 [(175, .int .u64 (((zs12403.getD x12406 0) : Nat) : Int)), (178, .int .u64 (((xs1.getD x12406 0) : Nat) : Int))] := Fr.of hs12570 hd12571 ⟨q12576, q12579, trivial⟩
            refine s_pure hT (d := 179) (v := .int .u64 (((((zs12403.getD x12406 0) + (xs1.getD x12406 0)) % 18446744073709551616) : Nat) : Int)) (cs := []) (by kernel_rfl) (by kernel_rfl) trivial hF12566 ?_
            rintro a2 ha2 hF2; rw [ha2]
            exact hK12569 _ _ rfl (grown_refl _ _)
          · -- operation 8
            rintro a12584 w12583 b12587 KK12593 hs12589 hd12590 hJ12591 hb12592 hr12594 hK12588
            have hr12594x : RD SL12448 b12587 a12584 a12440 w12583 [(12, none), (172, some 0)] := hr12594 _ (by kernel_rfl)
            obtain ⟨q12595, ⟨v12597, q12596, s12598⟩, -⟩ := hr12594x
            obtain rfl : v12597 = .int .i64 ((x12406 : Nat) : Int) := s12598
            obtain rfl : b12587 = false := by cases b12587; rfl; exact absurd ((hb12592 rfl).2 _ rfl) (by decide)
            obtain ⟨hX12599, hS12586⟩ := hJ12591
            have hF12585 : Fr 182 a12584 [(12, .pointer (some ⟨b11161, 0, none⟩)), (172, .int .i64 ((x12406 : Nat) : Int))] := Fr.of hs12589 hd12590 ⟨(Fr.init hF12444 q12595 (by kernel_rfl)), q12596, trivial⟩
            refine s_pure hT (d := 180) (v := .pointer (some ⟨b11161, (0 + x12406), none⟩)) (cs := [0 ≤ ((x12406 : Nat) : Int), ((x12406 : Nat) : Int) < 8]) (by kernel_rfl) (by kernel_rfl) (And.intro (by omega) (And.intro hc12442 trivial)) hF12585 ?_
            rintro a2 ha2 hF2; rw [ha2]
            exact hK12588 _ _ rfl (grown_refl _ _)
          · -- operation 9
            rintro a12601 w12600 b12604 KK12610 hs12606 hd12607 hJ12608 hb12609 hr12611 hK12605
            have hr12611x : RD SL12448 b12604 a12601 a12440 w12600 [(180, some 8), (179, some 7)] := hr12611 _ (by kernel_rfl)
            obtain ⟨⟨v12613, q12612, s12614⟩, ⟨v12616, q12615, s12617⟩, -⟩ := hr12611x
            obtain rfl : v12613 = .pointer (some ⟨b11161, (0 + x12406), none⟩) := s12614
            obtain rfl : v12616 = .int .u64 (((((zs12403.getD x12406 0) + (xs1.getD x12406 0)) % 18446744073709551616) : Nat) : Int) := s12617
            obtain rfl : b12604 = false := by cases b12604; rfl; exact absurd rfl (hb12609 rfl).1
            obtain ⟨hX12618, hS12603⟩ := hJ12608
            have hF12602 : Fr 182 a12601 [(180, .pointer (some ⟨b11161, (0 + x12406), none⟩)), (179, .int .u64 (((((zs12403.getD x12406 0) + (xs1.getD x12406 0)) % 18446744073709551616) : Nat) : Int))] := Fr.of hs12606 hd12607 ⟨q12612, q12615, trivial⟩
            refine h_store hT (b := b11161) (off := x12406) (p := ⟨b11161, (0 + x12406), none⟩) (v := .int .u64 (((((zs12403.getD x12406 0) + (xs1.getD x12406 0)) % 18446744073709551616) : Nat) : Int)) (l' := vs .u64 (zs12403.set x12406 (((zs12403.getD x12406 0) + (xs1.getD x12406 0)) % 18446744073709551616))) (by kernel_rfl) hF12602 hS12603 2 rfl (by first | rfl | (congr 1; omega)) (by have := hh12404; simp only [zA, zS, zT, zD, zR, zC, zN, zV, zI] <;> omega) (by first | exact vs_set _ _ _ _ | exact vi_set _ _ _ | rfl) ?_
            rintro a12619 w12620 ha12623 hF12624 hS12621 g12622
            have hS12625 : Heap w [] w12620 [.blk b5 26 (vs .u64 xs1), .blk b7 26 (vs .u64 (List.replicate 8 0)), .blk b11161 26 (vs .u64 (zs12403.set x12406 (((zs12403.getD x12406 0) + (xs1.getD x12406 0)) % 18446744073709551616)))] := hS12621; clear hS12621
            rw [ha12623]; exact hK12605 undef _ trivial ⟨⟨.inl rfl, .inl rfl, .inl rfl, .inl rfl, .inl rfl, .inl rfl, .inl rfl, .inl rfl, .inl rfl, .inl rfl, trivial⟩, Nat.le_trans hX12618 g12622.size, hS12625⟩
          · -- behind the region
            rintro a12626 w12627 hs12628 hd12629 ⟨q12632, q12633, q12634, q12635, -⟩ ⟨hX12631, hS12630⟩
            have hF12636 : Fr 182 a12626 [(4, .pointer (some ⟨b5, 0, none⟩)), (6, .pointer (some ⟨b7, 0, none⟩)), (12, .pointer (some ⟨b11161, 0, none⟩)), (18, .int .i64 ((x12406 : Nat) : Int))] := Fr.of hs12628 hd12629 ⟨(Fr.init hF12444 q12632 (by kernel_rfl)), (Fr.init hF12444 q12633 (by kernel_rfl)), (Fr.init hF12444 q12634 (by kernel_rfl)), (Fr.init hF12444 q12635 (by kernel_rfl)), trivial⟩
            clear hF12444 hS12429 hs12628 hd12629 q12632 q12633 q12634 q12635
            refine hK12446 _ _ ?_
            obtain ⟨g12638, h12637⟩ : ((((x12406 + 1) : Nat) : Int) ≤ 9223372036854775807) ∧ _ := gd_some h12443; clear h12443
            refine wp_region_lit ?_
            refine pu_end hT 3 _ hF12636 [4, 6, 12, 18] (G := [(4, .pointer (some ⟨b5, 0, none⟩)), (6, .pointer (some ⟨b7, 0, none⟩)), (12, .pointer (some ⟨b11161, 0, none⟩)), (18, .int .i64 (((x12406 + 1) : Nat) : Int))]) (cs := [-9223372036854775808 ≤ (((x12406 + 1) : Nat) : Int), (((x12406 + 1) : Nat) : Int) ≤ 9223372036854775807]) (by kernel_rfl) rfl (And.intro (by omega) (And.intro g12638 trivial)) ?_; clear hF12636 a12626; intro a12639 hF12640
            obtain rfl := Option.some.inj h12637
            exact hK12423 _ _ _ hy12422 ⟨(zs12403.set x12406 (((zs12403.getD x12406 0) + (xs1.getD x12406 0)) % 18446744073709551616)), (x12406 + 1), rfl, hF12640.pick [4, 6, 12, 18] (by kernel_rfl), hS12630.pick [0, 1, 2] (by decide) rfl, (len_set hh12404 x12406 (((zs12403.getD x12406 0) + (xs1.getD x12406 0)) % 18446744073709551616)), (hh12405.set (Nat.mod_lt _ (by decide)) x12406)⟩
        · clear h12430
          have hF12641 : Fr 182 a12440 [(4, .pointer (some ⟨b5, 0, none⟩)), (6, .pointer (some ⟨b7, 0, none⟩)), (12, .pointer (some ⟨b11161, 0, none⟩)), (18, .int .i64 ((x12406 : Nat) : Int)), (169, .bool false)] := hF12441.pick [4, 6, 12, 18, 169] (by rw [decide_eq_false hc12442]; kernel_rfl); clear hF12441
          refine condF hF12641 (by kernel_rfl) ?_
          refine wp_exit ?_
          obtain rfl := Option.some.inj h12443
          obtain rfl : _ = xj12361 := hy12422
          exact ⟨zs12403, rfl, hF12641.pick [6, 12] (by kernel_rfl), hS12429.pick [1, 2] (by decide) rfl, hh12404, hh12405⟩
      · skip
        clear hx12362 hF12273 hS12274 
        rintro a12642 w12643 ⟨zs12358, rfl, hF12644, hS12645, hh12359, hh12360⟩
        refine wp_seq_k (fun K12647 hK12648 => ?_)
        refine wp_region_lit ?_
        refine wl (s_loadA hT (d := 181) (b := b11161) (off := 0) (sz := 8) (l := vs .u64 zs12358) (by kernel_rfl) hF12644 (hS12645.blk 1 rfl).cells (by simp only [List.length_append, vs_length, vi_length, List.length_cons, List.length_nil, (hh12359 : zs12358.length = 8)]) ?_)
        rintro a12649 ha12651 hF12650; clear ha12651 hF12644 a12642
        have hF12652 := hF12650.pick [6, 181] (G := [(6, .pointer (some ⟨b7, 0, none⟩)), (181, .agg (vs .u64 zs12358).toArray)]) (by kernel_rfl); clear hF12650
        refine wl (h_storeV hT (b := b7) (l2 := vs .u64 zs12358) (sz := 8) (by kernel_rfl) hF12652 hS12645 0 rfl (by simp only [List.length_append, vs_length, vi_length, List.length_cons, List.length_nil, (hh12359 : zs12358.length = 8)]) (by simp only [List.length_append, vs_length, vi_length, List.length_cons, List.length_nil, (hh12359 : zs12358.length = 8), ((len_rep (α := Nat) 8 0) : (List.replicate 8 0).length = 8)]) (vs_one) ?_)
        rintro a12653 w12654 ha12657 hF12658 hS12655 g12656; clear ha12657 hF12652 a12649 hS12645
        have hS12659 : Heap w [] w12654 [.blk b7 26 (vs .u64 zs12358), .blk b11161 26 (vs .u64 zs12358)] := hS12655; clear hS12655
        have hF12660 := hF12658.pick [6] (G := [(6, .pointer (some ⟨b7, 0, none⟩))]) (by kernel_rfl); clear hF12658
        refine wpList_nil ?_
        refine hK12648 _ _ ?_
        refine wp_ret ?_
        obtain rfl := Option.some.inj h12363
        refine retR1 (fn := Try.f25) (by first | exact .inl rfl | exact .inr rfl) hF12660 rfl (resC hT (t := 6) (ty := 26) (b := b7) (by kernel_rfl) (i := tr26) (by kernel_rfl) rfl (hS12659.blk 0 rfl) (show _ = 8 from by simp only [List.length_append, vs_length, vi_length, List.length_cons, List.length_nil, (hh12359 : zs12358.length = 8)])) ?_
        exact ⟨rfl, hh12359, hh12360, hS12659.pick [] (by decide) rfl⟩

end Go.Proofs.Ytddphjmcoolinaa
