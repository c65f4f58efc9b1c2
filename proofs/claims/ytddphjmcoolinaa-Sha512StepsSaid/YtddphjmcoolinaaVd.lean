/- Walks of functions, printed by auto.py. -/
import Derived.Test.YtddphjmcoolinaaVc
import Derived.Test.YtddphjmcoolinaaUc
set_option linter.unusedVariables false
set_option linter.unusedSimpArgs false
set_option maxRecDepth 100000
namespace Go.Proofs.Ytddphjmcoolinaa
open Go.Proofs Go.RowKit
noncomputable def F_sha512_Sum_l1 (xss0 : List (List Nat)) : (List Nat × Nat) → Option ((List Nat × Nat) ⊕ (List Nat)) := fun (zs232, x234) => if ((x234 : Nat) : Int) < ((xss0.length : Nat) : Int) then (gd ((zs232.length + (xss0.getD x234 []).length) * 1 ≤ 140737488355328) (gd ((((x234 + 1) : Nat) : Int) ≤ 9223372036854775807) (some (.inl ((zs232 ++ (xss0.getD x234 [])), (x234 + 1)))))) else (some (.inr zs232))
noncomputable def F_sha512_Sum_l2 (zs333 : List Nat) (zs573 : List Nat) : (List Nat × Nat × Nat) → Option ((List Nat × Nat × Nat) ⊕ (List Nat)) := fun (zs671, lo676, n677) => if 0 < ((n677 : Nat) : Int) then (gd (128 ≤ n677) (bnd (F_sha512_block zs333 zs671 ((zs573.drop lo676).take 128)) fun (zs747 : List Nat) => some (.inl (zs747, (lo676 + 128), (n677 - 128))))) else (some (.inr zs671))
noncomputable def F_sha512_Sum_l4 (x3230 : Nat) (zs565 : List Nat) : (List Nat × Nat) → Option ((List Nat × Nat) ⊕ (List Nat × Nat)) := fun (zs3942, x3946) => if ((x3946 : Nat) : Int) < 8 then (gd ((((8 * x3230) : Nat) : Int) ≤ 9223372036854775807) (gd (((((8 * x3230) + x3946) : Nat) : Int) ≤ 9223372036854775807) (gd ((((8 * x3946) : Nat) : Int) ≤ 9223372036854775807) (gd (-9223372036854775808 ≤ ((56 : Int) - (((8 * x3946) : Nat) : Int))) (gd (((56 : Int) - (((8 * x3946) : Nat) : Int)) ≤ 9223372036854775807) (gd ((0 : Int) ≤ ((56 : Int) - (((8 * x3946) : Nat) : Int))) (gd (((((8 * x3230) + x3946) : Nat) : Int) < 64) (gd ((((x3946 + 1) : Nat) : Int) ≤ 9223372036854775807) (some (.inl ((zs3942.set ((8 * x3230) + x3946) (((zs565.getD x3230 0) / 2 ^ (((56 : Int) - (((8 * x3946) : Nat) : Int)).toNat)) % 256)), (x3946 + 1)))))))))))) else (some (.inr (zs3942, x3946)))
noncomputable def F_sha512_Sum_l3 (zs565 : List Nat) : (List Nat × Nat) → Option ((List Nat × Nat) ⊕ (List Nat)) := fun (zs3227, x3230) => if ((x3230 : Nat) : Int) < 8 then (bnd (gd (x3230 < 8) (run (F_sha512_Sum_l4 x3230 zs565) (zs3227, 0)) : Option (List Nat × Nat)) (fun (zs3841, x3845) => gd ((((x3230 + 1) : Nat) : Int) ≤ 9223372036854775807) (some (.inl (zs3841, (x3230 + 1)))))) else (some (.inr zs3227))
noncomputable def F_sha512_Sum (xss0 : List (List Nat)) : Option (List Nat) := bnd (run (F_sha512_Sum_l1 xss0) ([], 0) : Option (List Nat)) (fun (zs157 : List Nat) => bnd (F_sha512_Rounds) fun (zs333 : List Nat) => bnd (F_sha512_Start) fun (zs338 : List Nat) => bnd (bnd (F_sha512_Pad zs157) fun (zs573 : List Nat) => run (F_sha512_Sum_l2 zs333 zs573) (zs338, 0, zs573.length) : Option (List Nat)) (fun (zs565 : List Nat) => bnd (run (F_sha512_Sum_l3 zs565) ((List.replicate 64 0), 0) : Option (List Nat)) (fun (zs2463 : List Nat) => some zs2463)))
set_option maxHeartbeats 4000000 in
theorem W_sha512_Sum (pA0 : Option Addr) (pc0 : Nat) (pp0 : List (Option Addr × Nat)) (xss0 : List (List Nat)) (w : World) (pR0 : Rd w pA0 (hds pp0 xss0)) (pc_0 : xss0.length ≤ pc0) (pE0 : Each w .u8 pp0 xss0) (r : List Nat) (h : F_sha512_Sum xss0 = some r) :
    Calls Try.prog 20 [.slice pA0 xss0.length pc0].toArray w (Ret fun v w' => v = .agg (vs .u8 r).toArray ∧ r.length = 64 ∧ LB 256 r ∧ Heap w [] w' []) := by
  unfold F_sha512_Sum at h
  refine enter Try.func20 rfl (n := 58) Try.ntmps20 (by simp) ?_
  intro a hF
  have hS := Heap.init w
  refine wp_seq_k (fun K1 hK2 => ?_)
  refine wp_region_lit ?_
  refine wl (h_alloc hT (d := 2) (T := 30) (l := vs .u8 (List.replicate 64 0)) (by kernel_rfl) hF hS ?_)
  rintro a5 w6 b3 hS7 g8 ha9 hF10; clear ha9 hF a hS
  have hS11 : Heap w [] w6 [.blk b3 30 (vs .u8 (List.replicate 64 0))] := hS7; clear hS7
  have hF12 := hF10.pick [0, 2] (G := [(0, .slice pA0 xss0.length pc0), (2, .pointer (some ⟨b3, 0, none⟩))]) (by kernel_rfl); clear hF10
  refine wpList_nil ?_
  refine hK2 _ _ ?_
  refine wp_seq_k (fun K13 hK14 => ?_)
  refine wp_region_lit ?_
  refine pu_end hT 1 _ hF12 [0, 2, 3] (G := [(0, .slice pA0 xss0.length pc0), (2, .pointer (some ⟨b3, 0, none⟩)), (3, .slice none 0 0)]) (cs := []) (by kernel_rfl) rfl trivial ?_; clear hF12 a5; intro a15 hF16
  refine hK14 _ _ ?_
  obtain ⟨xj159, hx160, h161⟩ := bnd_some h; clear h
  refine seqJ (fun a W => ∃ (zs157 : List Nat), ∃ (A155 : Option Addr), ∃ (c156 : Nat), zs157 = xj159 ∧ (Fr 58 a [(2, .pointer (some ⟨b3, 0, none⟩)), (3, .slice A155 zs157.length c156)]) ∧ (Heap w [] W [.blk b3 30 (vs .u8 (List.replicate 64 0)), .row 5 1 A155 zs157.length c156 (vs .u8 zs157)]) ∧ (LB 256 zs157)) ?_ ?_
  · skip
    refine wp_seq_k (fun K162 hK163 => ?_)
    refine wp_region_lit ?_
    refine pu_end hT 3 _ hF16 [2, 3, 13, 14, 15] (G := [(2, .pointer (some ⟨b3, 0, none⟩)), (3, .slice none 0 0), (13, .slice pA0 xss0.length pc0), (14, .int .i64 ((xss0.length : Nat) : Int)), (15, .int .i64 0)]) (cs := []) (by kernel_rfl) rfl trivial ?_; clear hF16 a15; intro a164 hF165
    refine hK163 _ _ ?_
    refine wp_block ?_
    have hS262 : Heap w [] w6 [.row 5 1 none 0 0 (vs .u8 []), .blk b3 30 (vs .u8 (List.replicate 64 0))] := Heap.row0 hS11 5 1; clear hS11
    refine loopR (F_sha512_Sum_l1 xss0) xj159 ([], 0) hx160 (fun s a W => ∃ (zs232 : List Nat), ∃ (x234 : Nat), ∃ (A230 : Option Addr), ∃ (c231 : Nat), (zs232, x234) = s ∧ (Fr 58 a [(2, .pointer (some ⟨b3, 0, none⟩)), (3, .slice A230 zs232.length c231), (13, .slice pA0 xss0.length pc0), (14, .int .i64 ((xss0.length : Nat) : Int)), (15, .int .i64 ((x234 : Nat) : Int))]) ∧ (Heap w [] W [.blk b3 30 (vs .u8 (List.replicate 64 0)), .row 5 1 A230 zs232.length c231 (vs .u8 zs232)]) ∧ (LB 256 zs232)) ⟨[], 0, none, 0, rfl, hF165.pick [2, 3, 13, 14, 15] (by kernel_rfl), hS262.pick [1, 0] (by decide) rfl, LB.nil⟩ ?_
    clear hF165 hS262 hx160
    rintro k273 _ a268 w269 ⟨zs232, x234, A230, c231, rfl, hF270, hS271, hh233⟩ hit267 K266 hK265
    obtain ⟨y263, h272, hy264⟩ := iter_succ hit267; clear hit267
    unfold F_sha512_Sum_l1 at h272; try dsimp only at h272
    refine wp_seq_k (fun K274 hK275 => ?_)
    refine wp_region_lit ?_
    refine pu_end hT 1 _ hF270 [2, 3, 13, 14, 15, 16] (G := [(2, .pointer (some ⟨b3, 0, none⟩)), (3, .slice A230 zs232.length c231), (13, .slice pA0 xss0.length pc0), (14, .int .i64 ((xss0.length : Nat) : Int)), (15, .int .i64 ((x234 : Nat) : Int)), (16, .bool ((decide (((x234 : Nat) : Int) < ((xss0.length : Nat) : Int)))))]) (cs := []) (by kernel_rfl) rfl trivial ?_; clear hF270 a268; intro a276 hF277
    refine hK275 _ _ ?_
    refine wp_seq_k (fun K280 hK281 => ?_)
    rcases (ite_some h272 : ((((x234 : Nat) : Int) < ((xss0.length : Nat) : Int)) ∧ _) ∨ (¬ (((x234 : Nat) : Int) < ((xss0.length : Nat) : Int)) ∧ _)) with ⟨hc282, h283⟩ | ⟨hc282, h283⟩
    · clear h272
      have hF284 : Fr 58 a276 [(2, .pointer (some ⟨b3, 0, none⟩)), (3, .slice A230 zs232.length c231), (13, .slice pA0 xss0.length pc0), (14, .int .i64 ((xss0.length : Nat) : Int)), (15, .int .i64 ((x234 : Nat) : Int)), (16, .bool true)] := hF277.pick [2, 3, 13, 14, 15, 16] (by rw [decide_eq_true hc282]; kernel_rfl); clear hF277
      refine condT hF284 (by kernel_rfl) ?_
      refine wp_skip ?_
      refine hK281 _ _ ?_
      refine wp_seq_k (fun K292 hK293 => ?_)
      refine wp_block ?_
      refine wp_seq_k (fun K294 hK295 => ?_)
      refine wp_region_lit ?_
      refine pu hT 1 _ hF284 [2, 3, 13, 14, 15, 17] (G := [(2, .pointer (some ⟨b3, 0, none⟩)), (3, .slice A230 zs232.length c231), (13, .slice pA0 xss0.length pc0), (14, .int .i64 ((xss0.length : Nat) : Int)), (15, .int .i64 ((x234 : Nat) : Int)), (17, .pointer (some ⟨(ablk pA0), (aoff pA0 + x234), none⟩))]) (cs := [0 ≤ ((x234 : Nat) : Int), ((x234 : Nat) : Int) < ((xss0.length : Nat) : Int), (pA0 : Option Addr) = some ⟨ablk pA0, aoff pA0, none⟩]) (by kernel_rfl) (And.intro (by omega) (And.intro hc282 (And.intro ((hS271.rd0 pR0).some' (by rw [hds_length pE0]; omega)) trivial))) ?_; clear hF284 a276; intro a296 hF297
      refine wl (s_load hT (d := 18) (A := ⟨(ablk pA0), (aoff pA0 + x234), none⟩) (v := .slice ((pp0.getD x234 (none, 0)).1) ((xss0.getD x234 []).length) ((pp0.getD x234 (none, 0)).2)) (by kernel_rfl) hF297 (Cells.at (hS271.rd0 pR0).cells (hds_get pE0 (j := x234) (by omega)) (by first | rfl | omega)) ?_)
      rintro a298 ha300 hF299; clear ha300 hF297 a296
      have hF301 := hF299.pick [2, 3, 13, 14, 15, 18] (G := [(2, .pointer (some ⟨b3, 0, none⟩)), (3, .slice A230 zs232.length c231), (13, .slice pA0 xss0.length pc0), (14, .int .i64 ((xss0.length : Nat) : Int)), (15, .int .i64 ((x234 : Nat) : Int)), (18, .slice ((pp0.getD x234 (none, 0)).1) ((xss0.getD x234 []).length) ((pp0.getD x234 (none, 0)).2))]) (by kernel_rfl); clear hF299
      refine pu_end hT 1 _ hF301 [2, 3, 13, 14, 15, 5] (G := [(2, .pointer (some ⟨b3, 0, none⟩)), (3, .slice A230 zs232.length c231), (13, .slice pA0 xss0.length pc0), (14, .int .i64 ((xss0.length : Nat) : Int)), (15, .int .i64 ((x234 : Nat) : Int)), (5, .slice ((pp0.getD x234 (none, 0)).1) ((xss0.getD x234 []).length) ((pp0.getD x234 (none, 0)).2))]) (cs := []) (by kernel_rfl) rfl trivial ?_; clear hF301 a298; intro a302 hF303
      refine hK295 _ _ ?_
      obtain ⟨g305, h304⟩ : ((zs232.length + (xss0.getD x234 []).length) * 1 ≤ 140737488355328) ∧ _ := gd_some h283; clear h283
      refine wp_region_lit ?_
      refine pu hT 2 _ hF303 [2, 3, 13, 14, 15, 19, 20] (G := [(2, .pointer (some ⟨b3, 0, none⟩)), (3, .slice A230 zs232.length c231), (13, .slice pA0 xss0.length pc0), (14, .int .i64 ((xss0.length : Nat) : Int)), (15, .int .i64 ((x234 : Nat) : Int)), (19, .slice A230 zs232.length c231), (20, .slice ((pp0.getD x234 (none, 0)).1) ((xss0.getD x234 []).length) ((pp0.getD x234 (none, 0)).2))]) (cs := []) (by kernel_rfl) trivial ?_; clear hF303 a302; intro a309 hF310
      refine wl (h_app hT (d := 21) (T := 5) (i := tr5) (m := zs232.length) (c := c231) (m2 := (xss0.getD x234 []).length) (c2 := (pp0.getD x234 (none, 0)).2) (A2 := (pp0.getD x234 (none, 0)).1) (l2 := vs .u8 (xss0.getD x234 [])) (n' := (zs232 ++ (xss0.getD x234 [])).length) (l' := vs .u8 (zs232 ++ (xss0.getD x234 []))) (by kernel_rfl) hF310 hS271 1 rfl rfl (by decide) (Each.get (Each.ex hS271.ex pE0) (j := x234) (by omega)).1 (by show _ = ((xss0.getD x234 []).length) * 1; have := (Eq.refl (xss0.getD x234 []).length); simp only [zA, zS, zT, zD, zR, zC, zN, zV, zI] <;> omega) vs_one (by show (zs232.length + ((xss0.getD x234 []).length)) * 1 ≤ 140737488355328; first | exact g305 | omega) (by decide) (by have := (Eq.refl zs232.length); have := (Eq.refl (xss0.getD x234 []).length); first | omega | (simp only [zA, zS, zT, zD, zR, zC, zN, zV, zI] <;> omega) | (simp only [zA, zS, zT, zD, zR, zC, zN, zV, zI] at * <;> omega)) (by first | rfl | exact (vs_append _ _ _).symm | exact (vi_append _ _).symm | simp [vs, vi]) ?_)
      rintro a311 w312 A306 c307 hS313 g314 ha315 hF316; clear ha315 hF310 a309 hS271
      have hS317 : Heap w [] w312 [.blk b3 30 (vs .u8 (List.replicate 64 0)), .row 5 1 A306 ((zs232 ++ (xss0.getD x234 [])).length) c307 (vs .u8 (zs232 ++ (xss0.getD x234 [])))] := hS313; clear hS313
      have hF318 := hF316.pick [2, 3, 13, 14, 15, 21] (G := [(2, .pointer (some ⟨b3, 0, none⟩)), (3, .slice A230 zs232.length c231), (13, .slice pA0 xss0.length pc0), (14, .int .i64 ((xss0.length : Nat) : Int)), (15, .int .i64 ((x234 : Nat) : Int)), (21, .slice A306 ((zs232 ++ (xss0.getD x234 [])).length) c307)]) (by kernel_rfl); clear hF316
      refine pu_end hT 1 _ hF318 [2, 13, 14, 15, 3] (G := [(2, .pointer (some ⟨b3, 0, none⟩)), (13, .slice pA0 xss0.length pc0), (14, .int .i64 ((xss0.length : Nat) : Int)), (15, .int .i64 ((x234 : Nat) : Int)), (3, .slice A306 ((zs232 ++ (xss0.getD x234 [])).length) c307)]) (cs := []) (by kernel_rfl) rfl trivial ?_; clear hF318 a311; intro a319 hF320
      refine hK293 _ _ ?_
      obtain ⟨g322, h321⟩ : ((((x234 + 1) : Nat) : Int) ≤ 9223372036854775807) ∧ _ := gd_some h304; clear h304
      refine wp_region_lit ?_
      refine pu_end hT 2 _ hF320 [2, 13, 14, 3, 15] (G := [(2, .pointer (some ⟨b3, 0, none⟩)), (13, .slice pA0 xss0.length pc0), (14, .int .i64 ((xss0.length : Nat) : Int)), (3, .slice A306 ((zs232 ++ (xss0.getD x234 [])).length) c307), (15, .int .i64 (((x234 + 1) : Nat) : Int))]) (cs := [-9223372036854775808 ≤ (((x234 + 1) : Nat) : Int), (((x234 + 1) : Nat) : Int) ≤ 9223372036854775807]) (by kernel_rfl) rfl (And.intro (by omega) (And.intro g322 trivial)) ?_; clear hF320 a319; intro a323 hF324
      obtain rfl := Option.some.inj h321
      exact hK265 _ _ _ hy264 ⟨(zs232 ++ (xss0.getD x234 [])), (x234 + 1), A306, c307, rfl, hF324.pick [2, 3, 13, 14, 15] (by kernel_rfl), hS317.pick [0, 1] (by decide) rfl, (hh233.app (Each.get pE0 (j := x234) (by omega)).2.1)⟩
    · clear h272
      have hF325 : Fr 58 a276 [(2, .pointer (some ⟨b3, 0, none⟩)), (3, .slice A230 zs232.length c231), (13, .slice pA0 xss0.length pc0), (14, .int .i64 ((xss0.length : Nat) : Int)), (15, .int .i64 ((x234 : Nat) : Int)), (16, .bool false)] := hF277.pick [2, 3, 13, 14, 15, 16] (by rw [decide_eq_false hc282]; kernel_rfl); clear hF277
      refine condF hF325 (by kernel_rfl) ?_
      refine wp_exit ?_
      obtain rfl := Option.some.inj h283
      obtain rfl : _ = xj159 := hy264
      exact ⟨zs232, A230, c231, rfl, hF325.pick [2, 3] (by kernel_rfl), hS271.pick [0, 1] (by decide) rfl, hh233⟩
  · skip
    clear hx160 hF16 hS11 
    rintro a326 w327 ⟨zs157, A155, c156, rfl, hF328, hS329, hh158⟩
    refine wp_seq_k (fun K331 hK332 => ?_)
    obtain ⟨zs333, hr335, h334⟩ := bnd_some h161; clear h161; replace hr335 : F_sha512_Rounds = some (zs333) := hr335
    obtain ⟨zs338, hr340, h339⟩ := bnd_some h334; clear h334; replace hr340 : F_sha512_Start = some (zs338) := hr340
    refine wp_region_lit ?_
    refine wl (s_call (d := 23) (f := 16) (l := []) (by kernel_rfl) hF328 cl16 (W_sha512_Rounds _ zs333 hr335) ?_)
    rintro a347 w348 v349 ⟨rfl, hh336, hh337, hC350⟩ ha351 hF352; clear ha351 hF328 a326
    have hS353 : Heap w [] w348 [.blk b3 30 (vs .u8 (List.replicate 64 0)), .row 5 1 A155 zs157.length c156 (vs .u8 zs157)] := Heap.call hS329 hC350; clear hS329
    have hF354 := hF352.pick [2, 3, 23] (G := [(2, .pointer (some ⟨b3, 0, none⟩)), (3, .slice A155 zs157.length c156), (23, .agg (vs .u64 zs333).toArray)]) (by kernel_rfl); clear hF352
    refine wl (s_call (d := 24) (f := 18) (l := []) (by kernel_rfl) hF354 cl18 (W_sha512_Start _ zs338 hr340) ?_)
    rintro a355 w356 v357 ⟨rfl, hh341, hh342, hC358⟩ ha359 hF360; clear ha359 hF354 a347
    have hS361 : Heap w [] w356 [.blk b3 30 (vs .u8 (List.replicate 64 0)), .row 5 1 A155 zs157.length c156 (vs .u8 zs157)] := Heap.call hS353 hC358; clear hS353
    have hF362 := hF360.pick [2, 3, 23, 24] (G := [(2, .pointer (some ⟨b3, 0, none⟩)), (3, .slice A155 zs157.length c156), (23, .agg (vs .u64 zs333).toArray), (24, .agg (vs .u64 zs338).toArray)]) (by kernel_rfl); clear hF360
    refine wl (h_alloc hT (d := 6) (T := 24) (l := vs .u64 (List.replicate 80 0)) (by kernel_rfl) hF362 hS361 ?_)
    rintro a363 w364 b343 hS365 g366 ha367 hF368; clear ha367 hF362 a355 hS361
    have hS369 : Heap w [] w364 [.blk b343 24 (vs .u64 (List.replicate 80 0)), .blk b3 30 (vs .u8 (List.replicate 64 0)), .row 5 1 A155 zs157.length c156 (vs .u8 zs157)] := hS365; clear hS365
    have hF370 := hF368.pick [2, 3, 23, 24, 6] (G := [(2, .pointer (some ⟨b3, 0, none⟩)), (3, .slice A155 zs157.length c156), (23, .agg (vs .u64 zs333).toArray), (24, .agg (vs .u64 zs338).toArray), (6, .pointer (some ⟨b343, 0, none⟩))]) (by kernel_rfl); clear hF368
    refine wl (h_alloc hT (d := 7) (T := 26) (l := vs .u64 (List.replicate 8 0)) (by kernel_rfl) hF370 hS369 ?_)
    rintro a371 w372 b345 hS373 g374 ha375 hF376; clear ha375 hF370 a363 hS369
    have hS377 : Heap w [] w372 [.blk b345 26 (vs .u64 (List.replicate 8 0)), .blk b343 24 (vs .u64 (List.replicate 80 0)), .blk b3 30 (vs .u8 (List.replicate 64 0)), .row 5 1 A155 zs157.length c156 (vs .u8 zs157)] := hS373; clear hS373
    have hF378 := hF376.pick [2, 3, 23, 24, 6, 7] (G := [(2, .pointer (some ⟨b3, 0, none⟩)), (3, .slice A155 zs157.length c156), (23, .agg (vs .u64 zs333).toArray), (24, .agg (vs .u64 zs338).toArray), (6, .pointer (some ⟨b343, 0, none⟩)), (7, .pointer (some ⟨b345, 0, none⟩))]) (by kernel_rfl); clear hF376
    refine wl (h_storeV hT (b := b343) (l2 := vs .u64 zs333) (sz := 80) (by kernel_rfl) hF378 hS377 1 rfl (by simp only [List.length_append, vs_length, vi_length, List.length_cons, List.length_nil, (hh336 : zs333.length = 80)]) (by simp only [List.length_append, vs_length, vi_length, List.length_cons, List.length_nil, (hh336 : zs333.length = 80), ((len_rep (α := Nat) 80 0) : (List.replicate 80 0).length = 80)]) (vs_one) ?_)
    rintro a379 w380 ha383 hF384 hS381 g382; clear ha383 hF378 a371 hS377
    have hS385 : Heap w [] w380 [.blk b345 26 (vs .u64 (List.replicate 8 0)), .blk b343 24 (vs .u64 zs333), .blk b3 30 (vs .u8 (List.replicate 64 0)), .row 5 1 A155 zs157.length c156 (vs .u8 zs157)] := hS381; clear hS381
    have hF386 := hF384.pick [2, 3, 24, 6, 7] (G := [(2, .pointer (some ⟨b3, 0, none⟩)), (3, .slice A155 zs157.length c156), (24, .agg (vs .u64 zs338).toArray), (6, .pointer (some ⟨b343, 0, none⟩)), (7, .pointer (some ⟨b345, 0, none⟩))]) (by kernel_rfl); clear hF384
    refine wl (h_storeV hT (b := b345) (l2 := vs .u64 zs338) (sz := 8) (by kernel_rfl) hF386 hS385 0 rfl (by simp only [List.length_append, vs_length, vi_length, List.length_cons, List.length_nil, (hh341 : zs338.length = 8)]) (by simp only [List.length_append, vs_length, vi_length, List.length_cons, List.length_nil, (hh341 : zs338.length = 8), ((len_rep (α := Nat) 8 0) : (List.replicate 8 0).length = 8)]) (vs_one) ?_)
    rintro a387 w388 ha391 hF392 hS389 g390; clear ha391 hF386 a379 hS385
    have hS393 : Heap w [] w388 [.blk b345 26 (vs .u64 zs338), .blk b343 24 (vs .u64 zs333), .blk b3 30 (vs .u8 (List.replicate 64 0)), .row 5 1 A155 zs157.length c156 (vs .u8 zs157)] := hS389; clear hS389
    have hF394 := hF392.pick [2, 3, 6, 7] (G := [(2, .pointer (some ⟨b3, 0, none⟩)), (3, .slice A155 zs157.length c156), (6, .pointer (some ⟨b343, 0, none⟩)), (7, .pointer (some ⟨b345, 0, none⟩))]) (by kernel_rfl); clear hF392
    refine wpList_nil ?_
    refine hK332 _ _ ?_
    obtain ⟨xj568, hx569, h570⟩ := bnd_some h339; clear h339
    refine seqJ (fun a W => ∃ (zs565 : List Nat), zs565 = xj568 ∧ (Fr 58 a [(2, .pointer (some ⟨b3, 0, none⟩)), (7, .pointer (some ⟨b345, 0, none⟩))]) ∧ (Heap w [] W [.blk b3 30 (vs .u8 (List.replicate 64 0)), .blk b345 26 (vs .u64 zs565)]) ∧ (zs565.length = 8) ∧ (LB 18446744073709551616 zs565)) ?_ ?_
    · skip
      refine wp_seq_k (fun K571 hK572 => ?_)
      obtain ⟨zs573, hr575, h574⟩ := bnd_some hx569; clear hx569; replace hr575 : F_sha512_Pad zs157 = some (zs573) := hr575
      refine wp_region_lit ?_
      refine pu hT 1 _ hF394 [2, 6, 7, 25] (G := [(2, .pointer (some ⟨b3, 0, none⟩)), (6, .pointer (some ⟨b343, 0, none⟩)), (7, .pointer (some ⟨b345, 0, none⟩)), (25, .slice A155 zs157.length c156)]) (cs := []) (by kernel_rfl) trivial ?_; clear hF394 a387; intro a580 hF581
      refine wl (s_call (d := 26) (f := 21) (l := [.slice A155 zs157.length c156]) (by kernel_rfl) hF581 cl21 (W_sha512_Pad A155 c156 zs157 _ (hS393.own 3 rfl).rd (by have := (hS393.own 3 rfl).cap; have := (Eq.refl zs157.length); skip; have := (Eq.refl zs157.length); first | omega | (simp only [zA, zS, zT, zD, zR, zC, zN, zV, zI] <;> omega) | (simp only [zA, zS, zT, zD, zR, zC, zN, zV, zI] at * <;> omega)) hh158 zs573 hr575) ?_)
      rintro a582 w583 v584 ⟨A576, c577, rfl, hh578, hC585⟩ ha586 hF587; clear ha586 hF581 a580
      have hS588 : Heap w [] w583 [.row 5 1 A576 zs573.length c577 (vs .u8 zs573), .blk b345 26 (vs .u64 zs338), .blk b343 24 (vs .u64 zs333), .blk b3 30 (vs .u8 (List.replicate 64 0)), .row 5 1 A155 zs157.length c156 (vs .u8 zs157)] := Heap.call hS393 hC585; clear hS393
      have hF589 := hF587.pick [2, 6, 7, 26] (G := [(2, .pointer (some ⟨b3, 0, none⟩)), (6, .pointer (some ⟨b343, 0, none⟩)), (7, .pointer (some ⟨b345, 0, none⟩)), (26, .slice A576 zs573.length c577)]) (by kernel_rfl); clear hF587
      refine pu_end hT 1 _ hF589 [2, 6, 7, 8] (G := [(2, .pointer (some ⟨b3, 0, none⟩)), (6, .pointer (some ⟨b343, 0, none⟩)), (7, .pointer (some ⟨b345, 0, none⟩)), (8, .slice A576 zs573.length c577)]) (cs := []) (by kernel_rfl) rfl trivial ?_; clear hF589 a582; intro a590 hF591
      refine hK572 _ _ ?_
      refine wp_block ?_
      refine loopR (F_sha512_Sum_l2 zs333 zs573) xj568 (zs338, 0, zs573.length) h574 (fun s a W => ∃ (zs671 : List Nat), ∃ (lo676 : Nat), ∃ (n677 : Nat), ∃ (A675 : Option Addr), ∃ (c678 : Nat), (zs671, lo676, n677) = s ∧ (Fr 58 a [(2, .pointer (some ⟨b3, 0, none⟩)), (6, .pointer (some ⟨b343, 0, none⟩)), (7, .pointer (some ⟨b345, 0, none⟩)), (8, .slice A675 n677 c678)]) ∧ (Heap w [] W [.blk b3 30 (vs .u8 (List.replicate 64 0)), .blk b343 24 (vs .u64 zs333), .blk b345 26 (vs .u64 zs671), .row 5 1 A576 zs573.length c577 (vs .u8 zs573)]) ∧ (zs671.length = 8) ∧ (LB 18446744073709551616 zs671) ∧ (View A576 c577 1 A675 lo676) ∧ (lo676 + c678 = c577) ∧ (lo676 + n677 ≤ zs573.length) ∧ (n677 ≤ c678) ∧ (lo676 + n677 = zs573.length)) ⟨zs338, 0, zs573.length, A576, c577, rfl, hF591.pick [2, 6, 7, 8] (by kernel_rfl), hS588.pick [3, 2, 1, 0] (by decide) rfl, hh341, hh342, View.refl _ _ _, (by have := (hS588.own 0 rfl).cap; have := (Eq.refl zs573.length); skip; omega), (by have := (hS588.own 0 rfl).cap; have := (Eq.refl zs573.length); skip; omega), (by have := (hS588.own 0 rfl).cap; have := (Eq.refl zs573.length); skip; omega), (by have := (hS588.own 0 rfl).cap; have := (Eq.refl zs573.length); skip; omega)⟩ ?_
      clear hF591 hS588 h574
      rintro k722 _ a717 w718 ⟨zs671, lo676, n677, A675, c678, rfl, hF719, hS720, hh672, hh673, hh679, hh680, hh681, hh682, hh683⟩ hit716 K715 hK714
      obtain ⟨y712, h721, hy713⟩ := iter_succ hit716; clear hit716
      unfold F_sha512_Sum_l2 at h721; try dsimp only at h721
      refine wp_seq_k (fun K727 hK728 => ?_)
      refine wp_seq_k (fun K729 hK730 => ?_)
      refine wp_region_lit ?_
      refine pu_end hT 3 _ hF719 [2, 6, 7, 8, 29] (G := [(2, .pointer (some ⟨b3, 0, none⟩)), (6, .pointer (some ⟨b343, 0, none⟩)), (7, .pointer (some ⟨b345, 0, none⟩)), (8, .slice A675 n677 c678), (29, .bool ((decide (0 < ((n677 : Nat) : Int)))))]) (cs := []) (by kernel_rfl) rfl trivial ?_; clear hF719 a717; intro a731 hF732
      refine hK730 _ _ ?_
      rcases (ite_some h721 : ((0 < ((n677 : Nat) : Int)) ∧ _) ∨ (¬ (0 < ((n677 : Nat) : Int)) ∧ _)) with ⟨hc733, h734⟩ | ⟨hc733, h734⟩
      · clear h721
        have hF735 : Fr 58 a731 [(2, .pointer (some ⟨b3, 0, none⟩)), (6, .pointer (some ⟨b343, 0, none⟩)), (7, .pointer (some ⟨b345, 0, none⟩)), (8, .slice A675 n677 c678), (29, .bool true)] := hF732.pick [2, 6, 7, 8, 29] (by rw [decide_eq_true hc733]; kernel_rfl); clear hF732
        refine condT hF735 (by kernel_rfl) ?_
        refine wp_skip ?_
        refine hK728 _ _ ?_
        refine wp_seq_k (fun K743 hK744 => ?_)
        refine wp_block ?_
        obtain ⟨g746, h745⟩ : (128 ≤ n677) ∧ _ := gd_some h734; clear h734
        obtain ⟨zs747, hr749, h748⟩ := bnd_some h745; clear h745; replace hr749 : F_sha512_block zs333 zs671 ((zs573.drop lo676).take 128) = some (zs747) := hr749
        have hlt752 := hS720.ids
        have hsz754 := hS720.size
        let SL753 : List SP := [SP.val (.agg (vs .u64 zs671).toArray), SP.val (.slice A675 n677 c678), SP.val (.slice A675 128 c678), SP.mk' (fun B v W => v = .agg (vs .u64 zs747).toArray ∧ (zs747.length = 8) ∧ (LB 18446744073709551616 zs747)) (fun B v W W2 hh gg => by obtain ⟨e, hh750, hh751⟩ := hh; exact ⟨e, hh750, hh751⟩), SP.any]
        refine region_rel (SL := SL753) (J := (fun (B : Bool) (W : World) => match B with | true => w718.heap.size ≤ W.heap.size ∧ Heap w [] W [.blk b3 30 (vs .u8 (List.replicate 64 0)), .blk b343 24 (vs .u64 zs333), .blk b345 26 (vs .u64 zs747), .row 5 1 A576 zs573.length c577 (vs .u8 zs573)] ∧ (zs747.length = 8) ∧ (LB 18446744073709551616 zs747) | false => w718.heap.size ≤ W.heap.size ∧ Heap w [] W [.blk b3 30 (vs .u8 (List.replicate 64 0)), .blk b343 24 (vs .u64 zs333), .blk b345 26 (vs .u64 zs671), .row 5 1 A576 zs573.length c577 (vs .u8 zs573)])) (m := 4) wide (by kernel_rfl) (by kernel_rfl) hF735 rfl ?_ ⟨Nat.le_refl _, hS720⟩ ⟨?_, ?_, ?_, ?_, ?_, trivial⟩ [(2, none), (6, none), (7, none), (8, none)] (by kernel_rfl) ?_
        · intro b W W' hj g; cases b; exact ⟨Nat.le_trans hj.1 g.size, hj.2.growN g⟩; exact ⟨Nat.le_trans hj.1 g.size, hj.2.1.growN g, hj.2.2⟩
        · -- operation 0
          rintro a756 w755 b759 KK765 hs761 hd762 hJ763 hb764 hr766 hK760
          have hr766x : RD SL753 b759 a756 a731 w755 [(7, none)] := hr766 _ (by kernel_rfl)
          obtain ⟨q767, -⟩ := hr766x
          obtain rfl : b759 = false := by cases b759; rfl; exact absurd ((hb764 rfl).2 _ rfl) (by decide)
          obtain ⟨hX768, hS758⟩ := hJ763
          have hF757 : Fr 58 a756 [(7, .pointer (some ⟨b345, 0, none⟩))] := Fr.of hs761 hd762 ⟨(Fr.init hF735 q767 (by kernel_rfl)), trivial⟩
          refine s_loadA hT (d := 32) (b := b345) (off := 0) (sz := 8) (l := vs .u64 zs671) (by kernel_rfl) hF757 (hS758.blk 2 rfl).cells (by simp only [List.length_append, vs_length, vi_length, List.length_cons, List.length_nil, (hh672 : zs671.length = 8)]) ?_
          rintro a769 ha771 hF770
          rw [ha771]
          exact hK760 _ _ rfl (grown_refl _ _)
        · -- operation 1
          rintro a773 w772 b776 KK782 hs778 hd779 hJ780 hb781 hr783 hK777
          have hr783x : RD SL753 b776 a773 a731 w772 [(8, none)] := hr783 _ (by kernel_rfl)
          obtain ⟨q784, -⟩ := hr783x
          obtain rfl : b776 = false := by cases b776; rfl; exact absurd ((hb781 rfl).2 _ rfl) (by decide)
          obtain ⟨hX785, hS775⟩ := hJ780
          have hF774 : Fr 58 a773 [(8, .slice A675 n677 c678)] := Fr.of hs778 hd779 ⟨(Fr.init hF735 q784 (by kernel_rfl)), trivial⟩
          refine s_pure hT (d := 33) (v := .slice A675 n677 c678) (cs := []) (by kernel_rfl) (by kernel_rfl) trivial hF774 ?_
          rintro a2 ha2 hF2; rw [ha2]
          exact hK777 _ _ rfl (grown_refl _ _)
        · -- operation 2
          rintro a787 w786 b790 KK796 hs792 hd793 hJ794 hb795 hr797 hK791
          have hr797x : RD SL753 b790 a787 a731 w786 [(33, some 1)] := hr797 _ (by kernel_rfl)
          obtain ⟨⟨v799, q798, s800⟩, -⟩ := hr797x
          obtain rfl : v799 = .slice A675 n677 c678 := s800
          obtain rfl : b790 = false := by cases b790; rfl; exact absurd ((hb795 rfl).2 _ rfl) (by decide)
          obtain ⟨hX801, hS789⟩ := hJ794
          have hF788 : Fr 58 a787 [(33, .slice A675 n677 c678)] := Fr.of hs792 hd793 ⟨q798, trivial⟩
          refine s_sliceLow hT (d := 34) (A := A675) (m := n677) (c := c678) (sz := 1) (hi := 128) (by kernel_rfl) hF788 (by have := (hS789.own 3 rfl).cap; have := (Eq.refl zs573.length); have := hh680; have := hh681; have := hh682; have := hh683; first | omega | (simp [*]; done)) (by have := (hS789.own 3 rfl).cap; have := (Eq.refl zs573.length); have := hh680; have := hh681; have := hh682; have := hh683; first | omega | (simp [*]; done)) ?_
          rintro a802 ha804 hF803
          rw [ha804]
          exact hK791 _ _ rfl (grown_refl _ _)
        · -- operation 3
          rintro a806 w805 b809 KK815 hs811 hd812 hJ813 hb814 hr816 hK810
          have hr816x : RD SL753 b809 a806 a731 w805 [(6, none), (32, some 0), (34, some 2)] := hr816 _ (by kernel_rfl)
          obtain ⟨q817, ⟨v819, q818, s820⟩, ⟨v822, q821, s823⟩, -⟩ := hr816x
          obtain rfl : v819 = .agg (vs .u64 zs671).toArray := s820
          obtain rfl : v822 = .slice A675 128 c678 := s823
          obtain rfl : b809 = false := by cases b809; rfl; exact absurd ((hb814 rfl).2 _ rfl) (by decide)
          obtain ⟨hX824, hS808⟩ := hJ813
          have hF807 : Fr 58 a806 [(6, .pointer (some ⟨b343, 0, none⟩)), (32, .agg (vs .u64 zs671).toArray), (34, .slice A675 128 c678)] := Fr.of hs811 hd812 ⟨(Fr.init hF735 q817 (by kernel_rfl)), q818, q821, trivial⟩
          have hF825 : Fr 58 a806 [(6, .pointer (some ⟨b343, 0, none⟩)), (32, .agg (vs .u64 zs671).toArray), (34, .slice A675 (((zs573.drop lo676).take 128).length) c678)] := (hF807.pick [6, 32, 34] (G := [(6, .pointer (some ⟨b343, 0, none⟩)), (32, .agg (vs .u64 zs671).toArray), (34, .slice A675 128 c678)]) (by kernel_rfl)).to (by simp only [((by have := hh680; have := hh681; have := hh682; have := hh683; have := (Eq.refl zs573.length); simp only [zA, zS, zT, zD, zR, zC, zN, zV, zI]; omega : ((zs573.drop lo676).take 128).length = 128) : ((zs573.drop lo676).take 128).length = 128)])
          refine s_call (d := 35) (f := 45) (l := [.pointer (some ⟨b343, 0, none⟩), .agg (vs .u64 zs671).toArray, .slice A675 (((zs573.drop lo676).take 128).length) c678]) (by kernel_rfl) hF825 cl45 (W_sha512_block zs333 b343 zs671 A675 c678 ((zs573.drop lo676).take 128) _ hh336 hh337 (hS808.blk 1 rfl) hh672 hh673 (hh679.vst (hS808.own 3 rfl).rd (by have := (hS808.own 3 rfl).cap; have := (Eq.refl zs573.length); omega) 128) (by have := (hS808.own 3 rfl).cap; have := (Eq.refl zs573.length); have := hh680; have := hh681; have := hh682; have := hh683; skip; have := (by have := hh680; have := hh681; have := hh682; have := hh683; have := (Eq.refl zs573.length); simp only [zA, zS, zT, zD, zR, zC, zN, zV, zI]; omega : ((zs573.drop lo676).take 128).length = 128); first | omega | (simp only [zA, zS, zT, zD, zR, zC, zN, zV, zI] <;> omega) | (simp only [zA, zS, zT, zD, zR, zC, zN, zV, zI] at * <;> omega)) ((hh578.drop lo676).take 128) zs747 hr749) ?_
          rintro a826 w827 v828 ⟨rfl, hh750, hh751, hC829⟩ ha830 hF831
          have hS832 : Heap w [] w827 [.blk b3 30 (vs .u8 (List.replicate 64 0)), .blk b343 24 (vs .u64 zs333), .blk b345 26 (vs .u64 zs671), .row 5 1 A576 zs573.length c577 (vs .u8 zs573)] := Heap.call hS808 hC829
          rw [ha830]
          exact hK810 _ _ ⟨rfl, hh750, hh751⟩ (hC829.grown)
        · -- operation 4
          rintro a834 w833 b837 KK843 hs839 hd840 hJ841 hb842 hr844 hK838
          have hr844x : RD SL753 b837 a834 a731 w833 [(7, none), (35, some 3)] := hr844 _ (by kernel_rfl)
          obtain ⟨q845, ⟨v847, q846, s848⟩, -⟩ := hr844x
          obtain ⟨rfl, hh750, hh751⟩ := s848
          obtain rfl : b837 = false := by cases b837; rfl; exact absurd rfl (hb842 rfl).1
          obtain ⟨hX849, hS836⟩ := hJ841
          have hF835 : Fr 58 a834 [(7, .pointer (some ⟨b345, 0, none⟩)), (35, .agg (vs .u64 zs747).toArray)] := Fr.of hs839 hd840 ⟨(Fr.init hF735 q845 (by kernel_rfl)), q846, trivial⟩
          refine h_storeV hT (b := b345) (l2 := vs .u64 zs747) (sz := 8) (by kernel_rfl) hF835 hS836 2 rfl (by simp only [List.length_append, vs_length, vi_length, List.length_cons, List.length_nil, (hh750 : zs747.length = 8)]) (by simp only [List.length_append, vs_length, vi_length, List.length_cons, List.length_nil, (hh750 : zs747.length = 8), (hh672 : zs671.length = 8)]) (vs_one) ?_
          rintro a850 w851 ha854 hF855 hS852 g853
          have hS856 : Heap w [] w851 [.blk b3 30 (vs .u8 (List.replicate 64 0)), .blk b343 24 (vs .u64 zs333), .blk b345 26 (vs .u64 zs747), .row 5 1 A576 zs573.length c577 (vs .u8 zs573)] := hS852; clear hS852
          rw [ha854]; exact hK838 undef _ trivial ⟨⟨.inl rfl, .inl rfl, .inl rfl, .inr (fun d v hd hv q => q), .inl rfl, trivial⟩, Nat.le_trans hX849 g853.size, hS856, hh750, hh751⟩
        · -- behind the region
          rintro a857 w858 hs859 hd860 ⟨q863, q864, q865, q866, -⟩ ⟨hX862, hS861, hh750, hh751⟩
          have hF867 : Fr 58 a857 [(2, .pointer (some ⟨b3, 0, none⟩)), (6, .pointer (some ⟨b343, 0, none⟩)), (7, .pointer (some ⟨b345, 0, none⟩)), (8, .slice A675 n677 c678)] := Fr.of hs859 hd860 ⟨(Fr.init hF735 q863 (by kernel_rfl)), (Fr.init hF735 q864 (by kernel_rfl)), (Fr.init hF735 q865 (by kernel_rfl)), (Fr.init hF735 q866 (by kernel_rfl)), trivial⟩
          clear hF735 hS720 hs859 hd860 q863 q864 q865 q866
          refine hK744 _ _ ?_
          refine wp_region_lit ?_
          refine pu hT 1 _ hF867 [2, 6, 7, 8, 30] (G := [(2, .pointer (some ⟨b3, 0, none⟩)), (6, .pointer (some ⟨b343, 0, none⟩)), (7, .pointer (some ⟨b345, 0, none⟩)), (8, .slice A675 n677 c678), (30, .slice A675 n677 c678)]) (cs := []) (by kernel_rfl) trivial ?_; clear hF867 a857; intro a870 hF871
          refine wl (h_slice hT (d := 31) (A := A675) (m := n677) (c := c678) (sz := 1) (lo := 128) (hi := n677) (by kernel_rfl) hF871 (by have := (hS861.own 3 rfl).cap; have := (Eq.refl zs573.length); have := hh680; have := hh681; have := hh682; have := hh683; omega) (by have := (hS861.own 3 rfl).cap; have := (Eq.refl zs573.length); have := hh680; have := hh681; have := hh682; have := hh683; omega) (by have := (hS861.own 3 rfl).cap; have := (Eq.refl zs573.length); have := hh680; have := hh681; have := hh682; have := hh683; first | omega | (simp [*]; done)) ?_)
          rintro a872 A868 hv869r ha874 hF873; clear ha874 hF871 a870
          have hv869 := View.trans hh679 hv869r (by have := (hS861.own 3 rfl).cap; have := (Eq.refl zs573.length); have := hh680; have := hh681; have := hh682; have := hh683; omega)
          have hF875 := hF873.pick [2, 6, 7, 8, 31] (G := [(2, .pointer (some ⟨b3, 0, none⟩)), (6, .pointer (some ⟨b343, 0, none⟩)), (7, .pointer (some ⟨b345, 0, none⟩)), (8, .slice A675 n677 c678), (31, .slice A868 (n677 - 128) (c678 - 128))]) (by kernel_rfl); clear hF873
          refine pu_end hT 1 _ hF875 [2, 6, 7, 8] (G := [(2, .pointer (some ⟨b3, 0, none⟩)), (6, .pointer (some ⟨b343, 0, none⟩)), (7, .pointer (some ⟨b345, 0, none⟩)), (8, .slice A868 (n677 - 128) (c678 - 128))]) (cs := []) (by kernel_rfl) rfl trivial ?_; clear hF875 a872; intro a876 hF877
          obtain rfl := Option.some.inj h748
          exact hK714 _ _ _ hy713 ⟨zs747, (lo676 + 128), (n677 - 128), A868, (c678 - 128), rfl, hF877.pick [2, 6, 7, 8] (by kernel_rfl), hS861.pick [0, 1, 2, 3] (by decide) rfl, hh750, hh751, hv869, (by have := (hS861.own 3 rfl).cap; have := (Eq.refl zs573.length); have := hh680; have := hh681; have := hh682; have := hh683; skip; omega), (by have := (hS861.own 3 rfl).cap; have := (Eq.refl zs573.length); have := hh680; have := hh681; have := hh682; have := hh683; skip; omega), (by have := (hS861.own 3 rfl).cap; have := (Eq.refl zs573.length); have := hh680; have := hh681; have := hh682; have := hh683; skip; omega), (by have := (hS861.own 3 rfl).cap; have := (Eq.refl zs573.length); have := hh680; have := hh681; have := hh682; have := hh683; skip; omega)⟩
      · clear h721
        have hF878 : Fr 58 a731 [(2, .pointer (some ⟨b3, 0, none⟩)), (6, .pointer (some ⟨b343, 0, none⟩)), (7, .pointer (some ⟨b345, 0, none⟩)), (8, .slice A675 n677 c678), (29, .bool false)] := hF732.pick [2, 6, 7, 8, 29] (by rw [decide_eq_false hc733]; kernel_rfl); clear hF732
        refine condF hF878 (by kernel_rfl) ?_
        refine wp_exit ?_
        obtain rfl := Option.some.inj h734
        obtain rfl : _ = xj568 := hy713
        exact ⟨zs671, rfl, hF878.pick [2, 7] (by kernel_rfl), hS720.pick [0, 2] (by decide) rfl, hh672, hh673⟩
    · skip
      clear hx569 hF394 hS393 
      rintro a879 w880 ⟨zs565, rfl, hF881, hS882, hh566, hh567⟩
      refine wp_seq_k (fun K884 hK885 => ?_)
      refine wp_region_lit ?_
      refine wl (h_alloc hT (d := 9) (T := 30) (l := vs .u8 (List.replicate 64 0)) (by kernel_rfl) hF881 hS882 ?_)
      rintro a888 w889 b886 hS890 g891 ha892 hF893; clear ha892 hF881 a879 hS882
      have hS894 : Heap w [] w889 [.blk b886 30 (vs .u8 (List.replicate 64 0)), .blk b3 30 (vs .u8 (List.replicate 64 0)), .blk b345 26 (vs .u64 zs565)] := hS890; clear hS890
      have hF895 := hF893.pick [2, 7, 9] (G := [(2, .pointer (some ⟨b3, 0, none⟩)), (7, .pointer (some ⟨b345, 0, none⟩)), (9, .pointer (some ⟨b886, 0, none⟩))]) (by kernel_rfl); clear hF893
      refine wpList_nil ?_
      refine hK885 _ _ ?_
      obtain ⟨xj2466, hx2467, h2468⟩ := bnd_some h570; clear h570
      refine seqJ (fun a W => ∃ (zs2463 : List Nat), zs2463 = xj2466 ∧ (Fr 58 a [(2, .pointer (some ⟨b3, 0, none⟩)), (9, .pointer (some ⟨b886, 0, none⟩))]) ∧ (Heap w [] W [.blk b3 30 (vs .u8 (List.replicate 64 0)), .blk b886 30 (vs .u8 zs2463)]) ∧ (zs2463.length = 64) ∧ (LB 256 zs2463)) ?_ ?_
      · skip
        refine wp_seq_k (fun K2469 hK2470 => ?_)
        refine wp_region_lit ?_
        refine wl (s_loadA hT (d := 36) (b := b345) (off := 0) (sz := 8) (l := vs .u64 zs565) (by kernel_rfl) hF895 (hS894.blk 2 rfl).cells (by simp only [List.length_append, vs_length, vi_length, List.length_cons, List.length_nil, (hh566 : zs565.length = 8)]) ?_)
        rintro a2471 ha2473 hF2472; clear ha2473 hF895 a888
        have hF2474 := hF2472.pick [2, 9, 36] (G := [(2, .pointer (some ⟨b3, 0, none⟩)), (9, .pointer (some ⟨b886, 0, none⟩)), (36, .agg (vs .u64 zs565).toArray)]) (by kernel_rfl); clear hF2472
        refine pu_end hT 1 _ hF2474 [2, 9, 36, 37] (G := [(2, .pointer (some ⟨b3, 0, none⟩)), (9, .pointer (some ⟨b886, 0, none⟩)), (36, .agg (vs .u64 zs565).toArray), (37, .int .i64 0)]) (cs := []) (by kernel_rfl) rfl trivial ?_; clear hF2474 a2471; intro a2475 hF2476
        refine hK2470 _ _ ?_
        refine wp_block ?_
        refine loopR (F_sha512_Sum_l3 zs565) xj2466 ((List.replicate 64 0), 0) hx2467 (fun s a W => ∃ (zs3227 : List Nat), ∃ (x3230 : Nat), (zs3227, x3230) = s ∧ (Fr 58 a [(2, .pointer (some ⟨b3, 0, none⟩)), (9, .pointer (some ⟨b886, 0, none⟩)), (36, .agg (vs .u64 zs565).toArray), (37, .int .i64 ((x3230 : Nat) : Int))]) ∧ (Heap w [] W [.blk b3 30 (vs .u8 (List.replicate 64 0)), .blk b886 30 (vs .u8 zs3227)]) ∧ (zs3227.length = 64) ∧ (LB 256 zs3227)) ⟨(List.replicate 64 0), 0, rfl, hF2476.pick [2, 9, 36, 37] (by kernel_rfl), hS894.pick [1, 0] (by decide) rfl, (len_rep (α := Nat) 64 0), (LB.rep (m := 256) (x := 0) (by decide) 64)⟩ ?_
        clear hF2476 hS894 hx2467
        rintro k3640 _ a3635 w3636 ⟨zs3227, x3230, rfl, hF3637, hS3638, hh3228, hh3229⟩ hit3634 K3633 hK3632
        obtain ⟨y3630, h3639, hy3631⟩ := iter_succ hit3634; clear hit3634
        unfold F_sha512_Sum_l3 at h3639; try dsimp only at h3639
        refine wp_seq_k (fun K3641 hK3642 => ?_)
        refine wp_region_lit ?_
        refine pu_end hT 1 _ hF3637 [2, 9, 36, 37, 38] (G := [(2, .pointer (some ⟨b3, 0, none⟩)), (9, .pointer (some ⟨b886, 0, none⟩)), (36, .agg (vs .u64 zs565).toArray), (37, .int .i64 ((x3230 : Nat) : Int)), (38, .bool ((decide (((x3230 : Nat) : Int) < 8))))]) (cs := []) (by kernel_rfl) rfl trivial ?_; clear hF3637 a3635; intro a3643 hF3644
        refine hK3642 _ _ ?_
        refine wp_seq_k (fun K3647 hK3648 => ?_)
        rcases (ite_some h3639 : ((((x3230 : Nat) : Int) < 8) ∧ _) ∨ (¬ (((x3230 : Nat) : Int) < 8) ∧ _)) with ⟨hc3649, h3650⟩ | ⟨hc3649, h3650⟩
        · clear h3639
          have hF3651 : Fr 58 a3643 [(2, .pointer (some ⟨b3, 0, none⟩)), (9, .pointer (some ⟨b886, 0, none⟩)), (36, .agg (vs .u64 zs565).toArray), (37, .int .i64 ((x3230 : Nat) : Int)), (38, .bool true)] := hF3644.pick [2, 9, 36, 37, 38] (by rw [decide_eq_true hc3649]; kernel_rfl); clear hF3644
          refine condT hF3651 (by kernel_rfl) ?_
          refine wp_skip ?_
          refine hK3648 _ _ ?_
          obtain ⟨xj3846, hx3847, h3848⟩ := bnd_some h3650; clear h3650
          refine seqJ (fun a W => ∃ (zs3841 : List Nat), ∃ (x3845 : Nat), (zs3841, x3845) = xj3846 ∧ (Fr 58 a [(2, .pointer (some ⟨b3, 0, none⟩)), (9, .pointer (some ⟨b886, 0, none⟩)), (10, .int .i64 ((x3230 : Nat) : Int)), (11, .int .u64 (((zs565.getD x3230 0) : Nat) : Int)), (36, .agg (vs .u64 zs565).toArray), (37, .int .i64 ((x3230 : Nat) : Int)), (41, .int .i64 ((x3845 : Nat) : Int))]) ∧ (Heap w [] W [.blk b3 30 (vs .u8 (List.replicate 64 0)), .blk b886 30 (vs .u8 zs3841)]) ∧ (zs3841.length = 64) ∧ (LB 256 zs3841) ∧ ((zs565.getD x3230 0) < 18446744073709551616)) ?_ ?_
          · skip
            refine wp_block ?_
            refine wp_seq_k (fun K3849 hK3850 => ?_)
            obtain ⟨g3852, h3851⟩ : (x3230 < 8) ∧ _ := gd_some hx3847; clear hx3847
            refine wp_region_lit ?_
            refine pu hT 1 _ hF3651 [2, 9, 36, 37, 39] (G := [(2, .pointer (some ⟨b3, 0, none⟩)), (9, .pointer (some ⟨b886, 0, none⟩)), (36, .agg (vs .u64 zs565).toArray), (37, .int .i64 ((x3230 : Nat) : Int)), (39, .int .i64 ((x3230 : Nat) : Int))]) (cs := []) (by kernel_rfl) trivial ?_; clear hF3651 a3643; intro a3853 hF3854
            refine wl (s_arrIdx hT (d := 40) (j := x3230) (m := 8) (k := .u64) (xs := zs565) (by kernel_rfl) hF3854 (by omega) (by have := hh566; omega) ?_)
            rintro a3855 ha3857 hF3856; clear ha3857 hF3854 a3853
            have hF3858 := hF3856.pick [2, 9, 36, 37, 39, 40] (G := [(2, .pointer (some ⟨b3, 0, none⟩)), (9, .pointer (some ⟨b886, 0, none⟩)), (36, .agg (vs .u64 zs565).toArray), (37, .int .i64 ((x3230 : Nat) : Int)), (39, .int .i64 ((x3230 : Nat) : Int)), (40, .int .u64 (((zs565.getD x3230 0) : Nat) : Int))]) (by kernel_rfl); clear hF3856
            refine pu_end hT 2 _ hF3858 [2, 9, 36, 37, 10, 11] (G := [(2, .pointer (some ⟨b3, 0, none⟩)), (9, .pointer (some ⟨b886, 0, none⟩)), (36, .agg (vs .u64 zs565).toArray), (37, .int .i64 ((x3230 : Nat) : Int)), (10, .int .i64 ((x3230 : Nat) : Int)), (11, .int .u64 (((zs565.getD x3230 0) : Nat) : Int))]) (cs := []) (by kernel_rfl) rfl trivial ?_; clear hF3858 a3855; intro a3859 hF3860
            refine hK3850 _ _ ?_
            refine wp_seq_k (fun K3861 hK3862 => ?_)
            refine wp_region_lit ?_
            refine pu_end hT 1 _ hF3860 [2, 9, 36, 37, 10, 11, 41] (G := [(2, .pointer (some ⟨b3, 0, none⟩)), (9, .pointer (some ⟨b886, 0, none⟩)), (36, .agg (vs .u64 zs565).toArray), (37, .int .i64 ((x3230 : Nat) : Int)), (10, .int .i64 ((x3230 : Nat) : Int)), (11, .int .u64 (((zs565.getD x3230 0) : Nat) : Int)), (41, .int .i64 0)]) (cs := []) (by kernel_rfl) rfl trivial ?_; clear hF3860 a3859; intro a3863 hF3864
            refine hK3862 _ _ ?_
            refine wp_block ?_
            refine loopR (F_sha512_Sum_l4 x3230 zs565) xj3846 (zs3227, 0) h3851 (fun s a W => ∃ (zs3942 : List Nat), ∃ (x3946 : Nat), (zs3942, x3946) = s ∧ (Fr 58 a [(2, .pointer (some ⟨b3, 0, none⟩)), (9, .pointer (some ⟨b886, 0, none⟩)), (10, .int .i64 ((x3230 : Nat) : Int)), (11, .int .u64 (((zs565.getD x3230 0) : Nat) : Int)), (36, .agg (vs .u64 zs565).toArray), (37, .int .i64 ((x3230 : Nat) : Int)), (41, .int .i64 ((x3946 : Nat) : Int))]) ∧ (Heap w [] W [.blk b3 30 (vs .u8 (List.replicate 64 0)), .blk b886 30 (vs .u8 zs3942)]) ∧ (zs3942.length = 64) ∧ (LB 256 zs3942) ∧ ((zs565.getD x3230 0) < 18446744073709551616)) ⟨zs3227, 0, rfl, hF3864.pick [2, 9, 10, 11, 36, 37, 41] (by kernel_rfl), hS3638.pick [0, 1] (by decide) rfl, hh3228, hh3229, (hh567.get (by decide) x3230)⟩ ?_
            clear hF3864 hS3638 h3851
            rintro k4001 _ a3996 w3997 ⟨zs3942, x3946, rfl, hF3998, hS3999, hh3943, hh3944, hh3945⟩ hit3995 K3994 hK3993
            obtain ⟨y3991, h4000, hy3992⟩ := iter_succ hit3995; clear hit3995
            unfold F_sha512_Sum_l4 at h4000; try dsimp only at h4000
            refine wp_seq_k (fun K4002 hK4003 => ?_)
            refine wp_region_lit ?_
            refine pu_end hT 1 _ hF3998 [2, 9, 10, 11, 36, 37, 41, 42] (G := [(2, .pointer (some ⟨b3, 0, none⟩)), (9, .pointer (some ⟨b886, 0, none⟩)), (10, .int .i64 ((x3230 : Nat) : Int)), (11, .int .u64 (((zs565.getD x3230 0) : Nat) : Int)), (36, .agg (vs .u64 zs565).toArray), (37, .int .i64 ((x3230 : Nat) : Int)), (41, .int .i64 ((x3946 : Nat) : Int)), (42, .bool ((decide (((x3946 : Nat) : Int) < 8))))]) (cs := []) (by kernel_rfl) rfl trivial ?_; clear hF3998 a3996; intro a4004 hF4005
            refine hK4003 _ _ ?_
            refine wp_seq_k (fun K4008 hK4009 => ?_)
            rcases (ite_some h4000 : ((((x3946 : Nat) : Int) < 8) ∧ _) ∨ (¬ (((x3946 : Nat) : Int) < 8) ∧ _)) with ⟨hc4010, h4011⟩ | ⟨hc4010, h4011⟩
            · clear h4000
              have hF4012 : Fr 58 a4004 [(2, .pointer (some ⟨b3, 0, none⟩)), (9, .pointer (some ⟨b886, 0, none⟩)), (10, .int .i64 ((x3230 : Nat) : Int)), (11, .int .u64 (((zs565.getD x3230 0) : Nat) : Int)), (36, .agg (vs .u64 zs565).toArray), (37, .int .i64 ((x3230 : Nat) : Int)), (41, .int .i64 ((x3946 : Nat) : Int)), (42, .bool true)] := hF4005.pick [2, 9, 10, 11, 36, 37, 41, 42] (by rw [decide_eq_true hc4010]; kernel_rfl); clear hF4005
              refine condT hF4012 (by kernel_rfl) ?_
              refine wp_skip ?_
              refine hK4009 _ _ ?_
              refine wp_seq_k (fun K4029 hK4030 => ?_)
              refine wp_block ?_
              refine wp_seq_k (fun K4031 hK4032 => ?_)
              refine wp_region_lit ?_
              refine pu_end hT 2 _ hF4012 [2, 9, 10, 11, 36, 37, 41, 12] (G := [(2, .pointer (some ⟨b3, 0, none⟩)), (9, .pointer (some ⟨b886, 0, none⟩)), (10, .int .i64 ((x3230 : Nat) : Int)), (11, .int .u64 (((zs565.getD x3230 0) : Nat) : Int)), (36, .agg (vs .u64 zs565).toArray), (37, .int .i64 ((x3230 : Nat) : Int)), (41, .int .i64 ((x3946 : Nat) : Int)), (12, .int .i64 ((x3946 : Nat) : Int))]) (cs := []) (by kernel_rfl) rfl trivial ?_; clear hF4012 a4004; intro a4033 hF4034
              refine hK4032 _ _ ?_
              obtain ⟨g4036, h4035⟩ : ((((8 * x3230) : Nat) : Int) ≤ 9223372036854775807) ∧ _ := gd_some h4011; clear h4011
              obtain ⟨g4038, h4037⟩ : (((((8 * x3230) + x3946) : Nat) : Int) ≤ 9223372036854775807) ∧ _ := gd_some h4035; clear h4035
              obtain ⟨g4040, h4039⟩ : ((((8 * x3946) : Nat) : Int) ≤ 9223372036854775807) ∧ _ := gd_some h4037; clear h4037
              obtain ⟨g4042, h4041⟩ : (-9223372036854775808 ≤ ((56 : Int) - (((8 * x3946) : Nat) : Int))) ∧ _ := gd_some h4039; clear h4039
              obtain ⟨g4044, h4043⟩ : (((56 : Int) - (((8 * x3946) : Nat) : Int)) ≤ 9223372036854775807) ∧ _ := gd_some h4041; clear h4041
              obtain ⟨g4046, h4045⟩ : ((0 : Int) ≤ ((56 : Int) - (((8 * x3946) : Nat) : Int))) ∧ _ := gd_some h4043; clear h4043
              obtain ⟨g4048, h4047⟩ : (((((8 * x3230) + x3946) : Nat) : Int) < 64) ∧ _ := gd_some h4045; clear h4045
              refine wp_region_lit ?_
              refine pu hT 8 _ hF4034 [2, 9, 10, 11, 36, 37, 41, 47, 48, 51] (G := [(2, .pointer (some ⟨b3, 0, none⟩)), (9, .pointer (some ⟨b886, 0, none⟩)), (10, .int .i64 ((x3230 : Nat) : Int)), (11, .int .u64 (((zs565.getD x3230 0) : Nat) : Int)), (36, .agg (vs .u64 zs565).toArray), (37, .int .i64 ((x3230 : Nat) : Int)), (41, .int .i64 ((x3946 : Nat) : Int)), (47, .int .i64 ((((8 * x3230) + x3946) : Nat) : Int)), (48, .int .u64 (((zs565.getD x3230 0) : Nat) : Int)), (51, .int .i64 ((56 : Int) - (((8 * x3946) : Nat) : Int)))]) (cs := [-9223372036854775808 ≤ (((8 * x3230) : Nat) : Int), (((8 * x3230) : Nat) : Int) ≤ 9223372036854775807, -9223372036854775808 ≤ ((((8 * x3230) + x3946) : Nat) : Int), ((((8 * x3230) + x3946) : Nat) : Int) ≤ 9223372036854775807, -9223372036854775808 ≤ (((8 * x3946) : Nat) : Int), (((8 * x3946) : Nat) : Int) ≤ 9223372036854775807, -9223372036854775808 ≤ ((56 : Int) - (((8 * x3946) : Nat) : Int)), ((56 : Int) - (((8 * x3946) : Nat) : Int)) ≤ 9223372036854775807]) (by kernel_rfl) (And.intro (Int.le_trans (by decide) (Int.natCast_nonneg _)) (And.intro g4036 (And.intro (by omega) (And.intro g4038 (And.intro (Int.le_trans (by decide) (Int.natCast_nonneg _)) (And.intro g4040 (And.intro g4042 (And.intro g4044 trivial)))))))) ?_; clear hF4034 a4033; intro a4049 hF4050
              refine wl (s_shiftI hT (d := 52) (op := .shr) (k := .u64) (a' := (((zs565.getD x3230 0) : Nat) : Int)) (k' := .i64) (y := ((56 : Int) - (((8 * x3946) : Nat) : Int))) (v := .int .u64 ((((zs565.getD x3230 0) / 2 ^ (((56 : Int) - (((8 * x3946) : Nat) : Int)).toNat)) : Nat) : Int)) (cs := [(zs565.getD x3230 0) < 18446744073709551616]) (by kernel_rfl) hF4050 g4046 (by kernel_rfl) (.inr rfl) (And.intro hh3945 trivial) ?_)
              rintro a4051 ha4053 hF4052; clear ha4053 hF4050 a4049
              have hF4054 := hF4052.pick [2, 9, 10, 11, 36, 37, 41, 47, 52] (G := [(2, .pointer (some ⟨b3, 0, none⟩)), (9, .pointer (some ⟨b886, 0, none⟩)), (10, .int .i64 ((x3230 : Nat) : Int)), (11, .int .u64 (((zs565.getD x3230 0) : Nat) : Int)), (36, .agg (vs .u64 zs565).toArray), (37, .int .i64 ((x3230 : Nat) : Int)), (41, .int .i64 ((x3946 : Nat) : Int)), (47, .int .i64 ((((8 * x3230) + x3946) : Nat) : Int)), (52, .int .u64 ((((zs565.getD x3230 0) / 2 ^ (((56 : Int) - (((8 * x3946) : Nat) : Int)).toNat)) : Nat) : Int))]) (by kernel_rfl); clear hF4052
              refine pu hT 2 _ hF4054 [2, 9, 10, 11, 36, 37, 41, 53, 54] (G := [(2, .pointer (some ⟨b3, 0, none⟩)), (9, .pointer (some ⟨b886, 0, none⟩)), (10, .int .i64 ((x3230 : Nat) : Int)), (11, .int .u64 (((zs565.getD x3230 0) : Nat) : Int)), (36, .agg (vs .u64 zs565).toArray), (37, .int .i64 ((x3230 : Nat) : Int)), (41, .int .i64 ((x3946 : Nat) : Int)), (53, .int .u8 (((((zs565.getD x3230 0) / 2 ^ (((56 : Int) - (((8 * x3946) : Nat) : Int)).toNat)) % 256) : Nat) : Int)), (54, .pointer (some ⟨b886, (0 + ((8 * x3230) + x3946)), none⟩))]) (cs := [0 ≤ ((((8 * x3230) + x3946) : Nat) : Int), ((((8 * x3230) + x3946) : Nat) : Int) < 64]) (by kernel_rfl) (And.intro (by omega) (And.intro g4048 trivial)) ?_; clear hF4054 a4051; intro a4055 hF4056
              refine wl (h_store hT (b := b886) (off := ((8 * x3230) + x3946)) (p := ⟨b886, (0 + ((8 * x3230) + x3946)), none⟩) (v := .int .u8 (((((zs565.getD x3230 0) / 2 ^ (((56 : Int) - (((8 * x3946) : Nat) : Int)).toNat)) % 256) : Nat) : Int)) (l' := vs .u8 (zs3942.set ((8 * x3230) + x3946) (((zs565.getD x3230 0) / 2 ^ (((56 : Int) - (((8 * x3946) : Nat) : Int)).toNat)) % 256))) (by kernel_rfl) hF4056 hS3999 1 rfl (by first | rfl | (congr 1; omega)) (by have := hh3943; simp only [zA, zS, zT, zD, zR, zC, zN, zV, zI] <;> omega) (by first | exact vs_set _ _ _ _ | exact vi_set _ _ _ | rfl) ?_)
              rintro a4057 w4058 ha4061 hF4062 hS4059 g4060; clear ha4061 hF4056 a4055 hS3999
              have hS4063 : Heap w [] w4058 [.blk b3 30 (vs .u8 (List.replicate 64 0)), .blk b886 30 (vs .u8 (zs3942.set ((8 * x3230) + x3946) (((zs565.getD x3230 0) / 2 ^ (((56 : Int) - (((8 * x3946) : Nat) : Int)).toNat)) % 256)))] := hS4059; clear hS4059
              have hF4064 := hF4062.pick [2, 9, 10, 11, 36, 37, 41] (G := [(2, .pointer (some ⟨b3, 0, none⟩)), (9, .pointer (some ⟨b886, 0, none⟩)), (10, .int .i64 ((x3230 : Nat) : Int)), (11, .int .u64 (((zs565.getD x3230 0) : Nat) : Int)), (36, .agg (vs .u64 zs565).toArray), (37, .int .i64 ((x3230 : Nat) : Int)), (41, .int .i64 ((x3946 : Nat) : Int))]) (by kernel_rfl); clear hF4062
              refine wpList_nil ?_
              refine hK4030 _ _ ?_
              obtain ⟨g4066, h4065⟩ : ((((x3946 + 1) : Nat) : Int) ≤ 9223372036854775807) ∧ _ := gd_some h4047; clear h4047
              refine wp_region_lit ?_
              refine pu_end hT 2 _ hF4064 [2, 9, 10, 11, 36, 37, 41] (G := [(2, .pointer (some ⟨b3, 0, none⟩)), (9, .pointer (some ⟨b886, 0, none⟩)), (10, .int .i64 ((x3230 : Nat) : Int)), (11, .int .u64 (((zs565.getD x3230 0) : Nat) : Int)), (36, .agg (vs .u64 zs565).toArray), (37, .int .i64 ((x3230 : Nat) : Int)), (41, .int .i64 (((x3946 + 1) : Nat) : Int))]) (cs := [-9223372036854775808 ≤ (((x3946 + 1) : Nat) : Int), (((x3946 + 1) : Nat) : Int) ≤ 9223372036854775807]) (by kernel_rfl) rfl (And.intro (by omega) (And.intro g4066 trivial)) ?_; clear hF4064 a4057; intro a4067 hF4068
              obtain rfl := Option.some.inj h4065
              exact hK3993 _ _ _ hy3992 ⟨(zs3942.set ((8 * x3230) + x3946) (((zs565.getD x3230 0) / 2 ^ (((56 : Int) - (((8 * x3946) : Nat) : Int)).toNat)) % 256)), (x3946 + 1), rfl, hF4068.pick [2, 9, 10, 11, 36, 37, 41] (by kernel_rfl), hS4063.pick [0, 1] (by decide) rfl, (len_set hh3943 ((8 * x3230) + x3946) (((zs565.getD x3230 0) / 2 ^ (((56 : Int) - (((8 * x3946) : Nat) : Int)).toNat)) % 256)), (hh3944.set (Nat.mod_lt _ (by decide)) ((8 * x3230) + x3946)), hh3945⟩
            · clear h4000
              have hF4069 : Fr 58 a4004 [(2, .pointer (some ⟨b3, 0, none⟩)), (9, .pointer (some ⟨b886, 0, none⟩)), (10, .int .i64 ((x3230 : Nat) : Int)), (11, .int .u64 (((zs565.getD x3230 0) : Nat) : Int)), (36, .agg (vs .u64 zs565).toArray), (37, .int .i64 ((x3230 : Nat) : Int)), (41, .int .i64 ((x3946 : Nat) : Int)), (42, .bool false)] := hF4005.pick [2, 9, 10, 11, 36, 37, 41, 42] (by rw [decide_eq_false hc4010]; kernel_rfl); clear hF4005
              refine condF hF4069 (by kernel_rfl) ?_
              refine wp_exit ?_
              obtain rfl := Option.some.inj h4011
              obtain rfl : _ = xj3846 := hy3992
              exact ⟨zs3942, x3946, rfl, hF4069.pick [2, 9, 10, 11, 36, 37, 41] (by kernel_rfl), hS3999.pick [0, 1] (by decide) rfl, hh3943, hh3944, hh3945⟩
          · skip
            clear hx3847 hF3651 hS3638 
            rintro a4070 w4071 ⟨zs3841, x3845, rfl, hF4072, hS4073, hh3842, hh3843, hh3844⟩
            obtain ⟨g4076, h4075⟩ : ((((x3230 + 1) : Nat) : Int) ≤ 9223372036854775807) ∧ _ := gd_some h3848; clear h3848
            refine wp_region_lit ?_
            refine pu_end hT 2 _ hF4072 [2, 9, 10, 11, 36, 41, 37] (G := [(2, .pointer (some ⟨b3, 0, none⟩)), (9, .pointer (some ⟨b886, 0, none⟩)), (10, .int .i64 ((x3230 : Nat) : Int)), (11, .int .u64 (((zs565.getD x3230 0) : Nat) : Int)), (36, .agg (vs .u64 zs565).toArray), (41, .int .i64 ((x3845 : Nat) : Int)), (37, .int .i64 (((x3230 + 1) : Nat) : Int))]) (cs := [-9223372036854775808 ≤ (((x3230 + 1) : Nat) : Int), (((x3230 + 1) : Nat) : Int) ≤ 9223372036854775807]) (by kernel_rfl) rfl (And.intro (by omega) (And.intro g4076 trivial)) ?_; clear hF4072 a4070; intro a4077 hF4078
            obtain rfl := Option.some.inj h4075
            exact hK3632 _ _ _ hy3631 ⟨zs3841, (x3230 + 1), rfl, hF4078.pick [2, 9, 36, 37] (by kernel_rfl), hS4073.pick [0, 1] (by decide) rfl, hh3842, hh3843⟩
        · clear h3639
          have hF4079 : Fr 58 a3643 [(2, .pointer (some ⟨b3, 0, none⟩)), (9, .pointer (some ⟨b886, 0, none⟩)), (36, .agg (vs .u64 zs565).toArray), (37, .int .i64 ((x3230 : Nat) : Int)), (38, .bool false)] := hF3644.pick [2, 9, 36, 37, 38] (by rw [decide_eq_false hc3649]; kernel_rfl); clear hF3644
          refine condF hF4079 (by kernel_rfl) ?_
          refine wp_exit ?_
          obtain rfl := Option.some.inj h3650
          obtain rfl : _ = xj2466 := hy3631
          exact ⟨zs3227, rfl, hF4079.pick [2, 9] (by kernel_rfl), hS3638.pick [0, 1] (by decide) rfl, hh3228, hh3229⟩
      · skip
        clear hx2467 hF895 hS894 
        rintro a4080 w4081 ⟨zs2463, rfl, hF4082, hS4083, hh2464, hh2465⟩
        refine wp_seq_k (fun K4085 hK4086 => ?_)
        refine wp_region_lit ?_
        refine wl (s_loadA hT (d := 57) (b := b886) (off := 0) (sz := 64) (l := vs .u8 zs2463) (by kernel_rfl) hF4082 (hS4083.blk 1 rfl).cells (by simp only [List.length_append, vs_length, vi_length, List.length_cons, List.length_nil, (hh2464 : zs2463.length = 64)]) ?_)
        rintro a4087 ha4089 hF4088; clear ha4089 hF4082 a4080
        have hF4090 := hF4088.pick [2, 57] (G := [(2, .pointer (some ⟨b3, 0, none⟩)), (57, .agg (vs .u8 zs2463).toArray)]) (by kernel_rfl); clear hF4088
        refine wl (h_storeV hT (b := b3) (l2 := vs .u8 zs2463) (sz := 64) (by kernel_rfl) hF4090 hS4083 0 rfl (by simp only [List.length_append, vs_length, vi_length, List.length_cons, List.length_nil, (hh2464 : zs2463.length = 64)]) (by simp only [List.length_append, vs_length, vi_length, List.length_cons, List.length_nil, (hh2464 : zs2463.length = 64), ((len_rep (α := Nat) 64 0) : (List.replicate 64 0).length = 64)]) (vs_one) ?_)
        rintro a4091 w4092 ha4095 hF4096 hS4093 g4094; clear ha4095 hF4090 a4087 hS4083
        have hS4097 : Heap w [] w4092 [.blk b3 30 (vs .u8 zs2463), .blk b886 30 (vs .u8 zs2463)] := hS4093; clear hS4093
        have hF4098 := hF4096.pick [2] (G := [(2, .pointer (some ⟨b3, 0, none⟩))]) (by kernel_rfl); clear hF4096
        refine wpList_nil ?_
        refine hK4086 _ _ ?_
        refine wp_ret ?_
        obtain rfl := Option.some.inj h2468
        refine retR1 (fn := Try.f20) (by first | exact .inl rfl | exact .inr rfl) hF4098 rfl (resC hT (t := 2) (ty := 30) (b := b3) (by kernel_rfl) (i := tr30) (by kernel_rfl) rfl (hS4097.blk 0 rfl) (show _ = 64 from by simp only [List.length_append, vs_length, vi_length, List.length_cons, List.length_nil, (hh2464 : zs2463.length = 64)])) ?_
        exact ⟨rfl, hh2464, hh2465, hS4097.pick [] (by decide) rfl⟩

noncomputable def F_casematelaw14_awake : Option Bool := bnd (F_sha512_Sum [[97, 98, 99]]) fun (zs12 : List Nat) => bnd (F_sha512_Start) fun (zs69 : List Nat) => bnd (F_sha512_Rounds) fun (zs102 : List Nat) => if (((zs12.getD 0 0) : Nat) : Int) = 221 then (if (((zs12.getD 1 0) : Nat) : Int) = 175 then (if (((zs12.getD 63 0) : Nat) : Int) = 159 then (if (((zs69.getD 0 0) : Nat) : Int) = 7640891576956012808 then (some ((decide ((((zs102.getD 0 0) : Nat) : Int) = 4794697086780616226)))) else (some false)) else (some false)) else (some false)) else (some false)
set_option maxHeartbeats 4000000 in
theorem W_casematelaw14_awake (w : World) (r : Bool) (h : F_casematelaw14_awake = some r) :
    Calls Try.prog 15 [].toArray w (Ret fun v w' => v = .bool (r) ∧ Heap w [] w' []) := by
  unfold F_casematelaw14_awake at h
  refine enter Try.func15 rfl (n := 33) Try.ntmps15 (by simp) ?_
  intro a hF
  have hS := Heap.init w
  refine wp_seq_k (fun K1 hK2 => ?_)
  refine wp_region_lit ?_
  refine pu_end hT 1 _ hF [] (G := []) (cs := []) (by kernel_rfl) rfl trivial ?_; clear hF a; intro a3 hF4
  refine hK2 _ _ ?_
  refine wp_seq_k (fun K5 hK6 => ?_)
  obtain ⟨zs12, hr14, h13⟩ := bnd_some h; clear h; replace hr14 : F_sha512_Sum [[97, 98, 99]] = some (zs12) := hr14
  refine wp_region_lit ?_
  refine wl (h_lit hT (d := 4) (T := 5) (l := vs .u8 [97, 98, 99]) (by kernel_rfl) hF4 hS (by simp [maxLen]) ?_)
  rintro a19 w20 A7 hS21 g22 ha23 hF24; clear ha23 hF4 a3 hS
  have hS25 : Heap w [] w20 [.row 5 1 A7 3 3 (vs .u8 [97, 98, 99])] := hS21; clear hS21
  have hF26 := hF24.pick [4] (G := [(4, .slice A7 3 3)]) (by kernel_rfl); clear hF24
  refine wl (h_mark hT (d := 5) (by kernel_rfl) hF26 hS25 0 rfl (by decide) ?_)
  rintro a27 w28 hS29 g30 hcap9 ha31 hF32; clear ha31 hF26 a19 hS25
  have hS33 : Heap w [] w28 [.ro A7 (vs .u8 [97, 98, 99])] := hS29; clear hS29
  have hF34 := hF32.pick [5] (G := [(5, .slice A7 3 3)]) (by kernel_rfl); clear hF32
  refine wl (h_lit hT (d := 6) (T := 29) (l := [.slice A7 3 3]) (by kernel_rfl) hF34 hS33 (by simp [maxLen]) ?_)
  rintro a35 w36 A10 hS37 g38 ha39 hF40; clear ha39 hF34 a27 hS33
  have hS41 : Heap w [] w36 [.row 29 1 A10 1 1 ([.slice A7 3 3]), .ro A7 (vs .u8 [97, 98, 99])] := hS37; clear hS37
  have hF42 := hF40.pick [6] (G := [(6, .slice A10 1 1)]) (by kernel_rfl); clear hF40
  refine wl (s_call (d := 7) (f := 20) (l := [.slice A10 1 1]) (by kernel_rfl) hF42 cl20 (W_sha512_Sum A10 1 [(A7, 3)] [[97, 98, 99]] _ (hS41.own 0 rfl).rd (by simp) ⟨⟨(hS41.ro 1 rfl), (LB.cons (by decide) (LB.cons (by decide) (LB.cons (by decide) LB.nil))), (by have := (show ([97, 98, 99] : List Nat).length = 3 from rfl); have := hcap9; skip; have := (show ([97, 98, 99] : List Nat).length = 3 from rfl); omega)⟩, trivial⟩ zs12 hr14) ?_)
  rintro a43 w44 v45 ⟨rfl, hh15, hh16, hC46⟩ ha47 hF48; clear ha47 hF42 a35
  have hS49 : Heap w [] w44 [.row 29 1 A10 1 1 ([.slice A7 3 3]), .ro A7 (vs .u8 [97, 98, 99])] := Heap.call hS41 hC46; clear hS41
  have hF50 := hF48.pick [7] (G := [(7, .agg (vs .u8 zs12).toArray)]) (by kernel_rfl); clear hF48
  refine wl (h_alloc hT (d := 1) (T := 30) (l := vs .u8 (List.replicate 64 0)) (by kernel_rfl) hF50 hS49 ?_)
  rintro a51 w52 b17 hS53 g54 ha55 hF56; clear ha55 hF50 a43 hS49
  have hS57 : Heap w [] w52 [.blk b17 30 (vs .u8 (List.replicate 64 0)), .row 29 1 A10 1 1 ([.slice A7 3 3]), .ro A7 (vs .u8 [97, 98, 99])] := hS53; clear hS53
  have hF58 := hF56.pick [7, 1] (G := [(7, .agg (vs .u8 zs12).toArray), (1, .pointer (some ⟨b17, 0, none⟩))]) (by kernel_rfl); clear hF56
  refine wl (h_storeV hT (b := b17) (l2 := vs .u8 zs12) (sz := 64) (by kernel_rfl) hF58 hS57 0 rfl (by simp only [List.length_append, vs_length, vi_length, List.length_cons, List.length_nil, (hh15 : zs12.length = 64)]) (by simp only [List.length_append, vs_length, vi_length, List.length_cons, List.length_nil, (hh15 : zs12.length = 64), ((len_rep (α := Nat) 64 0) : (List.replicate 64 0).length = 64)]) (vs_one) ?_)
  rintro a59 w60 ha63 hF64 hS61 g62; clear ha63 hF58 a51 hS57
  have hS65 : Heap w [] w60 [.blk b17 30 (vs .u8 zs12), .row 29 1 A10 1 1 ([.slice A7 3 3]), .ro A7 (vs .u8 [97, 98, 99])] := hS61; clear hS61
  have hF66 := hF64.pick [1] (G := [(1, .pointer (some ⟨b17, 0, none⟩))]) (by kernel_rfl); clear hF64
  refine wpList_nil ?_
  refine hK6 _ _ ?_
  refine wp_seq_k (fun K67 hK68 => ?_)
  obtain ⟨zs69, hr71, h70⟩ := bnd_some h13; clear h13; replace hr71 : F_sha512_Start = some (zs69) := hr71
  refine wp_region_lit ?_
  refine wl (s_call (d := 8) (f := 18) (l := []) (by kernel_rfl) hF66 cl18 (W_sha512_Start _ zs69 hr71) ?_)
  rintro a76 w77 v78 ⟨rfl, hh72, hh73, hC79⟩ ha80 hF81; clear ha80 hF66 a59
  have hS82 : Heap w [] w77 [.blk b17 30 (vs .u8 zs12), .row 29 1 A10 1 1 ([.slice A7 3 3]), .ro A7 (vs .u8 [97, 98, 99])] := Heap.call hS65 hC79; clear hS65
  have hF83 := hF81.pick [1, 8] (G := [(1, .pointer (some ⟨b17, 0, none⟩)), (8, .agg (vs .u64 zs69).toArray)]) (by kernel_rfl); clear hF81
  refine wl (h_alloc hT (d := 2) (T := 26) (l := vs .u64 (List.replicate 8 0)) (by kernel_rfl) hF83 hS82 ?_)
  rintro a84 w85 b74 hS86 g87 ha88 hF89; clear ha88 hF83 a76 hS82
  have hS90 : Heap w [] w85 [.blk b74 26 (vs .u64 (List.replicate 8 0)), .blk b17 30 (vs .u8 zs12), .row 29 1 A10 1 1 ([.slice A7 3 3]), .ro A7 (vs .u8 [97, 98, 99])] := hS86; clear hS86
  have hF91 := hF89.pick [1, 8, 2] (G := [(1, .pointer (some ⟨b17, 0, none⟩)), (8, .agg (vs .u64 zs69).toArray), (2, .pointer (some ⟨b74, 0, none⟩))]) (by kernel_rfl); clear hF89
  refine wl (h_storeV hT (b := b74) (l2 := vs .u64 zs69) (sz := 8) (by kernel_rfl) hF91 hS90 0 rfl (by simp only [List.length_append, vs_length, vi_length, List.length_cons, List.length_nil, (hh72 : zs69.length = 8)]) (by simp only [List.length_append, vs_length, vi_length, List.length_cons, List.length_nil, (hh72 : zs69.length = 8), ((len_rep (α := Nat) 8 0) : (List.replicate 8 0).length = 8)]) (vs_one) ?_)
  rintro a92 w93 ha96 hF97 hS94 g95; clear ha96 hF91 a84 hS90
  have hS98 : Heap w [] w93 [.blk b74 26 (vs .u64 zs69), .blk b17 30 (vs .u8 zs12), .row 29 1 A10 1 1 ([.slice A7 3 3]), .ro A7 (vs .u8 [97, 98, 99])] := hS94; clear hS94
  have hF99 := hF97.pick [1, 2] (G := [(1, .pointer (some ⟨b17, 0, none⟩)), (2, .pointer (some ⟨b74, 0, none⟩))]) (by kernel_rfl); clear hF97
  refine wpList_nil ?_
  refine hK68 _ _ ?_
  refine wp_seq_k (fun K100 hK101 => ?_)
  obtain ⟨zs102, hr104, h103⟩ := bnd_some h70; clear h70; replace hr104 : F_sha512_Rounds = some (zs102) := hr104
  refine wp_region_lit ?_
  refine wl (s_call (d := 9) (f := 16) (l := []) (by kernel_rfl) hF99 cl16 (W_sha512_Rounds _ zs102 hr104) ?_)
  rintro a109 w110 v111 ⟨rfl, hh105, hh106, hC112⟩ ha113 hF114; clear ha113 hF99 a92
  have hS115 : Heap w [] w110 [.blk b74 26 (vs .u64 zs69), .blk b17 30 (vs .u8 zs12), .row 29 1 A10 1 1 ([.slice A7 3 3]), .ro A7 (vs .u8 [97, 98, 99])] := Heap.call hS98 hC112; clear hS98
  have hF116 := hF114.pick [1, 2, 9] (G := [(1, .pointer (some ⟨b17, 0, none⟩)), (2, .pointer (some ⟨b74, 0, none⟩)), (9, .agg (vs .u64 zs102).toArray)]) (by kernel_rfl); clear hF114
  refine wl (h_alloc hT (d := 3) (T := 24) (l := vs .u64 (List.replicate 80 0)) (by kernel_rfl) hF116 hS115 ?_)
  rintro a117 w118 b107 hS119 g120 ha121 hF122; clear ha121 hF116 a109 hS115
  have hS123 : Heap w [] w118 [.blk b107 24 (vs .u64 (List.replicate 80 0)), .blk b74 26 (vs .u64 zs69), .blk b17 30 (vs .u8 zs12), .row 29 1 A10 1 1 ([.slice A7 3 3]), .ro A7 (vs .u8 [97, 98, 99])] := hS119; clear hS119
  have hF124 := hF122.pick [1, 2, 9, 3] (G := [(1, .pointer (some ⟨b17, 0, none⟩)), (2, .pointer (some ⟨b74, 0, none⟩)), (9, .agg (vs .u64 zs102).toArray), (3, .pointer (some ⟨b107, 0, none⟩))]) (by kernel_rfl); clear hF122
  refine wl (h_storeV hT (b := b107) (l2 := vs .u64 zs102) (sz := 80) (by kernel_rfl) hF124 hS123 0 rfl (by simp only [List.length_append, vs_length, vi_length, List.length_cons, List.length_nil, (hh105 : zs102.length = 80)]) (by simp only [List.length_append, vs_length, vi_length, List.length_cons, List.length_nil, (hh105 : zs102.length = 80), ((len_rep (α := Nat) 80 0) : (List.replicate 80 0).length = 80)]) (vs_one) ?_)
  rintro a125 w126 ha129 hF130 hS127 g128; clear ha129 hF124 a117 hS123
  have hS131 : Heap w [] w126 [.blk b107 24 (vs .u64 zs102), .blk b74 26 (vs .u64 zs69), .blk b17 30 (vs .u8 zs12), .row 29 1 A10 1 1 ([.slice A7 3 3]), .ro A7 (vs .u8 [97, 98, 99])] := hS127; clear hS127
  have hF132 := hF130.pick [1, 2, 3] (G := [(1, .pointer (some ⟨b17, 0, none⟩)), (2, .pointer (some ⟨b74, 0, none⟩)), (3, .pointer (some ⟨b107, 0, none⟩))]) (by kernel_rfl); clear hF130
  refine wpList_nil ?_
  refine hK101 _ _ ?_
  refine wp_seq_k (fun K133 hK134 => ?_)
  rcases (ite_some h103 : (((((zs12.getD 0 0) : Nat) : Int) = 221) ∧ _) ∨ (¬ ((((zs12.getD 0 0) : Nat) : Int) = 221) ∧ _)) with ⟨hc135, h136⟩ | ⟨hc135, h136⟩
  · clear h103
    rcases (ite_some h136 : (((((zs12.getD 1 0) : Nat) : Int) = 175) ∧ _) ∨ (¬ ((((zs12.getD 1 0) : Nat) : Int) = 175) ∧ _)) with ⟨hc137, h138⟩ | ⟨hc137, h138⟩
    · clear h136
      rcases (ite_some h138 : (((((zs12.getD 63 0) : Nat) : Int) = 159) ∧ _) ∨ (¬ ((((zs12.getD 63 0) : Nat) : Int) = 159) ∧ _)) with ⟨hc139, h140⟩ | ⟨hc139, h140⟩
      · clear h138
        rcases (ite_some h140 : (((((zs69.getD 0 0) : Nat) : Int) = 7640891576956012808) ∧ _) ∨ (¬ ((((zs69.getD 0 0) : Nat) : Int) = 7640891576956012808) ∧ _)) with ⟨hc141, h142⟩ | ⟨hc141, h142⟩
        · clear h140
          refine wp_region_lit ?_
          refine pu hT 1 _ hF132 [1, 2, 3, 10] (G := [(1, .pointer (some ⟨b17, 0, none⟩)), (2, .pointer (some ⟨b74, 0, none⟩)), (3, .pointer (some ⟨b107, 0, none⟩)), (10, .pointer (some ⟨b17, 0, none⟩))]) (cs := [0 ≤ (0 : Int), (0 : Int) < 64]) (by kernel_rfl) (And.intro (by omega) (And.intro (by decide) trivial)) ?_; clear hF132 a125; intro a143 hF144
          refine wl (s_load hT (d := 11) (A := ⟨b17, 0, none⟩) (v := .int .u8 (((zs12.getD 0 0) : Nat) : Int)) (by kernel_rfl) hF144 (Cells.at (hS131.blk 2 rfl).cells (vs_get .u8 zs12 (i := 0) (by have := hh15; omega)) (by first | rfl | omega)) ?_)
          rintro a145 ha147 hF146; clear ha147 hF144 a143
          have hF148 := hF146.pick [1, 2, 3, 11] (G := [(1, .pointer (some ⟨b17, 0, none⟩)), (2, .pointer (some ⟨b74, 0, none⟩)), (3, .pointer (some ⟨b107, 0, none⟩)), (11, .int .u8 (((zs12.getD 0 0) : Nat) : Int))]) (by kernel_rfl); clear hF146
          refine pu hT 2 _ hF148 [1, 2, 3, 13] (G := [(1, .pointer (some ⟨b17, 0, none⟩)), (2, .pointer (some ⟨b74, 0, none⟩)), (3, .pointer (some ⟨b107, 0, none⟩)), (13, .bool ((decide ((((zs12.getD 0 0) : Nat) : Int) = 221))))]) (cs := []) (by kernel_rfl) trivial ?_; clear hF148 a145; intro a149 hF150
          have hF151 : Fr 33 a149 [(1, .pointer (some ⟨b17, 0, none⟩)), (2, .pointer (some ⟨b74, 0, none⟩)), (3, .pointer (some ⟨b107, 0, none⟩)), (13, .bool true)] := hF150.pick [1, 2, 3, 13] (by rw [decide_eq_true hc135]; kernel_rfl); clear hF150
          refine pu hT 1 _ hF151 [1, 2, 3, 13, 14] (G := [(1, .pointer (some ⟨b17, 0, none⟩)), (2, .pointer (some ⟨b74, 0, none⟩)), (3, .pointer (some ⟨b107, 0, none⟩)), (13, .bool true), (14, .pointer (some ⟨b17, 1, none⟩))]) (cs := [0 ≤ (1 : Int), (1 : Int) < 64]) (by kernel_rfl) (And.intro (by omega) (And.intro (by decide) trivial)) ?_; clear hF151 a149; intro a152 hF153
          refine wl (One.bare hF153 (by kernel_rfl) (s_load hT (d := 15) (A := ⟨b17, 1, none⟩) (v := .int .u8 (((zs12.getD 1 0) : Nat) : Int)) (by kernel_rfl) hF153 (Cells.at (hS131.blk 2 rfl).cells (vs_get .u8 zs12 (i := 1) (by have := hh15; omega)) (by first | rfl | omega)) ?_))
          rintro a154 ha156 hF155; clear ha156 hF153 a152
          have hF157 := hF155.pick [1, 2, 3, 13, 15] (G := [(1, .pointer (some ⟨b17, 0, none⟩)), (2, .pointer (some ⟨b74, 0, none⟩)), (3, .pointer (some ⟨b107, 0, none⟩)), (13, .bool true), (15, .int .u8 (((zs12.getD 1 0) : Nat) : Int))]) (by kernel_rfl); clear hF155
          refine pu hT 3 _ hF157 [1, 2, 3, 18] (G := [(1, .pointer (some ⟨b17, 0, none⟩)), (2, .pointer (some ⟨b74, 0, none⟩)), (3, .pointer (some ⟨b107, 0, none⟩)), (18, .bool ((decide ((((zs12.getD 1 0) : Nat) : Int) = 175))))]) (cs := []) (by kernel_rfl) trivial ?_; clear hF157 a154; intro a158 hF159
          have hF160 : Fr 33 a158 [(1, .pointer (some ⟨b17, 0, none⟩)), (2, .pointer (some ⟨b74, 0, none⟩)), (3, .pointer (some ⟨b107, 0, none⟩)), (18, .bool true)] := hF159.pick [1, 2, 3, 18] (by rw [decide_eq_true hc137]; kernel_rfl); clear hF159
          refine pu hT 1 _ hF160 [2, 3, 18, 19] (G := [(2, .pointer (some ⟨b74, 0, none⟩)), (3, .pointer (some ⟨b107, 0, none⟩)), (18, .bool true), (19, .pointer (some ⟨b17, 63, none⟩))]) (cs := [0 ≤ (63 : Int), (63 : Int) < 64]) (by kernel_rfl) (And.intro (by omega) (And.intro (by decide) trivial)) ?_; clear hF160 a158; intro a161 hF162
          refine wl (One.bare hF162 (by kernel_rfl) (s_load hT (d := 20) (A := ⟨b17, 63, none⟩) (v := .int .u8 (((zs12.getD 63 0) : Nat) : Int)) (by kernel_rfl) hF162 (Cells.at (hS131.blk 2 rfl).cells (vs_get .u8 zs12 (i := 63) (by have := hh15; omega)) (by first | rfl | omega)) ?_))
          rintro a163 ha165 hF164; clear ha165 hF162 a161
          have hF166 := hF164.pick [2, 3, 18, 20] (G := [(2, .pointer (some ⟨b74, 0, none⟩)), (3, .pointer (some ⟨b107, 0, none⟩)), (18, .bool true), (20, .int .u8 (((zs12.getD 63 0) : Nat) : Int))]) (by kernel_rfl); clear hF164
          refine pu hT 3 _ hF166 [2, 3, 23] (G := [(2, .pointer (some ⟨b74, 0, none⟩)), (3, .pointer (some ⟨b107, 0, none⟩)), (23, .bool ((decide ((((zs12.getD 63 0) : Nat) : Int) = 159))))]) (cs := []) (by kernel_rfl) trivial ?_; clear hF166 a163; intro a167 hF168
          have hF169 : Fr 33 a167 [(2, .pointer (some ⟨b74, 0, none⟩)), (3, .pointer (some ⟨b107, 0, none⟩)), (23, .bool true)] := hF168.pick [2, 3, 23] (by rw [decide_eq_true hc139]; kernel_rfl); clear hF168
          refine pu hT 1 _ hF169 [3, 23, 24] (G := [(3, .pointer (some ⟨b107, 0, none⟩)), (23, .bool true), (24, .pointer (some ⟨b74, 0, none⟩))]) (cs := [0 ≤ (0 : Int), (0 : Int) < 8]) (by kernel_rfl) (And.intro (by omega) (And.intro (by decide) trivial)) ?_; clear hF169 a167; intro a170 hF171
          refine wl (One.bare hF171 (by kernel_rfl) (s_load hT (d := 25) (A := ⟨b74, 0, none⟩) (v := .int .u64 (((zs69.getD 0 0) : Nat) : Int)) (by kernel_rfl) hF171 (Cells.at (hS131.blk 1 rfl).cells (vs_get .u64 zs69 (i := 0) (by have := hh72; omega)) (by first | rfl | omega)) ?_))
          rintro a172 ha174 hF173; clear ha174 hF171 a170
          have hF175 := hF173.pick [3, 23, 25] (G := [(3, .pointer (some ⟨b107, 0, none⟩)), (23, .bool true), (25, .int .u64 (((zs69.getD 0 0) : Nat) : Int))]) (by kernel_rfl); clear hF173
          refine pu hT 3 _ hF175 [3, 28] (G := [(3, .pointer (some ⟨b107, 0, none⟩)), (28, .bool ((decide ((((zs69.getD 0 0) : Nat) : Int) = 7640891576956012808))))]) (cs := []) (by kernel_rfl) trivial ?_; clear hF175 a172; intro a176 hF177
          have hF178 : Fr 33 a176 [(3, .pointer (some ⟨b107, 0, none⟩)), (28, .bool true)] := hF177.pick [3, 28] (by rw [decide_eq_true hc141]; kernel_rfl); clear hF177
          refine pu hT 1 _ hF178 [28, 29] (G := [(28, .bool true), (29, .pointer (some ⟨b107, 0, none⟩))]) (cs := [0 ≤ (0 : Int), (0 : Int) < 80]) (by kernel_rfl) (And.intro (by omega) (And.intro (by decide) trivial)) ?_; clear hF178 a176; intro a179 hF180
          refine wl (One.bare hF180 (by kernel_rfl) (s_load hT (d := 30) (A := ⟨b107, 0, none⟩) (v := .int .u64 (((zs102.getD 0 0) : Nat) : Int)) (by kernel_rfl) hF180 (Cells.at (hS131.blk 0 rfl).cells (vs_get .u64 zs102 (i := 0) (by have := hh105; omega)) (by first | rfl | omega)) ?_))
          rintro a181 ha183 hF182; clear ha183 hF180 a179
          have hF184 := hF182.pick [28, 30] (G := [(28, .bool true), (30, .int .u64 (((zs102.getD 0 0) : Nat) : Int))]) (by kernel_rfl); clear hF182
          refine pu_end hT 3 _ hF184 [0] (G := [(0, .bool ((decide ((((zs102.getD 0 0) : Nat) : Int) = 4794697086780616226))))]) (cs := []) (by kernel_rfl) rfl trivial ?_; clear hF184 a181; intro a185 hF186
          refine hK134 _ _ ?_
          refine wp_ret ?_
          obtain rfl := Option.some.inj h142
          refine ret1 hF186 rfl (v := .bool ((decide ((((zs102.getD 0 0) : Nat) : Int) = 4794697086780616226)))) (by kernel_rfl) ?_
          exact ⟨rfl, hS131.pick [] (by decide) rfl⟩
        · clear h140
          refine wp_region_lit ?_
          refine pu hT 1 _ hF132 [1, 2, 3, 10] (G := [(1, .pointer (some ⟨b17, 0, none⟩)), (2, .pointer (some ⟨b74, 0, none⟩)), (3, .pointer (some ⟨b107, 0, none⟩)), (10, .pointer (some ⟨b17, 0, none⟩))]) (cs := [0 ≤ (0 : Int), (0 : Int) < 64]) (by kernel_rfl) (And.intro (by omega) (And.intro (by decide) trivial)) ?_; clear hF132 a125; intro a187 hF188
          refine wl (s_load hT (d := 11) (A := ⟨b17, 0, none⟩) (v := .int .u8 (((zs12.getD 0 0) : Nat) : Int)) (by kernel_rfl) hF188 (Cells.at (hS131.blk 2 rfl).cells (vs_get .u8 zs12 (i := 0) (by have := hh15; omega)) (by first | rfl | omega)) ?_)
          rintro a189 ha191 hF190; clear ha191 hF188 a187
          have hF192 := hF190.pick [1, 2, 3, 11] (G := [(1, .pointer (some ⟨b17, 0, none⟩)), (2, .pointer (some ⟨b74, 0, none⟩)), (3, .pointer (some ⟨b107, 0, none⟩)), (11, .int .u8 (((zs12.getD 0 0) : Nat) : Int))]) (by kernel_rfl); clear hF190
          refine pu hT 2 _ hF192 [1, 2, 3, 13] (G := [(1, .pointer (some ⟨b17, 0, none⟩)), (2, .pointer (some ⟨b74, 0, none⟩)), (3, .pointer (some ⟨b107, 0, none⟩)), (13, .bool ((decide ((((zs12.getD 0 0) : Nat) : Int) = 221))))]) (cs := []) (by kernel_rfl) trivial ?_; clear hF192 a189; intro a193 hF194
          have hF195 : Fr 33 a193 [(1, .pointer (some ⟨b17, 0, none⟩)), (2, .pointer (some ⟨b74, 0, none⟩)), (3, .pointer (some ⟨b107, 0, none⟩)), (13, .bool true)] := hF194.pick [1, 2, 3, 13] (by rw [decide_eq_true hc135]; kernel_rfl); clear hF194
          refine pu hT 1 _ hF195 [1, 2, 3, 13, 14] (G := [(1, .pointer (some ⟨b17, 0, none⟩)), (2, .pointer (some ⟨b74, 0, none⟩)), (3, .pointer (some ⟨b107, 0, none⟩)), (13, .bool true), (14, .pointer (some ⟨b17, 1, none⟩))]) (cs := [0 ≤ (1 : Int), (1 : Int) < 64]) (by kernel_rfl) (And.intro (by omega) (And.intro (by decide) trivial)) ?_; clear hF195 a193; intro a196 hF197
          refine wl (One.bare hF197 (by kernel_rfl) (s_load hT (d := 15) (A := ⟨b17, 1, none⟩) (v := .int .u8 (((zs12.getD 1 0) : Nat) : Int)) (by kernel_rfl) hF197 (Cells.at (hS131.blk 2 rfl).cells (vs_get .u8 zs12 (i := 1) (by have := hh15; omega)) (by first | rfl | omega)) ?_))
          rintro a198 ha200 hF199; clear ha200 hF197 a196
          have hF201 := hF199.pick [1, 2, 3, 13, 15] (G := [(1, .pointer (some ⟨b17, 0, none⟩)), (2, .pointer (some ⟨b74, 0, none⟩)), (3, .pointer (some ⟨b107, 0, none⟩)), (13, .bool true), (15, .int .u8 (((zs12.getD 1 0) : Nat) : Int))]) (by kernel_rfl); clear hF199
          refine pu hT 3 _ hF201 [1, 2, 3, 18] (G := [(1, .pointer (some ⟨b17, 0, none⟩)), (2, .pointer (some ⟨b74, 0, none⟩)), (3, .pointer (some ⟨b107, 0, none⟩)), (18, .bool ((decide ((((zs12.getD 1 0) : Nat) : Int) = 175))))]) (cs := []) (by kernel_rfl) trivial ?_; clear hF201 a198; intro a202 hF203
          have hF204 : Fr 33 a202 [(1, .pointer (some ⟨b17, 0, none⟩)), (2, .pointer (some ⟨b74, 0, none⟩)), (3, .pointer (some ⟨b107, 0, none⟩)), (18, .bool true)] := hF203.pick [1, 2, 3, 18] (by rw [decide_eq_true hc137]; kernel_rfl); clear hF203
          refine pu hT 1 _ hF204 [2, 3, 18, 19] (G := [(2, .pointer (some ⟨b74, 0, none⟩)), (3, .pointer (some ⟨b107, 0, none⟩)), (18, .bool true), (19, .pointer (some ⟨b17, 63, none⟩))]) (cs := [0 ≤ (63 : Int), (63 : Int) < 64]) (by kernel_rfl) (And.intro (by omega) (And.intro (by decide) trivial)) ?_; clear hF204 a202; intro a205 hF206
          refine wl (One.bare hF206 (by kernel_rfl) (s_load hT (d := 20) (A := ⟨b17, 63, none⟩) (v := .int .u8 (((zs12.getD 63 0) : Nat) : Int)) (by kernel_rfl) hF206 (Cells.at (hS131.blk 2 rfl).cells (vs_get .u8 zs12 (i := 63) (by have := hh15; omega)) (by first | rfl | omega)) ?_))
          rintro a207 ha209 hF208; clear ha209 hF206 a205
          have hF210 := hF208.pick [2, 3, 18, 20] (G := [(2, .pointer (some ⟨b74, 0, none⟩)), (3, .pointer (some ⟨b107, 0, none⟩)), (18, .bool true), (20, .int .u8 (((zs12.getD 63 0) : Nat) : Int))]) (by kernel_rfl); clear hF208
          refine pu hT 3 _ hF210 [2, 3, 23] (G := [(2, .pointer (some ⟨b74, 0, none⟩)), (3, .pointer (some ⟨b107, 0, none⟩)), (23, .bool ((decide ((((zs12.getD 63 0) : Nat) : Int) = 159))))]) (cs := []) (by kernel_rfl) trivial ?_; clear hF210 a207; intro a211 hF212
          have hF213 : Fr 33 a211 [(2, .pointer (some ⟨b74, 0, none⟩)), (3, .pointer (some ⟨b107, 0, none⟩)), (23, .bool true)] := hF212.pick [2, 3, 23] (by rw [decide_eq_true hc139]; kernel_rfl); clear hF212
          refine pu hT 1 _ hF213 [3, 23, 24] (G := [(3, .pointer (some ⟨b107, 0, none⟩)), (23, .bool true), (24, .pointer (some ⟨b74, 0, none⟩))]) (cs := [0 ≤ (0 : Int), (0 : Int) < 8]) (by kernel_rfl) (And.intro (by omega) (And.intro (by decide) trivial)) ?_; clear hF213 a211; intro a214 hF215
          refine wl (One.bare hF215 (by kernel_rfl) (s_load hT (d := 25) (A := ⟨b74, 0, none⟩) (v := .int .u64 (((zs69.getD 0 0) : Nat) : Int)) (by kernel_rfl) hF215 (Cells.at (hS131.blk 1 rfl).cells (vs_get .u64 zs69 (i := 0) (by have := hh72; omega)) (by first | rfl | omega)) ?_))
          rintro a216 ha218 hF217; clear ha218 hF215 a214
          have hF219 := hF217.pick [3, 23, 25] (G := [(3, .pointer (some ⟨b107, 0, none⟩)), (23, .bool true), (25, .int .u64 (((zs69.getD 0 0) : Nat) : Int))]) (by kernel_rfl); clear hF217
          refine pu hT 3 _ hF219 [3, 28] (G := [(3, .pointer (some ⟨b107, 0, none⟩)), (28, .bool ((decide ((((zs69.getD 0 0) : Nat) : Int) = 7640891576956012808))))]) (cs := []) (by kernel_rfl) trivial ?_; clear hF219 a216; intro a220 hF221
          have hF222 : Fr 33 a220 [(3, .pointer (some ⟨b107, 0, none⟩)), (28, .bool false)] := hF221.pick [3, 28] (by rw [decide_eq_false hc141]; kernel_rfl); clear hF221
          refine pu_end hT 5 _ hF222 [0] (G := [(0, .bool false)]) (cs := []) (by kernel_rfl) rfl trivial ?_; clear hF222 a220; intro a223 hF224
          refine hK134 _ _ ?_
          refine wp_ret ?_
          obtain rfl := Option.some.inj h142
          refine ret1 hF224 rfl (v := .bool false) (by kernel_rfl) ?_
          exact ⟨rfl, hS131.pick [] (by decide) rfl⟩
      · clear h138
        refine wp_region_lit ?_
        refine pu hT 1 _ hF132 [1, 2, 3, 10] (G := [(1, .pointer (some ⟨b17, 0, none⟩)), (2, .pointer (some ⟨b74, 0, none⟩)), (3, .pointer (some ⟨b107, 0, none⟩)), (10, .pointer (some ⟨b17, 0, none⟩))]) (cs := [0 ≤ (0 : Int), (0 : Int) < 64]) (by kernel_rfl) (And.intro (by omega) (And.intro (by decide) trivial)) ?_; clear hF132 a125; intro a225 hF226
        refine wl (s_load hT (d := 11) (A := ⟨b17, 0, none⟩) (v := .int .u8 (((zs12.getD 0 0) : Nat) : Int)) (by kernel_rfl) hF226 (Cells.at (hS131.blk 2 rfl).cells (vs_get .u8 zs12 (i := 0) (by have := hh15; omega)) (by first | rfl | omega)) ?_)
        rintro a227 ha229 hF228; clear ha229 hF226 a225
        have hF230 := hF228.pick [1, 2, 3, 11] (G := [(1, .pointer (some ⟨b17, 0, none⟩)), (2, .pointer (some ⟨b74, 0, none⟩)), (3, .pointer (some ⟨b107, 0, none⟩)), (11, .int .u8 (((zs12.getD 0 0) : Nat) : Int))]) (by kernel_rfl); clear hF228
        refine pu hT 2 _ hF230 [1, 2, 3, 13] (G := [(1, .pointer (some ⟨b17, 0, none⟩)), (2, .pointer (some ⟨b74, 0, none⟩)), (3, .pointer (some ⟨b107, 0, none⟩)), (13, .bool ((decide ((((zs12.getD 0 0) : Nat) : Int) = 221))))]) (cs := []) (by kernel_rfl) trivial ?_; clear hF230 a227; intro a231 hF232
        have hF233 : Fr 33 a231 [(1, .pointer (some ⟨b17, 0, none⟩)), (2, .pointer (some ⟨b74, 0, none⟩)), (3, .pointer (some ⟨b107, 0, none⟩)), (13, .bool true)] := hF232.pick [1, 2, 3, 13] (by rw [decide_eq_true hc135]; kernel_rfl); clear hF232
        refine pu hT 1 _ hF233 [1, 2, 3, 13, 14] (G := [(1, .pointer (some ⟨b17, 0, none⟩)), (2, .pointer (some ⟨b74, 0, none⟩)), (3, .pointer (some ⟨b107, 0, none⟩)), (13, .bool true), (14, .pointer (some ⟨b17, 1, none⟩))]) (cs := [0 ≤ (1 : Int), (1 : Int) < 64]) (by kernel_rfl) (And.intro (by omega) (And.intro (by decide) trivial)) ?_; clear hF233 a231; intro a234 hF235
        refine wl (One.bare hF235 (by kernel_rfl) (s_load hT (d := 15) (A := ⟨b17, 1, none⟩) (v := .int .u8 (((zs12.getD 1 0) : Nat) : Int)) (by kernel_rfl) hF235 (Cells.at (hS131.blk 2 rfl).cells (vs_get .u8 zs12 (i := 1) (by have := hh15; omega)) (by first | rfl | omega)) ?_))
        rintro a236 ha238 hF237; clear ha238 hF235 a234
        have hF239 := hF237.pick [1, 2, 3, 13, 15] (G := [(1, .pointer (some ⟨b17, 0, none⟩)), (2, .pointer (some ⟨b74, 0, none⟩)), (3, .pointer (some ⟨b107, 0, none⟩)), (13, .bool true), (15, .int .u8 (((zs12.getD 1 0) : Nat) : Int))]) (by kernel_rfl); clear hF237
        refine pu hT 3 _ hF239 [1, 2, 3, 18] (G := [(1, .pointer (some ⟨b17, 0, none⟩)), (2, .pointer (some ⟨b74, 0, none⟩)), (3, .pointer (some ⟨b107, 0, none⟩)), (18, .bool ((decide ((((zs12.getD 1 0) : Nat) : Int) = 175))))]) (cs := []) (by kernel_rfl) trivial ?_; clear hF239 a236; intro a240 hF241
        have hF242 : Fr 33 a240 [(1, .pointer (some ⟨b17, 0, none⟩)), (2, .pointer (some ⟨b74, 0, none⟩)), (3, .pointer (some ⟨b107, 0, none⟩)), (18, .bool true)] := hF241.pick [1, 2, 3, 18] (by rw [decide_eq_true hc137]; kernel_rfl); clear hF241
        refine pu hT 1 _ hF242 [2, 3, 18, 19] (G := [(2, .pointer (some ⟨b74, 0, none⟩)), (3, .pointer (some ⟨b107, 0, none⟩)), (18, .bool true), (19, .pointer (some ⟨b17, 63, none⟩))]) (cs := [0 ≤ (63 : Int), (63 : Int) < 64]) (by kernel_rfl) (And.intro (by omega) (And.intro (by decide) trivial)) ?_; clear hF242 a240; intro a243 hF244
        refine wl (One.bare hF244 (by kernel_rfl) (s_load hT (d := 20) (A := ⟨b17, 63, none⟩) (v := .int .u8 (((zs12.getD 63 0) : Nat) : Int)) (by kernel_rfl) hF244 (Cells.at (hS131.blk 2 rfl).cells (vs_get .u8 zs12 (i := 63) (by have := hh15; omega)) (by first | rfl | omega)) ?_))
        rintro a245 ha247 hF246; clear ha247 hF244 a243
        have hF248 := hF246.pick [2, 3, 18, 20] (G := [(2, .pointer (some ⟨b74, 0, none⟩)), (3, .pointer (some ⟨b107, 0, none⟩)), (18, .bool true), (20, .int .u8 (((zs12.getD 63 0) : Nat) : Int))]) (by kernel_rfl); clear hF246
        refine pu hT 3 _ hF248 [2, 3, 23] (G := [(2, .pointer (some ⟨b74, 0, none⟩)), (3, .pointer (some ⟨b107, 0, none⟩)), (23, .bool ((decide ((((zs12.getD 63 0) : Nat) : Int) = 159))))]) (cs := []) (by kernel_rfl) trivial ?_; clear hF248 a245; intro a249 hF250
        have hF251 : Fr 33 a249 [(2, .pointer (some ⟨b74, 0, none⟩)), (3, .pointer (some ⟨b107, 0, none⟩)), (23, .bool false)] := hF250.pick [2, 3, 23] (by rw [decide_eq_false hc139]; kernel_rfl); clear hF250
        refine pu_end hT 10 _ hF251 [0] (G := [(0, .bool false)]) (cs := []) (by kernel_rfl) rfl trivial ?_; clear hF251 a249; intro a252 hF253
        refine hK134 _ _ ?_
        refine wp_ret ?_
        obtain rfl := Option.some.inj h140
        refine ret1 hF253 rfl (v := .bool false) (by kernel_rfl) ?_
        exact ⟨rfl, hS131.pick [] (by decide) rfl⟩
    · clear h136
      refine wp_region_lit ?_
      refine pu hT 1 _ hF132 [1, 2, 3, 10] (G := [(1, .pointer (some ⟨b17, 0, none⟩)), (2, .pointer (some ⟨b74, 0, none⟩)), (3, .pointer (some ⟨b107, 0, none⟩)), (10, .pointer (some ⟨b17, 0, none⟩))]) (cs := [0 ≤ (0 : Int), (0 : Int) < 64]) (by kernel_rfl) (And.intro (by omega) (And.intro (by decide) trivial)) ?_; clear hF132 a125; intro a254 hF255
      refine wl (s_load hT (d := 11) (A := ⟨b17, 0, none⟩) (v := .int .u8 (((zs12.getD 0 0) : Nat) : Int)) (by kernel_rfl) hF255 (Cells.at (hS131.blk 2 rfl).cells (vs_get .u8 zs12 (i := 0) (by have := hh15; omega)) (by first | rfl | omega)) ?_)
      rintro a256 ha258 hF257; clear ha258 hF255 a254
      have hF259 := hF257.pick [1, 2, 3, 11] (G := [(1, .pointer (some ⟨b17, 0, none⟩)), (2, .pointer (some ⟨b74, 0, none⟩)), (3, .pointer (some ⟨b107, 0, none⟩)), (11, .int .u8 (((zs12.getD 0 0) : Nat) : Int))]) (by kernel_rfl); clear hF257
      refine pu hT 2 _ hF259 [1, 2, 3, 13] (G := [(1, .pointer (some ⟨b17, 0, none⟩)), (2, .pointer (some ⟨b74, 0, none⟩)), (3, .pointer (some ⟨b107, 0, none⟩)), (13, .bool ((decide ((((zs12.getD 0 0) : Nat) : Int) = 221))))]) (cs := []) (by kernel_rfl) trivial ?_; clear hF259 a256; intro a260 hF261
      have hF262 : Fr 33 a260 [(1, .pointer (some ⟨b17, 0, none⟩)), (2, .pointer (some ⟨b74, 0, none⟩)), (3, .pointer (some ⟨b107, 0, none⟩)), (13, .bool true)] := hF261.pick [1, 2, 3, 13] (by rw [decide_eq_true hc135]; kernel_rfl); clear hF261
      refine pu hT 1 _ hF262 [1, 2, 3, 13, 14] (G := [(1, .pointer (some ⟨b17, 0, none⟩)), (2, .pointer (some ⟨b74, 0, none⟩)), (3, .pointer (some ⟨b107, 0, none⟩)), (13, .bool true), (14, .pointer (some ⟨b17, 1, none⟩))]) (cs := [0 ≤ (1 : Int), (1 : Int) < 64]) (by kernel_rfl) (And.intro (by omega) (And.intro (by decide) trivial)) ?_; clear hF262 a260; intro a263 hF264
      refine wl (One.bare hF264 (by kernel_rfl) (s_load hT (d := 15) (A := ⟨b17, 1, none⟩) (v := .int .u8 (((zs12.getD 1 0) : Nat) : Int)) (by kernel_rfl) hF264 (Cells.at (hS131.blk 2 rfl).cells (vs_get .u8 zs12 (i := 1) (by have := hh15; omega)) (by first | rfl | omega)) ?_))
      rintro a265 ha267 hF266; clear ha267 hF264 a263
      have hF268 := hF266.pick [1, 2, 3, 13, 15] (G := [(1, .pointer (some ⟨b17, 0, none⟩)), (2, .pointer (some ⟨b74, 0, none⟩)), (3, .pointer (some ⟨b107, 0, none⟩)), (13, .bool true), (15, .int .u8 (((zs12.getD 1 0) : Nat) : Int))]) (by kernel_rfl); clear hF266
      refine pu hT 3 _ hF268 [1, 2, 3, 18] (G := [(1, .pointer (some ⟨b17, 0, none⟩)), (2, .pointer (some ⟨b74, 0, none⟩)), (3, .pointer (some ⟨b107, 0, none⟩)), (18, .bool ((decide ((((zs12.getD 1 0) : Nat) : Int) = 175))))]) (cs := []) (by kernel_rfl) trivial ?_; clear hF268 a265; intro a269 hF270
      have hF271 : Fr 33 a269 [(1, .pointer (some ⟨b17, 0, none⟩)), (2, .pointer (some ⟨b74, 0, none⟩)), (3, .pointer (some ⟨b107, 0, none⟩)), (18, .bool false)] := hF270.pick [1, 2, 3, 18] (by rw [decide_eq_false hc137]; kernel_rfl); clear hF270
      refine pu_end hT 15 _ hF271 [0] (G := [(0, .bool false)]) (cs := []) (by kernel_rfl) rfl trivial ?_; clear hF271 a269; intro a272 hF273
      refine hK134 _ _ ?_
      refine wp_ret ?_
      obtain rfl := Option.some.inj h138
      refine ret1 hF273 rfl (v := .bool false) (by kernel_rfl) ?_
      exact ⟨rfl, hS131.pick [] (by decide) rfl⟩
  · clear h103
    refine wp_region_lit ?_
    refine pu hT 1 _ hF132 [1, 2, 3, 10] (G := [(1, .pointer (some ⟨b17, 0, none⟩)), (2, .pointer (some ⟨b74, 0, none⟩)), (3, .pointer (some ⟨b107, 0, none⟩)), (10, .pointer (some ⟨b17, 0, none⟩))]) (cs := [0 ≤ (0 : Int), (0 : Int) < 64]) (by kernel_rfl) (And.intro (by omega) (And.intro (by decide) trivial)) ?_; clear hF132 a125; intro a274 hF275
    refine wl (s_load hT (d := 11) (A := ⟨b17, 0, none⟩) (v := .int .u8 (((zs12.getD 0 0) : Nat) : Int)) (by kernel_rfl) hF275 (Cells.at (hS131.blk 2 rfl).cells (vs_get .u8 zs12 (i := 0) (by have := hh15; omega)) (by first | rfl | omega)) ?_)
    rintro a276 ha278 hF277; clear ha278 hF275 a274
    have hF279 := hF277.pick [1, 2, 3, 11] (G := [(1, .pointer (some ⟨b17, 0, none⟩)), (2, .pointer (some ⟨b74, 0, none⟩)), (3, .pointer (some ⟨b107, 0, none⟩)), (11, .int .u8 (((zs12.getD 0 0) : Nat) : Int))]) (by kernel_rfl); clear hF277
    refine pu hT 2 _ hF279 [1, 2, 3, 13] (G := [(1, .pointer (some ⟨b17, 0, none⟩)), (2, .pointer (some ⟨b74, 0, none⟩)), (3, .pointer (some ⟨b107, 0, none⟩)), (13, .bool ((decide ((((zs12.getD 0 0) : Nat) : Int) = 221))))]) (cs := []) (by kernel_rfl) trivial ?_; clear hF279 a276; intro a280 hF281
    have hF282 : Fr 33 a280 [(1, .pointer (some ⟨b17, 0, none⟩)), (2, .pointer (some ⟨b74, 0, none⟩)), (3, .pointer (some ⟨b107, 0, none⟩)), (13, .bool false)] := hF281.pick [1, 2, 3, 13] (by rw [decide_eq_false hc135]; kernel_rfl); clear hF281
    refine pu_end hT 20 _ hF282 [0] (G := [(0, .bool false)]) (cs := []) (by kernel_rfl) rfl trivial ?_; clear hF282 a280; intro a283 hF284
    refine hK134 _ _ ?_
    refine wp_ret ?_
    obtain rfl := Option.some.inj h136
    refine ret1 hF284 rfl (v := .bool false) (by kernel_rfl) ?_
    exact ⟨rfl, hS131.pick [] (by decide) rfl⟩

end Go.Proofs.Ytddphjmcoolinaa
