/- Walks of functions, printed by auto.py. -/
import Derived.Test.YtddphjmcoolinaaVf
set_option linter.unusedVariables false
set_option linter.unusedSimpArgs false
set_option maxRecDepth 100000
namespace Go.Proofs.Ytddphjmcoolinaa
open Go.Proofs Go.RowKit
noncomputable def F_casemateref14_Sum_l1 (zs15 : List Nat) (zs36 : List Nat) : (List Nat × Nat) → Option ((List Nat × Nat) ⊕ (List Nat)) := fun (zs365, x368) => if ((x368 : Nat) : Int) < ((zs15.length : Nat) : Int) then (gd ((((x368 + 128) : Nat) : Int) ≤ 9223372036854775807) (gd (x368 ≤ (x368 + 128)) (gd ((x368 + 128) ≤ zs15.length) (bnd (F_casemateref14_Block zs36 zs365 ((zs15.drop x368).take ((x368 + 128) - x368))) fun (zs454 : List Nat) => some (.inl (zs454, (x368 + 128))))))) else (some (.inr zs365))
noncomputable def F_casemateref14_Sum_l2 (zs275 : List Nat) : (List Nat × Nat) → Option ((List Nat × Nat) ⊕ (List Nat)) := fun (zs904, x907) => if ((x907 : Nat) : Int) < 64 then (gd (((x907 : Nat) : Int) ≤ 9223372036854775807) (gd ((((x907 / 8) : Nat) : Int) < 8) (gd ((((8 * (x907 % 8)) : Nat) : Int) ≤ 9223372036854775807) (gd (-9223372036854775808 ≤ ((56 : Int) - (((8 * (x907 % 8)) : Nat) : Int))) (gd (((56 : Int) - (((8 * (x907 % 8)) : Nat) : Int)) ≤ 9223372036854775807) (gd ((((x907 + 1) : Nat) : Int) ≤ 9223372036854775807) (some (.inl ((zs904.set x907 (((zs275.getD (x907 / 8) 0) / 2 ^ ((((56 : Int) - (((8 * (x907 % 8)) : Nat) : Int)) % 18446744073709551616).toNat)) % 256)), (x907 + 1)))))))))) else (some (.inr zs904))
noncomputable def F_casemateref14_Sum (xs0 : List Nat) : Option (List Nat) := bnd (F_casemateref14_Pad xs0) fun (zs15 : List Nat) => bnd (F_casemateref14_Rounds) fun (zs36 : List Nat) => bnd (F_casemateref14_Start) fun (zs69 : List Nat) => bnd (run (F_casemateref14_Sum_l1 zs15 zs36) (zs69, 0) : Option (List Nat)) (fun (zs275 : List Nat) => bnd (run (F_casemateref14_Sum_l2 zs275) ((List.replicate 64 0), 0) : Option (List Nat)) (fun (zs823 : List Nat) => some zs823))
set_option maxHeartbeats 4000000 in
theorem W_casemateref14_Sum (pA0 : Option Addr) (pc0 : Nat) (xs0 : List Nat) (w : World) (pR0 : Rd w pA0 (vs .u8 xs0)) (pc_0 : xs0.length ≤ pc0) (pb0 : LB 256 xs0) (r : List Nat) (h : F_casemateref14_Sum xs0 = some r) :
    Calls Try.prog 22 [.slice pA0 xs0.length pc0].toArray w (Ret fun v w' => v = .agg (vs .u8 r).toArray ∧ r.length = 64 ∧ LB 256 r ∧ Heap w [] w' []) := by
  unfold F_casemateref14_Sum at h
  refine enter Try.func22 rfl (n := 45) Try.ntmps22 (by simp) ?_
  intro a hF
  have hS := Heap.init w
  refine wp_seq_k (fun K1 hK2 => ?_)
  refine wp_region_lit ?_
  refine wl (h_alloc hT (d := 2) (T := 30) (l := vs .u8 (List.replicate 64 0)) (by kernel_rfl) hF hS ?_)
  rintro a5 w6 b3 hS7 g8 ha9 hF10; clear ha9 hF a hS
  have hS11 : Heap w [] w6 [.blk b3 30 (vs .u8 (List.replicate 64 0))] := hS7; clear hS7
  have hF12 := hF10.pick [0, 2] (G := [(0, .slice pA0 xs0.length pc0), (2, .pointer (some ⟨b3, 0, none⟩))]) (by kernel_rfl); clear hF10
  refine wpList_nil ?_
  refine hK2 _ _ ?_
  refine wp_seq_k (fun K13 hK14 => ?_)
  obtain ⟨zs15, hr17, h16⟩ := bnd_some h; clear h; replace hr17 : F_casemateref14_Pad xs0 = some (zs15) := hr17
  refine wp_region_lit ?_
  refine pu hT 1 _ hF12 [2, 9] (G := [(2, .pointer (some ⟨b3, 0, none⟩)), (9, .slice pA0 xs0.length pc0)]) (cs := []) (by kernel_rfl) trivial ?_; clear hF12 a5; intro a22 hF23
  refine wl (s_call (d := 10) (f := 23) (l := [.slice pA0 xs0.length pc0]) (by kernel_rfl) hF23 cl23 (W_casemateref14_Pad pA0 pc0 xs0 _ (hS11.rd0 pR0) (by have := pc_0; have := (Eq.refl xs0.length); skip; have := (Eq.refl xs0.length); first | omega | (simp only [zA, zS, zT, zD, zR, zC, zN, zV, zI] <;> omega) | (simp only [zA, zS, zT, zD, zR, zC, zN, zV, zI] at * <;> omega)) pb0 zs15 hr17) ?_)
  rintro a24 w25 v26 ⟨A18, c19, rfl, hh20, hC27⟩ ha28 hF29; clear ha28 hF23 a22
  have hS30 : Heap w [] w25 [.row 5 1 A18 zs15.length c19 (vs .u8 zs15), .blk b3 30 (vs .u8 (List.replicate 64 0))] := Heap.call hS11 hC27; clear hS11
  have hF31 := hF29.pick [2, 10] (G := [(2, .pointer (some ⟨b3, 0, none⟩)), (10, .slice A18 zs15.length c19)]) (by kernel_rfl); clear hF29
  refine pu_end hT 1 _ hF31 [2, 3] (G := [(2, .pointer (some ⟨b3, 0, none⟩)), (3, .slice A18 zs15.length c19)]) (cs := []) (by kernel_rfl) rfl trivial ?_; clear hF31 a24; intro a32 hF33
  refine hK14 _ _ ?_
  refine wp_seq_k (fun K34 hK35 => ?_)
  obtain ⟨zs36, hr38, h37⟩ := bnd_some h16; clear h16; replace hr38 : F_casemateref14_Rounds = some (zs36) := hr38
  refine wp_region_lit ?_
  refine wl (s_call (d := 11) (f := 17) (l := []) (by kernel_rfl) hF33 cl17 (W_casemateref14_Rounds _ zs36 hr38) ?_)
  rintro a43 w44 v45 ⟨rfl, hh39, hh40, hC46⟩ ha47 hF48; clear ha47 hF33 a32
  have hS49 : Heap w [] w44 [.row 5 1 A18 zs15.length c19 (vs .u8 zs15), .blk b3 30 (vs .u8 (List.replicate 64 0))] := Heap.call hS30 hC46; clear hS30
  have hF50 := hF48.pick [2, 3, 11] (G := [(2, .pointer (some ⟨b3, 0, none⟩)), (3, .slice A18 zs15.length c19), (11, .agg (vs .u64 zs36).toArray)]) (by kernel_rfl); clear hF48
  refine wl (h_alloc hT (d := 4) (T := 24) (l := vs .u64 (List.replicate 80 0)) (by kernel_rfl) hF50 hS49 ?_)
  rintro a51 w52 b41 hS53 g54 ha55 hF56; clear ha55 hF50 a43 hS49
  have hS57 : Heap w [] w52 [.blk b41 24 (vs .u64 (List.replicate 80 0)), .row 5 1 A18 zs15.length c19 (vs .u8 zs15), .blk b3 30 (vs .u8 (List.replicate 64 0))] := hS53; clear hS53
  have hF58 := hF56.pick [2, 3, 11, 4] (G := [(2, .pointer (some ⟨b3, 0, none⟩)), (3, .slice A18 zs15.length c19), (11, .agg (vs .u64 zs36).toArray), (4, .pointer (some ⟨b41, 0, none⟩))]) (by kernel_rfl); clear hF56
  refine wl (h_storeV hT (b := b41) (l2 := vs .u64 zs36) (sz := 80) (by kernel_rfl) hF58 hS57 0 rfl (by simp only [List.length_append, vs_length, vi_length, List.length_cons, List.length_nil, (hh39 : zs36.length = 80)]) (by simp only [List.length_append, vs_length, vi_length, List.length_cons, List.length_nil, (hh39 : zs36.length = 80), ((len_rep (α := Nat) 80 0) : (List.replicate 80 0).length = 80)]) (vs_one) ?_)
  rintro a59 w60 ha63 hF64 hS61 g62; clear ha63 hF58 a51 hS57
  have hS65 : Heap w [] w60 [.blk b41 24 (vs .u64 zs36), .row 5 1 A18 zs15.length c19 (vs .u8 zs15), .blk b3 30 (vs .u8 (List.replicate 64 0))] := hS61; clear hS61
  have hF66 := hF64.pick [2, 3, 4] (G := [(2, .pointer (some ⟨b3, 0, none⟩)), (3, .slice A18 zs15.length c19), (4, .pointer (some ⟨b41, 0, none⟩))]) (by kernel_rfl); clear hF64
  refine wpList_nil ?_
  refine hK35 _ _ ?_
  refine wp_seq_k (fun K67 hK68 => ?_)
  obtain ⟨zs69, hr71, h70⟩ := bnd_some h37; clear h37; replace hr71 : F_casemateref14_Start = some (zs69) := hr71
  refine wp_region_lit ?_
  refine wl (s_call (d := 12) (f := 19) (l := []) (by kernel_rfl) hF66 cl19 (W_casemateref14_Start _ zs69 hr71) ?_)
  rintro a76 w77 v78 ⟨rfl, hh72, hh73, hC79⟩ ha80 hF81; clear ha80 hF66 a59
  have hS82 : Heap w [] w77 [.blk b41 24 (vs .u64 zs36), .row 5 1 A18 zs15.length c19 (vs .u8 zs15), .blk b3 30 (vs .u8 (List.replicate 64 0))] := Heap.call hS65 hC79; clear hS65
  have hF83 := hF81.pick [2, 3, 4, 12] (G := [(2, .pointer (some ⟨b3, 0, none⟩)), (3, .slice A18 zs15.length c19), (4, .pointer (some ⟨b41, 0, none⟩)), (12, .agg (vs .u64 zs69).toArray)]) (by kernel_rfl); clear hF81
  refine wl (h_alloc hT (d := 5) (T := 26) (l := vs .u64 (List.replicate 8 0)) (by kernel_rfl) hF83 hS82 ?_)
  rintro a84 w85 b74 hS86 g87 ha88 hF89; clear ha88 hF83 a76 hS82
  have hS90 : Heap w [] w85 [.blk b74 26 (vs .u64 (List.replicate 8 0)), .blk b41 24 (vs .u64 zs36), .row 5 1 A18 zs15.length c19 (vs .u8 zs15), .blk b3 30 (vs .u8 (List.replicate 64 0))] := hS86; clear hS86
  have hF91 := hF89.pick [2, 3, 4, 12, 5] (G := [(2, .pointer (some ⟨b3, 0, none⟩)), (3, .slice A18 zs15.length c19), (4, .pointer (some ⟨b41, 0, none⟩)), (12, .agg (vs .u64 zs69).toArray), (5, .pointer (some ⟨b74, 0, none⟩))]) (by kernel_rfl); clear hF89
  refine wl (h_storeV hT (b := b74) (l2 := vs .u64 zs69) (sz := 8) (by kernel_rfl) hF91 hS90 0 rfl (by simp only [List.length_append, vs_length, vi_length, List.length_cons, List.length_nil, (hh72 : zs69.length = 8)]) (by simp only [List.length_append, vs_length, vi_length, List.length_cons, List.length_nil, (hh72 : zs69.length = 8), ((len_rep (α := Nat) 8 0) : (List.replicate 8 0).length = 8)]) (vs_one) ?_)
  rintro a92 w93 ha96 hF97 hS94 g95; clear ha96 hF91 a84 hS90
  have hS98 : Heap w [] w93 [.blk b74 26 (vs .u64 zs69), .blk b41 24 (vs .u64 zs36), .row 5 1 A18 zs15.length c19 (vs .u8 zs15), .blk b3 30 (vs .u8 (List.replicate 64 0))] := hS94; clear hS94
  have hF99 := hF97.pick [2, 3, 4, 5] (G := [(2, .pointer (some ⟨b3, 0, none⟩)), (3, .slice A18 zs15.length c19), (4, .pointer (some ⟨b41, 0, none⟩)), (5, .pointer (some ⟨b74, 0, none⟩))]) (by kernel_rfl); clear hF97
  refine wpList_nil ?_
  refine hK68 _ _ ?_
  obtain ⟨xj278, hx279, h280⟩ := bnd_some h70; clear h70
  refine seqJ (fun a W => ∃ (zs275 : List Nat), zs275 = xj278 ∧ (Fr 45 a [(2, .pointer (some ⟨b3, 0, none⟩)), (5, .pointer (some ⟨b74, 0, none⟩))]) ∧ (Heap w [] W [.blk b3 30 (vs .u8 (List.replicate 64 0)), .blk b74 26 (vs .u64 zs275)]) ∧ (zs275.length = 8) ∧ (LB 18446744073709551616 zs275)) ?_ ?_
  · skip
    refine wp_seq_k (fun K281 hK282 => ?_)
    refine wp_region_lit ?_
    refine pu_end hT 1 _ hF99 [2, 3, 4, 5, 6] (G := [(2, .pointer (some ⟨b3, 0, none⟩)), (3, .slice A18 zs15.length c19), (4, .pointer (some ⟨b41, 0, none⟩)), (5, .pointer (some ⟨b74, 0, none⟩)), (6, .int .i64 0)]) (cs := []) (by kernel_rfl) rfl trivial ?_; clear hF99 a92; intro a283 hF284
    refine hK282 _ _ ?_
    refine wp_block ?_
    refine loopR (F_casemateref14_Sum_l1 zs15 zs36) xj278 (zs69, 0) hx279 (fun s a W => ∃ (zs365 : List Nat), ∃ (x368 : Nat), (zs365, x368) = s ∧ (Fr 45 a [(2, .pointer (some ⟨b3, 0, none⟩)), (3, .slice A18 zs15.length c19), (4, .pointer (some ⟨b41, 0, none⟩)), (5, .pointer (some ⟨b74, 0, none⟩)), (6, .int .i64 ((x368 : Nat) : Int))]) ∧ (Heap w [] W [.blk b3 30 (vs .u8 (List.replicate 64 0)), .row 5 1 A18 zs15.length c19 (vs .u8 zs15), .blk b41 24 (vs .u64 zs36), .blk b74 26 (vs .u64 zs365)]) ∧ (zs365.length = 8) ∧ (LB 18446744073709551616 zs365)) ⟨zs69, 0, rfl, hF284.pick [2, 3, 4, 5, 6] (by kernel_rfl), hS98.pick [3, 2, 1, 0] (by decide) rfl, hh72, hh73⟩ ?_
    clear hF284 hS98 hx279
    rintro k417 _ a412 w413 ⟨zs365, x368, rfl, hF414, hS415, hh366, hh367⟩ hit411 K410 hK409
    obtain ⟨y407, h416, hy408⟩ := iter_succ hit411; clear hit411
    unfold F_casemateref14_Sum_l1 at h416; try dsimp only at h416
    refine wp_seq_k (fun K422 hK423 => ?_)
    refine wp_seq_k (fun K424 hK425 => ?_)
    refine wp_region_lit ?_
    refine pu_end hT 4 _ hF414 [2, 3, 4, 5, 6, 16] (G := [(2, .pointer (some ⟨b3, 0, none⟩)), (3, .slice A18 zs15.length c19), (4, .pointer (some ⟨b41, 0, none⟩)), (5, .pointer (some ⟨b74, 0, none⟩)), (6, .int .i64 ((x368 : Nat) : Int)), (16, .bool ((decide (((x368 : Nat) : Int) < ((zs15.length : Nat) : Int)))))]) (cs := []) (by kernel_rfl) rfl trivial ?_; clear hF414 a412; intro a426 hF427
    refine hK425 _ _ ?_
    rcases (ite_some h416 : ((((x368 : Nat) : Int) < ((zs15.length : Nat) : Int)) ∧ _) ∨ (¬ (((x368 : Nat) : Int) < ((zs15.length : Nat) : Int)) ∧ _)) with ⟨hc428, h429⟩ | ⟨hc428, h429⟩
    · clear h416
      have hF430 : Fr 45 a426 [(2, .pointer (some ⟨b3, 0, none⟩)), (3, .slice A18 zs15.length c19), (4, .pointer (some ⟨b41, 0, none⟩)), (5, .pointer (some ⟨b74, 0, none⟩)), (6, .int .i64 ((x368 : Nat) : Int)), (16, .bool true)] := hF427.pick [2, 3, 4, 5, 6, 16] (by rw [decide_eq_true hc428]; kernel_rfl); clear hF427
      refine condT hF430 (by kernel_rfl) ?_
      refine wp_skip ?_
      refine hK423 _ _ ?_
      refine wp_seq_k (fun K444 hK445 => ?_)
      refine wp_block ?_
      obtain ⟨g447, h446⟩ : ((((x368 + 128) : Nat) : Int) ≤ 9223372036854775807) ∧ _ := gd_some h429; clear h429
      obtain ⟨g449, h448⟩ : (x368 ≤ (x368 + 128)) ∧ _ := gd_some h446; clear h446
      obtain ⟨g451, h450⟩ : ((x368 + 128) ≤ zs15.length) ∧ _ := gd_some h448; clear h448
      obtain ⟨zs454, hr456, h455⟩ := bnd_some h450; clear h450; replace hr456 : F_casemateref14_Block zs36 zs365 ((zs15.drop x368).take ((x368 + 128) - x368)) = some (zs454) := hr456
      have hlt459 := hS415.ids
      have hsz461 := hS415.size
      let SL460 : List SP := [SP.val (.agg (vs .u64 zs36).toArray), SP.val (.agg (vs .u64 zs365).toArray), SP.val (.slice A18 zs15.length c19), SP.val (.int .i64 ((x368 : Nat) : Int)), SP.val (.int .i64 ((x368 : Nat) : Int)), SP.val (.int .i64 (((x368 + 128) : Nat) : Int)), SP.mk' (fun B v W => ∃ (A452 : Option Addr), v = .slice A452 ((x368 + 128) - x368) (c19 - x368) ∧ (View A18 c19 1 A452 x368)) (fun B v W W2 hh gg => by obtain ⟨A452, e, hv453⟩ := hh; exact ⟨A452, e, hv453⟩), SP.mk' (fun B v W => v = .agg (vs .u64 zs454).toArray ∧ (zs454.length = 8) ∧ (LB 18446744073709551616 zs454)) (fun B v W W2 hh gg => by obtain ⟨e, hh457, hh458⟩ := hh; exact ⟨e, hh457, hh458⟩), SP.any]
      refine region_rel (SL := SL460) (J := (fun (B : Bool) (W : World) => match B with | true => w413.heap.size ≤ W.heap.size ∧ Heap w [] W [.blk b3 30 (vs .u8 (List.replicate 64 0)), .row 5 1 A18 zs15.length c19 (vs .u8 zs15), .blk b41 24 (vs .u64 zs36), .blk b74 26 (vs .u64 zs454)] ∧ (zs454.length = 8) ∧ (LB 18446744073709551616 zs454) | false => w413.heap.size ≤ W.heap.size ∧ Heap w [] W [.blk b3 30 (vs .u8 (List.replicate 64 0)), .row 5 1 A18 zs15.length c19 (vs .u8 zs15), .blk b41 24 (vs .u64 zs36), .blk b74 26 (vs .u64 zs365)])) (m := 8) wide (by kernel_rfl) (by kernel_rfl) hF430 rfl ?_ ⟨Nat.le_refl _, hS415⟩ ⟨?_, ?_, ?_, ?_, ?_, ?_, ?_, ?_, ?_, trivial⟩ [(2, none), (3, none), (4, none), (5, none), (6, none)] (by kernel_rfl) ?_
      · intro b W W' hj g; cases b; exact ⟨Nat.le_trans hj.1 g.size, hj.2.growN g⟩; exact ⟨Nat.le_trans hj.1 g.size, hj.2.1.growN g, hj.2.2⟩
      · -- operation 0
        rintro a463 w462 b466 KK472 hs468 hd469 hJ470 hb471 hr473 hK467
        have hr473x : RD SL460 b466 a463 a426 w462 [(4, none)] := hr473 _ (by kernel_rfl)
        obtain ⟨q474, -⟩ := hr473x
        obtain rfl : b466 = false := by cases b466; rfl; exact absurd ((hb471 rfl).2 _ rfl) (by decide)
        obtain ⟨hX475, hS465⟩ := hJ470
        have hF464 : Fr 45 a463 [(4, .pointer (some ⟨b41, 0, none⟩))] := Fr.of hs468 hd469 ⟨(Fr.init hF430 q474 (by kernel_rfl)), trivial⟩
        refine s_loadA hT (d := 19) (b := b41) (off := 0) (sz := 80) (l := vs .u64 zs36) (by kernel_rfl) hF464 (hS465.blk 2 rfl).cells (by simp only [List.length_append, vs_length, vi_length, List.length_cons, List.length_nil, (hh39 : zs36.length = 80)]) ?_
        rintro a476 ha478 hF477
        rw [ha478]
        exact hK467 _ _ rfl (grown_refl _ _)
      · -- operation 1
        rintro a480 w479 b483 KK489 hs485 hd486 hJ487 hb488 hr490 hK484
        have hr490x : RD SL460 b483 a480 a426 w479 [(5, none)] := hr490 _ (by kernel_rfl)
        obtain ⟨q491, -⟩ := hr490x
        obtain rfl : b483 = false := by cases b483; rfl; exact absurd ((hb488 rfl).2 _ rfl) (by decide)
        obtain ⟨hX492, hS482⟩ := hJ487
        have hF481 : Fr 45 a480 [(5, .pointer (some ⟨b74, 0, none⟩))] := Fr.of hs485 hd486 ⟨(Fr.init hF430 q491 (by kernel_rfl)), trivial⟩
        refine s_loadA hT (d := 20) (b := b74) (off := 0) (sz := 8) (l := vs .u64 zs365) (by kernel_rfl) hF481 (hS482.blk 3 rfl).cells (by simp only [List.length_append, vs_length, vi_length, List.length_cons, List.length_nil, (hh366 : zs365.length = 8)]) ?_
        rintro a493 ha495 hF494
        rw [ha495]
        exact hK484 _ _ rfl (grown_refl _ _)
      · -- operation 2
        rintro a497 w496 b500 KK506 hs502 hd503 hJ504 hb505 hr507 hK501
        have hr507x : RD SL460 b500 a497 a426 w496 [(3, none)] := hr507 _ (by kernel_rfl)
        obtain ⟨q508, -⟩ := hr507x
        obtain rfl : b500 = false := by cases b500; rfl; exact absurd ((hb505 rfl).2 _ rfl) (by decide)
        obtain ⟨hX509, hS499⟩ := hJ504
        have hF498 : Fr 45 a497 [(3, .slice A18 zs15.length c19)] := Fr.of hs502 hd503 ⟨(Fr.init hF430 q508 (by kernel_rfl)), trivial⟩
        refine s_pure hT (d := 21) (v := .slice A18 zs15.length c19) (cs := []) (by kernel_rfl) (by kernel_rfl) trivial hF498 ?_
        rintro a2 ha2 hF2; rw [ha2]
        exact hK501 _ _ rfl (grown_refl _ _)
      · -- operation 3
        rintro a511 w510 b514 KK520 hs516 hd517 hJ518 hb519 hr521 hK515
        have hr521x : RD SL460 b514 a511 a426 w510 [(6, none)] := hr521 _ (by kernel_rfl)
        obtain ⟨q522, -⟩ := hr521x
        obtain rfl : b514 = false := by cases b514; rfl; exact absurd ((hb519 rfl).2 _ rfl) (by decide)
        obtain ⟨hX523, hS513⟩ := hJ518
        have hF512 : Fr 45 a511 [(6, .int .i64 ((x368 : Nat) : Int))] := Fr.of hs516 hd517 ⟨(Fr.init hF430 q522 (by kernel_rfl)), trivial⟩
        refine s_pure hT (d := 22) (v := .int .i64 ((x368 : Nat) : Int)) (cs := []) (by kernel_rfl) (by kernel_rfl) trivial hF512 ?_
        rintro a2 ha2 hF2; rw [ha2]
        exact hK515 _ _ rfl (grown_refl _ _)
      · -- operation 4
        rintro a525 w524 b528 KK534 hs530 hd531 hJ532 hb533 hr535 hK529
        have hr535x : RD SL460 b528 a525 a426 w524 [(6, none)] := hr535 _ (by kernel_rfl)
        obtain ⟨q536, -⟩ := hr535x
        obtain rfl : b528 = false := by cases b528; rfl; exact absurd ((hb533 rfl).2 _ rfl) (by decide)
        obtain ⟨hX537, hS527⟩ := hJ532
        have hF526 : Fr 45 a525 [(6, .int .i64 ((x368 : Nat) : Int))] := Fr.of hs530 hd531 ⟨(Fr.init hF430 q536 (by kernel_rfl)), trivial⟩
        refine s_pure hT (d := 23) (v := .int .i64 ((x368 : Nat) : Int)) (cs := []) (by kernel_rfl) (by kernel_rfl) trivial hF526 ?_
        rintro a2 ha2 hF2; rw [ha2]
        exact hK529 _ _ rfl (grown_refl _ _)
      · -- operation 5
        rintro a539 w538 b542 KK548 hs544 hd545 hJ546 hb547 hr549 hK543
        have hr549x : RD SL460 b542 a539 a426 w538 [(23, some 4)] := hr549 _ (by kernel_rfl)
        obtain ⟨⟨v551, q550, s552⟩, -⟩ := hr549x
        obtain rfl : v551 = .int .i64 ((x368 : Nat) : Int) := s552
        obtain rfl : b542 = false := by cases b542; rfl; exact absurd ((hb547 rfl).2 _ rfl) (by decide)
        obtain ⟨hX553, hS541⟩ := hJ546
        have hF540 : Fr 45 a539 [(23, .int .i64 ((x368 : Nat) : Int))] := Fr.of hs544 hd545 ⟨q550, trivial⟩
        refine s_pure hT (d := 24) (v := .int .i64 (((x368 + 128) : Nat) : Int)) (cs := [-9223372036854775808 ≤ (((x368 + 128) : Nat) : Int), (((x368 + 128) : Nat) : Int) ≤ 9223372036854775807]) (by kernel_rfl) (by kernel_rfl) (And.intro (by omega) (And.intro g447 trivial)) hF540 ?_
        rintro a2 ha2 hF2; rw [ha2]
        exact hK543 _ _ rfl (grown_refl _ _)
      · -- operation 6
        rintro a555 w554 b558 KK564 hs560 hd561 hJ562 hb563 hr565 hK559
        have hr565x : RD SL460 b558 a555 a426 w554 [(21, some 2), (22, some 3), (24, some 5)] := hr565 _ (by kernel_rfl)
        obtain ⟨⟨v567, q566, s568⟩, ⟨v570, q569, s571⟩, ⟨v573, q572, s574⟩, -⟩ := hr565x
        obtain rfl : v567 = .slice A18 zs15.length c19 := s568
        obtain rfl : v570 = .int .i64 ((x368 : Nat) : Int) := s571
        obtain rfl : v573 = .int .i64 (((x368 + 128) : Nat) : Int) := s574
        obtain rfl : b558 = false := by cases b558; rfl; exact absurd ((hb563 rfl).2 _ rfl) (by decide)
        obtain ⟨hX575, hS557⟩ := hJ562
        have hF556 : Fr 45 a555 [(21, .slice A18 zs15.length c19), (22, .int .i64 ((x368 : Nat) : Int)), (24, .int .i64 (((x368 + 128) : Nat) : Int))] := Fr.of hs560 hd561 ⟨q566, q569, q572, trivial⟩
        refine h_slice hT (d := 25) (A := A18) (m := zs15.length) (c := c19) (sz := 1) (lo := x368) (hi := (x368 + 128)) (by kernel_rfl) hF556 (by have := (hS557.own 1 rfl).cap; have := (Eq.refl zs15.length); omega) (by have := (hS557.own 1 rfl).cap; have := (Eq.refl zs15.length); omega) (by have := (hS557.own 1 rfl).cap; have := (Eq.refl zs15.length); first | omega | (simp [*]; done)) ?_
        rintro a576 A452 hv453 ha578 hF577
        rw [ha578]
        exact hK559 _ _ ⟨A452, rfl, hv453⟩ (grown_refl _ _)
      · -- operation 7
        rintro a580 w579 b583 KK589 hs585 hd586 hJ587 hb588 hr590 hK584
        have hr590x : RD SL460 b583 a580 a426 w579 [(19, some 0), (20, some 1), (25, some 6)] := hr590 _ (by kernel_rfl)
        obtain ⟨⟨v592, q591, s593⟩, ⟨v595, q594, s596⟩, ⟨v598, q597, s599⟩, -⟩ := hr590x
        obtain rfl : v592 = .agg (vs .u64 zs36).toArray := s593
        obtain rfl : v595 = .agg (vs .u64 zs365).toArray := s596
        obtain ⟨A452, rfl, hv453⟩ := s599
        obtain rfl : b583 = false := by cases b583; rfl; exact absurd ((hb588 rfl).2 _ rfl) (by decide)
        obtain ⟨hX600, hS582⟩ := hJ587
        have hF581 : Fr 45 a580 [(19, .agg (vs .u64 zs36).toArray), (20, .agg (vs .u64 zs365).toArray), (25, .slice A452 ((x368 + 128) - x368) (c19 - x368))] := Fr.of hs585 hd586 ⟨q591, q594, q597, trivial⟩
        have hF601 : Fr 45 a580 [(19, .agg (vs .u64 zs36).toArray), (20, .agg (vs .u64 zs365).toArray), (25, .slice A452 (((zs15.drop x368).take ((x368 + 128) - x368)).length) (c19 - x368))] := (hF581.pick [19, 20, 25] (G := [(19, .agg (vs .u64 zs36).toArray), (20, .agg (vs .u64 zs365).toArray), (25, .slice A452 ((x368 + 128) - x368) (c19 - x368))]) (by kernel_rfl)).to (by simp only [((by have := (Eq.refl zs15.length); simp only [zA, zS, zT, zD, zR, zC, zN, zV, zI]; omega : ((zs15.drop x368).take ((x368 + 128) - x368)).length = ((x368 + 128) - x368)) : ((zs15.drop x368).take ((x368 + 128) - x368)).length = ((x368 + 128) - x368))])
        refine s_call (d := 26) (f := 25) (l := [.agg (vs .u64 zs36).toArray, .agg (vs .u64 zs365).toArray, .slice A452 (((zs15.drop x368).take ((x368 + 128) - x368)).length) (c19 - x368)]) (by kernel_rfl) hF601 cl25 (W_casemateref14_Block zs36 zs365 A452 (c19 - x368) ((zs15.drop x368).take ((x368 + 128) - x368)) _ hh39 hh40 hh366 hh367 (hv453.vst (hS582.own 1 rfl).rd (by have := (hS582.own 1 rfl).cap; have := (Eq.refl zs15.length); omega) ((x368 + 128) - x368)) (by have := (hS582.own 1 rfl).cap; have := (Eq.refl zs15.length); skip; have := (by have := (Eq.refl zs15.length); simp only [zA, zS, zT, zD, zR, zC, zN, zV, zI]; omega : ((zs15.drop x368).take ((x368 + 128) - x368)).length = ((x368 + 128) - x368)); first | omega | (simp only [zA, zS, zT, zD, zR, zC, zN, zV, zI] <;> omega) | (simp only [zA, zS, zT, zD, zR, zC, zN, zV, zI] at * <;> omega)) ((hh20.drop x368).take ((x368 + 128) - x368)) zs454 hr456) ?_
        rintro a602 w603 v604 ⟨rfl, hh457, hh458, hC605⟩ ha606 hF607
        have hS608 : Heap w [] w603 [.blk b3 30 (vs .u8 (List.replicate 64 0)), .row 5 1 A18 zs15.length c19 (vs .u8 zs15), .blk b41 24 (vs .u64 zs36), .blk b74 26 (vs .u64 zs365)] := Heap.call hS582 hC605
        rw [ha606]
        exact hK584 _ _ ⟨rfl, hh457, hh458⟩ (hC605.grown)
      · -- operation 8
        rintro a610 w609 b613 KK619 hs615 hd616 hJ617 hb618 hr620 hK614
        have hr620x : RD SL460 b613 a610 a426 w609 [(5, none), (26, some 7)] := hr620 _ (by kernel_rfl)
        obtain ⟨q621, ⟨v623, q622, s624⟩, -⟩ := hr620x
        obtain ⟨rfl, hh457, hh458⟩ := s624
        obtain rfl : b613 = false := by cases b613; rfl; exact absurd rfl (hb618 rfl).1
        obtain ⟨hX625, hS612⟩ := hJ617
        have hF611 : Fr 45 a610 [(5, .pointer (some ⟨b74, 0, none⟩)), (26, .agg (vs .u64 zs454).toArray)] := Fr.of hs615 hd616 ⟨(Fr.init hF430 q621 (by kernel_rfl)), q622, trivial⟩
        refine h_storeV hT (b := b74) (l2 := vs .u64 zs454) (sz := 8) (by kernel_rfl) hF611 hS612 3 rfl (by simp only [List.length_append, vs_length, vi_length, List.length_cons, List.length_nil, (hh457 : zs454.length = 8)]) (by simp only [List.length_append, vs_length, vi_length, List.length_cons, List.length_nil, (hh457 : zs454.length = 8), (hh366 : zs365.length = 8)]) (vs_one) ?_
        rintro a626 w627 ha630 hF631 hS628 g629
        have hS632 : Heap w [] w627 [.blk b3 30 (vs .u8 (List.replicate 64 0)), .row 5 1 A18 zs15.length c19 (vs .u8 zs15), .blk b41 24 (vs .u64 zs36), .blk b74 26 (vs .u64 zs454)] := hS628; clear hS628
        rw [ha630]; exact hK614 undef _ trivial ⟨⟨.inl rfl, .inl rfl, .inl rfl, .inl rfl, .inl rfl, .inl rfl, .inr (fun d v hd hv q => q), .inr (fun d v hd hv q => q), .inl rfl, trivial⟩, Nat.le_trans hX625 g629.size, hS632, hh457, hh458⟩
      · -- behind the region
        rintro a633 w634 hs635 hd636 ⟨q639, q640, q641, q642, q643, -⟩ ⟨hX638, hS637, hh457, hh458⟩
        have hF644 : Fr 45 a633 [(2, .pointer (some ⟨b3, 0, none⟩)), (3, .slice A18 zs15.length c19), (4, .pointer (some ⟨b41, 0, none⟩)), (5, .pointer (some ⟨b74, 0, none⟩)), (6, .int .i64 ((x368 : Nat) : Int))] := Fr.of hs635 hd636 ⟨(Fr.init hF430 q639 (by kernel_rfl)), (Fr.init hF430 q640 (by kernel_rfl)), (Fr.init hF430 q641 (by kernel_rfl)), (Fr.init hF430 q642 (by kernel_rfl)), (Fr.init hF430 q643 (by kernel_rfl)), trivial⟩
        clear hF430 hS415 hs635 hd636 q639 q640 q641 q642 q643
        refine hK445 _ _ ?_
        refine wp_region_lit ?_
        refine pu_end hT 3 _ hF644 [2, 3, 4, 5, 6] (G := [(2, .pointer (some ⟨b3, 0, none⟩)), (3, .slice A18 zs15.length c19), (4, .pointer (some ⟨b41, 0, none⟩)), (5, .pointer (some ⟨b74, 0, none⟩)), (6, .int .i64 (((x368 + 128) : Nat) : Int))]) (cs := [-9223372036854775808 ≤ (((x368 + 128) : Nat) : Int), (((x368 + 128) : Nat) : Int) ≤ 9223372036854775807]) (by kernel_rfl) rfl (And.intro (by omega) (And.intro g447 trivial)) ?_; clear hF644 a633; intro a645 hF646
        obtain rfl := Option.some.inj h455
        exact hK409 _ _ _ hy408 ⟨zs454, (x368 + 128), rfl, hF646.pick [2, 3, 4, 5, 6] (by kernel_rfl), hS637.pick [0, 1, 2, 3] (by decide) rfl, hh457, hh458⟩
    · clear h416
      have hF647 : Fr 45 a426 [(2, .pointer (some ⟨b3, 0, none⟩)), (3, .slice A18 zs15.length c19), (4, .pointer (some ⟨b41, 0, none⟩)), (5, .pointer (some ⟨b74, 0, none⟩)), (6, .int .i64 ((x368 : Nat) : Int)), (16, .bool false)] := hF427.pick [2, 3, 4, 5, 6, 16] (by rw [decide_eq_false hc428]; kernel_rfl); clear hF427
      refine condF hF647 (by kernel_rfl) ?_
      refine wp_exit ?_
      obtain rfl := Option.some.inj h429
      obtain rfl : _ = xj278 := hy408
      exact ⟨zs365, rfl, hF647.pick [2, 5] (by kernel_rfl), hS415.pick [0, 3] (by decide) rfl, hh366, hh367⟩
  · skip
    clear hx279 hF99 hS98 
    rintro a648 w649 ⟨zs275, rfl, hF650, hS651, hh276, hh277⟩
    refine wp_seq_k (fun K653 hK654 => ?_)
    refine wp_region_lit ?_
    refine wl (h_alloc hT (d := 7) (T := 30) (l := vs .u8 (List.replicate 64 0)) (by kernel_rfl) hF650 hS651 ?_)
    rintro a657 w658 b655 hS659 g660 ha661 hF662; clear ha661 hF650 a648 hS651
    have hS663 : Heap w [] w658 [.blk b655 30 (vs .u8 (List.replicate 64 0)), .blk b3 30 (vs .u8 (List.replicate 64 0)), .blk b74 26 (vs .u64 zs275)] := hS659; clear hS659
    have hF664 := hF662.pick [2, 5, 7] (G := [(2, .pointer (some ⟨b3, 0, none⟩)), (5, .pointer (some ⟨b74, 0, none⟩)), (7, .pointer (some ⟨b655, 0, none⟩))]) (by kernel_rfl); clear hF662
    refine wpList_nil ?_
    refine hK654 _ _ ?_
    obtain ⟨xj826, hx827, h828⟩ := bnd_some h280; clear h280
    refine seqJ (fun a W => ∃ (zs823 : List Nat), zs823 = xj826 ∧ (Fr 45 a [(2, .pointer (some ⟨b3, 0, none⟩)), (7, .pointer (some ⟨b655, 0, none⟩))]) ∧ (Heap w [] W [.blk b3 30 (vs .u8 (List.replicate 64 0)), .blk b655 30 (vs .u8 zs823)]) ∧ (zs823.length = 64) ∧ (LB 256 zs823)) ?_ ?_
    · skip
      refine wp_seq_k (fun K829 hK830 => ?_)
      refine wp_region_lit ?_
      refine pu_end hT 1 _ hF664 [2, 5, 7, 8] (G := [(2, .pointer (some ⟨b3, 0, none⟩)), (5, .pointer (some ⟨b74, 0, none⟩)), (7, .pointer (some ⟨b655, 0, none⟩)), (8, .int .i64 0)]) (cs := []) (by kernel_rfl) rfl trivial ?_; clear hF664 a657; intro a831 hF832
      refine hK830 _ _ ?_
      refine wp_block ?_
      refine loopR (F_casemateref14_Sum_l2 zs275) xj826 ((List.replicate 64 0), 0) hx827 (fun s a W => ∃ (zs904 : List Nat), ∃ (x907 : Nat), (zs904, x907) = s ∧ (Fr 45 a [(2, .pointer (some ⟨b3, 0, none⟩)), (5, .pointer (some ⟨b74, 0, none⟩)), (7, .pointer (some ⟨b655, 0, none⟩)), (8, .int .i64 ((x907 : Nat) : Int))]) ∧ (Heap w [] W [.blk b3 30 (vs .u8 (List.replicate 64 0)), .blk b74 26 (vs .u64 zs275), .blk b655 30 (vs .u8 zs904)]) ∧ (zs904.length = 64) ∧ (LB 256 zs904)) ⟨(List.replicate 64 0), 0, rfl, hF832.pick [2, 5, 7, 8] (by kernel_rfl), hS663.pick [1, 2, 0] (by decide) rfl, (len_rep (α := Nat) 64 0), (LB.rep (m := 256) (x := 0) (by decide) 64)⟩ ?_
      clear hF832 hS663 hx827
      rintro k952 _ a947 w948 ⟨zs904, x907, rfl, hF949, hS950, hh905, hh906⟩ hit946 K945 hK944
      obtain ⟨y942, h951, hy943⟩ := iter_succ hit946; clear hit946
      unfold F_casemateref14_Sum_l2 at h951; try dsimp only at h951
      refine wp_seq_k (fun K957 hK958 => ?_)
      refine wp_seq_k (fun K959 hK960 => ?_)
      refine wp_region_lit ?_
      refine pu_end hT 2 _ hF949 [2, 5, 7, 8, 28] (G := [(2, .pointer (some ⟨b3, 0, none⟩)), (5, .pointer (some ⟨b74, 0, none⟩)), (7, .pointer (some ⟨b655, 0, none⟩)), (8, .int .i64 ((x907 : Nat) : Int)), (28, .bool ((decide (((x907 : Nat) : Int) < 64))))]) (cs := []) (by kernel_rfl) rfl trivial ?_; clear hF949 a947; intro a961 hF962
      refine hK960 _ _ ?_
      rcases (ite_some h951 : ((((x907 : Nat) : Int) < 64) ∧ _) ∨ (¬ (((x907 : Nat) : Int) < 64) ∧ _)) with ⟨hc963, h964⟩ | ⟨hc963, h964⟩
      · clear h951
        have hF965 : Fr 45 a961 [(2, .pointer (some ⟨b3, 0, none⟩)), (5, .pointer (some ⟨b74, 0, none⟩)), (7, .pointer (some ⟨b655, 0, none⟩)), (8, .int .i64 ((x907 : Nat) : Int)), (28, .bool true)] := hF962.pick [2, 5, 7, 8, 28] (by rw [decide_eq_true hc963]; kernel_rfl); clear hF962
        refine condT hF965 (by kernel_rfl) ?_
        refine wp_skip ?_
        refine hK958 _ _ ?_
        refine wp_seq_k (fun K976 hK977 => ?_)
        refine wp_block ?_
        obtain ⟨g979, h978⟩ : (((x907 : Nat) : Int) ≤ 9223372036854775807) ∧ _ := gd_some h964; clear h964
        obtain ⟨g981, h980⟩ : ((((x907 / 8) : Nat) : Int) < 8) ∧ _ := gd_some h978; clear h978
        obtain ⟨g983, h982⟩ : ((((8 * (x907 % 8)) : Nat) : Int) ≤ 9223372036854775807) ∧ _ := gd_some h980; clear h980
        obtain ⟨g985, h984⟩ : (-9223372036854775808 ≤ ((56 : Int) - (((8 * (x907 % 8)) : Nat) : Int))) ∧ _ := gd_some h982; clear h982
        obtain ⟨g987, h986⟩ : (((56 : Int) - (((8 * (x907 % 8)) : Nat) : Int)) ≤ 9223372036854775807) ∧ _ := gd_some h984; clear h984
        refine wp_region_lit ?_
        refine pu hT 4 _ hF965 [2, 5, 7, 8, 31, 34] (G := [(2, .pointer (some ⟨b3, 0, none⟩)), (5, .pointer (some ⟨b74, 0, none⟩)), (7, .pointer (some ⟨b655, 0, none⟩)), (8, .int .i64 ((x907 : Nat) : Int)), (31, .int .i64 ((x907 : Nat) : Int)), (34, .pointer (some ⟨b74, (0 + (x907 / 8)), none⟩))]) (cs := [0 ≤ ((x907 : Nat) : Int), ((x907 : Nat) : Int) ≤ 9223372036854775807, 0 < (8 : Int), 0 ≤ (((x907 / 8) : Nat) : Int), (((x907 / 8) : Nat) : Int) < 8]) (by kernel_rfl) (And.intro (by omega) (And.intro g979 (And.intro (by decide) (And.intro (by omega) (And.intro g981 trivial))))) ?_; clear hF965 a961; intro a988 hF989
        refine wl (s_load hT (d := 35) (A := ⟨b74, (0 + (x907 / 8)), none⟩) (v := .int .u64 (((zs275.getD (x907 / 8) 0) : Nat) : Int)) (by kernel_rfl) hF989 (Cells.at (hS950.blk 1 rfl).cells (vs_get .u64 zs275 (i := (x907 / 8)) (by have := hh276; omega)) (by first | rfl | omega)) ?_)
        rintro a990 ha992 hF991; clear ha992 hF989 a988
        have hF993 := hF991.pick [2, 5, 7, 8, 31, 35] (G := [(2, .pointer (some ⟨b3, 0, none⟩)), (5, .pointer (some ⟨b74, 0, none⟩)), (7, .pointer (some ⟨b655, 0, none⟩)), (8, .int .i64 ((x907 : Nat) : Int)), (31, .int .i64 ((x907 : Nat) : Int)), (35, .int .u64 (((zs275.getD (x907 / 8) 0) : Nat) : Int))]) (by kernel_rfl); clear hF991
        refine pu hT 4 _ hF993 [2, 5, 7, 8, 31, 35, 39] (G := [(2, .pointer (some ⟨b3, 0, none⟩)), (5, .pointer (some ⟨b74, 0, none⟩)), (7, .pointer (some ⟨b655, 0, none⟩)), (8, .int .i64 ((x907 : Nat) : Int)), (31, .int .i64 ((x907 : Nat) : Int)), (35, .int .u64 (((zs275.getD (x907 / 8) 0) : Nat) : Int)), (39, .int .i64 ((56 : Int) - (((8 * (x907 % 8)) : Nat) : Int)))]) (cs := [0 ≤ ((x907 : Nat) : Int), 0 < (8 : Int), -9223372036854775808 ≤ (((8 * (x907 % 8)) : Nat) : Int), (((8 * (x907 % 8)) : Nat) : Int) ≤ 9223372036854775807, -9223372036854775808 ≤ ((56 : Int) - (((8 * (x907 % 8)) : Nat) : Int)), ((56 : Int) - (((8 * (x907 % 8)) : Nat) : Int)) ≤ 9223372036854775807]) (by kernel_rfl) (And.intro (by omega) (And.intro (by decide) (And.intro (Int.le_trans (by decide) (Int.natCast_nonneg _)) (And.intro g983 (And.intro g985 (And.intro g987 trivial)))))) ?_; clear hF993 a990; intro a994 hF995
        refine wl (s_conv64 hT (d := 40) (x := ((56 : Int) - (((8 * (x907 % 8)) : Nat) : Int))) (y := (((56 : Int) - (((8 * (x907 % 8)) : Nat) : Int)) % 18446744073709551616).toNat) (by kernel_rfl) hF995 (by omega) ?_)
        rintro a996 ha998 hF997; clear ha998 hF995 a994
        have hF999 := hF997.pick [2, 5, 7, 8, 31, 35, 40] (G := [(2, .pointer (some ⟨b3, 0, none⟩)), (5, .pointer (some ⟨b74, 0, none⟩)), (7, .pointer (some ⟨b655, 0, none⟩)), (8, .int .i64 ((x907 : Nat) : Int)), (31, .int .i64 ((x907 : Nat) : Int)), (35, .int .u64 (((zs275.getD (x907 / 8) 0) : Nat) : Int)), (40, .int .u64 (((((56 : Int) - (((8 * (x907 % 8)) : Nat) : Int)) % 18446744073709551616).toNat : Nat) : Int))]) (by kernel_rfl); clear hF997
        refine pu hT 3 _ hF999 [2, 5, 7, 8, 42, 43] (G := [(2, .pointer (some ⟨b3, 0, none⟩)), (5, .pointer (some ⟨b74, 0, none⟩)), (7, .pointer (some ⟨b655, 0, none⟩)), (8, .int .i64 ((x907 : Nat) : Int)), (42, .int .u8 (((((zs275.getD (x907 / 8) 0) / 2 ^ ((((56 : Int) - (((8 * (x907 % 8)) : Nat) : Int)) % 18446744073709551616).toNat)) % 256) : Nat) : Int)), (43, .pointer (some ⟨b655, (0 + x907), none⟩))]) (cs := [(zs275.getD (x907 / 8) 0) < 18446744073709551616, 0 ≤ ((x907 : Nat) : Int), ((x907 : Nat) : Int) < 64]) (by kernel_rfl) (And.intro (hh277.get (by decide) (x907 / 8)) (And.intro (by omega) (And.intro hc963 trivial))) ?_; clear hF999 a996; intro a1000 hF1001
        refine wl (h_store hT (b := b655) (off := x907) (p := ⟨b655, (0 + x907), none⟩) (v := .int .u8 (((((zs275.getD (x907 / 8) 0) / 2 ^ ((((56 : Int) - (((8 * (x907 % 8)) : Nat) : Int)) % 18446744073709551616).toNat)) % 256) : Nat) : Int)) (l' := vs .u8 (zs904.set x907 (((zs275.getD (x907 / 8) 0) / 2 ^ ((((56 : Int) - (((8 * (x907 % 8)) : Nat) : Int)) % 18446744073709551616).toNat)) % 256))) (by kernel_rfl) hF1001 hS950 2 rfl (by first | rfl | (congr 1; omega)) (by have := hh905; simp only [zA, zS, zT, zD, zR, zC, zN, zV, zI] <;> omega) (by first | exact vs_set _ _ _ _ | exact vi_set _ _ _ | rfl) ?_)
        rintro a1002 w1003 ha1006 hF1007 hS1004 g1005; clear ha1006 hF1001 a1000 hS950
        have hS1008 : Heap w [] w1003 [.blk b3 30 (vs .u8 (List.replicate 64 0)), .blk b74 26 (vs .u64 zs275), .blk b655 30 (vs .u8 (zs904.set x907 (((zs275.getD (x907 / 8) 0) / 2 ^ ((((56 : Int) - (((8 * (x907 % 8)) : Nat) : Int)) % 18446744073709551616).toNat)) % 256)))] := hS1004; clear hS1004
        have hF1009 := hF1007.pick [2, 5, 7, 8] (G := [(2, .pointer (some ⟨b3, 0, none⟩)), (5, .pointer (some ⟨b74, 0, none⟩)), (7, .pointer (some ⟨b655, 0, none⟩)), (8, .int .i64 ((x907 : Nat) : Int))]) (by kernel_rfl); clear hF1007
        refine wpList_nil ?_
        refine hK977 _ _ ?_
        obtain ⟨g1011, h1010⟩ : ((((x907 + 1) : Nat) : Int) ≤ 9223372036854775807) ∧ _ := gd_some h986; clear h986
        refine wp_region_lit ?_
        refine pu_end hT 3 _ hF1009 [2, 5, 7, 8] (G := [(2, .pointer (some ⟨b3, 0, none⟩)), (5, .pointer (some ⟨b74, 0, none⟩)), (7, .pointer (some ⟨b655, 0, none⟩)), (8, .int .i64 (((x907 + 1) : Nat) : Int))]) (cs := [-9223372036854775808 ≤ (((x907 + 1) : Nat) : Int), (((x907 + 1) : Nat) : Int) ≤ 9223372036854775807]) (by kernel_rfl) rfl (And.intro (by omega) (And.intro g1011 trivial)) ?_; clear hF1009 a1002; intro a1012 hF1013
        obtain rfl := Option.some.inj h1010
        exact hK944 _ _ _ hy943 ⟨(zs904.set x907 (((zs275.getD (x907 / 8) 0) / 2 ^ ((((56 : Int) - (((8 * (x907 % 8)) : Nat) : Int)) % 18446744073709551616).toNat)) % 256)), (x907 + 1), rfl, hF1013.pick [2, 5, 7, 8] (by kernel_rfl), hS1008.pick [0, 1, 2] (by decide) rfl, (len_set hh905 x907 (((zs275.getD (x907 / 8) 0) / 2 ^ ((((56 : Int) - (((8 * (x907 % 8)) : Nat) : Int)) % 18446744073709551616).toNat)) % 256)), (hh906.set (Nat.mod_lt _ (by decide)) x907)⟩
      · clear h951
        have hF1014 : Fr 45 a961 [(2, .pointer (some ⟨b3, 0, none⟩)), (5, .pointer (some ⟨b74, 0, none⟩)), (7, .pointer (some ⟨b655, 0, none⟩)), (8, .int .i64 ((x907 : Nat) : Int)), (28, .bool false)] := hF962.pick [2, 5, 7, 8, 28] (by rw [decide_eq_false hc963]; kernel_rfl); clear hF962
        refine condF hF1014 (by kernel_rfl) ?_
        refine wp_exit ?_
        obtain rfl := Option.some.inj h964
        obtain rfl : _ = xj826 := hy943
        exact ⟨zs904, rfl, hF1014.pick [2, 7] (by kernel_rfl), hS950.pick [0, 2] (by decide) rfl, hh905, hh906⟩
    · skip
      clear hx827 hF664 hS663 
      rintro a1015 w1016 ⟨zs823, rfl, hF1017, hS1018, hh824, hh825⟩
      refine wp_seq_k (fun K1020 hK1021 => ?_)
      refine wp_region_lit ?_
      refine wl (s_loadA hT (d := 44) (b := b655) (off := 0) (sz := 64) (l := vs .u8 zs823) (by kernel_rfl) hF1017 (hS1018.blk 1 rfl).cells (by simp only [List.length_append, vs_length, vi_length, List.length_cons, List.length_nil, (hh824 : zs823.length = 64)]) ?_)
      rintro a1022 ha1024 hF1023; clear ha1024 hF1017 a1015
      have hF1025 := hF1023.pick [2, 44] (G := [(2, .pointer (some ⟨b3, 0, none⟩)), (44, .agg (vs .u8 zs823).toArray)]) (by kernel_rfl); clear hF1023
      refine wl (h_storeV hT (b := b3) (l2 := vs .u8 zs823) (sz := 64) (by kernel_rfl) hF1025 hS1018 0 rfl (by simp only [List.length_append, vs_length, vi_length, List.length_cons, List.length_nil, (hh824 : zs823.length = 64)]) (by simp only [List.length_append, vs_length, vi_length, List.length_cons, List.length_nil, (hh824 : zs823.length = 64), ((len_rep (α := Nat) 64 0) : (List.replicate 64 0).length = 64)]) (vs_one) ?_)
      rintro a1026 w1027 ha1030 hF1031 hS1028 g1029; clear ha1030 hF1025 a1022 hS1018
      have hS1032 : Heap w [] w1027 [.blk b3 30 (vs .u8 zs823), .blk b655 30 (vs .u8 zs823)] := hS1028; clear hS1028
      have hF1033 := hF1031.pick [2] (G := [(2, .pointer (some ⟨b3, 0, none⟩))]) (by kernel_rfl); clear hF1031
      refine wpList_nil ?_
      refine hK1021 _ _ ?_
      refine wp_ret ?_
      obtain rfl := Option.some.inj h828
      refine retR1 (fn := Try.f22) (by first | exact .inl rfl | exact .inr rfl) hF1033 rfl (resC hT (t := 2) (ty := 30) (b := b3) (by kernel_rfl) (i := tr30) (by kernel_rfl) rfl (hS1032.blk 0 rfl) (show _ = 64 from by simp only [List.length_append, vs_length, vi_length, List.length_cons, List.length_nil, (hh824 : zs823.length = 64)])) ?_
      exact ⟨rfl, hh824, hh825, hS1032.pick [] (by decide) rfl⟩

end Go.Proofs.Ytddphjmcoolinaa
