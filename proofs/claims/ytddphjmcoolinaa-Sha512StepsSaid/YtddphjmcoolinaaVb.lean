/- Walks of functions, printed by auto.py. -/
import Derived.Test.YtddphjmcoolinaaVa
import Derived.Test.YtddphjmcoolinaaKx
set_option linter.unusedVariables false
set_option linter.unusedSimpArgs false
set_option maxRecDepth 100000
namespace Go.Proofs.Ytddphjmcoolinaa
open Go.Proofs Go.RowKit
noncomputable def F_sha512_within_l1 (x2 : Int) (x1 : Nat) (xs0 : List Nat) : Int → Option (Int ⊕ (Unit ⊕ Bool)) := fun (x484 : Int) => if 0 ≤ x484 then (bnd (if x484 = x2 then (some x1) else (some 0) : Option Nat) (fun (x623 : Nat) => gd (x484 < ((xs0.length : Nat) : Int)) (if (((xs0.getD x484.toNat 0) : Nat) : Int) = ((x623 : Nat) : Int) then (gd (-9223372036854775808 ≤ (x484 - 1)) (gd ((x484 - 1) ≤ 9223372036854775807) (some (.inl (x484 - 1))))) else (some (.inr (.inr ((decide ((((xs0.getD x484.toNat 0) : Nat) : Int) < ((x623 : Nat) : Int)))))))))) else (some (.inr (.inl ())))
noncomputable def F_sha512_within (xs0 : List Nat) (x1 : Nat) (x2 : Int) : Option Bool := bnd (gd (-9223372036854775808 ≤ (((xs0.length : Nat) : Int) - 1)) (gd ((((xs0.length : Nat) : Int) - 1) ≤ 9223372036854775807) (run (F_sha512_within_l1 x2 x1 xs0) (((xs0.length : Nat) : Int) - 1))) : Option (Unit ⊕ Bool)) (sel (fun (_ : Unit) => some true))
set_option maxHeartbeats 4000000 in
theorem W_sha512_within (pA0 : Option Addr) (pc0 : Nat) (xs0 : List Nat) (x1 : Nat) (x2 : Int) (w : World) (pR0 : Rd w pA0 (vs .u64 xs0)) (pc_0 : xs0.length ≤ pc0) (pb0 : LB 18446744073709551616 xs0) (px1 : x1 < 18446744073709551616) (r : Bool) (h : F_sha512_within xs0 x1 x2 = some r) :
    Calls Try.prog 64 [.slice pA0 xs0.length pc0, .int .u64 ((x1 : Nat) : Int), .int .i64 x2].toArray w (Ret fun v w' => v = .bool (r) ∧ Heap w [] w' []) := by
  unfold F_sha512_within at h
  refine enter Try.func64 rfl (n := 32) Try.ntmps64 (by simp) ?_
  intro a hF
  have hS := Heap.init w
  refine wp_seq_k (fun K1 hK2 => ?_)
  refine wp_region_lit ?_
  refine pu_end hT 1 _ hF [0, 1, 2] (G := [(0, .slice pA0 xs0.length pc0), (1, .int .u64 ((x1 : Nat) : Int)), (2, .int .i64 x2)]) (cs := []) (by kernel_rfl) rfl trivial ?_; clear hF a; intro a3 hF4
  refine hK2 _ _ ?_
  obtain ⟨xj322, hx323, h324⟩ := bnd_some h; clear h
  refine seqJ (fun a W => (.inl ()) = xj322 ∧ (Fr 32 a []) ∧ (Heap w [] W [])) ?_ ?_
  · skip
    refine wp_seq_k (fun K325 hK326 => ?_)
    obtain ⟨g328, h327⟩ : (-9223372036854775808 ≤ (((xs0.length : Nat) : Int) - 1)) ∧ _ := gd_some hx323; clear hx323
    obtain ⟨g330, h329⟩ : ((((xs0.length : Nat) : Int) - 1) ≤ 9223372036854775807) ∧ _ := gd_some h327; clear h327
    refine wp_region_lit ?_
    refine pu_end hT 4 _ hF4 [0, 1, 2, 7] (G := [(0, .slice pA0 xs0.length pc0), (1, .int .u64 ((x1 : Nat) : Int)), (2, .int .i64 x2), (7, .int .i64 (((xs0.length : Nat) : Int) - 1))]) (cs := [-9223372036854775808 ≤ (((xs0.length : Nat) : Int) - 1), (((xs0.length : Nat) : Int) - 1) ≤ 9223372036854775807]) (by kernel_rfl) rfl (And.intro g328 (And.intro g330 trivial)) ?_; clear hF4 a3; intro a331 hF332
    refine hK326 _ _ ?_
    refine wp_block ?_
    refine loopR (F_sha512_within_l1 x2 x1 xs0) xj322 (((xs0.length : Nat) : Int) - 1) h329 (fun s a W => ∃ (x484 : Int), x484 = s ∧ (Fr 32 a [(0, .slice pA0 xs0.length pc0), (1, .int .u64 ((x1 : Nat) : Int)), (2, .int .i64 x2), (7, .int .i64 x484)]) ∧ (Heap w [] W []) ∧ (x1 < 18446744073709551616)) ⟨(((xs0.length : Nat) : Int) - 1), rfl, hF332.pick [0, 1, 2, 7] (by kernel_rfl), hS.pick [] (by decide) rfl, px1⟩ ?_
    clear hF332 hS h329
    rintro k569 _ a564 w565 ⟨x484, rfl, hF566, hS567, hh483⟩ hit563 K562 hK561
    obtain ⟨y559, h568, hy560⟩ := iter_succ hit563; clear hit563
    unfold F_sha512_within_l1 at h568; try dsimp only at h568
    refine wp_seq_k (fun K574 hK575 => ?_)
    refine wp_seq_k (fun K576 hK577 => ?_)
    refine wp_region_lit ?_
    refine pu_end hT 2 _ hF566 [0, 1, 2, 7, 13] (G := [(0, .slice pA0 xs0.length pc0), (1, .int .u64 ((x1 : Nat) : Int)), (2, .int .i64 x2), (7, .int .i64 x484), (13, .bool ((decide (0 ≤ x484))))]) (cs := []) (by kernel_rfl) rfl trivial ?_; clear hF566 a564; intro a578 hF579
    refine hK577 _ _ ?_
    rcases (ite_some h568 : ((0 ≤ x484) ∧ _) ∨ (¬ (0 ≤ x484) ∧ _)) with ⟨hc580, h581⟩ | ⟨hc580, h581⟩
    · clear h568
      have hF582 : Fr 32 a578 [(0, .slice pA0 xs0.length pc0), (1, .int .u64 ((x1 : Nat) : Int)), (2, .int .i64 x2), (7, .int .i64 x484), (13, .bool true)] := hF579.pick [0, 1, 2, 7, 13] (by rw [decide_eq_true hc580]; kernel_rfl); clear hF579
      refine condT hF582 (by kernel_rfl) ?_
      refine wp_skip ?_
      refine hK575 _ _ ?_
      refine wp_seq_k (fun K612 hK613 => ?_)
      refine wp_block ?_
      refine wp_seq_k (fun K614 hK615 => ?_)
      refine wp_region_lit ?_
      refine pu_end hT 1 _ hF582 [0, 1, 2, 7, 8] (G := [(0, .slice pA0 xs0.length pc0), (1, .int .u64 ((x1 : Nat) : Int)), (2, .int .i64 x2), (7, .int .i64 x484), (8, .int .u64 0)]) (cs := []) (by kernel_rfl) rfl trivial ?_; clear hF582 a578; intro a616 hF617
      refine hK615 _ _ ?_
      obtain ⟨xj625, hx626, h627⟩ := bnd_some h581; clear h581
      refine seqJ (fun a W => ∃ (x623 : Nat), x623 = xj625 ∧ (Fr 32 a [(0, .slice pA0 xs0.length pc0), (1, .int .u64 ((x1 : Nat) : Int)), (2, .int .i64 x2), (7, .int .i64 x484), (8, .int .u64 ((x623 : Nat) : Int))]) ∧ (Heap w [] W []) ∧ (x1 < 18446744073709551616) ∧ (x623 < 18446744073709551616)) ?_ ?_
      · skip
        refine wp_seq_k (fun K628 hK629 => ?_)
        refine wp_region_lit ?_
        refine pu_end hT 3 _ hF617 [0, 1, 2, 7, 8, 18] (G := [(0, .slice pA0 xs0.length pc0), (1, .int .u64 ((x1 : Nat) : Int)), (2, .int .i64 x2), (7, .int .i64 x484), (8, .int .u64 0), (18, .bool ((decide (x484 = x2))))]) (cs := []) (by kernel_rfl) rfl trivial ?_; clear hF617 a616; intro a630 hF631
        refine hK629 _ _ ?_
        rcases (ite_some hx626 : ((x484 = x2) ∧ _) ∨ (¬ (x484 = x2) ∧ _)) with ⟨hc632, h633⟩ | ⟨hc632, h633⟩
        · clear hx626
          have hF634 : Fr 32 a630 [(0, .slice pA0 xs0.length pc0), (1, .int .u64 ((x1 : Nat) : Int)), (2, .int .i64 x2), (7, .int .i64 x484), (8, .int .u64 0), (18, .bool true)] := hF631.pick [0, 1, 2, 7, 8, 18] (by rw [decide_eq_true hc632]; kernel_rfl); clear hF631
          refine condT hF634 (by kernel_rfl) ?_
          refine wp_region_lit ?_
          refine pu_end hT 2 _ hF634 [0, 1, 2, 7, 8] (G := [(0, .slice pA0 xs0.length pc0), (1, .int .u64 ((x1 : Nat) : Int)), (2, .int .i64 x2), (7, .int .i64 x484), (8, .int .u64 ((x1 : Nat) : Int))]) (cs := []) (by kernel_rfl) rfl trivial ?_; clear hF634 a630; intro a635 hF636
          obtain rfl := Option.some.inj h633
          exact ⟨x1, rfl, hF636.pick [0, 1, 2, 7, 8] (by kernel_rfl), hS567.pick [] (by decide) rfl, hh483, hh483⟩
        · clear hx626
          have hF637 : Fr 32 a630 [(0, .slice pA0 xs0.length pc0), (1, .int .u64 ((x1 : Nat) : Int)), (2, .int .i64 x2), (7, .int .i64 x484), (8, .int .u64 0), (18, .bool false)] := hF631.pick [0, 1, 2, 7, 8, 18] (by rw [decide_eq_false hc632]; kernel_rfl); clear hF631
          refine condF hF637 (by kernel_rfl) ?_
          refine wp_skip ?_
          obtain rfl := Option.some.inj h633
          exact ⟨0, rfl, hF637.pick [0, 1, 2, 7, 8] (by kernel_rfl), hS567.pick [] (by decide) rfl, hh483, (by decide)⟩
      · skip
        clear hx626 hF617 hS567 
        rintro a638 w639 ⟨x623, rfl, hF640, hS641, hh622, hh624⟩
        refine wp_seq_k (fun K643 hK644 => ?_)
        obtain ⟨g646, h645⟩ : (x484 < ((xs0.length : Nat) : Int)) ∧ _ := gd_some h627; clear h627
        refine wp_region_lit ?_
        refine pu hT 3 _ hF640 [0, 1, 2, 7, 8, 22] (G := [(0, .slice pA0 xs0.length pc0), (1, .int .u64 ((x1 : Nat) : Int)), (2, .int .i64 x2), (7, .int .i64 x484), (8, .int .u64 ((x623 : Nat) : Int)), (22, .pointer (some ⟨(ablk pA0), (aoff pA0 + x484.toNat), none⟩))]) (cs := [0 ≤ x484, x484 < ((xs0.length : Nat) : Int), (pA0 : Option Addr) = some ⟨ablk pA0, aoff pA0, none⟩]) (by kernel_rfl) (And.intro hc580 (And.intro g646 (And.intro ((hS641.rd0 pR0).some' (by have := (Eq.refl xs0.length); first | omega | (simp only [zA, zS, zT, zD, zR, zC, zN, zV, zI] <;> omega))) trivial))) ?_; clear hF640 a638; intro a647 hF648
        refine wl (s_load hT (d := 23) (A := ⟨(ablk pA0), (aoff pA0 + x484.toNat), none⟩) (v := .int .u64 (((xs0.getD x484.toNat 0) : Nat) : Int)) (by kernel_rfl) hF648 (Cells.at (hS641.rd0 pR0).cells (vs_get .u64 xs0 (i := x484.toNat) (by have := (Eq.refl xs0.length); first | omega | (simp only [zA, zS, zT, zD, zR, zC, zN, zV, zI] <;> omega) | (simp [*]; done) | (simp [*]; omega))) (by first | rfl | omega)) ?_)
        rintro a649 ha651 hF650; clear ha651 hF648 a647
        have hF652 := hF650.pick [0, 1, 2, 7, 8, 23] (G := [(0, .slice pA0 xs0.length pc0), (1, .int .u64 ((x1 : Nat) : Int)), (2, .int .i64 x2), (7, .int .i64 x484), (8, .int .u64 ((x623 : Nat) : Int)), (23, .int .u64 (((xs0.getD x484.toNat 0) : Nat) : Int))]) (by kernel_rfl); clear hF650
        refine pu_end hT 2 _ hF652 [0, 1, 2, 7, 8, 25] (G := [(0, .slice pA0 xs0.length pc0), (1, .int .u64 ((x1 : Nat) : Int)), (2, .int .i64 x2), (7, .int .i64 x484), (8, .int .u64 ((x623 : Nat) : Int)), (25, .bool (!(decide ((((xs0.getD x484.toNat 0) : Nat) : Int) = ((x623 : Nat) : Int)))))]) (cs := []) (by kernel_rfl) rfl trivial ?_; clear hF652 a649; intro a653 hF654
        refine hK644 _ _ ?_
        rcases (ite_some h645 : (((((xs0.getD x484.toNat 0) : Nat) : Int) = ((x623 : Nat) : Int)) ∧ _) ∨ (¬ ((((xs0.getD x484.toNat 0) : Nat) : Int) = ((x623 : Nat) : Int)) ∧ _)) with ⟨hc655, h656⟩ | ⟨hc655, h656⟩
        · clear h645
          have hF657 : Fr 32 a653 [(0, .slice pA0 xs0.length pc0), (1, .int .u64 ((x1 : Nat) : Int)), (2, .int .i64 x2), (7, .int .i64 x484), (8, .int .u64 ((x623 : Nat) : Int)), (25, .bool false)] := hF654.pick [0, 1, 2, 7, 8, 25] (by rw [decide_eq_true hc655]; kernel_rfl); clear hF654
          refine condF hF657 (by kernel_rfl) ?_
          refine wp_skip ?_
          refine hK613 _ _ ?_
          obtain ⟨g659, h658⟩ : (-9223372036854775808 ≤ (x484 - 1)) ∧ _ := gd_some h656; clear h656
          obtain ⟨g661, h660⟩ : ((x484 - 1) ≤ 9223372036854775807) ∧ _ := gd_some h658; clear h658
          refine wp_region_lit ?_
          refine pu_end hT 3 _ hF657 [0, 1, 2, 8, 7] (G := [(0, .slice pA0 xs0.length pc0), (1, .int .u64 ((x1 : Nat) : Int)), (2, .int .i64 x2), (8, .int .u64 ((x623 : Nat) : Int)), (7, .int .i64 (x484 - 1))]) (cs := [-9223372036854775808 ≤ (x484 - 1), (x484 - 1) ≤ 9223372036854775807]) (by kernel_rfl) rfl (And.intro g659 (And.intro g661 trivial)) ?_; clear hF657 a653; intro a662 hF663
          obtain rfl := Option.some.inj h660
          exact hK561 _ _ _ hy560 ⟨(x484 - 1), rfl, hF663.pick [0, 1, 2, 7] (by kernel_rfl), hS641.pick [] (by decide) rfl, hh622⟩
        · clear h645
          have hF664 : Fr 32 a653 [(0, .slice pA0 xs0.length pc0), (1, .int .u64 ((x1 : Nat) : Int)), (2, .int .i64 x2), (7, .int .i64 x484), (8, .int .u64 ((x623 : Nat) : Int)), (25, .bool true)] := hF654.pick [0, 1, 2, 7, 8, 25] (by rw [decide_eq_false hc655]; kernel_rfl); clear hF654
          refine condT hF664 (by kernel_rfl) ?_
          refine wp_seq_k (fun K665 hK666 => ?_)
          refine wp_region_lit ?_
          refine pu hT 3 _ hF664 [8, 28] (G := [(8, .int .u64 ((x623 : Nat) : Int)), (28, .pointer (some ⟨(ablk pA0), (aoff pA0 + x484.toNat), none⟩))]) (cs := [0 ≤ x484, x484 < ((xs0.length : Nat) : Int), (pA0 : Option Addr) = some ⟨ablk pA0, aoff pA0, none⟩]) (by kernel_rfl) (And.intro hc580 (And.intro g646 (And.intro ((hS641.rd0 pR0).some' (by have := (Eq.refl xs0.length); first | omega | (simp only [zA, zS, zT, zD, zR, zC, zN, zV, zI] <;> omega))) trivial))) ?_; clear hF664 a653; intro a667 hF668
          refine wl (s_load hT (d := 29) (A := ⟨(ablk pA0), (aoff pA0 + x484.toNat), none⟩) (v := .int .u64 (((xs0.getD x484.toNat 0) : Nat) : Int)) (by kernel_rfl) hF668 (Cells.at (hS641.rd0 pR0).cells (vs_get .u64 xs0 (i := x484.toNat) (by have := (Eq.refl xs0.length); first | omega | (simp only [zA, zS, zT, zD, zR, zC, zN, zV, zI] <;> omega) | (simp [*]; done) | (simp [*]; omega))) (by first | rfl | omega)) ?_)
          rintro a669 ha671 hF670; clear ha671 hF668 a667
          have hF672 := hF670.pick [8, 29] (G := [(8, .int .u64 ((x623 : Nat) : Int)), (29, .int .u64 (((xs0.getD x484.toNat 0) : Nat) : Int))]) (by kernel_rfl); clear hF670
          refine pu_end hT 3 _ hF672 [6] (G := [(6, .bool ((decide ((((xs0.getD x484.toNat 0) : Nat) : Int) < ((x623 : Nat) : Int)))))]) (cs := []) (by kernel_rfl) rfl trivial ?_; clear hF672 a669; intro a673 hF674
          refine hK666 _ _ ?_
          refine wp_ret ?_
          obtain rfl := Option.some.inj h656
          obtain rfl : _ = xj322 := hy560
          obtain rfl := Option.some.inj (show some _ = some _ from h324)
          refine ret1 hF674 rfl (v := .bool ((decide ((((xs0.getD x484.toNat 0) : Nat) : Int) < ((x623 : Nat) : Int))))) (by kernel_rfl) ?_
          exact ⟨rfl, hS641.pick [] (by decide) rfl⟩
    · clear h568
      have hF675 : Fr 32 a578 [(0, .slice pA0 xs0.length pc0), (1, .int .u64 ((x1 : Nat) : Int)), (2, .int .i64 x2), (7, .int .i64 x484), (13, .bool false)] := hF579.pick [0, 1, 2, 7, 13] (by rw [decide_eq_false hc580]; kernel_rfl); clear hF579
      refine condF hF675 (by kernel_rfl) ?_
      refine wp_exit ?_
      obtain rfl := Option.some.inj h581
      obtain rfl : _ = xj322 := hy560
      exact ⟨rfl, hF675.pick [] (by kernel_rfl), hS567.pick [] (by decide) rfl⟩
  · skip
    clear hx323 hF4 hS 
    rintro a676 w677 ⟨rfl, hF678, hS679⟩
    refine wp_seq_k (fun K681 hK682 => ?_)
    refine wp_region_lit ?_
    refine pu_end hT 1 _ hF678 [6] (G := [(6, .bool true)]) (cs := []) (by kernel_rfl) rfl trivial ?_; clear hF678 a676; intro a683 hF684
    refine hK682 _ _ ?_
    refine wp_ret ?_
    obtain rfl := Option.some.inj h324
    refine ret1 hF684 rfl (v := .bool true) (by kernel_rfl) ?_
    exact ⟨rfl, hS679.pick [] (by decide) rfl⟩

noncomputable def F_sha512_times_l2 (xs1 : List Nat) (xs0 : List Nat) (x8830 : Nat) : (List Nat × Nat × Nat) → Option ((List Nat × Nat × Nat) ⊕ (List Nat × Nat × Nat)) := fun (zs11595, x11599, x11601) => if ((x11601 : Nat) : Int) < ((xs1.length : Nat) : Int) then (bnd (F_bits_Mul64 (xs0.getD x8830 0) (xs1.getD x11601 0)) fun (x11752, x11753) => gd ((((x8830 + x11601) : Nat) : Int) ≤ 9223372036854775807) (gd ((((x8830 + x11601) : Nat) : Int) < (((xs0.length + xs1.length) : Nat) : Int)) (ltb (((x11753 + (zs11595.getD (x8830 + x11601) 0) + 0) % 18446744073709551616)) fun (t11780 : Nat) => ltb (((x11753 + (zs11595.getD (x8830 + x11601) 0) + 0) / 18446744073709551616)) fun (t11784 : Nat) => ltb (((((x11752 + t11784) % 18446744073709551616) + ((t11780 + x11599 + 0) / 18446744073709551616)) % 18446744073709551616)) fun (t11818 : Nat) => gd ((((x11601 + 1) : Nat) : Int) ≤ 9223372036854775807) (some (.inl ((zs11595.set (x8830 + x11601) ((t11780 + x11599 + 0) % 18446744073709551616)), t11818, (x11601 + 1))))))) else (some (.inr (zs11595, x11599, x11601)))
noncomputable def F_sha512_times_l1 (xs0 : List Nat) (xs1 : List Nat) : (List Nat × Nat) → Option ((List Nat × Nat) ⊕ (List Nat)) := fun (zs8827, x8830) => if ((x8830 : Nat) : Int) < ((xs0.length : Nat) : Int) then (bnd (bnd (run (F_sha512_times_l2 xs1 xs0 x8830) (zs8827, 0, 0) : Option (List Nat × Nat × Nat)) (fun (zs11413, x11417, x11419) => gd ((((x8830 + xs1.length) : Nat) : Int) ≤ 9223372036854775807) (gd ((((x8830 + xs1.length) : Nat) : Int) < (((xs0.length + xs1.length) : Nat) : Int)) (some ((zs11413.set (x8830 + xs1.length) x11417), x11417, x11419)))) : Option (List Nat × Nat × Nat)) (fun (zs11040, x11044, x11046) => gd ((((x8830 + 1) : Nat) : Int) ≤ 9223372036854775807) (some (.inl (zs11040, (x8830 + 1)))))) else (some (.inr zs8827))
noncomputable def F_sha512_times (xs0 : List Nat) (xs1 : List Nat) : Option (List Nat) := gd ((((xs0.length + xs1.length) : Nat) : Int) ≤ 9223372036854775807) (gd ((xs0.length + xs1.length) * 8 ≤ 140737488355328) (bnd (run (F_sha512_times_l1 xs0 xs1) ((List.replicate (xs0.length + xs1.length) 0), 0) : Option (List Nat)) (fun (zs5896 : List Nat) => some zs5896)))
set_option maxHeartbeats 4000000 in
theorem W_sha512_times (pA0 : Option Addr) (pc0 : Nat) (xs0 : List Nat) (pA1 : Option Addr) (pc1 : Nat) (xs1 : List Nat) (w : World) (pR0 : Rd w pA0 (vs .u64 xs0)) (pc_0 : xs0.length ≤ pc0) (pb0 : LB 18446744073709551616 xs0) (pR1 : Rd w pA1 (vs .u64 xs1)) (pc_1 : xs1.length ≤ pc1) (pb1 : LB 18446744073709551616 xs1) (r : List Nat) (h : F_sha512_times xs0 xs1 = some r) :
    Calls Try.prog 63 [.slice pA0 xs0.length pc0, .slice pA1 xs1.length pc1].toArray w (Ret fun v w' => ∃ (A_0 : Option Addr), ∃ (c_1 : Nat), v = .slice A_0 r.length c_1 ∧ LB 18446744073709551616 r ∧ Heap w [] w' [.row 23 1 A_0 r.length c_1 (vs .u64 r)]) := by
  unfold F_sha512_times at h
  refine enter Try.func63 rfl (n := 79) Try.ntmps63 (by simp) ?_
  intro a hF
  have hS := Heap.init w
  refine wp_seq_k (fun K1 hK2 => ?_)
  refine wp_region_lit ?_
  refine pu_end hT 1 _ hF [0, 1] (G := [(0, .slice pA0 xs0.length pc0), (1, .slice pA1 xs1.length pc1)]) (cs := []) (by kernel_rfl) rfl trivial ?_; clear hF a; intro a3 hF4
  refine hK2 _ _ ?_
  refine wp_seq_k (fun K5 hK6 => ?_)
  obtain ⟨g8, h7⟩ : ((((xs0.length + xs1.length) : Nat) : Int) ≤ 9223372036854775807) ∧ _ := gd_some h; clear h
  obtain ⟨g10, h9⟩ : ((xs0.length + xs1.length) * 8 ≤ 140737488355328) ∧ _ := gd_some h7; clear h7
  refine wp_region_lit ?_
  refine pu hT 5 _ hF4 [0, 1, 18] (G := [(0, .slice pA0 xs0.length pc0), (1, .slice pA1 xs1.length pc1), (18, .int .i64 (((xs0.length + xs1.length) : Nat) : Int))]) (cs := [-9223372036854775808 ≤ (((xs0.length + xs1.length) : Nat) : Int), (((xs0.length + xs1.length) : Nat) : Int) ≤ 9223372036854775807]) (by kernel_rfl) (And.intro (by omega) (And.intro g8 trivial)) ?_; clear hF4 a3; intro a13 hF14
  refine wl (h_make hT (d := 19) (T := 23) (m := (xs0.length + xs1.length)) (i := tr23) (l' := vs .u64 (List.replicate (xs0.length + xs1.length) 0)) (by kernel_rfl) (by intro t x y h; cases h; rfl) hF14 hS g10 (by have := g10; simp only [maxLen]; omega) rfl (by first | exact made_list rfl rfl | exact made_vi rfl rfl) ?_)
  rintro a15 w16 A11 hS17 g18 ha19 hF20; clear ha19 hF14 a13 hS
  have hS21 : Heap w [] w16 [.row 23 1 A11 (xs0.length + xs1.length) (xs0.length + xs1.length) (vs .u64 (List.replicate (xs0.length + xs1.length) 0))] := hS17; clear hS17
  have hF22 := hF20.pick [0, 1, 19] (G := [(0, .slice pA0 xs0.length pc0), (1, .slice pA1 xs1.length pc1), (19, .slice A11 (xs0.length + xs1.length) (xs0.length + xs1.length))]) (by kernel_rfl); clear hF20
  refine pu_end hT 1 _ hF22 [0, 1, 5] (G := [(0, .slice pA0 xs0.length pc0), (1, .slice pA1 xs1.length pc1), (5, .slice A11 (xs0.length + xs1.length) (xs0.length + xs1.length))]) (cs := []) (by kernel_rfl) rfl trivial ?_; clear hF22 a15; intro a23 hF24
  refine hK6 _ _ ?_
  obtain ⟨xj5899, hx5900, h5901⟩ := bnd_some h9; clear h9
  refine seqJ (fun a W => ∃ (zs5896 : List Nat), zs5896 = xj5899 ∧ (Fr 79 a [(5, .slice A11 (xs0.length + xs1.length) (xs0.length + xs1.length))]) ∧ (Heap w [] W [.row 23 1 A11 (xs0.length + xs1.length) (xs0.length + xs1.length) (vs .u64 zs5896)]) ∧ (zs5896.length = (xs0.length + xs1.length)) ∧ (LB 18446744073709551616 zs5896)) ?_ ?_
  · skip
    refine wp_seq_k (fun K5902 hK5903 => ?_)
    refine wp_region_lit ?_
    refine pu_end hT 3 _ hF24 [1, 5, 20, 21, 22] (G := [(1, .slice pA1 xs1.length pc1), (5, .slice A11 (xs0.length + xs1.length) (xs0.length + xs1.length)), (20, .slice pA0 xs0.length pc0), (21, .int .i64 ((xs0.length : Nat) : Int)), (22, .int .i64 0)]) (cs := []) (by kernel_rfl) rfl trivial ?_; clear hF24 a23; intro a5904 hF5905
    refine hK5903 _ _ ?_
    refine wp_block ?_
    refine loopR (F_sha512_times_l1 xs0 xs1) xj5899 ((List.replicate (xs0.length + xs1.length) 0), 0) hx5900 (fun s a W => ∃ (zs8827 : List Nat), ∃ (x8830 : Nat), (zs8827, x8830) = s ∧ (Fr 79 a [(1, .slice pA1 xs1.length pc1), (5, .slice A11 (xs0.length + xs1.length) (xs0.length + xs1.length)), (20, .slice pA0 xs0.length pc0), (21, .int .i64 ((xs0.length : Nat) : Int)), (22, .int .i64 ((x8830 : Nat) : Int))]) ∧ (Heap w [] W [.row 23 1 A11 (xs0.length + xs1.length) (xs0.length + xs1.length) (vs .u64 zs8827)]) ∧ (zs8827.length = (xs0.length + xs1.length)) ∧ (LB 18446744073709551616 zs8827)) ⟨(List.replicate (xs0.length + xs1.length) 0), 0, rfl, hF5905.pick [1, 5, 20, 21, 22] (by kernel_rfl), hS21.pick [0] (by decide) rfl, (len_rep (α := Nat) (xs0.length + xs1.length) 0), (LB.rep (m := 18446744073709551616) (x := 0) (by decide) (xs0.length + xs1.length))⟩ ?_
    clear hF5905 hS21 hx5900
    rintro k10307 _ a10302 w10303 ⟨zs8827, x8830, rfl, hF10304, hS10305, hh8828, hh8829⟩ hit10301 K10300 hK10299
    obtain ⟨y10297, h10306, hy10298⟩ := iter_succ hit10301; clear hit10301
    unfold F_sha512_times_l1 at h10306; try dsimp only at h10306
    refine wp_seq_k (fun K10308 hK10309 => ?_)
    refine wp_region_lit ?_
    refine pu_end hT 1 _ hF10304 [1, 5, 20, 21, 22, 23] (G := [(1, .slice pA1 xs1.length pc1), (5, .slice A11 (xs0.length + xs1.length) (xs0.length + xs1.length)), (20, .slice pA0 xs0.length pc0), (21, .int .i64 ((xs0.length : Nat) : Int)), (22, .int .i64 ((x8830 : Nat) : Int)), (23, .bool ((decide (((x8830 : Nat) : Int) < ((xs0.length : Nat) : Int)))))]) (cs := []) (by kernel_rfl) rfl trivial ?_; clear hF10304 a10302; intro a10310 hF10311
    refine hK10309 _ _ ?_
    refine wp_seq_k (fun K10314 hK10315 => ?_)
    rcases (ite_some h10306 : ((((x8830 : Nat) : Int) < ((xs0.length : Nat) : Int)) ∧ _) ∨ (¬ (((x8830 : Nat) : Int) < ((xs0.length : Nat) : Int)) ∧ _)) with ⟨hc10316, h10317⟩ | ⟨hc10316, h10317⟩
    · clear h10306
      have hF10318 : Fr 79 a10310 [(1, .slice pA1 xs1.length pc1), (5, .slice A11 (xs0.length + xs1.length) (xs0.length + xs1.length)), (20, .slice pA0 xs0.length pc0), (21, .int .i64 ((xs0.length : Nat) : Int)), (22, .int .i64 ((x8830 : Nat) : Int)), (23, .bool true)] := hF10311.pick [1, 5, 20, 21, 22, 23] (by rw [decide_eq_true hc10316]; kernel_rfl); clear hF10311
      refine condT hF10318 (by kernel_rfl) ?_
      refine wp_skip ?_
      refine hK10315 _ _ ?_
      obtain ⟨xj11047, hx11048, h11049⟩ := bnd_some h10317; clear h10317
      refine seqJ (fun a W => ∃ (zs11040 : List Nat), ∃ (x11044 : Nat), ∃ (x11046 : Nat), (zs11040, x11044, x11046) = xj11047 ∧ (Fr 79 a [(1, .slice pA1 xs1.length pc1), (5, .slice A11 (xs0.length + xs1.length) (xs0.length + xs1.length)), (6, .int .i64 ((x8830 : Nat) : Int)), (7, .int .u64 (((xs0.getD x8830 0) : Nat) : Int)), (8, .int .u64 ((x11044 : Nat) : Int)), (20, .slice pA0 xs0.length pc0), (21, .int .i64 ((xs0.length : Nat) : Int)), (22, .int .i64 ((x8830 : Nat) : Int)), (27, .slice pA1 xs1.length pc1), (28, .int .i64 ((xs1.length : Nat) : Int)), (29, .int .i64 ((x11046 : Nat) : Int))]) ∧ (Heap w [] W [.row 23 1 A11 (xs0.length + xs1.length) (xs0.length + xs1.length) (vs .u64 zs11040)]) ∧ (zs11040.length = (xs0.length + xs1.length)) ∧ (LB 18446744073709551616 zs11040) ∧ ((xs0.getD x8830 0) < 18446744073709551616) ∧ (x11044 < 18446744073709551616)) ?_ ?_
      · skip
        refine wp_block ?_
        refine wp_seq_k (fun K11050 hK11051 => ?_)
        refine wp_region_lit ?_
        refine pu hT 2 _ hF10318 [1, 5, 20, 21, 22, 24, 25] (G := [(1, .slice pA1 xs1.length pc1), (5, .slice A11 (xs0.length + xs1.length) (xs0.length + xs1.length)), (20, .slice pA0 xs0.length pc0), (21, .int .i64 ((xs0.length : Nat) : Int)), (22, .int .i64 ((x8830 : Nat) : Int)), (24, .int .i64 ((x8830 : Nat) : Int)), (25, .pointer (some ⟨(ablk pA0), (aoff pA0 + x8830), none⟩))]) (cs := [0 ≤ ((x8830 : Nat) : Int), ((x8830 : Nat) : Int) < ((xs0.length : Nat) : Int), (pA0 : Option Addr) = some ⟨ablk pA0, aoff pA0, none⟩]) (by kernel_rfl) (And.intro (by omega) (And.intro hc10316 (And.intro ((hS10305.rd0 pR0).some' (by have := (Eq.refl xs0.length); first | omega | (simp only [zA, zS, zT, zD, zR, zC, zN, zV, zI] <;> omega))) trivial))) ?_; clear hF10318 a10310; intro a11052 hF11053
        refine wl (s_load hT (d := 26) (A := ⟨(ablk pA0), (aoff pA0 + x8830), none⟩) (v := .int .u64 (((xs0.getD x8830 0) : Nat) : Int)) (by kernel_rfl) hF11053 (Cells.at (hS10305.rd0 pR0).cells (vs_get .u64 xs0 (i := x8830) (by have := (Eq.refl xs0.length); first | omega | (simp only [zA, zS, zT, zD, zR, zC, zN, zV, zI] <;> omega) | (simp [*]; done) | (simp [*]; omega))) (by first | rfl | omega)) ?_)
        rintro a11054 ha11056 hF11055; clear ha11056 hF11053 a11052
        have hF11057 := hF11055.pick [1, 5, 20, 21, 22, 24, 26] (G := [(1, .slice pA1 xs1.length pc1), (5, .slice A11 (xs0.length + xs1.length) (xs0.length + xs1.length)), (20, .slice pA0 xs0.length pc0), (21, .int .i64 ((xs0.length : Nat) : Int)), (22, .int .i64 ((x8830 : Nat) : Int)), (24, .int .i64 ((x8830 : Nat) : Int)), (26, .int .u64 (((xs0.getD x8830 0) : Nat) : Int))]) (by kernel_rfl); clear hF11055
        refine pu_end hT 2 _ hF11057 [1, 5, 20, 21, 22, 6, 7] (G := [(1, .slice pA1 xs1.length pc1), (5, .slice A11 (xs0.length + xs1.length) (xs0.length + xs1.length)), (20, .slice pA0 xs0.length pc0), (21, .int .i64 ((xs0.length : Nat) : Int)), (22, .int .i64 ((x8830 : Nat) : Int)), (6, .int .i64 ((x8830 : Nat) : Int)), (7, .int .u64 (((xs0.getD x8830 0) : Nat) : Int))]) (cs := []) (by kernel_rfl) rfl trivial ?_; clear hF11057 a11054; intro a11058 hF11059
        refine hK11051 _ _ ?_
        refine wp_seq_k (fun K11060 hK11061 => ?_)
        refine wp_region_lit ?_
        refine pu_end hT 1 _ hF11059 [1, 5, 20, 21, 22, 6, 7, 8] (G := [(1, .slice pA1 xs1.length pc1), (5, .slice A11 (xs0.length + xs1.length) (xs0.length + xs1.length)), (20, .slice pA0 xs0.length pc0), (21, .int .i64 ((xs0.length : Nat) : Int)), (22, .int .i64 ((x8830 : Nat) : Int)), (6, .int .i64 ((x8830 : Nat) : Int)), (7, .int .u64 (((xs0.getD x8830 0) : Nat) : Int)), (8, .int .u64 0)]) (cs := []) (by kernel_rfl) rfl trivial ?_; clear hF11059 a11058; intro a11062 hF11063
        refine hK11061 _ _ ?_
        obtain ⟨xj11420, hx11421, h11422⟩ := bnd_some hx11048; clear hx11048
        refine seqJ (fun a W => ∃ (zs11413 : List Nat), ∃ (x11417 : Nat), ∃ (x11419 : Nat), (zs11413, x11417, x11419) = xj11420 ∧ (Fr 79 a [(1, .slice pA1 xs1.length pc1), (5, .slice A11 (xs0.length + xs1.length) (xs0.length + xs1.length)), (6, .int .i64 ((x8830 : Nat) : Int)), (7, .int .u64 (((xs0.getD x8830 0) : Nat) : Int)), (8, .int .u64 ((x11417 : Nat) : Int)), (20, .slice pA0 xs0.length pc0), (21, .int .i64 ((xs0.length : Nat) : Int)), (22, .int .i64 ((x8830 : Nat) : Int)), (27, .slice pA1 xs1.length pc1), (28, .int .i64 ((xs1.length : Nat) : Int)), (29, .int .i64 ((x11419 : Nat) : Int))]) ∧ (Heap w [] W [.row 23 1 A11 (xs0.length + xs1.length) (xs0.length + xs1.length) (vs .u64 zs11413)]) ∧ (zs11413.length = (xs0.length + xs1.length)) ∧ (LB 18446744073709551616 zs11413) ∧ ((xs0.getD x8830 0) < 18446744073709551616) ∧ (x11417 < 18446744073709551616)) ?_ ?_
        · skip
          refine wp_seq_k (fun K11423 hK11424 => ?_)
          refine wp_region_lit ?_
          refine pu_end hT 3 _ hF11063 [1, 5, 20, 21, 22, 6, 7, 8, 27, 28, 29] (G := [(1, .slice pA1 xs1.length pc1), (5, .slice A11 (xs0.length + xs1.length) (xs0.length + xs1.length)), (20, .slice pA0 xs0.length pc0), (21, .int .i64 ((xs0.length : Nat) : Int)), (22, .int .i64 ((x8830 : Nat) : Int)), (6, .int .i64 ((x8830 : Nat) : Int)), (7, .int .u64 (((xs0.getD x8830 0) : Nat) : Int)), (8, .int .u64 0), (27, .slice pA1 xs1.length pc1), (28, .int .i64 ((xs1.length : Nat) : Int)), (29, .int .i64 0)]) (cs := []) (by kernel_rfl) rfl trivial ?_; clear hF11063 a11062; intro a11425 hF11426
          refine hK11424 _ _ ?_
          refine wp_block ?_
          refine loopR (F_sha512_times_l2 xs1 xs0 x8830) xj11420 (zs8827, 0, 0) hx11421 (fun s a W => ∃ (zs11595 : List Nat), ∃ (x11599 : Nat), ∃ (x11601 : Nat), (zs11595, x11599, x11601) = s ∧ (Fr 79 a [(1, .slice pA1 xs1.length pc1), (5, .slice A11 (xs0.length + xs1.length) (xs0.length + xs1.length)), (6, .int .i64 ((x8830 : Nat) : Int)), (7, .int .u64 (((xs0.getD x8830 0) : Nat) : Int)), (8, .int .u64 ((x11599 : Nat) : Int)), (20, .slice pA0 xs0.length pc0), (21, .int .i64 ((xs0.length : Nat) : Int)), (22, .int .i64 ((x8830 : Nat) : Int)), (27, .slice pA1 xs1.length pc1), (28, .int .i64 ((xs1.length : Nat) : Int)), (29, .int .i64 ((x11601 : Nat) : Int))]) ∧ (Heap w [] W [.row 23 1 A11 (xs0.length + xs1.length) (xs0.length + xs1.length) (vs .u64 zs11595)]) ∧ (zs11595.length = (xs0.length + xs1.length)) ∧ (LB 18446744073709551616 zs11595) ∧ ((xs0.getD x8830 0) < 18446744073709551616) ∧ (x11599 < 18446744073709551616)) ⟨zs8827, 0, 0, rfl, hF11426.pick [1, 5, 6, 7, 8, 20, 21, 22, 27, 28, 29] (by kernel_rfl), hS10305.pick [0] (by decide) rfl, hh8828, hh8829, (pb0.get (by decide) x8830), (by decide)⟩ ?_
          clear hF11426 hS10305 hx11421
          rintro k11692 _ a11687 w11688 ⟨zs11595, x11599, x11601, rfl, hF11689, hS11690, hh11596, hh11597, hh11598, hh11600⟩ hit11686 K11685 hK11684
          obtain ⟨y11682, h11691, hy11683⟩ := iter_succ hit11686; clear hit11686
          unfold F_sha512_times_l2 at h11691; try dsimp only at h11691
          refine wp_seq_k (fun K11693 hK11694 => ?_)
          refine wp_region_lit ?_
          refine pu_end hT 1 _ hF11689 [1, 5, 6, 7, 8, 20, 21, 22, 27, 28, 29, 30] (G := [(1, .slice pA1 xs1.length pc1), (5, .slice A11 (xs0.length + xs1.length) (xs0.length + xs1.length)), (6, .int .i64 ((x8830 : Nat) : Int)), (7, .int .u64 (((xs0.getD x8830 0) : Nat) : Int)), (8, .int .u64 ((x11599 : Nat) : Int)), (20, .slice pA0 xs0.length pc0), (21, .int .i64 ((xs0.length : Nat) : Int)), (22, .int .i64 ((x8830 : Nat) : Int)), (27, .slice pA1 xs1.length pc1), (28, .int .i64 ((xs1.length : Nat) : Int)), (29, .int .i64 ((x11601 : Nat) : Int)), (30, .bool ((decide (((x11601 : Nat) : Int) < ((xs1.length : Nat) : Int)))))]) (cs := []) (by kernel_rfl) rfl trivial ?_; clear hF11689 a11687; intro a11695 hF11696
          refine hK11694 _ _ ?_
          refine wp_seq_k (fun K11699 hK11700 => ?_)
          rcases (ite_some h11691 : ((((x11601 : Nat) : Int) < ((xs1.length : Nat) : Int)) ∧ _) ∨ (¬ (((x11601 : Nat) : Int) < ((xs1.length : Nat) : Int)) ∧ _)) with ⟨hc11701, h11702⟩ | ⟨hc11701, h11702⟩
          · clear h11691
            have hF11703 : Fr 79 a11695 [(1, .slice pA1 xs1.length pc1), (5, .slice A11 (xs0.length + xs1.length) (xs0.length + xs1.length)), (6, .int .i64 ((x8830 : Nat) : Int)), (7, .int .u64 (((xs0.getD x8830 0) : Nat) : Int)), (8, .int .u64 ((x11599 : Nat) : Int)), (20, .slice pA0 xs0.length pc0), (21, .int .i64 ((xs0.length : Nat) : Int)), (22, .int .i64 ((x8830 : Nat) : Int)), (27, .slice pA1 xs1.length pc1), (28, .int .i64 ((xs1.length : Nat) : Int)), (29, .int .i64 ((x11601 : Nat) : Int)), (30, .bool true)] := hF11696.pick [1, 5, 6, 7, 8, 20, 21, 22, 27, 28, 29, 30] (by rw [decide_eq_true hc11701]; kernel_rfl); clear hF11696
            refine condT hF11703 (by kernel_rfl) ?_
            refine wp_skip ?_
            refine hK11700 _ _ ?_
            refine wp_seq_k (fun K11738 hK11739 => ?_)
            refine wp_block ?_
            refine wp_seq_k (fun K11740 hK11741 => ?_)
            refine wp_region_lit ?_
            refine pu hT 2 _ hF11703 [1, 5, 6, 7, 8, 20, 21, 22, 27, 28, 29, 31, 32] (G := [(1, .slice pA1 xs1.length pc1), (5, .slice A11 (xs0.length + xs1.length) (xs0.length + xs1.length)), (6, .int .i64 ((x8830 : Nat) : Int)), (7, .int .u64 (((xs0.getD x8830 0) : Nat) : Int)), (8, .int .u64 ((x11599 : Nat) : Int)), (20, .slice pA0 xs0.length pc0), (21, .int .i64 ((xs0.length : Nat) : Int)), (22, .int .i64 ((x8830 : Nat) : Int)), (27, .slice pA1 xs1.length pc1), (28, .int .i64 ((xs1.length : Nat) : Int)), (29, .int .i64 ((x11601 : Nat) : Int)), (31, .int .i64 ((x11601 : Nat) : Int)), (32, .pointer (some ⟨(ablk pA1), (aoff pA1 + x11601), none⟩))]) (cs := [0 ≤ ((x11601 : Nat) : Int), ((x11601 : Nat) : Int) < ((xs1.length : Nat) : Int), (pA1 : Option Addr) = some ⟨ablk pA1, aoff pA1, none⟩]) (by kernel_rfl) (And.intro (by omega) (And.intro hc11701 (And.intro ((hS11690.rd0 pR1).some' (by have := (Eq.refl xs1.length); first | omega | (simp only [zA, zS, zT, zD, zR, zC, zN, zV, zI] <;> omega))) trivial))) ?_; clear hF11703 a11695; intro a11742 hF11743
            refine wl (s_load hT (d := 33) (A := ⟨(ablk pA1), (aoff pA1 + x11601), none⟩) (v := .int .u64 (((xs1.getD x11601 0) : Nat) : Int)) (by kernel_rfl) hF11743 (Cells.at (hS11690.rd0 pR1).cells (vs_get .u64 xs1 (i := x11601) (by have := (Eq.refl xs1.length); first | omega | (simp only [zA, zS, zT, zD, zR, zC, zN, zV, zI] <;> omega) | (simp [*]; done) | (simp [*]; omega))) (by first | rfl | omega)) ?_)
            rintro a11744 ha11746 hF11745; clear ha11746 hF11743 a11742
            have hF11747 := hF11745.pick [1, 5, 6, 7, 8, 20, 21, 22, 27, 28, 29, 31, 33] (G := [(1, .slice pA1 xs1.length pc1), (5, .slice A11 (xs0.length + xs1.length) (xs0.length + xs1.length)), (6, .int .i64 ((x8830 : Nat) : Int)), (7, .int .u64 (((xs0.getD x8830 0) : Nat) : Int)), (8, .int .u64 ((x11599 : Nat) : Int)), (20, .slice pA0 xs0.length pc0), (21, .int .i64 ((xs0.length : Nat) : Int)), (22, .int .i64 ((x8830 : Nat) : Int)), (27, .slice pA1 xs1.length pc1), (28, .int .i64 ((xs1.length : Nat) : Int)), (29, .int .i64 ((x11601 : Nat) : Int)), (31, .int .i64 ((x11601 : Nat) : Int)), (33, .int .u64 (((xs1.getD x11601 0) : Nat) : Int))]) (by kernel_rfl); clear hF11745
            refine pu_end hT 2 _ hF11747 [1, 5, 6, 7, 8, 20, 21, 22, 27, 28, 29, 9, 10] (G := [(1, .slice pA1 xs1.length pc1), (5, .slice A11 (xs0.length + xs1.length) (xs0.length + xs1.length)), (6, .int .i64 ((x8830 : Nat) : Int)), (7, .int .u64 (((xs0.getD x8830 0) : Nat) : Int)), (8, .int .u64 ((x11599 : Nat) : Int)), (20, .slice pA0 xs0.length pc0), (21, .int .i64 ((xs0.length : Nat) : Int)), (22, .int .i64 ((x8830 : Nat) : Int)), (27, .slice pA1 xs1.length pc1), (28, .int .i64 ((xs1.length : Nat) : Int)), (29, .int .i64 ((x11601 : Nat) : Int)), (9, .int .i64 ((x11601 : Nat) : Int)), (10, .int .u64 (((xs1.getD x11601 0) : Nat) : Int))]) (cs := []) (by kernel_rfl) rfl trivial ?_; clear hF11747 a11744; intro a11748 hF11749
            refine hK11741 _ _ ?_
            refine wp_seq_k (fun K11750 hK11751 => ?_)
            obtain ⟨⟨x11752, x11753⟩, hr11755, h11754⟩ := bnd_some h11702; clear h11702; replace hr11755 : F_bits_Mul64 (xs0.getD x8830 0) (xs1.getD x11601 0) = some (x11752, x11753) := hr11755
            refine wp_region_lit ?_
            refine pu hT 2 _ hF11749 [1, 5, 6, 7, 8, 20, 21, 22, 27, 28, 29, 9, 35, 36] (G := [(1, .slice pA1 xs1.length pc1), (5, .slice A11 (xs0.length + xs1.length) (xs0.length + xs1.length)), (6, .int .i64 ((x8830 : Nat) : Int)), (7, .int .u64 (((xs0.getD x8830 0) : Nat) : Int)), (8, .int .u64 ((x11599 : Nat) : Int)), (20, .slice pA0 xs0.length pc0), (21, .int .i64 ((xs0.length : Nat) : Int)), (22, .int .i64 ((x8830 : Nat) : Int)), (27, .slice pA1 xs1.length pc1), (28, .int .i64 ((xs1.length : Nat) : Int)), (29, .int .i64 ((x11601 : Nat) : Int)), (9, .int .i64 ((x11601 : Nat) : Int)), (35, .int .u64 (((xs0.getD x8830 0) : Nat) : Int)), (36, .int .u64 (((xs1.getD x11601 0) : Nat) : Int))]) (cs := []) (by kernel_rfl) trivial ?_; clear hF11749 a11748; intro a11758 hF11759
            refine wl (s_call (d := 37) (f := 68) (l := [.int .u64 (((xs0.getD x8830 0) : Nat) : Int), .int .u64 (((xs1.getD x11601 0) : Nat) : Int)]) (by kernel_rfl) hF11759 cl68 (W_bits_Mul64 (xs0.getD x8830 0) (xs1.getD x11601 0) _ hh11598 (pb1.get (by decide) x11601) x11752 x11753 hr11755) ?_)
            rintro a11760 w11761 v11762 ⟨rfl, hh11756, hh11757, hC11763⟩ ha11764 hF11765; clear ha11764 hF11759 a11758
            have hS11766 : Heap w [] w11761 [.row 23 1 A11 (xs0.length + xs1.length) (xs0.length + xs1.length) (vs .u64 zs11595)] := Heap.call hS11690 hC11763; clear hS11690
            have hF11767 := hF11765.pick [1, 5, 6, 7, 8, 20, 21, 22, 27, 28, 29, 9, 37] (G := [(1, .slice pA1 xs1.length pc1), (5, .slice A11 (xs0.length + xs1.length) (xs0.length + xs1.length)), (6, .int .i64 ((x8830 : Nat) : Int)), (7, .int .u64 (((xs0.getD x8830 0) : Nat) : Int)), (8, .int .u64 ((x11599 : Nat) : Int)), (20, .slice pA0 xs0.length pc0), (21, .int .i64 ((xs0.length : Nat) : Int)), (22, .int .i64 ((x8830 : Nat) : Int)), (27, .slice pA1 xs1.length pc1), (28, .int .i64 ((xs1.length : Nat) : Int)), (29, .int .i64 ((x11601 : Nat) : Int)), (9, .int .i64 ((x11601 : Nat) : Int)), (37, .tuple #[.int .u64 ((x11752 : Nat) : Int), .int .u64 ((x11753 : Nat) : Int)])]) (by kernel_rfl); clear hF11765
            refine pu_end hT 5 _ hF11767 [1, 5, 6, 7, 8, 20, 21, 22, 27, 28, 29, 9, 11, 12] (G := [(1, .slice pA1 xs1.length pc1), (5, .slice A11 (xs0.length + xs1.length) (xs0.length + xs1.length)), (6, .int .i64 ((x8830 : Nat) : Int)), (7, .int .u64 (((xs0.getD x8830 0) : Nat) : Int)), (8, .int .u64 ((x11599 : Nat) : Int)), (20, .slice pA0 xs0.length pc0), (21, .int .i64 ((xs0.length : Nat) : Int)), (22, .int .i64 ((x8830 : Nat) : Int)), (27, .slice pA1 xs1.length pc1), (28, .int .i64 ((xs1.length : Nat) : Int)), (29, .int .i64 ((x11601 : Nat) : Int)), (9, .int .i64 ((x11601 : Nat) : Int)), (11, .int .u64 ((x11752 : Nat) : Int)), (12, .int .u64 ((x11753 : Nat) : Int))]) (cs := []) (by kernel_rfl) rfl trivial ?_; clear hF11767 a11760; intro a11768 hF11769
            refine hK11751 _ _ ?_
            refine wp_seq_k (fun K11770 hK11771 => ?_)
            refine wp_region_lit ?_
            refine pu_end hT 1 _ hF11769 [1, 5, 6, 7, 8, 20, 21, 22, 27, 28, 29, 9, 11, 12] (G := [(1, .slice pA1 xs1.length pc1), (5, .slice A11 (xs0.length + xs1.length) (xs0.length + xs1.length)), (6, .int .i64 ((x8830 : Nat) : Int)), (7, .int .u64 (((xs0.getD x8830 0) : Nat) : Int)), (8, .int .u64 ((x11599 : Nat) : Int)), (20, .slice pA0 xs0.length pc0), (21, .int .i64 ((xs0.length : Nat) : Int)), (22, .int .i64 ((x8830 : Nat) : Int)), (27, .slice pA1 xs1.length pc1), (28, .int .i64 ((xs1.length : Nat) : Int)), (29, .int .i64 ((x11601 : Nat) : Int)), (9, .int .i64 ((x11601 : Nat) : Int)), (11, .int .u64 ((x11752 : Nat) : Int)), (12, .int .u64 ((x11753 : Nat) : Int))]) (cs := []) (by kernel_rfl) rfl trivial ?_; clear hF11769 a11768; intro a11772 hF11773
            refine hK11771 _ _ ?_
            refine wp_seq_k (fun K11774 hK11775 => ?_)
            obtain ⟨g11777, h11776⟩ : ((((x8830 + x11601) : Nat) : Int) ≤ 9223372036854775807) ∧ _ := gd_some h11754; clear h11754
            obtain ⟨g11779, h11778⟩ : ((((x8830 + x11601) : Nat) : Int) < (((xs0.length + xs1.length) : Nat) : Int)) ∧ _ := gd_some h11776; clear h11776
            obtain ⟨t11780, ht11781, h11782⟩ := ltb_some h11778; clear h11778; replace ht11781 : t11780 = ((x11753 + (zs11595.getD (x8830 + x11601) 0) + 0) % 18446744073709551616) := ht11781
            obtain ⟨t11784, ht11785, h11786⟩ := ltb_some h11782; clear h11782; replace ht11785 : t11784 = ((x11753 + (zs11595.getD (x8830 + x11601) 0) + 0) / 18446744073709551616) := ht11785
            refine wp_region_lit ?_
            refine pu hT 6 _ hF11773 [1, 5, 6, 7, 8, 20, 21, 22, 27, 28, 29, 9, 11, 12, 41, 46] (G := [(1, .slice pA1 xs1.length pc1), (5, .slice A11 (xs0.length + xs1.length) (xs0.length + xs1.length)), (6, .int .i64 ((x8830 : Nat) : Int)), (7, .int .u64 (((xs0.getD x8830 0) : Nat) : Int)), (8, .int .u64 ((x11599 : Nat) : Int)), (20, .slice pA0 xs0.length pc0), (21, .int .i64 ((xs0.length : Nat) : Int)), (22, .int .i64 ((x8830 : Nat) : Int)), (27, .slice pA1 xs1.length pc1), (28, .int .i64 ((xs1.length : Nat) : Int)), (29, .int .i64 ((x11601 : Nat) : Int)), (9, .int .i64 ((x11601 : Nat) : Int)), (11, .int .u64 ((x11752 : Nat) : Int)), (12, .int .u64 ((x11753 : Nat) : Int)), (41, .int .u64 ((x11753 : Nat) : Int)), (46, .pointer (some ⟨(ablk A11), (aoff A11 + (x8830 + x11601)), none⟩))]) (cs := [-9223372036854775808 ≤ (((x8830 + x11601) : Nat) : Int), (((x8830 + x11601) : Nat) : Int) ≤ 9223372036854775807, 0 ≤ (((x8830 + x11601) : Nat) : Int), (((x8830 + x11601) : Nat) : Int) < (((xs0.length + xs1.length) : Nat) : Int), (A11 : Option Addr) = some ⟨ablk A11, aoff A11, none⟩]) (by kernel_rfl) (And.intro (by omega) (And.intro g11777 (And.intro (by omega) (And.intro g11779 (And.intro ((hS11766.own 0 rfl).rd.some' (by have := hh11596; first | omega | (simp only [zA, zS, zT, zD, zR, zC, zN, zV, zI] <;> omega))) trivial))))) ?_; clear hF11773 a11772; intro a11788 hF11789
            refine wl (s_load hT (d := 47) (A := ⟨(ablk A11), (aoff A11 + (x8830 + x11601)), none⟩) (v := .int .u64 (((zs11595.getD (x8830 + x11601) 0) : Nat) : Int)) (by kernel_rfl) hF11789 (Cells.at (hS11766.own 0 rfl).rd.cells (vs_get .u64 zs11595 (i := (x8830 + x11601)) (by have := hh11596; first | omega | (simp only [zA, zS, zT, zD, zR, zC, zN, zV, zI] <;> omega) | (simp [*]; done) | (simp [*]; omega))) (by first | rfl | omega)) ?_)
            rintro a11790 ha11792 hF11791; clear ha11792 hF11789 a11788
            have hF11793 := hF11791.pick [1, 5, 6, 7, 8, 20, 21, 22, 27, 28, 29, 9, 11, 12, 41, 47] (G := [(1, .slice pA1 xs1.length pc1), (5, .slice A11 (xs0.length + xs1.length) (xs0.length + xs1.length)), (6, .int .i64 ((x8830 : Nat) : Int)), (7, .int .u64 (((xs0.getD x8830 0) : Nat) : Int)), (8, .int .u64 ((x11599 : Nat) : Int)), (20, .slice pA0 xs0.length pc0), (21, .int .i64 ((xs0.length : Nat) : Int)), (22, .int .i64 ((x8830 : Nat) : Int)), (27, .slice pA1 xs1.length pc1), (28, .int .i64 ((xs1.length : Nat) : Int)), (29, .int .i64 ((x11601 : Nat) : Int)), (9, .int .i64 ((x11601 : Nat) : Int)), (11, .int .u64 ((x11752 : Nat) : Int)), (12, .int .u64 ((x11753 : Nat) : Int)), (41, .int .u64 ((x11753 : Nat) : Int)), (47, .int .u64 (((zs11595.getD (x8830 + x11601) 0) : Nat) : Int))]) (by kernel_rfl); clear hF11791
            refine wl (s_ext (d := 48) (f := 69) (l := [.int .u64 ((x11753 : Nat) : Int), .int .u64 (((zs11595.getD (x8830 + x11601) 0) : Nat) : Int), .int .u64 0]) (by kernel_rfl) hF11793 (ext_add64 x11753 (zs11595.getD (x8830 + x11601) 0) 0 (by decide) _) ?_)
            rintro a11794 ha11796 hF11795; clear ha11796 hF11793 a11790
            have hF11797 := hF11795.pick [1, 5, 6, 7, 8, 20, 21, 22, 27, 28, 29, 9, 11, 12, 48] (G := [(1, .slice pA1 xs1.length pc1), (5, .slice A11 (xs0.length + xs1.length) (xs0.length + xs1.length)), (6, .int .i64 ((x8830 : Nat) : Int)), (7, .int .u64 (((xs0.getD x8830 0) : Nat) : Int)), (8, .int .u64 ((x11599 : Nat) : Int)), (20, .slice pA0 xs0.length pc0), (21, .int .i64 ((xs0.length : Nat) : Int)), (22, .int .i64 ((x8830 : Nat) : Int)), (27, .slice pA1 xs1.length pc1), (28, .int .i64 ((xs1.length : Nat) : Int)), (29, .int .i64 ((x11601 : Nat) : Int)), (9, .int .i64 ((x11601 : Nat) : Int)), (11, .int .u64 ((x11752 : Nat) : Int)), (12, .int .u64 ((x11753 : Nat) : Int)), (48, .tuple #[.int .u64 ((((x11753 + (zs11595.getD (x8830 + x11601) 0) + 0) % 18446744073709551616) : Nat) : Int), .int .u64 ((((x11753 + (zs11595.getD (x8830 + x11601) 0) + 0) / 18446744073709551616) : Nat) : Int)])]) (by kernel_rfl); clear hF11795
            refine pu hT 4 _ hF11797 [1, 5, 6, 7, 8, 20, 21, 22, 27, 28, 29, 9, 11, 50, 12] (G := [(1, .slice pA1 xs1.length pc1), (5, .slice A11 (xs0.length + xs1.length) (xs0.length + xs1.length)), (6, .int .i64 ((x8830 : Nat) : Int)), (7, .int .u64 (((xs0.getD x8830 0) : Nat) : Int)), (8, .int .u64 ((x11599 : Nat) : Int)), (20, .slice pA0 xs0.length pc0), (21, .int .i64 ((xs0.length : Nat) : Int)), (22, .int .i64 ((x8830 : Nat) : Int)), (27, .slice pA1 xs1.length pc1), (28, .int .i64 ((xs1.length : Nat) : Int)), (29, .int .i64 ((x11601 : Nat) : Int)), (9, .int .i64 ((x11601 : Nat) : Int)), (11, .int .u64 ((x11752 : Nat) : Int)), (50, .int .u64 ((((x11753 + (zs11595.getD (x8830 + x11601) 0) + 0) / 18446744073709551616) : Nat) : Int)), (12, .int .u64 ((((x11753 + (zs11595.getD (x8830 + x11601) 0) + 0) % 18446744073709551616) : Nat) : Int))]) (cs := []) (by kernel_rfl) trivial ?_; clear hF11797 a11794; intro a11798 hF11799
            have hb11783 : t11780 < 18446744073709551616 := by rw [ht11781]; exact (Nat.mod_lt _ (by decide))
            have hF11800 : Fr 79 a11798 [(1, .slice pA1 xs1.length pc1), (5, .slice A11 (xs0.length + xs1.length) (xs0.length + xs1.length)), (6, .int .i64 ((x8830 : Nat) : Int)), (7, .int .u64 (((xs0.getD x8830 0) : Nat) : Int)), (8, .int .u64 ((x11599 : Nat) : Int)), (20, .slice pA0 xs0.length pc0), (21, .int .i64 ((xs0.length : Nat) : Int)), (22, .int .i64 ((x8830 : Nat) : Int)), (27, .slice pA1 xs1.length pc1), (28, .int .i64 ((xs1.length : Nat) : Int)), (29, .int .i64 ((x11601 : Nat) : Int)), (9, .int .i64 ((x11601 : Nat) : Int)), (11, .int .u64 ((x11752 : Nat) : Int)), (50, .int .u64 ((((x11753 + (zs11595.getD (x8830 + x11601) 0) + 0) / 18446744073709551616) : Nat) : Int)), (12, .int .u64 ((t11780 : Nat) : Int))] := hF11799.pick [1, 5, 6, 7, 8, 20, 21, 22, 27, 28, 29, 9, 11, 50, 12] (by rw [ht11781]; kernel_rfl); clear hF11799
            refine pu_end hT 1 _ hF11800 [1, 5, 6, 7, 8, 20, 21, 22, 27, 28, 29, 9, 11, 12, 13] (G := [(1, .slice pA1 xs1.length pc1), (5, .slice A11 (xs0.length + xs1.length) (xs0.length + xs1.length)), (6, .int .i64 ((x8830 : Nat) : Int)), (7, .int .u64 (((xs0.getD x8830 0) : Nat) : Int)), (8, .int .u64 ((x11599 : Nat) : Int)), (20, .slice pA0 xs0.length pc0), (21, .int .i64 ((xs0.length : Nat) : Int)), (22, .int .i64 ((x8830 : Nat) : Int)), (27, .slice pA1 xs1.length pc1), (28, .int .i64 ((xs1.length : Nat) : Int)), (29, .int .i64 ((x11601 : Nat) : Int)), (9, .int .i64 ((x11601 : Nat) : Int)), (11, .int .u64 ((x11752 : Nat) : Int)), (12, .int .u64 ((t11780 : Nat) : Int)), (13, .int .u64 ((((x11753 + (zs11595.getD (x8830 + x11601) 0) + 0) / 18446744073709551616) : Nat) : Int))]) (cs := []) (by kernel_rfl) rfl trivial ?_; clear hF11800 a11798; intro a11801 hF11802
            have hb11787 : t11784 < 18446744073709551616 := by rw [ht11785]; exact (by have : x11753 < 18446744073709551616 := hh11757; have : (zs11595.getD (x8830 + x11601) 0) < 18446744073709551616 := (hh11597.get (by decide) (x8830 + x11601)); have : 0 ≤ 1 := (by decide); omega)
            have hF11803 : Fr 79 a11801 [(1, .slice pA1 xs1.length pc1), (5, .slice A11 (xs0.length + xs1.length) (xs0.length + xs1.length)), (6, .int .i64 ((x8830 : Nat) : Int)), (7, .int .u64 (((xs0.getD x8830 0) : Nat) : Int)), (8, .int .u64 ((x11599 : Nat) : Int)), (20, .slice pA0 xs0.length pc0), (21, .int .i64 ((xs0.length : Nat) : Int)), (22, .int .i64 ((x8830 : Nat) : Int)), (27, .slice pA1 xs1.length pc1), (28, .int .i64 ((xs1.length : Nat) : Int)), (29, .int .i64 ((x11601 : Nat) : Int)), (9, .int .i64 ((x11601 : Nat) : Int)), (11, .int .u64 ((x11752 : Nat) : Int)), (12, .int .u64 ((t11780 : Nat) : Int)), (13, .int .u64 ((t11784 : Nat) : Int))] := hF11802.pick [1, 5, 6, 7, 8, 20, 21, 22, 27, 28, 29, 9, 11, 12, 13] (by rw [ht11785]; kernel_rfl); clear hF11802
            refine hK11775 _ _ ?_
            refine wp_seq_k (fun K11804 hK11805 => ?_)
            refine wp_region_lit ?_
            refine pu_end hT 4 _ hF11803 [1, 5, 6, 7, 8, 20, 21, 22, 27, 28, 29, 9, 12, 11] (G := [(1, .slice pA1 xs1.length pc1), (5, .slice A11 (xs0.length + xs1.length) (xs0.length + xs1.length)), (6, .int .i64 ((x8830 : Nat) : Int)), (7, .int .u64 (((xs0.getD x8830 0) : Nat) : Int)), (8, .int .u64 ((x11599 : Nat) : Int)), (20, .slice pA0 xs0.length pc0), (21, .int .i64 ((xs0.length : Nat) : Int)), (22, .int .i64 ((x8830 : Nat) : Int)), (27, .slice pA1 xs1.length pc1), (28, .int .i64 ((xs1.length : Nat) : Int)), (29, .int .i64 ((x11601 : Nat) : Int)), (9, .int .i64 ((x11601 : Nat) : Int)), (12, .int .u64 ((t11780 : Nat) : Int)), (11, .int .u64 ((((x11752 + t11784) % 18446744073709551616) : Nat) : Int))]) (cs := []) (by kernel_rfl) rfl trivial ?_; clear hF11803 a11801; intro a11806 hF11807
            refine hK11805 _ _ ?_
            refine wp_seq_k (fun K11808 hK11809 => ?_)
            refine wp_region_lit ?_
            refine pu hT 2 _ hF11807 [1, 5, 6, 7, 20, 21, 22, 27, 28, 29, 9, 12, 11, 55, 56] (G := [(1, .slice pA1 xs1.length pc1), (5, .slice A11 (xs0.length + xs1.length) (xs0.length + xs1.length)), (6, .int .i64 ((x8830 : Nat) : Int)), (7, .int .u64 (((xs0.getD x8830 0) : Nat) : Int)), (20, .slice pA0 xs0.length pc0), (21, .int .i64 ((xs0.length : Nat) : Int)), (22, .int .i64 ((x8830 : Nat) : Int)), (27, .slice pA1 xs1.length pc1), (28, .int .i64 ((xs1.length : Nat) : Int)), (29, .int .i64 ((x11601 : Nat) : Int)), (9, .int .i64 ((x11601 : Nat) : Int)), (12, .int .u64 ((t11780 : Nat) : Int)), (11, .int .u64 ((((x11752 + t11784) % 18446744073709551616) : Nat) : Int)), (55, .int .u64 ((t11780 : Nat) : Int)), (56, .int .u64 ((x11599 : Nat) : Int))]) (cs := []) (by kernel_rfl) trivial ?_; clear hF11807 a11806; intro a11810 hF11811
            refine wl (s_ext (d := 57) (f := 69) (l := [.int .u64 ((t11780 : Nat) : Int), .int .u64 ((x11599 : Nat) : Int), .int .u64 0]) (by kernel_rfl) hF11811 (ext_add64 t11780 x11599 0 (by decide) _) ?_)
            rintro a11812 ha11814 hF11813; clear ha11814 hF11811 a11810
            have hF11815 := hF11813.pick [1, 5, 6, 7, 20, 21, 22, 27, 28, 29, 9, 12, 11, 57] (G := [(1, .slice pA1 xs1.length pc1), (5, .slice A11 (xs0.length + xs1.length) (xs0.length + xs1.length)), (6, .int .i64 ((x8830 : Nat) : Int)), (7, .int .u64 (((xs0.getD x8830 0) : Nat) : Int)), (20, .slice pA0 xs0.length pc0), (21, .int .i64 ((xs0.length : Nat) : Int)), (22, .int .i64 ((x8830 : Nat) : Int)), (27, .slice pA1 xs1.length pc1), (28, .int .i64 ((xs1.length : Nat) : Int)), (29, .int .i64 ((x11601 : Nat) : Int)), (9, .int .i64 ((x11601 : Nat) : Int)), (12, .int .u64 ((t11780 : Nat) : Int)), (11, .int .u64 ((((x11752 + t11784) % 18446744073709551616) : Nat) : Int)), (57, .tuple #[.int .u64 ((((t11780 + x11599 + 0) % 18446744073709551616) : Nat) : Int), .int .u64 ((((t11780 + x11599 + 0) / 18446744073709551616) : Nat) : Int)])]) (by kernel_rfl); clear hF11813
            refine pu_end hT 5 _ hF11815 [1, 5, 6, 7, 20, 21, 22, 27, 28, 29, 9, 11, 12, 13] (G := [(1, .slice pA1 xs1.length pc1), (5, .slice A11 (xs0.length + xs1.length) (xs0.length + xs1.length)), (6, .int .i64 ((x8830 : Nat) : Int)), (7, .int .u64 (((xs0.getD x8830 0) : Nat) : Int)), (20, .slice pA0 xs0.length pc0), (21, .int .i64 ((xs0.length : Nat) : Int)), (22, .int .i64 ((x8830 : Nat) : Int)), (27, .slice pA1 xs1.length pc1), (28, .int .i64 ((xs1.length : Nat) : Int)), (29, .int .i64 ((x11601 : Nat) : Int)), (9, .int .i64 ((x11601 : Nat) : Int)), (11, .int .u64 ((((x11752 + t11784) % 18446744073709551616) : Nat) : Int)), (12, .int .u64 ((((t11780 + x11599 + 0) % 18446744073709551616) : Nat) : Int)), (13, .int .u64 ((((t11780 + x11599 + 0) / 18446744073709551616) : Nat) : Int))]) (cs := []) (by kernel_rfl) rfl trivial ?_; clear hF11815 a11812; intro a11816 hF11817
            refine hK11809 _ _ ?_
            obtain ⟨t11818, ht11819, h11820⟩ := ltb_some h11786; clear h11786; replace ht11819 : t11818 = ((((x11752 + t11784) % 18446744073709551616) + ((t11780 + x11599 + 0) / 18446744073709551616)) % 18446744073709551616) := ht11819
            refine wp_region_lit ?_
            refine pu hT 9 _ hF11817 [1, 5, 6, 7, 20, 21, 22, 27, 28, 29, 64, 67, 68] (G := [(1, .slice pA1 xs1.length pc1), (5, .slice A11 (xs0.length + xs1.length) (xs0.length + xs1.length)), (6, .int .i64 ((x8830 : Nat) : Int)), (7, .int .u64 (((xs0.getD x8830 0) : Nat) : Int)), (20, .slice pA0 xs0.length pc0), (21, .int .i64 ((xs0.length : Nat) : Int)), (22, .int .i64 ((x8830 : Nat) : Int)), (27, .slice pA1 xs1.length pc1), (28, .int .i64 ((xs1.length : Nat) : Int)), (29, .int .i64 ((x11601 : Nat) : Int)), (64, .int .u64 ((((t11780 + x11599 + 0) % 18446744073709551616) : Nat) : Int)), (67, .int .u64 ((((((x11752 + t11784) % 18446744073709551616) + ((t11780 + x11599 + 0) / 18446744073709551616)) % 18446744073709551616) : Nat) : Int)), (68, .pointer (some ⟨(ablk A11), (aoff A11 + (x8830 + x11601)), none⟩))]) (cs := [-9223372036854775808 ≤ (((x8830 + x11601) : Nat) : Int), (((x8830 + x11601) : Nat) : Int) ≤ 9223372036854775807, 0 ≤ (((x8830 + x11601) : Nat) : Int), (((x8830 + x11601) : Nat) : Int) < (((xs0.length + xs1.length) : Nat) : Int), (A11 : Option Addr) = some ⟨ablk A11, aoff A11, none⟩]) (by kernel_rfl) (And.intro (by omega) (And.intro g11777 (And.intro (by omega) (And.intro g11779 (And.intro ((hS11766.own 0 rfl).rd.some' (by have := hh11596; first | omega | (simp only [zA, zS, zT, zD, zR, zC, zN, zV, zI] <;> omega))) trivial))))) ?_; clear hF11817 a11816; intro a11822 hF11823
            refine wl (h_storeR hT (off := (x8830 + x11601)) (p := ⟨(ablk A11), (aoff A11 + (x8830 + x11601)), none⟩) (v := .int .u64 ((((t11780 + x11599 + 0) % 18446744073709551616) : Nat) : Int)) (l' := vs .u64 (zs11595.set (x8830 + x11601) ((t11780 + x11599 + 0) % 18446744073709551616))) (by kernel_rfl) hF11823 hS11766 0 rfl (by have := hh11596; have := (hS11766.own 0 rfl).cap; simp only [zA, zS, zT, zD, zR, zC, zN, zV, zI] <;> omega) (by first | rfl | (congr 1; omega)) (by first | exact vs_set _ _ _ _ | exact vi_set _ _ _ | rfl) ?_)
            rintro a11824 w11825 ha11828 hF11829 hS11826 g11827; clear ha11828 hF11823 a11822 hS11766
            have hS11830 : Heap w [] w11825 [.row 23 1 A11 (xs0.length + xs1.length) (xs0.length + xs1.length) (vs .u64 (zs11595.set (x8830 + x11601) ((t11780 + x11599 + 0) % 18446744073709551616)))] := hS11826; clear hS11826
            have hF11831 := hF11829.pick [1, 5, 6, 7, 20, 21, 22, 27, 28, 29, 67] (G := [(1, .slice pA1 xs1.length pc1), (5, .slice A11 (xs0.length + xs1.length) (xs0.length + xs1.length)), (6, .int .i64 ((x8830 : Nat) : Int)), (7, .int .u64 (((xs0.getD x8830 0) : Nat) : Int)), (20, .slice pA0 xs0.length pc0), (21, .int .i64 ((xs0.length : Nat) : Int)), (22, .int .i64 ((x8830 : Nat) : Int)), (27, .slice pA1 xs1.length pc1), (28, .int .i64 ((xs1.length : Nat) : Int)), (29, .int .i64 ((x11601 : Nat) : Int)), (67, .int .u64 ((((((x11752 + t11784) % 18446744073709551616) + ((t11780 + x11599 + 0) / 18446744073709551616)) % 18446744073709551616) : Nat) : Int))]) (by kernel_rfl); clear hF11829
            refine pu_end hT 1 _ hF11831 [1, 5, 6, 7, 20, 21, 22, 27, 28, 29, 8] (G := [(1, .slice pA1 xs1.length pc1), (5, .slice A11 (xs0.length + xs1.length) (xs0.length + xs1.length)), (6, .int .i64 ((x8830 : Nat) : Int)), (7, .int .u64 (((xs0.getD x8830 0) : Nat) : Int)), (20, .slice pA0 xs0.length pc0), (21, .int .i64 ((xs0.length : Nat) : Int)), (22, .int .i64 ((x8830 : Nat) : Int)), (27, .slice pA1 xs1.length pc1), (28, .int .i64 ((xs1.length : Nat) : Int)), (29, .int .i64 ((x11601 : Nat) : Int)), (8, .int .u64 ((((((x11752 + t11784) % 18446744073709551616) + ((t11780 + x11599 + 0) / 18446744073709551616)) % 18446744073709551616) : Nat) : Int))]) (cs := []) (by kernel_rfl) rfl trivial ?_; clear hF11831 a11824; intro a11832 hF11833
            have hb11821 : t11818 < 18446744073709551616 := by rw [ht11819]; exact (Nat.mod_lt _ (by decide))
            have hF11834 : Fr 79 a11832 [(1, .slice pA1 xs1.length pc1), (5, .slice A11 (xs0.length + xs1.length) (xs0.length + xs1.length)), (6, .int .i64 ((x8830 : Nat) : Int)), (7, .int .u64 (((xs0.getD x8830 0) : Nat) : Int)), (20, .slice pA0 xs0.length pc0), (21, .int .i64 ((xs0.length : Nat) : Int)), (22, .int .i64 ((x8830 : Nat) : Int)), (27, .slice pA1 xs1.length pc1), (28, .int .i64 ((xs1.length : Nat) : Int)), (29, .int .i64 ((x11601 : Nat) : Int)), (8, .int .u64 ((t11818 : Nat) : Int))] := hF11833.pick [1, 5, 6, 7, 20, 21, 22, 27, 28, 29, 8] (by rw [ht11819]; kernel_rfl); clear hF11833
            refine hK11739 _ _ ?_
            obtain ⟨g11836, h11835⟩ : ((((x11601 + 1) : Nat) : Int) ≤ 9223372036854775807) ∧ _ := gd_some h11820; clear h11820
            refine wp_region_lit ?_
            refine pu_end hT 2 _ hF11834 [1, 5, 6, 7, 20, 21, 22, 27, 28, 8, 29] (G := [(1, .slice pA1 xs1.length pc1), (5, .slice A11 (xs0.length + xs1.length) (xs0.length + xs1.length)), (6, .int .i64 ((x8830 : Nat) : Int)), (7, .int .u64 (((xs0.getD x8830 0) : Nat) : Int)), (20, .slice pA0 xs0.length pc0), (21, .int .i64 ((xs0.length : Nat) : Int)), (22, .int .i64 ((x8830 : Nat) : Int)), (27, .slice pA1 xs1.length pc1), (28, .int .i64 ((xs1.length : Nat) : Int)), (8, .int .u64 ((t11818 : Nat) : Int)), (29, .int .i64 (((x11601 + 1) : Nat) : Int))]) (cs := [-9223372036854775808 ≤ (((x11601 + 1) : Nat) : Int), (((x11601 + 1) : Nat) : Int) ≤ 9223372036854775807]) (by kernel_rfl) rfl (And.intro (by omega) (And.intro g11836 trivial)) ?_; clear hF11834 a11832; intro a11837 hF11838
            obtain rfl := Option.some.inj h11835
            exact hK11684 _ _ _ hy11683 ⟨(zs11595.set (x8830 + x11601) ((t11780 + x11599 + 0) % 18446744073709551616)), t11818, (x11601 + 1), rfl, hF11838.pick [1, 5, 6, 7, 8, 20, 21, 22, 27, 28, 29] (by kernel_rfl), hS11830.pick [0] (by decide) rfl, (len_set hh11596 (x8830 + x11601) ((t11780 + x11599 + 0) % 18446744073709551616)), (hh11597.set (Nat.mod_lt _ (by decide)) (x8830 + x11601)), hh11598, hb11821⟩
          · clear h11691
            have hF11839 : Fr 79 a11695 [(1, .slice pA1 xs1.length pc1), (5, .slice A11 (xs0.length + xs1.length) (xs0.length + xs1.length)), (6, .int .i64 ((x8830 : Nat) : Int)), (7, .int .u64 (((xs0.getD x8830 0) : Nat) : Int)), (8, .int .u64 ((x11599 : Nat) : Int)), (20, .slice pA0 xs0.length pc0), (21, .int .i64 ((xs0.length : Nat) : Int)), (22, .int .i64 ((x8830 : Nat) : Int)), (27, .slice pA1 xs1.length pc1), (28, .int .i64 ((xs1.length : Nat) : Int)), (29, .int .i64 ((x11601 : Nat) : Int)), (30, .bool false)] := hF11696.pick [1, 5, 6, 7, 8, 20, 21, 22, 27, 28, 29, 30] (by rw [decide_eq_false hc11701]; kernel_rfl); clear hF11696
            refine condF hF11839 (by kernel_rfl) ?_
            refine wp_exit ?_
            obtain rfl := Option.some.inj h11702
            obtain rfl : _ = xj11420 := hy11683
            exact ⟨zs11595, x11599, x11601, rfl, hF11839.pick [1, 5, 6, 7, 8, 20, 21, 22, 27, 28, 29] (by kernel_rfl), hS11690.pick [0] (by decide) rfl, hh11596, hh11597, hh11598, hh11600⟩
        · skip
          clear hx11421 hF11063 hS10305 
          rintro a11840 w11841 ⟨zs11413, x11417, x11419, rfl, hF11842, hS11843, hh11414, hh11415, hh11416, hh11418⟩
          obtain ⟨g11846, h11845⟩ : ((((x8830 + xs1.length) : Nat) : Int) ≤ 9223372036854775807) ∧ _ := gd_some h11422; clear h11422
          obtain ⟨g11848, h11847⟩ : ((((x8830 + xs1.length) : Nat) : Int) < (((xs0.length + xs1.length) : Nat) : Int)) ∧ _ := gd_some h11845; clear h11845
          refine wp_region_lit ?_
          refine pu hT 7 _ hF11842 [1, 5, 6, 7, 8, 20, 21, 22, 27, 28, 29, 75, 76] (G := [(1, .slice pA1 xs1.length pc1), (5, .slice A11 (xs0.length + xs1.length) (xs0.length + xs1.length)), (6, .int .i64 ((x8830 : Nat) : Int)), (7, .int .u64 (((xs0.getD x8830 0) : Nat) : Int)), (8, .int .u64 ((x11417 : Nat) : Int)), (20, .slice pA0 xs0.length pc0), (21, .int .i64 ((xs0.length : Nat) : Int)), (22, .int .i64 ((x8830 : Nat) : Int)), (27, .slice pA1 xs1.length pc1), (28, .int .i64 ((xs1.length : Nat) : Int)), (29, .int .i64 ((x11419 : Nat) : Int)), (75, .int .u64 ((x11417 : Nat) : Int)), (76, .pointer (some ⟨(ablk A11), (aoff A11 + (x8830 + xs1.length)), none⟩))]) (cs := [-9223372036854775808 ≤ (((x8830 + xs1.length) : Nat) : Int), (((x8830 + xs1.length) : Nat) : Int) ≤ 9223372036854775807, 0 ≤ (((x8830 + xs1.length) : Nat) : Int), (((x8830 + xs1.length) : Nat) : Int) < (((xs0.length + xs1.length) : Nat) : Int), (A11 : Option Addr) = some ⟨ablk A11, aoff A11, none⟩]) (by kernel_rfl) (And.intro (by omega) (And.intro g11846 (And.intro (by omega) (And.intro g11848 (And.intro ((hS11843.own 0 rfl).rd.some' (by have := hh11414; first | omega | (simp only [zA, zS, zT, zD, zR, zC, zN, zV, zI] <;> omega))) trivial))))) ?_; clear hF11842 a11840; intro a11849 hF11850
          refine wl (h_storeR hT (off := (x8830 + xs1.length)) (p := ⟨(ablk A11), (aoff A11 + (x8830 + xs1.length)), none⟩) (v := .int .u64 ((x11417 : Nat) : Int)) (l' := vs .u64 (zs11413.set (x8830 + xs1.length) x11417)) (by kernel_rfl) hF11850 hS11843 0 rfl (by have := hh11414; have := (hS11843.own 0 rfl).cap; simp only [zA, zS, zT, zD, zR, zC, zN, zV, zI] <;> omega) (by first | rfl | (congr 1; omega)) (by first | exact vs_set _ _ _ _ | exact vi_set _ _ _ | rfl) ?_)
          rintro a11851 w11852 ha11855 hF11856 hS11853 g11854; clear ha11855 hF11850 a11849 hS11843
          have hS11857 : Heap w [] w11852 [.row 23 1 A11 (xs0.length + xs1.length) (xs0.length + xs1.length) (vs .u64 (zs11413.set (x8830 + xs1.length) x11417))] := hS11853; clear hS11853
          have hF11858 := hF11856.pick [1, 5, 6, 7, 8, 20, 21, 22, 27, 28, 29] (G := [(1, .slice pA1 xs1.length pc1), (5, .slice A11 (xs0.length + xs1.length) (xs0.length + xs1.length)), (6, .int .i64 ((x8830 : Nat) : Int)), (7, .int .u64 (((xs0.getD x8830 0) : Nat) : Int)), (8, .int .u64 ((x11417 : Nat) : Int)), (20, .slice pA0 xs0.length pc0), (21, .int .i64 ((xs0.length : Nat) : Int)), (22, .int .i64 ((x8830 : Nat) : Int)), (27, .slice pA1 xs1.length pc1), (28, .int .i64 ((xs1.length : Nat) : Int)), (29, .int .i64 ((x11419 : Nat) : Int))]) (by kernel_rfl); clear hF11856
          refine wpList_nil ?_
          obtain rfl := Option.some.inj h11847
          exact ⟨(zs11413.set (x8830 + xs1.length) x11417), x11417, x11419, rfl, hF11858.pick [1, 5, 6, 7, 8, 20, 21, 22, 27, 28, 29] (by kernel_rfl), hS11857.pick [0] (by decide) rfl, (len_set hh11414 (x8830 + xs1.length) x11417), (hh11415.set hh11418 (x8830 + xs1.length)), hh11416, hh11418⟩
      · skip
        clear hx11048 hF10318 hS10305 
        rintro a11859 w11860 ⟨zs11040, x11044, x11046, rfl, hF11861, hS11862, hh11041, hh11042, hh11043, hh11045⟩
        obtain ⟨g11865, h11864⟩ : ((((x8830 + 1) : Nat) : Int) ≤ 9223372036854775807) ∧ _ := gd_some h11049; clear h11049
        refine wp_region_lit ?_
        refine pu_end hT 2 _ hF11861 [1, 5, 6, 7, 8, 20, 21, 27, 28, 29, 22] (G := [(1, .slice pA1 xs1.length pc1), (5, .slice A11 (xs0.length + xs1.length) (xs0.length + xs1.length)), (6, .int .i64 ((x8830 : Nat) : Int)), (7, .int .u64 (((xs0.getD x8830 0) : Nat) : Int)), (8, .int .u64 ((x11044 : Nat) : Int)), (20, .slice pA0 xs0.length pc0), (21, .int .i64 ((xs0.length : Nat) : Int)), (27, .slice pA1 xs1.length pc1), (28, .int .i64 ((xs1.length : Nat) : Int)), (29, .int .i64 ((x11046 : Nat) : Int)), (22, .int .i64 (((x8830 + 1) : Nat) : Int))]) (cs := [-9223372036854775808 ≤ (((x8830 + 1) : Nat) : Int), (((x8830 + 1) : Nat) : Int) ≤ 9223372036854775807]) (by kernel_rfl) rfl (And.intro (by omega) (And.intro g11865 trivial)) ?_; clear hF11861 a11859; intro a11866 hF11867
        obtain rfl := Option.some.inj h11864
        exact hK10299 _ _ _ hy10298 ⟨zs11040, (x8830 + 1), rfl, hF11867.pick [1, 5, 20, 21, 22] (by kernel_rfl), hS11862.pick [0] (by decide) rfl, hh11041, hh11042⟩
    · clear h10306
      have hF11868 : Fr 79 a10310 [(1, .slice pA1 xs1.length pc1), (5, .slice A11 (xs0.length + xs1.length) (xs0.length + xs1.length)), (20, .slice pA0 xs0.length pc0), (21, .int .i64 ((xs0.length : Nat) : Int)), (22, .int .i64 ((x8830 : Nat) : Int)), (23, .bool false)] := hF10311.pick [1, 5, 20, 21, 22, 23] (by rw [decide_eq_false hc10316]; kernel_rfl); clear hF10311
      refine condF hF11868 (by kernel_rfl) ?_
      refine wp_exit ?_
      obtain rfl := Option.some.inj h10317
      obtain rfl : _ = xj5899 := hy10298
      exact ⟨zs8827, rfl, hF11868.pick [5] (by kernel_rfl), hS10305.pick [0] (by decide) rfl, hh8828, hh8829⟩
  · skip
    clear hx5900 hF24 hS21 
    rintro a11869 w11870 ⟨zs5896, rfl, hF11871, hS11872, hh5897, hh5898⟩
    refine wp_seq_k (fun K11874 hK11875 => ?_)
    refine wp_region_lit ?_
    refine pu_end hT 2 _ hF11871 [4] (G := [(4, .slice A11 (xs0.length + xs1.length) (xs0.length + xs1.length))]) (cs := []) (by kernel_rfl) rfl trivial ?_; clear hF11871 a11869; intro a11876 hF11877
    refine hK11875 _ _ ?_
    refine wp_ret ?_
    obtain rfl := Option.some.inj h5901
    have hS11878 : Heap w [] w11870 [.row 23 1 A11 zs5896.length (xs0.length + xs1.length) (vs .u64 zs5896)] := by rw [(hh5897 : zs5896.length = (xs0.length + xs1.length))]; exact hS11872
    have hF11879 : Fr 79 a11876 [(4, .slice A11 zs5896.length (xs0.length + xs1.length))] := by rw [(hh5897 : zs5896.length = (xs0.length + xs1.length))]; exact hF11877.pick [4] (by kernel_rfl)
    refine ret1 hF11879 rfl (v := .slice A11 zs5896.length (xs0.length + xs1.length)) (by kernel_rfl) ?_
    exact ⟨A11, (xs0.length + xs1.length), rfl, hh5898, hS11878.pick [0] (by decide) rfl⟩

noncomputable def F_sha512_root_l2 (x1 : Int) (zs5970 : List Nat) (x5973 : Int) : (List Nat × Nat) → Option ((List Nat × Nat) ⊕ (List Nat × Nat)) := fun (zs7770, x7774) => if ((x7774 : Nat) : Int) < (x1 - 1) then (bnd (F_sha512_times zs7770 ([(zs5970.getD 0 0), (zs5970.getD 1 0)].set ((x5973 / 64).toNat) (([(zs5970.getD 0 0), (zs5970.getD 1 0)].getD ((x5973 / 64).toNat) 0) ||| (1 * 2 ^ ((x5973 % 64).toNat) % 18446744073709551616)))) fun (zs7835 : List Nat) => gd ((((x7774 + 1) : Nat) : Int) ≤ 9223372036854775807) (some (.inl (zs7835, (x7774 + 1))))) else (some (.inr (zs7770, x7774)))
noncomputable def F_sha512_root_l1 (x1 : Int) (x0 : Int) : (List Nat × Int) → Option ((List Nat × Int) ⊕ (List Nat)) := fun (zs5970, x5973) => if 0 ≤ x5973 then (bnd (gd ((0 : Int) < ((zs5970.length : Nat) : Int)) (gd ((1 : Int) < ((zs5970.length : Nat) : Int)) (gd (x5973 ≤ 9223372036854775807) (gd (0 ≤ (x5973 / 64)) (gd ((x5973 / 64) < ((2 : Nat) : Int)) (gd ((0 : Int) ≤ (x5973 % 64)) (bnd (gd (-9223372036854775808 ≤ (x1 - 1)) (gd ((x1 - 1) ≤ 9223372036854775807) (run (F_sha512_root_l2 x1 zs5970 x5973) (([(zs5970.getD 0 0), (zs5970.getD 1 0)].set ((x5973 / 64).toNat) (([(zs5970.getD 0 0), (zs5970.getD 1 0)].getD ((x5973 / 64).toNat) 0) ||| (1 * 2 ^ ((x5973 % 64).toNat) % 18446744073709551616))), 0))) : Option (List Nat × Nat)) (fun (zs7674, x7678) => bnd (F_sha512_within zs7674 ((x0 % 18446744073709551616).toNat) x1) fun (b7869 : Bool) => if b7869 = true then (some (([(zs5970.getD 0 0), (zs5970.getD 1 0)].set ((x5973 / 64).toNat) (([(zs5970.getD 0 0), (zs5970.getD 1 0)].getD ((x5973 / 64).toNat) 0) ||| (1 * 2 ^ ((x5973 % 64).toNat) % 18446744073709551616))), ([(zs5970.getD 0 0), (zs5970.getD 1 0)].set ((x5973 / 64).toNat) (([(zs5970.getD 0 0), (zs5970.getD 1 0)].getD ((x5973 / 64).toNat) 0) ||| (1 * 2 ^ ((x5973 % 64).toNat) % 18446744073709551616))), zs7674, x7678)) else (some (zs5970, ([(zs5970.getD 0 0), (zs5970.getD 1 0)].set ((x5973 / 64).toNat) (([(zs5970.getD 0 0), (zs5970.getD 1 0)].getD ((x5973 / 64).toNat) 0) ||| (1 * 2 ^ ((x5973 % 64).toNat) % 18446744073709551616))), zs7674, x7678))))))))) : Option (List Nat × List Nat × List Nat × Nat)) (fun (zs7104, zs7109, zs7114, x7118) => gd (-9223372036854775808 ≤ (x5973 - 1)) (gd ((x5973 - 1) ≤ 9223372036854775807) (some (.inl (zs7104, (x5973 - 1))))))) else (some (.inr zs5970))
noncomputable def F_sha512_root (x0 : Int) (x1 : Int) : Option Nat := bnd (run (F_sha512_root_l1 x1 x0) ((List.replicate 2 0), (70 : Int)) : Option (List Nat)) (fun (zs3746 : List Nat) => gd ((0 : Int) < ((zs3746.length : Nat) : Int)) (some (zs3746.getD 0 0)))
set_option maxHeartbeats 4000000 in
theorem W_sha512_root (x0 : Int) (x1 : Int) (w : World) (r : Nat) (h : F_sha512_root x0 x1 = some r) :
    Calls Try.prog 43 [.int .i64 x0, .int .i64 x1].toArray w (Ret fun v w' => v = .int .u64 ((r : Nat) : Int) ∧ r < 18446744073709551616 ∧ Heap w [] w' []) := by
  unfold F_sha512_root at h
  refine enter Try.func43 rfl (n := 49) Try.ntmps43 (by simp) ?_
  intro a hF
  have hS := Heap.init w
  refine wp_seq_k (fun K1 hK2 => ?_)
  refine wp_region_lit ?_
  refine pu_end hT 1 _ hF [0, 1] (G := [(0, .int .i64 x0), (1, .int .i64 x1)]) (cs := []) (by kernel_rfl) rfl trivial ?_; clear hF a; intro a3 hF4
  refine hK2 _ _ ?_
  refine wp_seq_k (fun K5 hK6 => ?_)
  refine wp_region_lit ?_
  refine wl (h_make hT (d := 9) (T := 23) (m := 2) (i := tr23) (l' := vs .u64 (List.replicate 2 0)) (by kernel_rfl) (by intro t x y h; cases h; rfl) hF4 hS (by decide) (by simp [maxLen]) rfl (by first | exact made_list rfl rfl | exact made_vi rfl rfl) ?_)
  rintro a9 w10 A7 hS11 g12 ha13 hF14; clear ha13 hF4 a3 hS
  have hS15 : Heap w [] w10 [.row 23 1 A7 2 2 (vs .u64 (List.replicate 2 0))] := hS11; clear hS11
  have hF16 := hF14.pick [0, 1, 9] (G := [(0, .int .i64 x0), (1, .int .i64 x1), (9, .slice A7 2 2)]) (by kernel_rfl); clear hF14
  refine pu_end hT 1 _ hF16 [0, 1, 5] (G := [(0, .int .i64 x0), (1, .int .i64 x1), (5, .slice A7 2 2)]) (cs := []) (by kernel_rfl) rfl trivial ?_; clear hF16 a9; intro a17 hF18
  refine hK6 _ _ ?_
  obtain ⟨xj3749, hx3750, h3751⟩ := bnd_some h; clear h
  refine seqJ (fun a W => ∃ (zs3746 : List Nat), ∃ (A3745 : Option Addr), zs3746 = xj3749 ∧ (Fr 49 a [(5, .slice A3745 zs3746.length 2)]) ∧ (Heap w [] W [.ro A3745 (vs .u64 zs3746)]) ∧ (LB 18446744073709551616 zs3746) ∧ (zs3746.length ≤ 2)) ?_ ?_
  · skip
    refine wp_seq_k (fun K3752 hK3753 => ?_)
    refine wp_region_lit ?_
    refine pu_end hT 1 _ hF18 [0, 1, 5, 6] (G := [(0, .int .i64 x0), (1, .int .i64 x1), (5, .slice A7 2 2), (6, .int .i64 70)]) (cs := []) (by kernel_rfl) rfl trivial ?_; clear hF18 a17; intro a3754 hF3755
    refine hK3753 _ _ ?_
    refine wp_block ?_
    have hcap6732 := (hS15.own 0 rfl).cap
    have hS6733 : Heap w [] w10 [.ro A7 (vs .u64 (List.replicate 2 0))] := Heap.seal hS15 0 rfl (hS15.own 0 rfl).rd rfl; clear hS15
    have hF6734 : Fr 49 a3754 [(0, .int .i64 x0), (1, .int .i64 x1), (5, .slice A7 ((List.replicate 2 0).length) 2), (6, .int .i64 70)] := (hF3755.pick [0, 1, 5, 6] (G := [(0, .int .i64 x0), (1, .int .i64 x1), (5, .slice A7 2 2), (6, .int .i64 70)]) (by kernel_rfl)).to (by simp only [((len_rep (α := Nat) 2 0) : (List.replicate 2 0).length = 2)])
    refine loopR (F_sha512_root_l1 x1 x0) xj3749 ((List.replicate 2 0), (70 : Int)) hx3750 (fun s a W => ∃ (zs5970 : List Nat), ∃ (x5973 : Int), ∃ (A5969 : Option Addr), (zs5970, x5973) = s ∧ (Fr 49 a [(0, .int .i64 x0), (1, .int .i64 x1), (5, .slice A5969 zs5970.length 2), (6, .int .i64 x5973)]) ∧ (Heap w [] W [.ro A5969 (vs .u64 zs5970)]) ∧ (LB 18446744073709551616 zs5970) ∧ (zs5970.length ≤ 2)) ⟨(List.replicate 2 0), (70 : Int), A7, rfl, hF6734.pick [0, 1, 5, 6] (by kernel_rfl), hS6733.pick [0] (by decide) rfl, (LB.rep (m := 18446744073709551616) (x := 0) (by decide) 2), (by have := (len_rep (α := Nat) 2 0); have := hcap6732; skip; omega)⟩ ?_
    clear hF6734 hS6733 hx3750
    rintro k6731 _ a6726 w6727 ⟨zs5970, x5973, A5969, rfl, hF6728, hS6729, hh5971, hh5972⟩ hit6725 K6724 hK6723
    obtain ⟨y6721, h6730, hy6722⟩ := iter_succ hit6725; clear hit6725
    unfold F_sha512_root_l1 at h6730; try dsimp only at h6730
    refine wp_seq_k (fun K6739 hK6740 => ?_)
    refine wp_seq_k (fun K6741 hK6742 => ?_)
    refine wp_region_lit ?_
    refine pu_end hT 2 _ hF6728 [0, 1, 5, 6, 11] (G := [(0, .int .i64 x0), (1, .int .i64 x1), (5, .slice A5969 zs5970.length 2), (6, .int .i64 x5973), (11, .bool ((decide (0 ≤ x5973))))]) (cs := []) (by kernel_rfl) rfl trivial ?_; clear hF6728 a6726; intro a6743 hF6744
    refine hK6742 _ _ ?_
    rcases (ite_some h6730 : ((0 ≤ x5973) ∧ _) ∨ (¬ (0 ≤ x5973) ∧ _)) with ⟨hc6745, h6746⟩ | ⟨hc6745, h6746⟩
    · clear h6730
      have hF6747 : Fr 49 a6743 [(0, .int .i64 x0), (1, .int .i64 x1), (5, .slice A5969 zs5970.length 2), (6, .int .i64 x5973), (11, .bool true)] := hF6744.pick [0, 1, 5, 6, 11] (by rw [decide_eq_true hc6745]; kernel_rfl); clear hF6744
      refine condT hF6747 (by kernel_rfl) ?_
      refine wp_skip ?_
      refine hK6740 _ _ ?_
      obtain ⟨xj7119, hx7120, h7121⟩ := bnd_some h6746; clear h6746
      refine seqJ (fun a W => ∃ (zs7104 : List Nat), ∃ (zs7109 : List Nat), ∃ (zs7114 : List Nat), ∃ (x7118 : Nat), ∃ (A7103 : Option Addr), ∃ (A7108 : Option Addr), ∃ (A7113 : Option Addr), ∃ (c7116 : Nat), (zs7104, zs7109, zs7114, x7118) = xj7119 ∧ (Fr 49 a [(0, .int .i64 x0), (1, .int .i64 x1), (5, .slice A7103 zs7104.length 2), (6, .int .i64 x5973), (7, .slice A7108 zs7109.length 2), (8, .slice A7113 zs7114.length c7116), (33, .int .i64 (x1 - 1)), (34, .int .i64 ((x7118 : Nat) : Int))]) ∧ (Heap w [] W [.ro A7103 (vs .u64 zs7104), .ro A7108 (vs .u64 zs7109), .ro A7113 (vs .u64 zs7114)]) ∧ (LB 18446744073709551616 zs7104) ∧ (zs7104.length ≤ 2) ∧ (LB 18446744073709551616 zs7109) ∧ (zs7109.length ≤ 2) ∧ (LB 18446744073709551616 zs7114) ∧ (zs7114.length ≤ c7116)) ?_ ?_
      · skip
        refine wp_block ?_
        refine wp_seq_k (fun K7122 hK7123 => ?_)
        obtain ⟨g7125, h7124⟩ : ((0 : Int) < ((zs5970.length : Nat) : Int)) ∧ _ := gd_some hx7120; clear hx7120
        obtain ⟨g7127, h7126⟩ : ((1 : Int) < ((zs5970.length : Nat) : Int)) ∧ _ := gd_some h7124; clear h7124
        have hlt7132 := hS6729.ids
        have hsz7134 := hS6729.size
        let SL7133 : List SP := [SP.val (.slice A5969 zs5970.length 2), SP.val (.pointer (some ⟨(ablk A5969), (aoff A5969 + 0), none⟩)), SP.val (.int .u64 (((zs5970.getD 0 0) : Nat) : Int)), SP.val (.slice A5969 zs5970.length 2), SP.val (.pointer (some ⟨(ablk A5969), (aoff A5969 + 1), none⟩)), SP.val (.int .u64 (((zs5970.getD 1 0) : Nat) : Int)), SP.mk' (fun B v W => ∃ (A7128 : Option Addr), v = .slice A7128 2 2 ∧ (∀ k, oblk A7128 = some k → w6727.heap.size ≤ k) ∧ (Own W 0 23 1 A7128 2 2 (vs .u64 [(zs5970.getD 0 0), (zs5970.getD 1 0)]))) (fun B v W W2 hh gg => by obtain ⟨A7128, e, hq7131, hl7130⟩ := hh; exact ⟨A7128, e, hq7131, Own.growN hl7130 gg⟩), SP.mk' (fun B v W => ∃ (A7128 : Option Addr), v = .slice A7128 2 2 ∧ (∀ k, oblk A7128 = some k → w6727.heap.size ≤ k) ∧ (Own W 0 23 1 A7128 2 2 (vs .u64 [(zs5970.getD 0 0), (zs5970.getD 1 0)]))) (fun B v W W2 hh gg => by obtain ⟨A7128, e, hq7131, hl7130⟩ := hh; exact ⟨A7128, e, hq7131, Own.growN hl7130 gg⟩)]
        refine region_rel (SL := SL7133) (J := (fun (B : Bool) (W : World) => w6727.heap.size ≤ W.heap.size ∧ Heap w [] W [.ro A5969 (vs .u64 zs5970)])) (m := 8) wide (by kernel_rfl) (by kernel_rfl) hF6747 rfl ?_ ⟨Nat.le_refl _, hS6729⟩ ⟨?_, ?_, ?_, ?_, ?_, ?_, ?_, ?_, trivial⟩ [(7, some 7), (0, none), (1, none), (5, none), (6, none)] (by kernel_rfl) ?_
        · intro b W W' hj g; exact ⟨Nat.le_trans hj.1 g.size, hj.2.growN g⟩
        · -- operation 0
          rintro a7136 w7135 b7139 KK7145 hs7141 hd7142 hJ7143 hb7144 hr7146 hK7140
          have hr7146x : RD SL7133 b7139 a7136 a6743 w7135 [(5, none)] := hr7146 _ (by kernel_rfl)
          obtain ⟨q7147, -⟩ := hr7146x
          obtain ⟨hX7148, hS7138⟩ := hJ7143
          have hF7137 : Fr 49 a7136 [(5, .slice A5969 zs5970.length 2)] := Fr.of hs7141 hd7142 ⟨(Fr.init hF6747 q7147 (by kernel_rfl)), trivial⟩
          refine s_pure hT (d := 14) (v := .slice A5969 zs5970.length 2) (cs := []) (by kernel_rfl) (by kernel_rfl) trivial hF7137 ?_
          rintro a2 ha2 hF2; rw [ha2]
          exact hK7140 _ _ rfl (grown_refl _ _)
        · -- operation 1
          rintro a7150 w7149 b7153 KK7159 hs7155 hd7156 hJ7157 hb7158 hr7160 hK7154
          have hr7160x : RD SL7133 b7153 a7150 a6743 w7149 [(14, some 0)] := hr7160 _ (by kernel_rfl)
          obtain ⟨⟨v7162, q7161, s7163⟩, -⟩ := hr7160x
          obtain rfl : v7162 = .slice A5969 zs5970.length 2 := s7163
          obtain ⟨hX7164, hS7152⟩ := hJ7157
          have hF7151 : Fr 49 a7150 [(14, .slice A5969 zs5970.length 2)] := Fr.of hs7155 hd7156 ⟨q7161, trivial⟩
          refine s_pure hT (d := 15) (v := .pointer (some ⟨(ablk A5969), (aoff A5969 + 0), none⟩)) (cs := [0 ≤ (0 : Int), (0 : Int) < ((zs5970.length : Nat) : Int), (A5969 : Option Addr) = some ⟨ablk A5969, aoff A5969, none⟩]) (by kernel_rfl) (by kernel_rfl) (And.intro (by omega) (And.intro g7125 (And.intro ((hS7152.ro 0 rfl).some' (by have := (Eq.refl zs5970.length); first | omega | (simp only [zA, zS, zT, zD, zR, zC, zN, zV, zI] <;> omega))) trivial))) hF7151 ?_
          rintro a2 ha2 hF2; rw [ha2]
          exact hK7154 _ _ rfl (grown_refl _ _)
        · -- operation 2
          rintro a7166 w7165 b7169 KK7175 hs7171 hd7172 hJ7173 hb7174 hr7176 hK7170
          have hr7176x : RD SL7133 b7169 a7166 a6743 w7165 [(15, some 1)] := hr7176 _ (by kernel_rfl)
          obtain ⟨⟨v7178, q7177, s7179⟩, -⟩ := hr7176x
          obtain rfl : v7178 = .pointer (some ⟨(ablk A5969), (aoff A5969 + 0), none⟩) := s7179
          obtain ⟨hX7180, hS7168⟩ := hJ7173
          have hF7167 : Fr 49 a7166 [(15, .pointer (some ⟨(ablk A5969), (aoff A5969 + 0), none⟩))] := Fr.of hs7171 hd7172 ⟨q7177, trivial⟩
          refine s_load hT (d := 16) (A := ⟨(ablk A5969), (aoff A5969 + 0), none⟩) (v := .int .u64 (((zs5970.getD 0 0) : Nat) : Int)) (by kernel_rfl) hF7167 (Cells.at (hS7168.ro 0 rfl).cells (vs_get .u64 zs5970 (i := 0) (by have := (Eq.refl zs5970.length); first | omega | (simp only [zA, zS, zT, zD, zR, zC, zN, zV, zI] <;> omega) | (simp [*]; done) | (simp [*]; omega))) (by first | rfl | omega)) ?_
          rintro a7181 ha7183 hF7182
          rw [ha7183]
          exact hK7170 _ _ rfl (grown_refl _ _)
        · -- operation 3
          rintro a7185 w7184 b7188 KK7194 hs7190 hd7191 hJ7192 hb7193 hr7195 hK7189
          have hr7195x : RD SL7133 b7188 a7185 a6743 w7184 [(5, none)] := hr7195 _ (by kernel_rfl)
          obtain ⟨q7196, -⟩ := hr7195x
          obtain ⟨hX7197, hS7187⟩ := hJ7192
          have hF7186 : Fr 49 a7185 [(5, .slice A5969 zs5970.length 2)] := Fr.of hs7190 hd7191 ⟨(Fr.init hF6747 q7196 (by kernel_rfl)), trivial⟩
          refine s_pure hT (d := 17) (v := .slice A5969 zs5970.length 2) (cs := []) (by kernel_rfl) (by kernel_rfl) trivial hF7186 ?_
          rintro a2 ha2 hF2; rw [ha2]
          exact hK7189 _ _ rfl (grown_refl _ _)
        · -- operation 4
          rintro a7199 w7198 b7202 KK7208 hs7204 hd7205 hJ7206 hb7207 hr7209 hK7203
          have hr7209x : RD SL7133 b7202 a7199 a6743 w7198 [(17, some 3)] := hr7209 _ (by kernel_rfl)
          obtain ⟨⟨v7211, q7210, s7212⟩, -⟩ := hr7209x
          obtain rfl : v7211 = .slice A5969 zs5970.length 2 := s7212
          obtain ⟨hX7213, hS7201⟩ := hJ7206
          have hF7200 : Fr 49 a7199 [(17, .slice A5969 zs5970.length 2)] := Fr.of hs7204 hd7205 ⟨q7210, trivial⟩
          refine s_pure hT (d := 18) (v := .pointer (some ⟨(ablk A5969), (aoff A5969 + 1), none⟩)) (cs := [0 ≤ (1 : Int), (1 : Int) < ((zs5970.length : Nat) : Int), (A5969 : Option Addr) = some ⟨ablk A5969, aoff A5969, none⟩]) (by kernel_rfl) (by kernel_rfl) (And.intro (by omega) (And.intro g7127 (And.intro ((hS7201.ro 0 rfl).some' (by have := (Eq.refl zs5970.length); first | omega | (simp only [zA, zS, zT, zD, zR, zC, zN, zV, zI] <;> omega))) trivial))) hF7200 ?_
          rintro a2 ha2 hF2; rw [ha2]
          exact hK7203 _ _ rfl (grown_refl _ _)
        · -- operation 5
          rintro a7215 w7214 b7218 KK7224 hs7220 hd7221 hJ7222 hb7223 hr7225 hK7219
          have hr7225x : RD SL7133 b7218 a7215 a6743 w7214 [(18, some 4)] := hr7225 _ (by kernel_rfl)
          obtain ⟨⟨v7227, q7226, s7228⟩, -⟩ := hr7225x
          obtain rfl : v7227 = .pointer (some ⟨(ablk A5969), (aoff A5969 + 1), none⟩) := s7228
          obtain ⟨hX7229, hS7217⟩ := hJ7222
          have hF7216 : Fr 49 a7215 [(18, .pointer (some ⟨(ablk A5969), (aoff A5969 + 1), none⟩))] := Fr.of hs7220 hd7221 ⟨q7226, trivial⟩
          refine s_load hT (d := 19) (A := ⟨(ablk A5969), (aoff A5969 + 1), none⟩) (v := .int .u64 (((zs5970.getD 1 0) : Nat) : Int)) (by kernel_rfl) hF7216 (Cells.at (hS7217.ro 0 rfl).cells (vs_get .u64 zs5970 (i := 1) (by have := (Eq.refl zs5970.length); first | omega | (simp only [zA, zS, zT, zD, zR, zC, zN, zV, zI] <;> omega) | (simp [*]; done) | (simp [*]; omega))) (by first | rfl | omega)) ?_
          rintro a7230 ha7232 hF7231
          rw [ha7232]
          exact hK7219 _ _ rfl (grown_refl _ _)
        · -- operation 6
          rintro a7234 w7233 b7237 KK7243 hs7239 hd7240 hJ7241 hb7242 hr7244 hK7238
          have hr7244x : RD SL7133 b7237 a7234 a6743 w7233 [(16, some 2), (19, some 5)] := hr7244 _ (by kernel_rfl)
          obtain ⟨⟨v7246, q7245, s7247⟩, ⟨v7249, q7248, s7250⟩, -⟩ := hr7244x
          obtain rfl : v7246 = .int .u64 (((zs5970.getD 0 0) : Nat) : Int) := s7247
          obtain rfl : v7249 = .int .u64 (((zs5970.getD 1 0) : Nat) : Int) := s7250
          obtain ⟨hX7251, hS7236⟩ := hJ7241
          have hF7235 : Fr 49 a7234 [(16, .int .u64 (((zs5970.getD 0 0) : Nat) : Int)), (19, .int .u64 (((zs5970.getD 1 0) : Nat) : Int))] := Fr.of hs7239 hd7240 ⟨q7245, q7248, trivial⟩
          refine h_lit hT (d := 20) (T := 23) (l := vs .u64 [(zs5970.getD 0 0), (zs5970.getD 1 0)]) (by kernel_rfl) hF7235 (Heap.init w7233) (by simp [maxLen]) ?_
          rintro a7252 w7253 A7128 hS7254 g7255 ha7256 hF7257
          have hS7258 : Heap w [] w7253 [.row 23 1 A7128 2 2 (vs .u64 [(zs5970.getD 0 0), (zs5970.getD 1 0)]), .ro A5969 (vs .u64 zs5970)] := Heap.call hS7236 hS7254
          rw [ha7256]
          exact hK7238 _ _ ⟨A7128, rfl, (fun k hk => Nat.le_trans hX7251 (Heap.newge hS7254 0 rfl hk)), (hS7258.own 0 rfl)⟩ (g7255)
        · -- operation 7
          rintro a7260 w7259 b7263 KK7269 hs7265 hd7266 hJ7267 hb7268 hr7270 hK7264
          have hr7270x : RD SL7133 b7263 a7260 a6743 w7259 [(20, some 6)] := hr7270 _ (by kernel_rfl)
          obtain ⟨⟨v7272, q7271, s7273⟩, -⟩ := hr7270x
          obtain ⟨A7128, rfl, hq7131, hl7130⟩ := s7273
          obtain ⟨hX7274, hS7262⟩ := hJ7267
          have hF7261 : Fr 49 a7260 [(20, .slice A7128 2 2)] := Fr.of hs7265 hd7266 ⟨q7271, trivial⟩
          refine s_pure hT (d := 7) (v := .slice A7128 2 2) (cs := []) (by kernel_rfl) (by kernel_rfl) trivial hF7261 ?_
          rintro a2 ha2 hF2; rw [ha2]
          exact hK7264 _ _ ⟨A7128, rfl, hq7131, hl7130⟩ (grown_refl _ _)
        · -- behind the region
          rintro a7275 w7276 hs7277 hd7278 ⟨⟨v7281, q7282, s7283⟩, q7284, q7285, q7286, q7287, -⟩ ⟨hX7280, hS7279⟩
          obtain ⟨A7128, rfl, hq7131, hl7130⟩ := s7283
          have hF7288 : Fr 49 a7275 [(7, .slice A7128 2 2), (0, .int .i64 x0), (1, .int .i64 x1), (5, .slice A5969 zs5970.length 2), (6, .int .i64 x5973)] := Fr.of hs7277 hd7278 ⟨q7282, (Fr.init hF6747 q7284 (by kernel_rfl)), (Fr.init hF6747 q7285 (by kernel_rfl)), (Fr.init hF6747 q7286 (by kernel_rfl)), (Fr.init hF6747 q7287 (by kernel_rfl)), trivial⟩
          clear hF6747 hS6729 hs7277 hd7278 q7282 q7284 q7285 q7286 q7287
          have hS7289 : Heap w [] w7276 [.row 23 1 A7128 2 2 (vs .u64 [(zs5970.getD 0 0), (zs5970.getD 1 0)]), .ro A5969 (vs .u64 zs5970)] := Heap.consX hS7279 (ids_of hlt7132 rfl) hl7130 hq7131 hsz7134
          refine hK7123 _ _ ?_
          refine wp_seq_k (fun K7290 hK7291 => ?_)
          obtain ⟨g7293, h7292⟩ : (x5973 ≤ 9223372036854775807) ∧ _ := gd_some h7126; clear h7126
          obtain ⟨g7295, h7294⟩ : (0 ≤ (x5973 / 64)) ∧ _ := gd_some h7292; clear h7292
          obtain ⟨g7297, h7296⟩ : ((x5973 / 64) < ((2 : Nat) : Int)) ∧ _ := gd_some h7294; clear h7294
          obtain ⟨g7299, h7298⟩ : ((0 : Int) ≤ (x5973 % 64)) ∧ _ := gd_some h7296; clear h7296
          have hlt7300 := hS7289.ids
          have hsz7302 := hS7289.size
          let SL7301 : List SP := [SP.val (.slice A7128 2 2), SP.val (.int .i64 x5973), SP.val (.int .i64 (x5973 / 64)), SP.val (.pointer (some ⟨(ablk A7128), (aoff A7128 + (x5973 / 64).toNat), none⟩)), SP.val (.int .u64 ((([(zs5970.getD 0 0), (zs5970.getD 1 0)].getD ((x5973 / 64).toNat) 0) : Nat) : Int)), SP.val (.int .i64 x5973), SP.val (.int .i64 (x5973 % 64)), SP.val (.int .u64 (((1 * 2 ^ ((x5973 % 64).toNat) % 18446744073709551616) : Nat) : Int)), SP.val (.int .u64 (((([(zs5970.getD 0 0), (zs5970.getD 1 0)].getD ((x5973 / 64).toNat) 0) ||| (1 * 2 ^ ((x5973 % 64).toNat) % 18446744073709551616)) : Nat) : Int)), SP.val (.pointer (some ⟨(ablk A7128), (aoff A7128 + (x5973 / 64).toNat), none⟩)), SP.any]
          refine region_rel (SL := SL7301) (J := (fun (B : Bool) (W : World) => match B with | true => w7276.heap.size ≤ W.heap.size ∧ Heap w [] W [.row 23 1 A7128 2 2 (vs .u64 ([(zs5970.getD 0 0), (zs5970.getD 1 0)].set ((x5973 / 64).toNat) (([(zs5970.getD 0 0), (zs5970.getD 1 0)].getD ((x5973 / 64).toNat) 0) ||| (1 * 2 ^ ((x5973 % 64).toNat) % 18446744073709551616)))), .ro A5969 (vs .u64 zs5970)] | false => w7276.heap.size ≤ W.heap.size ∧ Heap w [] W [.row 23 1 A7128 2 2 (vs .u64 [(zs5970.getD 0 0), (zs5970.getD 1 0)]), .ro A5969 (vs .u64 zs5970)])) (m := 10) wide (by kernel_rfl) (by kernel_rfl) hF7288 rfl ?_ ⟨Nat.le_refl _, hS7289⟩ ⟨?_, ?_, ?_, ?_, ?_, ?_, ?_, ?_, ?_, ?_, ?_, trivial⟩ [(7, none), (0, none), (1, none), (5, none), (6, none)] (by kernel_rfl) ?_
          · intro b W W' hj g; cases b <;> exact ⟨Nat.le_trans hj.1 g.size, hj.2.growN g⟩
          · -- operation 0
            rintro a7304 w7303 b7307 KK7313 hs7309 hd7310 hJ7311 hb7312 hr7314 hK7308
            have hr7314x : RD SL7301 b7307 a7304 a7275 w7303 [(7, none)] := hr7314 _ (by kernel_rfl)
            obtain ⟨q7315, -⟩ := hr7314x
            obtain rfl : b7307 = false := by cases b7307; rfl; exact absurd ((hb7312 rfl).2 _ rfl) (by decide)
            obtain ⟨hX7316, hS7306⟩ := hJ7311
            have hF7305 : Fr 49 a7304 [(7, .slice A7128 2 2)] := Fr.of hs7309 hd7310 ⟨(Fr.init hF7288 q7315 (by kernel_rfl)), trivial⟩
            refine s_pure hT (d := 21) (v := .slice A7128 2 2) (cs := []) (by kernel_rfl) (by kernel_rfl) trivial hF7305 ?_
            rintro a2 ha2 hF2; rw [ha2]
            exact hK7308 _ _ rfl (grown_refl _ _)
          · -- operation 1
            rintro a7318 w7317 b7321 KK7327 hs7323 hd7324 hJ7325 hb7326 hr7328 hK7322
            have hr7328x : RD SL7301 b7321 a7318 a7275 w7317 [(6, none)] := hr7328 _ (by kernel_rfl)
            obtain ⟨q7329, -⟩ := hr7328x
            obtain rfl : b7321 = false := by cases b7321; rfl; exact absurd ((hb7326 rfl).2 _ rfl) (by decide)
            obtain ⟨hX7330, hS7320⟩ := hJ7325
            have hF7319 : Fr 49 a7318 [(6, .int .i64 x5973)] := Fr.of hs7323 hd7324 ⟨(Fr.init hF7288 q7329 (by kernel_rfl)), trivial⟩
            refine s_pure hT (d := 22) (v := .int .i64 x5973) (cs := []) (by kernel_rfl) (by kernel_rfl) trivial hF7319 ?_
            rintro a2 ha2 hF2; rw [ha2]
            exact hK7322 _ _ rfl (grown_refl _ _)
          · -- operation 2
            rintro a7332 w7331 b7335 KK7341 hs7337 hd7338 hJ7339 hb7340 hr7342 hK7336
            have hr7342x : RD SL7301 b7335 a7332 a7275 w7331 [(22, some 1)] := hr7342 _ (by kernel_rfl)
            obtain ⟨⟨v7344, q7343, s7345⟩, -⟩ := hr7342x
            obtain rfl : v7344 = .int .i64 x5973 := s7345
            obtain rfl : b7335 = false := by cases b7335; rfl; exact absurd ((hb7340 rfl).2 _ rfl) (by decide)
            obtain ⟨hX7346, hS7334⟩ := hJ7339
            have hF7333 : Fr 49 a7332 [(22, .int .i64 x5973)] := Fr.of hs7337 hd7338 ⟨q7343, trivial⟩
            refine s_pure hT (d := 23) (v := .int .i64 (x5973 / 64)) (cs := [0 ≤ x5973, x5973 ≤ 9223372036854775807, 0 < (64 : Int)]) (by kernel_rfl) (by kernel_rfl) (And.intro hc6745 (And.intro g7293 (And.intro (by decide) trivial))) hF7333 ?_
            rintro a2 ha2 hF2; rw [ha2]
            exact hK7336 _ _ rfl (grown_refl _ _)
          · -- operation 3
            rintro a7348 w7347 b7351 KK7357 hs7353 hd7354 hJ7355 hb7356 hr7358 hK7352
            have hr7358x : RD SL7301 b7351 a7348 a7275 w7347 [(21, some 0), (23, some 2)] := hr7358 _ (by kernel_rfl)
            obtain ⟨⟨v7360, q7359, s7361⟩, ⟨v7363, q7362, s7364⟩, -⟩ := hr7358x
            obtain rfl : v7360 = .slice A7128 2 2 := s7361
            obtain rfl : v7363 = .int .i64 (x5973 / 64) := s7364
            obtain rfl : b7351 = false := by cases b7351; rfl; exact absurd ((hb7356 rfl).2 _ rfl) (by decide)
            obtain ⟨hX7365, hS7350⟩ := hJ7355
            have hF7349 : Fr 49 a7348 [(21, .slice A7128 2 2), (23, .int .i64 (x5973 / 64))] := Fr.of hs7353 hd7354 ⟨q7359, q7362, trivial⟩
            refine s_pure hT (d := 24) (v := .pointer (some ⟨(ablk A7128), (aoff A7128 + (x5973 / 64).toNat), none⟩)) (cs := [0 ≤ (x5973 / 64), (x5973 / 64) < ((2 : Nat) : Int), (A7128 : Option Addr) = some ⟨ablk A7128, aoff A7128, none⟩]) (by kernel_rfl) (by kernel_rfl) (And.intro g7295 (And.intro g7297 (And.intro ((hS7350.own 0 rfl).rd.some' (by have := (show ([(zs5970.getD 0 0), (zs5970.getD 1 0)] : List Nat).length = 2 from rfl); first | omega | (simp only [zA, zS, zT, zD, zR, zC, zN, zV, zI] <;> omega))) trivial))) hF7349 ?_
            rintro a2 ha2 hF2; rw [ha2]
            exact hK7352 _ _ rfl (grown_refl _ _)
          · -- operation 4
            rintro a7367 w7366 b7370 KK7376 hs7372 hd7373 hJ7374 hb7375 hr7377 hK7371
            have hr7377x : RD SL7301 b7370 a7367 a7275 w7366 [(24, some 3)] := hr7377 _ (by kernel_rfl)
            obtain ⟨⟨v7379, q7378, s7380⟩, -⟩ := hr7377x
            obtain rfl : v7379 = .pointer (some ⟨(ablk A7128), (aoff A7128 + (x5973 / 64).toNat), none⟩) := s7380
            obtain rfl : b7370 = false := by cases b7370; rfl; exact absurd ((hb7375 rfl).2 _ rfl) (by decide)
            obtain ⟨hX7381, hS7369⟩ := hJ7374
            have hF7368 : Fr 49 a7367 [(24, .pointer (some ⟨(ablk A7128), (aoff A7128 + (x5973 / 64).toNat), none⟩))] := Fr.of hs7372 hd7373 ⟨q7378, trivial⟩
            refine s_load hT (d := 25) (A := ⟨(ablk A7128), (aoff A7128 + (x5973 / 64).toNat), none⟩) (v := .int .u64 ((([(zs5970.getD 0 0), (zs5970.getD 1 0)].getD ((x5973 / 64).toNat) 0) : Nat) : Int)) (by kernel_rfl) hF7368 (Cells.at (hS7369.own 0 rfl).rd.cells (vs_get .u64 [(zs5970.getD 0 0), (zs5970.getD 1 0)] (i := (x5973 / 64).toNat) (by have := (show ([(zs5970.getD 0 0), (zs5970.getD 1 0)] : List Nat).length = 2 from rfl); first | omega | (simp only [zA, zS, zT, zD, zR, zC, zN, zV, zI] <;> omega) | (simp [*]; done) | (simp [*]; omega))) (by first | rfl | omega)) ?_
            rintro a7382 ha7384 hF7383
            rw [ha7384]
            exact hK7371 _ _ rfl (grown_refl _ _)
          · -- operation 5
            rintro a7386 w7385 b7389 KK7395 hs7391 hd7392 hJ7393 hb7394 hr7396 hK7390
            have hr7396x : RD SL7301 b7389 a7386 a7275 w7385 [(6, none)] := hr7396 _ (by kernel_rfl)
            obtain ⟨q7397, -⟩ := hr7396x
            obtain rfl : b7389 = false := by cases b7389; rfl; exact absurd ((hb7394 rfl).2 _ rfl) (by decide)
            obtain ⟨hX7398, hS7388⟩ := hJ7393
            have hF7387 : Fr 49 a7386 [(6, .int .i64 x5973)] := Fr.of hs7391 hd7392 ⟨(Fr.init hF7288 q7397 (by kernel_rfl)), trivial⟩
            refine s_pure hT (d := 26) (v := .int .i64 x5973) (cs := []) (by kernel_rfl) (by kernel_rfl) trivial hF7387 ?_
            rintro a2 ha2 hF2; rw [ha2]
            exact hK7390 _ _ rfl (grown_refl _ _)
          · -- operation 6
            rintro a7400 w7399 b7403 KK7409 hs7405 hd7406 hJ7407 hb7408 hr7410 hK7404
            have hr7410x : RD SL7301 b7403 a7400 a7275 w7399 [(26, some 5)] := hr7410 _ (by kernel_rfl)
            obtain ⟨⟨v7412, q7411, s7413⟩, -⟩ := hr7410x
            obtain rfl : v7412 = .int .i64 x5973 := s7413
            obtain rfl : b7403 = false := by cases b7403; rfl; exact absurd ((hb7408 rfl).2 _ rfl) (by decide)
            obtain ⟨hX7414, hS7402⟩ := hJ7407
            have hF7401 : Fr 49 a7400 [(26, .int .i64 x5973)] := Fr.of hs7405 hd7406 ⟨q7411, trivial⟩
            refine s_pure hT (d := 27) (v := .int .i64 (x5973 % 64)) (cs := [0 ≤ x5973, 0 < (64 : Int)]) (by kernel_rfl) (by kernel_rfl) (And.intro hc6745 (And.intro (by decide) trivial)) hF7401 ?_
            rintro a2 ha2 hF2; rw [ha2]
            exact hK7404 _ _ rfl (grown_refl _ _)
          · -- operation 7
            rintro a7416 w7415 b7419 KK7425 hs7421 hd7422 hJ7423 hb7424 hr7426 hK7420
            have hr7426x : RD SL7301 b7419 a7416 a7275 w7415 [(27, some 6)] := hr7426 _ (by kernel_rfl)
            obtain ⟨⟨v7428, q7427, s7429⟩, -⟩ := hr7426x
            obtain rfl : v7428 = .int .i64 (x5973 % 64) := s7429
            obtain rfl : b7419 = false := by cases b7419; rfl; exact absurd ((hb7424 rfl).2 _ rfl) (by decide)
            obtain ⟨hX7430, hS7418⟩ := hJ7423
            have hF7417 : Fr 49 a7416 [(27, .int .i64 (x5973 % 64))] := Fr.of hs7421 hd7422 ⟨q7427, trivial⟩
            refine s_shiftI hT (d := 28) (op := .shl) (k := .u64) (a' := 1) (k' := .i64) (y := (x5973 % 64)) (v := .int .u64 (((1 * 2 ^ ((x5973 % 64).toNat) % 18446744073709551616) : Nat) : Int)) (cs := []) (by kernel_rfl) hF7417 g7299 (by kernel_rfl) (.inl rfl) trivial ?_
            rintro a7431 ha7433 hF7432
            rw [ha7433]
            exact hK7420 _ _ rfl (grown_refl _ _)
          · -- operation 8
            rintro a7435 w7434 b7438 KK7444 hs7440 hd7441 hJ7442 hb7443 hr7445 hK7439
            have hr7445x : RD SL7301 b7438 a7435 a7275 w7434 [(25, some 4), (28, some 7)] := hr7445 _ (by kernel_rfl)
            obtain ⟨⟨v7447, q7446, s7448⟩, ⟨v7450, q7449, s7451⟩, -⟩ := hr7445x
            obtain rfl : v7447 = .int .u64 ((([(zs5970.getD 0 0), (zs5970.getD 1 0)].getD ((x5973 / 64).toNat) 0) : Nat) : Int) := s7448
            obtain rfl : v7450 = .int .u64 (((1 * 2 ^ ((x5973 % 64).toNat) % 18446744073709551616) : Nat) : Int) := s7451
            obtain rfl : b7438 = false := by cases b7438; rfl; exact absurd ((hb7443 rfl).2 _ rfl) (by decide)
            obtain ⟨hX7452, hS7437⟩ := hJ7442
            have hF7436 : Fr 49 a7435 [(25, .int .u64 ((([(zs5970.getD 0 0), (zs5970.getD 1 0)].getD ((x5973 / 64).toNat) 0) : Nat) : Int)), (28, .int .u64 (((1 * 2 ^ ((x5973 % 64).toNat) % 18446744073709551616) : Nat) : Int))] := Fr.of hs7440 hd7441 ⟨q7446, q7449, trivial⟩
            refine s_pure hT (d := 29) (v := .int .u64 (((([(zs5970.getD 0 0), (zs5970.getD 1 0)].getD ((x5973 / 64).toNat) 0) ||| (1 * 2 ^ ((x5973 % 64).toNat) % 18446744073709551616)) : Nat) : Int)) (cs := [([(zs5970.getD 0 0), (zs5970.getD 1 0)].getD ((x5973 / 64).toNat) 0) < 18446744073709551616, (1 * 2 ^ ((x5973 % 64).toNat) % 18446744073709551616) < 18446744073709551616]) (by kernel_rfl) (by kernel_rfl) (And.intro ((LB.cons (hh5971.get (by decide) 0) (LB.cons (hh5971.get (by decide) 1) LB.nil)).get (by decide) ((x5973 / 64).toNat)) (And.intro (Nat.mod_lt _ (by decide)) trivial)) hF7436 ?_
            rintro a2 ha2 hF2; rw [ha2]
            exact hK7439 _ _ rfl (grown_refl _ _)
          · -- operation 9
            rintro a7454 w7453 b7457 KK7463 hs7459 hd7460 hJ7461 hb7462 hr7464 hK7458
            have hr7464x : RD SL7301 b7457 a7454 a7275 w7453 [(21, some 0), (23, some 2)] := hr7464 _ (by kernel_rfl)
            obtain ⟨⟨v7466, q7465, s7467⟩, ⟨v7469, q7468, s7470⟩, -⟩ := hr7464x
            obtain rfl : v7466 = .slice A7128 2 2 := s7467
            obtain rfl : v7469 = .int .i64 (x5973 / 64) := s7470
            obtain rfl : b7457 = false := by cases b7457; rfl; exact absurd ((hb7462 rfl).2 _ rfl) (by decide)
            obtain ⟨hX7471, hS7456⟩ := hJ7461
            have hF7455 : Fr 49 a7454 [(21, .slice A7128 2 2), (23, .int .i64 (x5973 / 64))] := Fr.of hs7459 hd7460 ⟨q7465, q7468, trivial⟩
            refine s_pure hT (d := 30) (v := .pointer (some ⟨(ablk A7128), (aoff A7128 + (x5973 / 64).toNat), none⟩)) (cs := [0 ≤ (x5973 / 64), (x5973 / 64) < ((2 : Nat) : Int), (A7128 : Option Addr) = some ⟨ablk A7128, aoff A7128, none⟩]) (by kernel_rfl) (by kernel_rfl) (And.intro g7295 (And.intro g7297 (And.intro ((hS7456.own 0 rfl).rd.some' (by have := (show ([(zs5970.getD 0 0), (zs5970.getD 1 0)] : List Nat).length = 2 from rfl); first | omega | (simp only [zA, zS, zT, zD, zR, zC, zN, zV, zI] <;> omega))) trivial))) hF7455 ?_
            rintro a2 ha2 hF2; rw [ha2]
            exact hK7458 _ _ rfl (grown_refl _ _)
          · -- operation 10
            rintro a7473 w7472 b7476 KK7482 hs7478 hd7479 hJ7480 hb7481 hr7483 hK7477
            have hr7483x : RD SL7301 b7476 a7473 a7275 w7472 [(30, some 9), (29, some 8)] := hr7483 _ (by kernel_rfl)
            obtain ⟨⟨v7485, q7484, s7486⟩, ⟨v7488, q7487, s7489⟩, -⟩ := hr7483x
            obtain rfl : v7485 = .pointer (some ⟨(ablk A7128), (aoff A7128 + (x5973 / 64).toNat), none⟩) := s7486
            obtain rfl : v7488 = .int .u64 (((([(zs5970.getD 0 0), (zs5970.getD 1 0)].getD ((x5973 / 64).toNat) 0) ||| (1 * 2 ^ ((x5973 % 64).toNat) % 18446744073709551616)) : Nat) : Int) := s7489
            obtain rfl : b7476 = false := by cases b7476; rfl; exact absurd rfl (hb7481 rfl).1
            obtain ⟨hX7490, hS7475⟩ := hJ7480
            have hF7474 : Fr 49 a7473 [(30, .pointer (some ⟨(ablk A7128), (aoff A7128 + (x5973 / 64).toNat), none⟩)), (29, .int .u64 (((([(zs5970.getD 0 0), (zs5970.getD 1 0)].getD ((x5973 / 64).toNat) 0) ||| (1 * 2 ^ ((x5973 % 64).toNat) % 18446744073709551616)) : Nat) : Int))] := Fr.of hs7478 hd7479 ⟨q7484, q7487, trivial⟩
            refine h_storeR hT (off := (x5973 / 64).toNat) (p := ⟨(ablk A7128), (aoff A7128 + (x5973 / 64).toNat), none⟩) (v := .int .u64 (((([(zs5970.getD 0 0), (zs5970.getD 1 0)].getD ((x5973 / 64).toNat) 0) ||| (1 * 2 ^ ((x5973 % 64).toNat) % 18446744073709551616)) : Nat) : Int)) (l' := vs .u64 ([(zs5970.getD 0 0), (zs5970.getD 1 0)].set ((x5973 / 64).toNat) (([(zs5970.getD 0 0), (zs5970.getD 1 0)].getD ((x5973 / 64).toNat) 0) ||| (1 * 2 ^ ((x5973 % 64).toNat) % 18446744073709551616)))) (by kernel_rfl) hF7474 hS7475 0 rfl (by have := (show ([(zs5970.getD 0 0), (zs5970.getD 1 0)] : List Nat).length = 2 from rfl); have := (hS7475.own 0 rfl).cap; simp only [zA, zS, zT, zD, zR, zC, zN, zV, zI] <;> omega) (by first | rfl | (congr 1; omega)) (by first | exact vs_set _ _ _ _ | exact vi_set _ _ _ | rfl) ?_
            rintro a7491 w7492 ha7495 hF7496 hS7493 g7494
            have hS7497 : Heap w [] w7492 [.row 23 1 A7128 2 2 (vs .u64 ([(zs5970.getD 0 0), (zs5970.getD 1 0)].set ((x5973 / 64).toNat) (([(zs5970.getD 0 0), (zs5970.getD 1 0)].getD ((x5973 / 64).toNat) 0) ||| (1 * 2 ^ ((x5973 % 64).toNat) % 18446744073709551616)))), .ro A5969 (vs .u64 zs5970)] := hS7493; clear hS7493
            rw [ha7495]; exact hK7477 undef _ trivial ⟨⟨.inl rfl, .inl rfl, .inl rfl, .inl rfl, .inl rfl, .inl rfl, .inl rfl, .inl rfl, .inl rfl, .inl rfl, .inl rfl, trivial⟩, Nat.le_trans hX7490 g7494.size, hS7497⟩
          · -- behind the region
            rintro a7498 w7499 hs7500 hd7501 ⟨q7504, q7505, q7506, q7507, q7508, -⟩ ⟨hX7503, hS7502⟩
            have hF7509 : Fr 49 a7498 [(7, .slice A7128 2 2), (0, .int .i64 x0), (1, .int .i64 x1), (5, .slice A5969 zs5970.length 2), (6, .int .i64 x5973)] := Fr.of hs7500 hd7501 ⟨(Fr.init hF7288 q7504 (by kernel_rfl)), (Fr.init hF7288 q7505 (by kernel_rfl)), (Fr.init hF7288 q7506 (by kernel_rfl)), (Fr.init hF7288 q7507 (by kernel_rfl)), (Fr.init hF7288 q7508 (by kernel_rfl)), trivial⟩
            clear hF7288 hS7289 hs7500 hd7501 q7504 q7505 q7506 q7507 q7508
            refine hK7291 _ _ ?_
            refine wp_seq_k (fun K7510 hK7511 => ?_)
            refine wp_region_lit ?_
            refine pu_end hT 2 _ hF7509 [7, 0, 1, 5, 6, 8] (G := [(7, .slice A7128 2 2), (0, .int .i64 x0), (1, .int .i64 x1), (5, .slice A5969 zs5970.length 2), (6, .int .i64 x5973), (8, .slice A7128 2 2)]) (cs := []) (by kernel_rfl) rfl trivial ?_; clear hF7509 a7498; intro a7512 hF7513
            refine hK7511 _ _ ?_
            obtain ⟨xj7679, hx7680, h7681⟩ := bnd_some h7298; clear h7298
            refine seqJ (fun a W => ∃ (zs7674 : List Nat), ∃ (x7678 : Nat), ∃ (A7673 : Option Addr), ∃ (c7676 : Nat), (zs7674, x7678) = xj7679 ∧ (Fr 49 a [(0, .int .i64 x0), (1, .int .i64 x1), (5, .slice A5969 zs5970.length 2), (6, .int .i64 x5973), (7, .slice A7128 2 2), (8, .slice A7673 zs7674.length c7676), (33, .int .i64 (x1 - 1)), (34, .int .i64 ((x7678 : Nat) : Int))]) ∧ (Heap w [] W [.ro A5969 (vs .u64 zs5970), .ro A7128 (vs .u64 ([(zs5970.getD 0 0), (zs5970.getD 1 0)].set ((x5973 / 64).toNat) (([(zs5970.getD 0 0), (zs5970.getD 1 0)].getD ((x5973 / 64).toNat) 0) ||| (1 * 2 ^ ((x5973 % 64).toNat) % 18446744073709551616)))), .ro A7673 (vs .u64 zs7674)]) ∧ (zs5970.length ≤ 2) ∧ (2 ≤ 2) ∧ (LB 18446744073709551616 zs7674) ∧ (zs7674.length ≤ c7676)) ?_ ?_
            · skip
              refine wp_seq_k (fun K7682 hK7683 => ?_)
              obtain ⟨g7685, h7684⟩ : (-9223372036854775808 ≤ (x1 - 1)) ∧ _ := gd_some hx7680; clear hx7680
              obtain ⟨g7687, h7686⟩ : ((x1 - 1) ≤ 9223372036854775807) ∧ _ := gd_some h7684; clear h7684
              refine wp_region_lit ?_
              refine pu_end hT 3 _ hF7513 [7, 0, 1, 5, 6, 8, 33, 34] (G := [(7, .slice A7128 2 2), (0, .int .i64 x0), (1, .int .i64 x1), (5, .slice A5969 zs5970.length 2), (6, .int .i64 x5973), (8, .slice A7128 2 2), (33, .int .i64 (x1 - 1)), (34, .int .i64 0)]) (cs := [-9223372036854775808 ≤ (x1 - 1), (x1 - 1) ≤ 9223372036854775807]) (by kernel_rfl) rfl (And.intro g7685 (And.intro g7687 trivial)) ?_; clear hF7513 a7512; intro a7688 hF7689
              refine hK7683 _ _ ?_
              refine wp_block ?_
              have hcap7812 := (hS7502.own 0 rfl).cap
              have hS7813 : Heap w [] w7499 [.ro A7128 (vs .u64 ([(zs5970.getD 0 0), (zs5970.getD 1 0)].set ((x5973 / 64).toNat) (([(zs5970.getD 0 0), (zs5970.getD 1 0)].getD ((x5973 / 64).toNat) 0) ||| (1 * 2 ^ ((x5973 % 64).toNat) % 18446744073709551616)))), .ro A5969 (vs .u64 zs5970)] := Heap.seal hS7502 0 rfl (hS7502.own 0 rfl).rd rfl; clear hS7502
              have hF7814 : Fr 49 a7688 [(7, .slice A7128 2 2), (0, .int .i64 x0), (1, .int .i64 x1), (5, .slice A5969 zs5970.length 2), (6, .int .i64 x5973), (8, .slice A7128 (([(zs5970.getD 0 0), (zs5970.getD 1 0)].set ((x5973 / 64).toNat) (([(zs5970.getD 0 0), (zs5970.getD 1 0)].getD ((x5973 / 64).toNat) 0) ||| (1 * 2 ^ ((x5973 % 64).toNat) % 18446744073709551616))).length) 2), (33, .int .i64 (x1 - 1)), (34, .int .i64 0)] := (hF7689.pick [7, 0, 1, 5, 6, 8, 33, 34] (G := [(7, .slice A7128 2 2), (0, .int .i64 x0), (1, .int .i64 x1), (5, .slice A5969 zs5970.length 2), (6, .int .i64 x5973), (8, .slice A7128 2 2), (33, .int .i64 (x1 - 1)), (34, .int .i64 0)]) (by kernel_rfl)).to (by simp only [((len_set (show ([(zs5970.getD 0 0), (zs5970.getD 1 0)] : List Nat).length = 2 from rfl) ((x5973 / 64).toNat) (([(zs5970.getD 0 0), (zs5970.getD 1 0)].getD ((x5973 / 64).toNat) 0) ||| (1 * 2 ^ ((x5973 % 64).toNat) % 18446744073709551616))) : ([(zs5970.getD 0 0), (zs5970.getD 1 0)].set ((x5973 / 64).toNat) (([(zs5970.getD 0 0), (zs5970.getD 1 0)].getD ((x5973 / 64).toNat) 0) ||| (1 * 2 ^ ((x5973 % 64).toNat) % 18446744073709551616))).length = 2)])
              refine loopR (F_sha512_root_l2 x1 zs5970 x5973) xj7679 (([(zs5970.getD 0 0), (zs5970.getD 1 0)].set ((x5973 / 64).toNat) (([(zs5970.getD 0 0), (zs5970.getD 1 0)].getD ((x5973 / 64).toNat) 0) ||| (1 * 2 ^ ((x5973 % 64).toNat) % 18446744073709551616))), 0) h7686 (fun s a W => ∃ (zs7770 : List Nat), ∃ (x7774 : Nat), ∃ (A7769 : Option Addr), ∃ (c7772 : Nat), (zs7770, x7774) = s ∧ (Fr 49 a [(0, .int .i64 x0), (1, .int .i64 x1), (5, .slice A5969 zs5970.length 2), (6, .int .i64 x5973), (7, .slice A7128 2 2), (8, .slice A7769 zs7770.length c7772), (33, .int .i64 (x1 - 1)), (34, .int .i64 ((x7774 : Nat) : Int))]) ∧ (Heap w [] W [.ro A5969 (vs .u64 zs5970), .ro A7128 (vs .u64 ([(zs5970.getD 0 0), (zs5970.getD 1 0)].set ((x5973 / 64).toNat) (([(zs5970.getD 0 0), (zs5970.getD 1 0)].getD ((x5973 / 64).toNat) 0) ||| (1 * 2 ^ ((x5973 % 64).toNat) % 18446744073709551616)))), .ro A7769 (vs .u64 zs7770)]) ∧ (zs5970.length ≤ 2) ∧ (2 ≤ 2) ∧ (LB 18446744073709551616 zs7770) ∧ (zs7770.length ≤ c7772)) ⟨([(zs5970.getD 0 0), (zs5970.getD 1 0)].set ((x5973 / 64).toNat) (([(zs5970.getD 0 0), (zs5970.getD 1 0)].getD ((x5973 / 64).toNat) 0) ||| (1 * 2 ^ ((x5973 % 64).toNat) % 18446744073709551616))), 0, A7128, 2, rfl, hF7814.pick [0, 1, 5, 6, 7, 8, 33, 34] (by kernel_rfl), hS7813.pick2 [1, 0, 0] [0] (by decide) (fa_cons rfl fa_nil) rfl, (by have := (Eq.refl zs5970.length); have := hh5972; skip; omega), (by have := (len_set (show ([(zs5970.getD 0 0), (zs5970.getD 1 0)] : List Nat).length = 2 from rfl) ((x5973 / 64).toNat) (([(zs5970.getD 0 0), (zs5970.getD 1 0)].getD ((x5973 / 64).toNat) 0) ||| (1 * 2 ^ ((x5973 % 64).toNat) % 18446744073709551616))); have := hcap7812; skip; omega), ((LB.cons (hh5971.get (by decide) 0) (LB.cons (hh5971.get (by decide) 1) LB.nil)).set (lt_or (n := 64) ((LB.cons (hh5971.get (by decide) 0) (LB.cons (hh5971.get (by decide) 1) LB.nil)).get (by decide) ((x5973 / 64).toNat)) (Nat.mod_lt _ (by decide))) ((x5973 / 64).toNat)), (by have := (len_set (show ([(zs5970.getD 0 0), (zs5970.getD 1 0)] : List Nat).length = 2 from rfl) ((x5973 / 64).toNat) (([(zs5970.getD 0 0), (zs5970.getD 1 0)].getD ((x5973 / 64).toNat) 0) ||| (1 * 2 ^ ((x5973 % 64).toNat) % 18446744073709551616))); have := hcap7812; skip; omega)⟩ ?_
              clear hF7814 hS7813 h7686
              rintro k7811 _ a7806 w7807 ⟨zs7770, x7774, A7769, c7772, rfl, hF7808, hS7809, hh7765, hh7767, hh7771, hh7773⟩ hit7805 K7804 hK7803
              obtain ⟨y7801, h7810, hy7802⟩ := iter_succ hit7805; clear hit7805
              unfold F_sha512_root_l2 at h7810; try dsimp only at h7810
              refine wp_seq_k (fun K7815 hK7816 => ?_)
              refine wp_region_lit ?_
              refine pu_end hT 1 _ hF7808 [0, 1, 5, 6, 7, 8, 33, 34, 35] (G := [(0, .int .i64 x0), (1, .int .i64 x1), (5, .slice A5969 zs5970.length 2), (6, .int .i64 x5973), (7, .slice A7128 2 2), (8, .slice A7769 zs7770.length c7772), (33, .int .i64 (x1 - 1)), (34, .int .i64 ((x7774 : Nat) : Int)), (35, .bool ((decide (((x7774 : Nat) : Int) < (x1 - 1)))))]) (cs := []) (by kernel_rfl) rfl trivial ?_; clear hF7808 a7806; intro a7817 hF7818
              refine hK7816 _ _ ?_
              refine wp_seq_k (fun K7821 hK7822 => ?_)
              rcases (ite_some h7810 : ((((x7774 : Nat) : Int) < (x1 - 1)) ∧ _) ∨ (¬ (((x7774 : Nat) : Int) < (x1 - 1)) ∧ _)) with ⟨hc7823, h7824⟩ | ⟨hc7823, h7824⟩
              · clear h7810
                have hF7825 : Fr 49 a7817 [(0, .int .i64 x0), (1, .int .i64 x1), (5, .slice A5969 zs5970.length 2), (6, .int .i64 x5973), (7, .slice A7128 2 2), (8, .slice A7769 zs7770.length c7772), (33, .int .i64 (x1 - 1)), (34, .int .i64 ((x7774 : Nat) : Int)), (35, .bool true)] := hF7818.pick [0, 1, 5, 6, 7, 8, 33, 34, 35] (by rw [decide_eq_true hc7823]; kernel_rfl); clear hF7818
                refine condT hF7825 (by kernel_rfl) ?_
                refine wp_skip ?_
                refine hK7822 _ _ ?_
                refine wp_seq_k (fun K7833 hK7834 => ?_)
                refine wp_block ?_
                obtain ⟨zs7835, hr7837, h7836⟩ := bnd_some h7824; clear h7824; replace hr7837 : F_sha512_times zs7770 ([(zs5970.getD 0 0), (zs5970.getD 1 0)].set ((x5973 / 64).toNat) (([(zs5970.getD 0 0), (zs5970.getD 1 0)].getD ((x5973 / 64).toNat) 0) ||| (1 * 2 ^ ((x5973 % 64).toNat) % 18446744073709551616))) = some (zs7835) := hr7837
                refine wp_region_lit ?_
                refine pu hT 2 _ hF7825 [0, 1, 5, 6, 7, 8, 33, 34, 36, 37] (G := [(0, .int .i64 x0), (1, .int .i64 x1), (5, .slice A5969 zs5970.length 2), (6, .int .i64 x5973), (7, .slice A7128 2 2), (8, .slice A7769 zs7770.length c7772), (33, .int .i64 (x1 - 1)), (34, .int .i64 ((x7774 : Nat) : Int)), (36, .slice A7769 zs7770.length c7772), (37, .slice A7128 2 2)]) (cs := []) (by kernel_rfl) trivial ?_; clear hF7825 a7817; intro a7842 hF7843
                have hF7844 : Fr 49 a7842 [(0, .int .i64 x0), (1, .int .i64 x1), (5, .slice A5969 zs5970.length 2), (6, .int .i64 x5973), (7, .slice A7128 2 2), (8, .slice A7769 zs7770.length c7772), (33, .int .i64 (x1 - 1)), (34, .int .i64 ((x7774 : Nat) : Int)), (36, .slice A7769 zs7770.length c7772), (37, .slice A7128 (([(zs5970.getD 0 0), (zs5970.getD 1 0)].set ((x5973 / 64).toNat) (([(zs5970.getD 0 0), (zs5970.getD 1 0)].getD ((x5973 / 64).toNat) 0) ||| (1 * 2 ^ ((x5973 % 64).toNat) % 18446744073709551616))).length) 2)] := (hF7843.pick [0, 1, 5, 6, 7, 8, 33, 34, 36, 37] (G := [(0, .int .i64 x0), (1, .int .i64 x1), (5, .slice A5969 zs5970.length 2), (6, .int .i64 x5973), (7, .slice A7128 2 2), (8, .slice A7769 zs7770.length c7772), (33, .int .i64 (x1 - 1)), (34, .int .i64 ((x7774 : Nat) : Int)), (36, .slice A7769 zs7770.length c7772), (37, .slice A7128 2 2)]) (by kernel_rfl)).to (by simp only [((len_set (show ([(zs5970.getD 0 0), (zs5970.getD 1 0)] : List Nat).length = 2 from rfl) ((x5973 / 64).toNat) (([(zs5970.getD 0 0), (zs5970.getD 1 0)].getD ((x5973 / 64).toNat) 0) ||| (1 * 2 ^ ((x5973 % 64).toNat) % 18446744073709551616))) : ([(zs5970.getD 0 0), (zs5970.getD 1 0)].set ((x5973 / 64).toNat) (([(zs5970.getD 0 0), (zs5970.getD 1 0)].getD ((x5973 / 64).toNat) 0) ||| (1 * 2 ^ ((x5973 % 64).toNat) % 18446744073709551616))).length = 2)]); clear hF7843
                refine wl (s_call (d := 38) (f := 63) (l := [.slice A7769 zs7770.length c7772, .slice A7128 (([(zs5970.getD 0 0), (zs5970.getD 1 0)].set ((x5973 / 64).toNat) (([(zs5970.getD 0 0), (zs5970.getD 1 0)].getD ((x5973 / 64).toNat) 0) ||| (1 * 2 ^ ((x5973 % 64).toNat) % 18446744073709551616))).length) 2]) (by kernel_rfl) hF7844 cl63 (W_sha512_times A7769 c7772 zs7770 A7128 2 ([(zs5970.getD 0 0), (zs5970.getD 1 0)].set ((x5973 / 64).toNat) (([(zs5970.getD 0 0), (zs5970.getD 1 0)].getD ((x5973 / 64).toNat) 0) ||| (1 * 2 ^ ((x5973 % 64).toNat) % 18446744073709551616))) _ (hS7809.ro 2 rfl) (by have := (Eq.refl zs7770.length); have := hh7773; skip; have := (Eq.refl zs7770.length); first | omega | (simp only [zA, zS, zT, zD, zR, zC, zN, zV, zI] <;> omega) | (simp only [zA, zS, zT, zD, zR, zC, zN, zV, zI] at * <;> omega)) hh7771 (hS7809.ro 1 rfl) (by have := (len_set (show ([(zs5970.getD 0 0), (zs5970.getD 1 0)] : List Nat).length = 2 from rfl) ((x5973 / 64).toNat) (([(zs5970.getD 0 0), (zs5970.getD 1 0)].getD ((x5973 / 64).toNat) 0) ||| (1 * 2 ^ ((x5973 % 64).toNat) % 18446744073709551616))); have := hh7767; skip; have := (len_set (show ([(zs5970.getD 0 0), (zs5970.getD 1 0)] : List Nat).length = 2 from rfl) ((x5973 / 64).toNat) (([(zs5970.getD 0 0), (zs5970.getD 1 0)].getD ((x5973 / 64).toNat) 0) ||| (1 * 2 ^ ((x5973 % 64).toNat) % 18446744073709551616))); first | omega | (simp only [zA, zS, zT, zD, zR, zC, zN, zV, zI] <;> omega) | (simp only [zA, zS, zT, zD, zR, zC, zN, zV, zI] at * <;> omega)) ((LB.cons (hh5971.get (by decide) 0) (LB.cons (hh5971.get (by decide) 1) LB.nil)).set (lt_or (n := 64) ((LB.cons (hh5971.get (by decide) 0) (LB.cons (hh5971.get (by decide) 1) LB.nil)).get (by decide) ((x5973 / 64).toNat)) (Nat.mod_lt _ (by decide))) ((x5973 / 64).toNat)) zs7835 hr7837) ?_)
                rintro a7845 w7846 v7847 ⟨A7838, c7839, rfl, hh7840, hC7848⟩ ha7849 hF7850; clear ha7849 hF7844 a7842
                have hS7851 : Heap w [] w7846 [.row 23 1 A7838 zs7835.length c7839 (vs .u64 zs7835), .ro A5969 (vs .u64 zs5970), .ro A7128 (vs .u64 ([(zs5970.getD 0 0), (zs5970.getD 1 0)].set ((x5973 / 64).toNat) (([(zs5970.getD 0 0), (zs5970.getD 1 0)].getD ((x5973 / 64).toNat) 0) ||| (1 * 2 ^ ((x5973 % 64).toNat) % 18446744073709551616)))), .ro A7769 (vs .u64 zs7770)] := Heap.call hS7809 hC7848; clear hS7809
                have hF7852 := hF7850.pick [0, 1, 5, 6, 7, 8, 33, 34, 38] (G := [(0, .int .i64 x0), (1, .int .i64 x1), (5, .slice A5969 zs5970.length 2), (6, .int .i64 x5973), (7, .slice A7128 2 2), (8, .slice A7769 zs7770.length c7772), (33, .int .i64 (x1 - 1)), (34, .int .i64 ((x7774 : Nat) : Int)), (38, .slice A7838 zs7835.length c7839)]) (by kernel_rfl); clear hF7850
                refine pu_end hT 1 _ hF7852 [0, 1, 5, 6, 7, 33, 34, 8] (G := [(0, .int .i64 x0), (1, .int .i64 x1), (5, .slice A5969 zs5970.length 2), (6, .int .i64 x5973), (7, .slice A7128 2 2), (33, .int .i64 (x1 - 1)), (34, .int .i64 ((x7774 : Nat) : Int)), (8, .slice A7838 zs7835.length c7839)]) (cs := []) (by kernel_rfl) rfl trivial ?_; clear hF7852 a7845; intro a7853 hF7854
                refine hK7834 _ _ ?_
                obtain ⟨g7856, h7855⟩ : ((((x7774 + 1) : Nat) : Int) ≤ 9223372036854775807) ∧ _ := gd_some h7836; clear h7836
                refine wp_region_lit ?_
                refine pu_end hT 2 _ hF7854 [0, 1, 5, 6, 7, 33, 8, 34] (G := [(0, .int .i64 x0), (1, .int .i64 x1), (5, .slice A5969 zs5970.length 2), (6, .int .i64 x5973), (7, .slice A7128 2 2), (33, .int .i64 (x1 - 1)), (8, .slice A7838 zs7835.length c7839), (34, .int .i64 (((x7774 + 1) : Nat) : Int))]) (cs := [-9223372036854775808 ≤ (((x7774 + 1) : Nat) : Int), (((x7774 + 1) : Nat) : Int) ≤ 9223372036854775807]) (by kernel_rfl) rfl (And.intro (by omega) (And.intro g7856 trivial)) ?_; clear hF7854 a7853; intro a7857 hF7858
                have hcap7859 := (hS7851.own 0 rfl).cap
                have hS7860 : Heap w [] w7846 [.ro A7838 (vs .u64 zs7835), .ro A5969 (vs .u64 zs5970), .ro A7128 (vs .u64 ([(zs5970.getD 0 0), (zs5970.getD 1 0)].set ((x5973 / 64).toNat) (([(zs5970.getD 0 0), (zs5970.getD 1 0)].getD ((x5973 / 64).toNat) 0) ||| (1 * 2 ^ ((x5973 % 64).toNat) % 18446744073709551616)))), .ro A7769 (vs .u64 zs7770)] := Heap.seal hS7851 0 rfl (hS7851.own 0 rfl).rd rfl; clear hS7851
                obtain rfl := Option.some.inj h7855
                exact hK7803 _ _ _ hy7802 ⟨zs7835, (x7774 + 1), A7838, c7839, rfl, hF7858.pick [0, 1, 5, 6, 7, 8, 33, 34] (by kernel_rfl), hS7860.pick [1, 2, 0] (by decide) rfl, (by have := (Eq.refl zs5970.length); have := hh7765; skip; omega), (by have := (len_set (show ([(zs5970.getD 0 0), (zs5970.getD 1 0)] : List Nat).length = 2 from rfl) ((x5973 / 64).toNat) (([(zs5970.getD 0 0), (zs5970.getD 1 0)].getD ((x5973 / 64).toNat) 0) ||| (1 * 2 ^ ((x5973 % 64).toNat) % 18446744073709551616))); have := hh7767; skip; omega), hh7840, (by have := (Eq.refl zs7835.length); have := hcap7859; skip; omega)⟩
              · clear h7810
                have hF7861 : Fr 49 a7817 [(0, .int .i64 x0), (1, .int .i64 x1), (5, .slice A5969 zs5970.length 2), (6, .int .i64 x5973), (7, .slice A7128 2 2), (8, .slice A7769 zs7770.length c7772), (33, .int .i64 (x1 - 1)), (34, .int .i64 ((x7774 : Nat) : Int)), (35, .bool false)] := hF7818.pick [0, 1, 5, 6, 7, 8, 33, 34, 35] (by rw [decide_eq_false hc7823]; kernel_rfl); clear hF7818
                refine condF hF7861 (by kernel_rfl) ?_
                refine wp_exit ?_
                obtain rfl := Option.some.inj h7824
                obtain rfl : _ = xj7679 := hy7802
                exact ⟨zs7770, x7774, A7769, c7772, rfl, hF7861.pick [0, 1, 5, 6, 7, 8, 33, 34] (by kernel_rfl), hS7809.pick [0, 1, 2] (by decide) rfl, (by have := (Eq.refl zs5970.length); have := hh7765; skip; omega), (by have := (len_set (show ([(zs5970.getD 0 0), (zs5970.getD 1 0)] : List Nat).length = 2 from rfl) ((x5973 / 64).toNat) (([(zs5970.getD 0 0), (zs5970.getD 1 0)].getD ((x5973 / 64).toNat) 0) ||| (1 * 2 ^ ((x5973 % 64).toNat) % 18446744073709551616))); have := hh7767; skip; omega), hh7771, (by have := (Eq.refl zs7770.length); have := hh7773; skip; omega)⟩
            · skip
              clear hx7680 hF7513 hS7502 
              rintro a7862 w7863 ⟨zs7674, x7678, A7673, c7676, rfl, hF7864, hS7865, hh7669, hh7671, hh7675, hh7677⟩
              refine wp_seq_k (fun K7867 hK7868 => ?_)
              obtain ⟨b7869, hr7871, h7870⟩ := bnd_some h7681; clear h7681; replace hr7871 : F_sha512_within zs7674 ((x0 % 18446744073709551616).toNat) x1 = some (b7869) := hr7871
              refine wp_region_lit ?_
              refine pu hT 2 _ hF7864 [0, 1, 5, 6, 7, 8, 33, 34, 40, 41] (G := [(0, .int .i64 x0), (1, .int .i64 x1), (5, .slice A5969 zs5970.length 2), (6, .int .i64 x5973), (7, .slice A7128 2 2), (8, .slice A7673 zs7674.length c7676), (33, .int .i64 (x1 - 1)), (34, .int .i64 ((x7678 : Nat) : Int)), (40, .slice A7673 zs7674.length c7676), (41, .int .i64 x0)]) (cs := []) (by kernel_rfl) trivial ?_; clear hF7864 a7862; intro a7872 hF7873
              refine wl (s_conv64 hT (d := 42) (x := x0) (y := (x0 % 18446744073709551616).toNat) (by kernel_rfl) hF7873 (by omega) ?_)
              rintro a7874 ha7876 hF7875; clear ha7876 hF7873 a7872
              have hF7877 := hF7875.pick [0, 1, 5, 6, 7, 8, 33, 34, 40, 42] (G := [(0, .int .i64 x0), (1, .int .i64 x1), (5, .slice A5969 zs5970.length 2), (6, .int .i64 x5973), (7, .slice A7128 2 2), (8, .slice A7673 zs7674.length c7676), (33, .int .i64 (x1 - 1)), (34, .int .i64 ((x7678 : Nat) : Int)), (40, .slice A7673 zs7674.length c7676), (42, .int .u64 (((x0 % 18446744073709551616).toNat : Nat) : Int))]) (by kernel_rfl); clear hF7875
              refine pu hT 1 _ hF7877 [0, 1, 5, 6, 7, 8, 33, 34, 40, 42, 43] (G := [(0, .int .i64 x0), (1, .int .i64 x1), (5, .slice A5969 zs5970.length 2), (6, .int .i64 x5973), (7, .slice A7128 2 2), (8, .slice A7673 zs7674.length c7676), (33, .int .i64 (x1 - 1)), (34, .int .i64 ((x7678 : Nat) : Int)), (40, .slice A7673 zs7674.length c7676), (42, .int .u64 (((x0 % 18446744073709551616).toNat : Nat) : Int)), (43, .int .i64 x1)]) (cs := []) (by kernel_rfl) trivial ?_; clear hF7877 a7874; intro a7878 hF7879
              refine wl (s_call (d := 44) (f := 64) (l := [.slice A7673 zs7674.length c7676, .int .u64 (((x0 % 18446744073709551616).toNat : Nat) : Int), .int .i64 x1]) (by kernel_rfl) hF7879 cl64 (W_sha512_within A7673 c7676 zs7674 ((x0 % 18446744073709551616).toNat) x1 _ (hS7865.ro 2 rfl) (by have := (Eq.refl zs7674.length); have := hh7677; skip; have := (Eq.refl zs7674.length); first | omega | (simp only [zA, zS, zT, zD, zR, zC, zN, zV, zI] <;> omega) | (simp only [zA, zS, zT, zD, zR, zC, zN, zV, zI] at * <;> omega)) hh7675 (lt_toNat (m := 18446744073709551616) (by decide)) b7869 hr7871) ?_)
              rintro a7880 w7881 v7882 ⟨rfl, hC7883⟩ ha7884 hF7885; clear ha7884 hF7879 a7878
              have hS7886 : Heap w [] w7881 [.ro A5969 (vs .u64 zs5970), .ro A7128 (vs .u64 ([(zs5970.getD 0 0), (zs5970.getD 1 0)].set ((x5973 / 64).toNat) (([(zs5970.getD 0 0), (zs5970.getD 1 0)].getD ((x5973 / 64).toNat) 0) ||| (1 * 2 ^ ((x5973 % 64).toNat) % 18446744073709551616)))), .ro A7673 (vs .u64 zs7674)] := Heap.call hS7865 hC7883; clear hS7865
              have hF7887 := hF7885.pick [0, 1, 5, 6, 7, 8, 33, 34, 44] (G := [(0, .int .i64 x0), (1, .int .i64 x1), (5, .slice A5969 zs5970.length 2), (6, .int .i64 x5973), (7, .slice A7128 2 2), (8, .slice A7673 zs7674.length c7676), (33, .int .i64 (x1 - 1)), (34, .int .i64 ((x7678 : Nat) : Int)), (44, .bool (b7869))]) (by kernel_rfl); clear hF7885
              refine wpList_nil ?_
              refine hK7868 _ _ ?_
              rcases (ite_some h7870 : ((b7869 = true) ∧ _) ∨ (¬ (b7869 = true) ∧ _)) with ⟨hc7888, h7889⟩ | ⟨hc7888, h7889⟩
              · clear h7870
                have hF7890 : Fr 49 a7880 [(0, .int .i64 x0), (1, .int .i64 x1), (5, .slice A5969 zs5970.length 2), (6, .int .i64 x5973), (7, .slice A7128 2 2), (8, .slice A7673 zs7674.length c7676), (33, .int .i64 (x1 - 1)), (34, .int .i64 ((x7678 : Nat) : Int)), (44, .bool true)] := hF7887.pick [0, 1, 5, 6, 7, 8, 33, 34, 44] (by rw [hc7888]; kernel_rfl); clear hF7887
                refine condT hF7890 (by kernel_rfl) ?_
                refine wp_region_lit ?_
                refine pu_end hT 2 _ hF7890 [0, 1, 6, 7, 8, 33, 34, 5] (G := [(0, .int .i64 x0), (1, .int .i64 x1), (6, .int .i64 x5973), (7, .slice A7128 2 2), (8, .slice A7673 zs7674.length c7676), (33, .int .i64 (x1 - 1)), (34, .int .i64 ((x7678 : Nat) : Int)), (5, .slice A7128 2 2)]) (cs := []) (by kernel_rfl) rfl trivial ?_; clear hF7890 a7880; intro a7891 hF7892
                have hF7893 : Fr 49 a7891 [(0, .int .i64 x0), (1, .int .i64 x1), (6, .int .i64 x5973), (7, .slice A7128 2 2), (8, .slice A7673 zs7674.length c7676), (33, .int .i64 (x1 - 1)), (34, .int .i64 ((x7678 : Nat) : Int)), (5, .slice A7128 (([(zs5970.getD 0 0), (zs5970.getD 1 0)].set ((x5973 / 64).toNat) (([(zs5970.getD 0 0), (zs5970.getD 1 0)].getD ((x5973 / 64).toNat) 0) ||| (1 * 2 ^ ((x5973 % 64).toNat) % 18446744073709551616))).length) 2)] := (hF7892.pick [0, 1, 6, 7, 8, 33, 34, 5] (G := [(0, .int .i64 x0), (1, .int .i64 x1), (6, .int .i64 x5973), (7, .slice A7128 2 2), (8, .slice A7673 zs7674.length c7676), (33, .int .i64 (x1 - 1)), (34, .int .i64 ((x7678 : Nat) : Int)), (5, .slice A7128 2 2)]) (by kernel_rfl)).to (by simp only [((len_set (show ([(zs5970.getD 0 0), (zs5970.getD 1 0)] : List Nat).length = 2 from rfl) ((x5973 / 64).toNat) (([(zs5970.getD 0 0), (zs5970.getD 1 0)].getD ((x5973 / 64).toNat) 0) ||| (1 * 2 ^ ((x5973 % 64).toNat) % 18446744073709551616))) : ([(zs5970.getD 0 0), (zs5970.getD 1 0)].set ((x5973 / 64).toNat) (([(zs5970.getD 0 0), (zs5970.getD 1 0)].getD ((x5973 / 64).toNat) 0) ||| (1 * 2 ^ ((x5973 % 64).toNat) % 18446744073709551616))).length = 2)])
                have hF7894 : Fr 49 a7891 [(0, .int .i64 x0), (1, .int .i64 x1), (6, .int .i64 x5973), (7, .slice A7128 (([(zs5970.getD 0 0), (zs5970.getD 1 0)].set ((x5973 / 64).toNat) (([(zs5970.getD 0 0), (zs5970.getD 1 0)].getD ((x5973 / 64).toNat) 0) ||| (1 * 2 ^ ((x5973 % 64).toNat) % 18446744073709551616))).length) 2), (8, .slice A7673 zs7674.length c7676), (33, .int .i64 (x1 - 1)), (34, .int .i64 ((x7678 : Nat) : Int)), (5, .slice A7128 (([(zs5970.getD 0 0), (zs5970.getD 1 0)].set ((x5973 / 64).toNat) (([(zs5970.getD 0 0), (zs5970.getD 1 0)].getD ((x5973 / 64).toNat) 0) ||| (1 * 2 ^ ((x5973 % 64).toNat) % 18446744073709551616))).length) 2)] := (hF7893.pick [0, 1, 6, 7, 8, 33, 34, 5] (G := [(0, .int .i64 x0), (1, .int .i64 x1), (6, .int .i64 x5973), (7, .slice A7128 2 2), (8, .slice A7673 zs7674.length c7676), (33, .int .i64 (x1 - 1)), (34, .int .i64 ((x7678 : Nat) : Int)), (5, .slice A7128 (([(zs5970.getD 0 0), (zs5970.getD 1 0)].set ((x5973 / 64).toNat) (([(zs5970.getD 0 0), (zs5970.getD 1 0)].getD ((x5973 / 64).toNat) 0) ||| (1 * 2 ^ ((x5973 % 64).toNat) % 18446744073709551616))).length) 2)]) (by kernel_rfl)).to (by simp only [((len_set (show ([(zs5970.getD 0 0), (zs5970.getD 1 0)] : List Nat).length = 2 from rfl) ((x5973 / 64).toNat) (([(zs5970.getD 0 0), (zs5970.getD 1 0)].getD ((x5973 / 64).toNat) 0) ||| (1 * 2 ^ ((x5973 % 64).toNat) % 18446744073709551616))) : ([(zs5970.getD 0 0), (zs5970.getD 1 0)].set ((x5973 / 64).toNat) (([(zs5970.getD 0 0), (zs5970.getD 1 0)].getD ((x5973 / 64).toNat) 0) ||| (1 * 2 ^ ((x5973 % 64).toNat) % 18446744073709551616))).length = 2)])
                obtain rfl := Option.some.inj h7889
                exact ⟨([(zs5970.getD 0 0), (zs5970.getD 1 0)].set ((x5973 / 64).toNat) (([(zs5970.getD 0 0), (zs5970.getD 1 0)].getD ((x5973 / 64).toNat) 0) ||| (1 * 2 ^ ((x5973 % 64).toNat) % 18446744073709551616))), ([(zs5970.getD 0 0), (zs5970.getD 1 0)].set ((x5973 / 64).toNat) (([(zs5970.getD 0 0), (zs5970.getD 1 0)].getD ((x5973 / 64).toNat) 0) ||| (1 * 2 ^ ((x5973 % 64).toNat) % 18446744073709551616))), zs7674, x7678, A7128, A7128, A7673, c7676, rfl, hF7894.pick [0, 1, 5, 6, 7, 8, 33, 34] (by kernel_rfl), hS7886.pick2 [1, 1, 2] [1] (by decide) (fa_cons rfl fa_nil) rfl, ((LB.cons (hh5971.get (by decide) 0) (LB.cons (hh5971.get (by decide) 1) LB.nil)).set (lt_or (n := 64) ((LB.cons (hh5971.get (by decide) 0) (LB.cons (hh5971.get (by decide) 1) LB.nil)).get (by decide) ((x5973 / 64).toNat)) (Nat.mod_lt _ (by decide))) ((x5973 / 64).toNat)), (by have := (len_set (show ([(zs5970.getD 0 0), (zs5970.getD 1 0)] : List Nat).length = 2 from rfl) ((x5973 / 64).toNat) (([(zs5970.getD 0 0), (zs5970.getD 1 0)].getD ((x5973 / 64).toNat) 0) ||| (1 * 2 ^ ((x5973 % 64).toNat) % 18446744073709551616))); have := hh7671; skip; omega), ((LB.cons (hh5971.get (by decide) 0) (LB.cons (hh5971.get (by decide) 1) LB.nil)).set (lt_or (n := 64) ((LB.cons (hh5971.get (by decide) 0) (LB.cons (hh5971.get (by decide) 1) LB.nil)).get (by decide) ((x5973 / 64).toNat)) (Nat.mod_lt _ (by decide))) ((x5973 / 64).toNat)), (by have := (len_set (show ([(zs5970.getD 0 0), (zs5970.getD 1 0)] : List Nat).length = 2 from rfl) ((x5973 / 64).toNat) (([(zs5970.getD 0 0), (zs5970.getD 1 0)].getD ((x5973 / 64).toNat) 0) ||| (1 * 2 ^ ((x5973 % 64).toNat) % 18446744073709551616))); have := hh7671; skip; omega), hh7675, (by have := (Eq.refl zs7674.length); have := hh7677; skip; omega)⟩
              · clear h7870
                have hF7895 : Fr 49 a7880 [(0, .int .i64 x0), (1, .int .i64 x1), (5, .slice A5969 zs5970.length 2), (6, .int .i64 x5973), (7, .slice A7128 2 2), (8, .slice A7673 zs7674.length c7676), (33, .int .i64 (x1 - 1)), (34, .int .i64 ((x7678 : Nat) : Int)), (44, .bool false)] := hF7887.pick [0, 1, 5, 6, 7, 8, 33, 34, 44] (by rw [(Bool.eq_false_iff.2 hc7888)]; kernel_rfl); clear hF7887
                refine condF hF7895 (by kernel_rfl) ?_
                refine wp_skip ?_
                have hF7896 : Fr 49 a7880 [(0, .int .i64 x0), (1, .int .i64 x1), (5, .slice A5969 zs5970.length 2), (6, .int .i64 x5973), (7, .slice A7128 (([(zs5970.getD 0 0), (zs5970.getD 1 0)].set ((x5973 / 64).toNat) (([(zs5970.getD 0 0), (zs5970.getD 1 0)].getD ((x5973 / 64).toNat) 0) ||| (1 * 2 ^ ((x5973 % 64).toNat) % 18446744073709551616))).length) 2), (8, .slice A7673 zs7674.length c7676), (33, .int .i64 (x1 - 1)), (34, .int .i64 ((x7678 : Nat) : Int)), (44, .bool false)] := (hF7895.pick [0, 1, 5, 6, 7, 8, 33, 34, 44] (G := [(0, .int .i64 x0), (1, .int .i64 x1), (5, .slice A5969 zs5970.length 2), (6, .int .i64 x5973), (7, .slice A7128 2 2), (8, .slice A7673 zs7674.length c7676), (33, .int .i64 (x1 - 1)), (34, .int .i64 ((x7678 : Nat) : Int)), (44, .bool false)]) (by kernel_rfl)).to (by simp only [((len_set (show ([(zs5970.getD 0 0), (zs5970.getD 1 0)] : List Nat).length = 2 from rfl) ((x5973 / 64).toNat) (([(zs5970.getD 0 0), (zs5970.getD 1 0)].getD ((x5973 / 64).toNat) 0) ||| (1 * 2 ^ ((x5973 % 64).toNat) % 18446744073709551616))) : ([(zs5970.getD 0 0), (zs5970.getD 1 0)].set ((x5973 / 64).toNat) (([(zs5970.getD 0 0), (zs5970.getD 1 0)].getD ((x5973 / 64).toNat) 0) ||| (1 * 2 ^ ((x5973 % 64).toNat) % 18446744073709551616))).length = 2)])
                obtain rfl := Option.some.inj h7889
                exact ⟨zs5970, ([(zs5970.getD 0 0), (zs5970.getD 1 0)].set ((x5973 / 64).toNat) (([(zs5970.getD 0 0), (zs5970.getD 1 0)].getD ((x5973 / 64).toNat) 0) ||| (1 * 2 ^ ((x5973 % 64).toNat) % 18446744073709551616))), zs7674, x7678, A5969, A7128, A7673, c7676, rfl, hF7896.pick [0, 1, 5, 6, 7, 8, 33, 34] (by kernel_rfl), hS7886.pick [0, 1, 2] (by decide) rfl, hh5971, (by have := (Eq.refl zs5970.length); have := hh7669; skip; omega), ((LB.cons (hh5971.get (by decide) 0) (LB.cons (hh5971.get (by decide) 1) LB.nil)).set (lt_or (n := 64) ((LB.cons (hh5971.get (by decide) 0) (LB.cons (hh5971.get (by decide) 1) LB.nil)).get (by decide) ((x5973 / 64).toNat)) (Nat.mod_lt _ (by decide))) ((x5973 / 64).toNat)), (by have := (len_set (show ([(zs5970.getD 0 0), (zs5970.getD 1 0)] : List Nat).length = 2 from rfl) ((x5973 / 64).toNat) (([(zs5970.getD 0 0), (zs5970.getD 1 0)].getD ((x5973 / 64).toNat) 0) ||| (1 * 2 ^ ((x5973 % 64).toNat) % 18446744073709551616))); have := hh7671; skip; omega), hh7675, (by have := (Eq.refl zs7674.length); have := hh7677; skip; omega)⟩
      · skip
        clear hx7120 hF6747 hS6729 
        rintro a7897 w7898 ⟨zs7104, zs7109, zs7114, x7118, A7103, A7108, A7113, c7116, rfl, hF7899, hS7900, hh7105, hh7106, hh7110, hh7111, hh7115, hh7117⟩
        obtain ⟨g7903, h7902⟩ : (-9223372036854775808 ≤ (x5973 - 1)) ∧ _ := gd_some h7121; clear h7121
        obtain ⟨g7905, h7904⟩ : ((x5973 - 1) ≤ 9223372036854775807) ∧ _ := gd_some h7902; clear h7902
        refine wp_region_lit ?_
        refine pu_end hT 3 _ hF7899 [0, 1, 5, 7, 8, 33, 34, 6] (G := [(0, .int .i64 x0), (1, .int .i64 x1), (5, .slice A7103 zs7104.length 2), (7, .slice A7108 zs7109.length 2), (8, .slice A7113 zs7114.length c7116), (33, .int .i64 (x1 - 1)), (34, .int .i64 ((x7118 : Nat) : Int)), (6, .int .i64 (x5973 - 1))]) (cs := [-9223372036854775808 ≤ (x5973 - 1), (x5973 - 1) ≤ 9223372036854775807]) (by kernel_rfl) rfl (And.intro g7903 (And.intro g7905 trivial)) ?_; clear hF7899 a7897; intro a7906 hF7907
        obtain rfl := Option.some.inj h7904
        exact hK6723 _ _ _ hy6722 ⟨zs7104, (x5973 - 1), A7103, rfl, hF7907.pick [0, 1, 5, 6] (by kernel_rfl), hS7900.pick [0] (by decide) rfl, hh7105, (by have := (Eq.refl zs7104.length); have := hh7106; skip; omega)⟩
    · clear h6730
      have hF7908 : Fr 49 a6743 [(0, .int .i64 x0), (1, .int .i64 x1), (5, .slice A5969 zs5970.length 2), (6, .int .i64 x5973), (11, .bool false)] := hF6744.pick [0, 1, 5, 6, 11] (by rw [decide_eq_false hc6745]; kernel_rfl); clear hF6744
      refine condF hF7908 (by kernel_rfl) ?_
      refine wp_exit ?_
      obtain rfl := Option.some.inj h6746
      obtain rfl : _ = xj3749 := hy6722
      exact ⟨zs5970, A5969, rfl, hF7908.pick [5] (by kernel_rfl), hS6729.pick [0] (by decide) rfl, hh5971, (by have := (Eq.refl zs5970.length); have := hh5972; skip; omega)⟩
  · skip
    clear hx3750 hF18 hS15 
    rintro a7909 w7910 ⟨zs3746, A3745, rfl, hF7911, hS7912, hh3747, hh3748⟩
    refine wp_seq_k (fun K7914 hK7915 => ?_)
    obtain ⟨g7917, h7916⟩ : ((0 : Int) < ((zs3746.length : Nat) : Int)) ∧ _ := gd_some h3751; clear h3751
    refine wp_region_lit ?_
    refine pu hT 2 _ hF7911 [47] (G := [(47, .pointer (some ⟨(ablk A3745), (aoff A3745 + 0), none⟩))]) (cs := [0 ≤ (0 : Int), (0 : Int) < ((zs3746.length : Nat) : Int), (A3745 : Option Addr) = some ⟨ablk A3745, aoff A3745, none⟩]) (by kernel_rfl) (And.intro (by omega) (And.intro g7917 (And.intro ((hS7912.ro 0 rfl).some' (by have := (Eq.refl zs3746.length); first | omega | (simp only [zA, zS, zT, zD, zR, zC, zN, zV, zI] <;> omega))) trivial))) ?_; clear hF7911 a7909; intro a7918 hF7919
    refine wl (s_load hT (d := 48) (A := ⟨(ablk A3745), (aoff A3745 + 0), none⟩) (v := .int .u64 (((zs3746.getD 0 0) : Nat) : Int)) (by kernel_rfl) hF7919 (Cells.at (hS7912.ro 0 rfl).cells (vs_get .u64 zs3746 (i := 0) (by have := (Eq.refl zs3746.length); first | omega | (simp only [zA, zS, zT, zD, zR, zC, zN, zV, zI] <;> omega) | (simp [*]; done) | (simp [*]; omega))) (by first | rfl | omega)) ?_)
    rintro a7920 ha7922 hF7921; clear ha7922 hF7919 a7918
    have hF7923 := hF7921.pick [48] (G := [(48, .int .u64 (((zs3746.getD 0 0) : Nat) : Int))]) (by kernel_rfl); clear hF7921
    refine pu_end hT 1 _ hF7923 [4] (G := [(4, .int .u64 (((zs3746.getD 0 0) : Nat) : Int))]) (cs := []) (by kernel_rfl) rfl trivial ?_; clear hF7923 a7920; intro a7924 hF7925
    refine hK7915 _ _ ?_
    refine wp_ret ?_
    obtain rfl := Option.some.inj h7916
    refine ret1 hF7925 rfl (v := .int .u64 (((zs3746.getD 0 0) : Nat) : Int)) (by kernel_rfl) ?_
    exact ⟨rfl, (hh3747.get (by decide) 0), hS7912.pick [] (by decide) rfl⟩

noncomputable def F_sha512_Start_l1 (zs27 : List Int) : (List Nat × Nat) → Option ((List Nat × Nat) ⊕ (List Nat)) := fun (zs254, x258) => if ((x258 : Nat) : Int) < ((zs27.length : Nat) : Int) then (bnd (F_sha512_root (zs27.getD x258 0) (2 : Int)) fun (x329 : Nat) => gd (((x258 : Nat) : Int) < 8) (gd ((((x258 + 1) : Nat) : Int) ≤ 9223372036854775807) (some (.inl ((zs254.set x258 x329), (x258 + 1)))))) else (some (.inr zs254))
noncomputable def F_sha512_Start : Option (List Nat) := bnd (F_sha256_Primes (8 : Int)) fun (zs27, x28) => bnd (run (F_sha512_Start_l1 zs27) ((List.replicate 8 0), 0) : Option (List Nat)) (fun (zs182 : List Nat) => some zs182)
set_option maxHeartbeats 4000000 in
theorem W_sha512_Start (w : World) (r : List Nat) (h : F_sha512_Start = some r) :
    Calls Try.prog 18 [].toArray w (Ret fun v w' => v = .agg (vs .u64 r).toArray ∧ r.length = 8 ∧ LB 18446744073709551616 r ∧ Heap w [] w' []) := by
  unfold F_sha512_Start at h
  refine enter Try.func18 rfl (n := 23) Try.ntmps18 (by simp) ?_
  intro a hF
  have hS := Heap.init w
  refine wp_seq_k (fun K1 hK2 => ?_)
  refine wp_region_lit ?_
  refine wl (h_alloc hT (d := 0) (T := 26) (l := vs .u64 (List.replicate 8 0)) (by kernel_rfl) hF hS ?_)
  rintro a5 w6 b3 hS7 g8 ha9 hF10; clear ha9 hF a hS
  have hS11 : Heap w [] w6 [.blk b3 26 (vs .u64 (List.replicate 8 0))] := hS7; clear hS7
  have hF12 := hF10.pick [0] (G := [(0, .pointer (some ⟨b3, 0, none⟩))]) (by kernel_rfl); clear hF10
  refine wpList_nil ?_
  refine hK2 _ _ ?_
  refine wp_seq_k (fun K13 hK14 => ?_)
  refine wp_region_lit ?_
  refine wl (h_alloc hT (d := 1) (T := 26) (l := vs .u64 (List.replicate 8 0)) (by kernel_rfl) hF12 hS11 ?_)
  rintro a17 w18 b15 hS19 g20 ha21 hF22; clear ha21 hF12 a5 hS11
  have hS23 : Heap w [] w18 [.blk b15 26 (vs .u64 (List.replicate 8 0)), .blk b3 26 (vs .u64 (List.replicate 8 0))] := hS19; clear hS19
  have hF24 := hF22.pick [0, 1] (G := [(0, .pointer (some ⟨b3, 0, none⟩)), (1, .pointer (some ⟨b15, 0, none⟩))]) (by kernel_rfl); clear hF22
  refine wpList_nil ?_
  refine hK14 _ _ ?_
  refine wp_seq_k (fun K25 hK26 => ?_)
  obtain ⟨⟨zs27, x28⟩, hr30, h29⟩ := bnd_some h; clear h; replace hr30 : F_sha256_Primes (8 : Int) = some (zs27, x28) := hr30
  refine wp_region_lit ?_
  refine wl (s_call (d := 7) (f := 26) (l := [.int .i64 8]) (by kernel_rfl) hF24 cl26 (W_sha256_Primes (8 : Int) _ zs27 x28 hr30) ?_)
  rintro a34 w35 v36 ⟨A31, c32, rfl, hC37⟩ ha38 hF39; clear ha38 hF24 a17
  have hS40 : Heap w [] w35 [.row 3 1 A31 zs27.length c32 (vi zs27), .blk b15 26 (vs .u64 (List.replicate 8 0)), .blk b3 26 (vs .u64 (List.replicate 8 0))] := Heap.call hS23 hC37; clear hS23
  have hF41 := hF39.pick [0, 1, 7] (G := [(0, .pointer (some ⟨b3, 0, none⟩)), (1, .pointer (some ⟨b15, 0, none⟩)), (7, .tuple #[.slice A31 zs27.length c32, .int .i64 ((x28 : Nat) : Int)])]) (by kernel_rfl); clear hF39
  refine pu_end hT 5 _ hF41 [0, 1, 2] (G := [(0, .pointer (some ⟨b3, 0, none⟩)), (1, .pointer (some ⟨b15, 0, none⟩)), (2, .slice A31 zs27.length c32)]) (cs := []) (by kernel_rfl) rfl trivial ?_; clear hF41 a34; intro a42 hF43
  refine hK26 _ _ ?_
  obtain ⟨xj185, hx186, h187⟩ := bnd_some h29; clear h29
  refine seqJ (fun a W => ∃ (zs182 : List Nat), zs182 = xj185 ∧ (Fr 23 a [(0, .pointer (some ⟨b3, 0, none⟩)), (1, .pointer (some ⟨b15, 0, none⟩))]) ∧ (Heap w [] W [.blk b3 26 (vs .u64 (List.replicate 8 0)), .blk b15 26 (vs .u64 zs182)]) ∧ (zs182.length = 8) ∧ (LB 18446744073709551616 zs182)) ?_ ?_
  · skip
    refine wp_seq_k (fun K188 hK189 => ?_)
    refine wp_region_lit ?_
    refine pu_end hT 3 _ hF43 [0, 1, 10, 11, 12] (G := [(0, .pointer (some ⟨b3, 0, none⟩)), (1, .pointer (some ⟨b15, 0, none⟩)), (10, .slice A31 zs27.length c32), (11, .int .i64 ((zs27.length : Nat) : Int)), (12, .int .i64 0)]) (cs := []) (by kernel_rfl) rfl trivial ?_; clear hF43 a42; intro a190 hF191
    refine hK189 _ _ ?_
    refine wp_block ?_
    refine loopR (F_sha512_Start_l1 zs27) xj185 ((List.replicate 8 0), 0) hx186 (fun s a W => ∃ (zs254 : List Nat), ∃ (x258 : Nat), (zs254, x258) = s ∧ (Fr 23 a [(0, .pointer (some ⟨b3, 0, none⟩)), (1, .pointer (some ⟨b15, 0, none⟩)), (10, .slice A31 zs27.length c32), (11, .int .i64 ((zs27.length : Nat) : Int)), (12, .int .i64 ((x258 : Nat) : Int))]) ∧ (Heap w [] W [.blk b3 26 (vs .u64 (List.replicate 8 0)), .blk b15 26 (vs .u64 zs254), .row 3 1 A31 zs27.length c32 (vi zs27)]) ∧ (zs254.length = 8) ∧ (LB 18446744073709551616 zs254)) ⟨(List.replicate 8 0), 0, rfl, hF191.pick [0, 1, 10, 11, 12] (by kernel_rfl), hS40.pick [2, 1, 0] (by decide) rfl, (len_rep (α := Nat) 8 0), (LB.rep (m := 18446744073709551616) (x := 0) (by decide) 8)⟩ ?_
    clear hF191 hS40 hx186
    rintro k297 _ a292 w293 ⟨zs254, x258, rfl, hF294, hS295, hh255, hh256⟩ hit291 K290 hK289
    obtain ⟨y287, h296, hy288⟩ := iter_succ hit291; clear hit291
    unfold F_sha512_Start_l1 at h296; try dsimp only at h296
    refine wp_seq_k (fun K298 hK299 => ?_)
    refine wp_region_lit ?_
    refine pu_end hT 1 _ hF294 [0, 1, 10, 11, 12, 13] (G := [(0, .pointer (some ⟨b3, 0, none⟩)), (1, .pointer (some ⟨b15, 0, none⟩)), (10, .slice A31 zs27.length c32), (11, .int .i64 ((zs27.length : Nat) : Int)), (12, .int .i64 ((x258 : Nat) : Int)), (13, .bool ((decide (((x258 : Nat) : Int) < ((zs27.length : Nat) : Int)))))]) (cs := []) (by kernel_rfl) rfl trivial ?_; clear hF294 a292; intro a300 hF301
    refine hK299 _ _ ?_
    refine wp_seq_k (fun K304 hK305 => ?_)
    rcases (ite_some h296 : ((((x258 : Nat) : Int) < ((zs27.length : Nat) : Int)) ∧ _) ∨ (¬ (((x258 : Nat) : Int) < ((zs27.length : Nat) : Int)) ∧ _)) with ⟨hc306, h307⟩ | ⟨hc306, h307⟩
    · clear h296
      have hF308 : Fr 23 a300 [(0, .pointer (some ⟨b3, 0, none⟩)), (1, .pointer (some ⟨b15, 0, none⟩)), (10, .slice A31 zs27.length c32), (11, .int .i64 ((zs27.length : Nat) : Int)), (12, .int .i64 ((x258 : Nat) : Int)), (13, .bool true)] := hF301.pick [0, 1, 10, 11, 12, 13] (by rw [decide_eq_true hc306]; kernel_rfl); clear hF301
      refine condT hF308 (by kernel_rfl) ?_
      refine wp_skip ?_
      refine hK305 _ _ ?_
      refine wp_seq_k (fun K317 hK318 => ?_)
      refine wp_block ?_
      refine wp_seq_k (fun K319 hK320 => ?_)
      refine wp_region_lit ?_
      refine pu hT 2 _ hF308 [0, 1, 10, 11, 12, 14, 15] (G := [(0, .pointer (some ⟨b3, 0, none⟩)), (1, .pointer (some ⟨b15, 0, none⟩)), (10, .slice A31 zs27.length c32), (11, .int .i64 ((zs27.length : Nat) : Int)), (12, .int .i64 ((x258 : Nat) : Int)), (14, .int .i64 ((x258 : Nat) : Int)), (15, .pointer (some ⟨(ablk A31), (aoff A31 + x258), none⟩))]) (cs := [0 ≤ ((x258 : Nat) : Int), ((x258 : Nat) : Int) < ((zs27.length : Nat) : Int), (A31 : Option Addr) = some ⟨ablk A31, aoff A31, none⟩]) (by kernel_rfl) (And.intro (by omega) (And.intro hc306 (And.intro ((hS295.own 2 rfl).rd.some' (by have := (Eq.refl zs27.length); first | omega | (simp only [zA, zS, zT, zD, zR, zC, zN, zV, zI] <;> omega))) trivial))) ?_; clear hF308 a300; intro a321 hF322
      refine wl (s_load hT (d := 16) (A := ⟨(ablk A31), (aoff A31 + x258), none⟩) (v := .int .i64 (zs27.getD x258 0)) (by kernel_rfl) hF322 (Cells.at (hS295.own 2 rfl).rd.cells (vi_get zs27 (i := x258) (by have := (Eq.refl zs27.length); first | omega | (simp only [zA, zS, zT, zD, zR, zC, zN, zV, zI] <;> omega) | (simp [*]; done) | (simp [*]; omega))) (by first | rfl | omega)) ?_)
      rintro a323 ha325 hF324; clear ha325 hF322 a321
      have hF326 := hF324.pick [0, 1, 10, 11, 12, 14, 16] (G := [(0, .pointer (some ⟨b3, 0, none⟩)), (1, .pointer (some ⟨b15, 0, none⟩)), (10, .slice A31 zs27.length c32), (11, .int .i64 ((zs27.length : Nat) : Int)), (12, .int .i64 ((x258 : Nat) : Int)), (14, .int .i64 ((x258 : Nat) : Int)), (16, .int .i64 (zs27.getD x258 0))]) (by kernel_rfl); clear hF324
      refine pu_end hT 2 _ hF326 [0, 1, 10, 11, 12, 4, 5] (G := [(0, .pointer (some ⟨b3, 0, none⟩)), (1, .pointer (some ⟨b15, 0, none⟩)), (10, .slice A31 zs27.length c32), (11, .int .i64 ((zs27.length : Nat) : Int)), (12, .int .i64 ((x258 : Nat) : Int)), (4, .int .i64 ((x258 : Nat) : Int)), (5, .int .i64 (zs27.getD x258 0))]) (cs := []) (by kernel_rfl) rfl trivial ?_; clear hF326 a323; intro a327 hF328
      refine hK320 _ _ ?_
      obtain ⟨x329, hr331, h330⟩ := bnd_some h307; clear h307; replace hr331 : F_sha512_root (zs27.getD x258 0) (2 : Int) = some (x329) := hr331
      obtain ⟨g334, h333⟩ : (((x258 : Nat) : Int) < 8) ∧ _ := gd_some h330; clear h330
      refine wp_region_lit ?_
      refine pu hT 2 _ hF328 [0, 1, 10, 11, 12, 17, 18] (G := [(0, .pointer (some ⟨b3, 0, none⟩)), (1, .pointer (some ⟨b15, 0, none⟩)), (10, .slice A31 zs27.length c32), (11, .int .i64 ((zs27.length : Nat) : Int)), (12, .int .i64 ((x258 : Nat) : Int)), (17, .int .i64 ((x258 : Nat) : Int)), (18, .int .i64 (zs27.getD x258 0))]) (cs := []) (by kernel_rfl) trivial ?_; clear hF328 a327; intro a335 hF336
      refine wl (s_call (d := 19) (f := 43) (l := [.int .i64 (zs27.getD x258 0), .int .i64 2]) (by kernel_rfl) hF336 cl43 (W_sha512_root (zs27.getD x258 0) (2 : Int) _ x329 hr331) ?_)
      rintro a337 w338 v339 ⟨rfl, hh332, hC340⟩ ha341 hF342; clear ha341 hF336 a335
      have hS343 : Heap w [] w338 [.blk b3 26 (vs .u64 (List.replicate 8 0)), .blk b15 26 (vs .u64 zs254), .row 3 1 A31 zs27.length c32 (vi zs27)] := Heap.call hS295 hC340; clear hS295
      have hF344 := hF342.pick [0, 1, 10, 11, 12, 17, 19] (G := [(0, .pointer (some ⟨b3, 0, none⟩)), (1, .pointer (some ⟨b15, 0, none⟩)), (10, .slice A31 zs27.length c32), (11, .int .i64 ((zs27.length : Nat) : Int)), (12, .int .i64 ((x258 : Nat) : Int)), (17, .int .i64 ((x258 : Nat) : Int)), (19, .int .u64 ((x329 : Nat) : Int))]) (by kernel_rfl); clear hF342
      refine pu hT 1 _ hF344 [0, 1, 10, 11, 12, 19, 20] (G := [(0, .pointer (some ⟨b3, 0, none⟩)), (1, .pointer (some ⟨b15, 0, none⟩)), (10, .slice A31 zs27.length c32), (11, .int .i64 ((zs27.length : Nat) : Int)), (12, .int .i64 ((x258 : Nat) : Int)), (19, .int .u64 ((x329 : Nat) : Int)), (20, .pointer (some ⟨b15, (0 + x258), none⟩))]) (cs := [0 ≤ ((x258 : Nat) : Int), ((x258 : Nat) : Int) < 8]) (by kernel_rfl) (And.intro (by omega) (And.intro g334 trivial)) ?_; clear hF344 a337; intro a345 hF346
      refine wl (h_store hT (b := b15) (off := x258) (p := ⟨b15, (0 + x258), none⟩) (v := .int .u64 ((x329 : Nat) : Int)) (l' := vs .u64 (zs254.set x258 x329)) (by kernel_rfl) hF346 hS343 1 rfl (by first | rfl | (congr 1; omega)) (by have := hh255; simp only [zA, zS, zT, zD, zR, zC, zN, zV, zI] <;> omega) (by first | exact vs_set _ _ _ _ | exact vi_set _ _ _ | rfl) ?_)
      rintro a347 w348 ha351 hF352 hS349 g350; clear ha351 hF346 a345 hS343
      have hS353 : Heap w [] w348 [.blk b3 26 (vs .u64 (List.replicate 8 0)), .blk b15 26 (vs .u64 (zs254.set x258 x329)), .row 3 1 A31 zs27.length c32 (vi zs27)] := hS349; clear hS349
      have hF354 := hF352.pick [0, 1, 10, 11, 12] (G := [(0, .pointer (some ⟨b3, 0, none⟩)), (1, .pointer (some ⟨b15, 0, none⟩)), (10, .slice A31 zs27.length c32), (11, .int .i64 ((zs27.length : Nat) : Int)), (12, .int .i64 ((x258 : Nat) : Int))]) (by kernel_rfl); clear hF352
      refine wpList_nil ?_
      refine hK318 _ _ ?_
      obtain ⟨g356, h355⟩ : ((((x258 + 1) : Nat) : Int) ≤ 9223372036854775807) ∧ _ := gd_some h333; clear h333
      refine wp_region_lit ?_
      refine pu_end hT 2 _ hF354 [0, 1, 10, 11, 12] (G := [(0, .pointer (some ⟨b3, 0, none⟩)), (1, .pointer (some ⟨b15, 0, none⟩)), (10, .slice A31 zs27.length c32), (11, .int .i64 ((zs27.length : Nat) : Int)), (12, .int .i64 (((x258 + 1) : Nat) : Int))]) (cs := [-9223372036854775808 ≤ (((x258 + 1) : Nat) : Int), (((x258 + 1) : Nat) : Int) ≤ 9223372036854775807]) (by kernel_rfl) rfl (And.intro (by omega) (And.intro g356 trivial)) ?_; clear hF354 a347; intro a357 hF358
      obtain rfl := Option.some.inj h355
      exact hK289 _ _ _ hy288 ⟨(zs254.set x258 x329), (x258 + 1), rfl, hF358.pick [0, 1, 10, 11, 12] (by kernel_rfl), hS353.pick [0, 1, 2] (by decide) rfl, (len_set hh255 x258 x329), (hh256.set hh332 x258)⟩
    · clear h296
      have hF359 : Fr 23 a300 [(0, .pointer (some ⟨b3, 0, none⟩)), (1, .pointer (some ⟨b15, 0, none⟩)), (10, .slice A31 zs27.length c32), (11, .int .i64 ((zs27.length : Nat) : Int)), (12, .int .i64 ((x258 : Nat) : Int)), (13, .bool false)] := hF301.pick [0, 1, 10, 11, 12, 13] (by rw [decide_eq_false hc306]; kernel_rfl); clear hF301
      refine condF hF359 (by kernel_rfl) ?_
      refine wp_exit ?_
      obtain rfl := Option.some.inj h307
      obtain rfl : _ = xj185 := hy288
      exact ⟨zs254, rfl, hF359.pick [0, 1] (by kernel_rfl), hS295.pick [0, 1] (by decide) rfl, hh255, hh256⟩
  · skip
    clear hx186 hF43 hS40 
    rintro a360 w361 ⟨zs182, rfl, hF362, hS363, hh183, hh184⟩
    refine wp_seq_k (fun K365 hK366 => ?_)
    refine wp_region_lit ?_
    refine wl (s_loadA hT (d := 22) (b := b15) (off := 0) (sz := 8) (l := vs .u64 zs182) (by kernel_rfl) hF362 (hS363.blk 1 rfl).cells (by simp only [List.length_append, vs_length, vi_length, List.length_cons, List.length_nil, (hh183 : zs182.length = 8)]) ?_)
    rintro a367 ha369 hF368; clear ha369 hF362 a360
    have hF370 := hF368.pick [0, 22] (G := [(0, .pointer (some ⟨b3, 0, none⟩)), (22, .agg (vs .u64 zs182).toArray)]) (by kernel_rfl); clear hF368
    refine wl (h_storeV hT (b := b3) (l2 := vs .u64 zs182) (sz := 8) (by kernel_rfl) hF370 hS363 0 rfl (by simp only [List.length_append, vs_length, vi_length, List.length_cons, List.length_nil, (hh183 : zs182.length = 8)]) (by simp only [List.length_append, vs_length, vi_length, List.length_cons, List.length_nil, (hh183 : zs182.length = 8), ((len_rep (α := Nat) 8 0) : (List.replicate 8 0).length = 8)]) (vs_one) ?_)
    rintro a371 w372 ha375 hF376 hS373 g374; clear ha375 hF370 a367 hS363
    have hS377 : Heap w [] w372 [.blk b3 26 (vs .u64 zs182), .blk b15 26 (vs .u64 zs182)] := hS373; clear hS373
    have hF378 := hF376.pick [0] (G := [(0, .pointer (some ⟨b3, 0, none⟩))]) (by kernel_rfl); clear hF376
    refine wpList_nil ?_
    refine hK366 _ _ ?_
    refine wp_ret ?_
    obtain rfl := Option.some.inj h187
    refine retR1 (fn := Try.f18) (by first | exact .inl rfl | exact .inr rfl) hF378 rfl (resC hT (t := 0) (ty := 26) (b := b3) (by kernel_rfl) (i := tr26) (by kernel_rfl) rfl (hS377.blk 0 rfl) (show _ = 8 from by simp only [List.length_append, vs_length, vi_length, List.length_cons, List.length_nil, (hh183 : zs182.length = 8)])) ?_
    exact ⟨rfl, hh183, hh184, hS377.pick [] (by decide) rfl⟩

noncomputable def F_sha512_Rounds_l1 (zs27 : List Int) : (List Nat × Nat) → Option ((List Nat × Nat) ⊕ (List Nat)) := fun (zs254, x258) => if ((x258 : Nat) : Int) < ((zs27.length : Nat) : Int) then (bnd (F_sha512_root (zs27.getD x258 0) (3 : Int)) fun (x329 : Nat) => gd (((x258 : Nat) : Int) < 80) (gd ((((x258 + 1) : Nat) : Int) ≤ 9223372036854775807) (some (.inl ((zs254.set x258 x329), (x258 + 1)))))) else (some (.inr zs254))
noncomputable def F_sha512_Rounds : Option (List Nat) := bnd (F_sha256_Primes (80 : Int)) fun (zs27, x28) => bnd (run (F_sha512_Rounds_l1 zs27) ((List.replicate 80 0), 0) : Option (List Nat)) (fun (zs182 : List Nat) => some zs182)
set_option maxHeartbeats 4000000 in
theorem W_sha512_Rounds (w : World) (r : List Nat) (h : F_sha512_Rounds = some r) :
    Calls Try.prog 16 [].toArray w (Ret fun v w' => v = .agg (vs .u64 r).toArray ∧ r.length = 80 ∧ LB 18446744073709551616 r ∧ Heap w [] w' []) := by
  unfold F_sha512_Rounds at h
  refine enter Try.func16 rfl (n := 23) Try.ntmps16 (by simp) ?_
  intro a hF
  have hS := Heap.init w
  refine wp_seq_k (fun K1 hK2 => ?_)
  refine wp_region_lit ?_
  refine wl (h_alloc hT (d := 0) (T := 24) (l := vs .u64 (List.replicate 80 0)) (by kernel_rfl) hF hS ?_)
  rintro a5 w6 b3 hS7 g8 ha9 hF10; clear ha9 hF a hS
  have hS11 : Heap w [] w6 [.blk b3 24 (vs .u64 (List.replicate 80 0))] := hS7; clear hS7
  have hF12 := hF10.pick [0] (G := [(0, .pointer (some ⟨b3, 0, none⟩))]) (by kernel_rfl); clear hF10
  refine wpList_nil ?_
  refine hK2 _ _ ?_
  refine wp_seq_k (fun K13 hK14 => ?_)
  refine wp_region_lit ?_
  refine wl (h_alloc hT (d := 1) (T := 24) (l := vs .u64 (List.replicate 80 0)) (by kernel_rfl) hF12 hS11 ?_)
  rintro a17 w18 b15 hS19 g20 ha21 hF22; clear ha21 hF12 a5 hS11
  have hS23 : Heap w [] w18 [.blk b15 24 (vs .u64 (List.replicate 80 0)), .blk b3 24 (vs .u64 (List.replicate 80 0))] := hS19; clear hS19
  have hF24 := hF22.pick [0, 1] (G := [(0, .pointer (some ⟨b3, 0, none⟩)), (1, .pointer (some ⟨b15, 0, none⟩))]) (by kernel_rfl); clear hF22
  refine wpList_nil ?_
  refine hK14 _ _ ?_
  refine wp_seq_k (fun K25 hK26 => ?_)
  obtain ⟨⟨zs27, x28⟩, hr30, h29⟩ := bnd_some h; clear h; replace hr30 : F_sha256_Primes (80 : Int) = some (zs27, x28) := hr30
  refine wp_region_lit ?_
  refine wl (s_call (d := 7) (f := 26) (l := [.int .i64 80]) (by kernel_rfl) hF24 cl26 (W_sha256_Primes (80 : Int) _ zs27 x28 hr30) ?_)
  rintro a34 w35 v36 ⟨A31, c32, rfl, hC37⟩ ha38 hF39; clear ha38 hF24 a17
  have hS40 : Heap w [] w35 [.row 3 1 A31 zs27.length c32 (vi zs27), .blk b15 24 (vs .u64 (List.replicate 80 0)), .blk b3 24 (vs .u64 (List.replicate 80 0))] := Heap.call hS23 hC37; clear hS23
  have hF41 := hF39.pick [0, 1, 7] (G := [(0, .pointer (some ⟨b3, 0, none⟩)), (1, .pointer (some ⟨b15, 0, none⟩)), (7, .tuple #[.slice A31 zs27.length c32, .int .i64 ((x28 : Nat) : Int)])]) (by kernel_rfl); clear hF39
  refine pu_end hT 5 _ hF41 [0, 1, 2] (G := [(0, .pointer (some ⟨b3, 0, none⟩)), (1, .pointer (some ⟨b15, 0, none⟩)), (2, .slice A31 zs27.length c32)]) (cs := []) (by kernel_rfl) rfl trivial ?_; clear hF41 a34; intro a42 hF43
  refine hK26 _ _ ?_
  obtain ⟨xj185, hx186, h187⟩ := bnd_some h29; clear h29
  refine seqJ (fun a W => ∃ (zs182 : List Nat), zs182 = xj185 ∧ (Fr 23 a [(0, .pointer (some ⟨b3, 0, none⟩)), (1, .pointer (some ⟨b15, 0, none⟩))]) ∧ (Heap w [] W [.blk b3 24 (vs .u64 (List.replicate 80 0)), .blk b15 24 (vs .u64 zs182)]) ∧ (zs182.length = 80) ∧ (LB 18446744073709551616 zs182)) ?_ ?_
  · skip
    refine wp_seq_k (fun K188 hK189 => ?_)
    refine wp_region_lit ?_
    refine pu_end hT 3 _ hF43 [0, 1, 10, 11, 12] (G := [(0, .pointer (some ⟨b3, 0, none⟩)), (1, .pointer (some ⟨b15, 0, none⟩)), (10, .slice A31 zs27.length c32), (11, .int .i64 ((zs27.length : Nat) : Int)), (12, .int .i64 0)]) (cs := []) (by kernel_rfl) rfl trivial ?_; clear hF43 a42; intro a190 hF191
    refine hK189 _ _ ?_
    refine wp_block ?_
    refine loopR (F_sha512_Rounds_l1 zs27) xj185 ((List.replicate 80 0), 0) hx186 (fun s a W => ∃ (zs254 : List Nat), ∃ (x258 : Nat), (zs254, x258) = s ∧ (Fr 23 a [(0, .pointer (some ⟨b3, 0, none⟩)), (1, .pointer (some ⟨b15, 0, none⟩)), (10, .slice A31 zs27.length c32), (11, .int .i64 ((zs27.length : Nat) : Int)), (12, .int .i64 ((x258 : Nat) : Int))]) ∧ (Heap w [] W [.blk b3 24 (vs .u64 (List.replicate 80 0)), .blk b15 24 (vs .u64 zs254), .row 3 1 A31 zs27.length c32 (vi zs27)]) ∧ (zs254.length = 80) ∧ (LB 18446744073709551616 zs254)) ⟨(List.replicate 80 0), 0, rfl, hF191.pick [0, 1, 10, 11, 12] (by kernel_rfl), hS40.pick [2, 1, 0] (by decide) rfl, (len_rep (α := Nat) 80 0), (LB.rep (m := 18446744073709551616) (x := 0) (by decide) 80)⟩ ?_
    clear hF191 hS40 hx186
    rintro k297 _ a292 w293 ⟨zs254, x258, rfl, hF294, hS295, hh255, hh256⟩ hit291 K290 hK289
    obtain ⟨y287, h296, hy288⟩ := iter_succ hit291; clear hit291
    unfold F_sha512_Rounds_l1 at h296; try dsimp only at h296
    refine wp_seq_k (fun K298 hK299 => ?_)
    refine wp_region_lit ?_
    refine pu_end hT 1 _ hF294 [0, 1, 10, 11, 12, 13] (G := [(0, .pointer (some ⟨b3, 0, none⟩)), (1, .pointer (some ⟨b15, 0, none⟩)), (10, .slice A31 zs27.length c32), (11, .int .i64 ((zs27.length : Nat) : Int)), (12, .int .i64 ((x258 : Nat) : Int)), (13, .bool ((decide (((x258 : Nat) : Int) < ((zs27.length : Nat) : Int)))))]) (cs := []) (by kernel_rfl) rfl trivial ?_; clear hF294 a292; intro a300 hF301
    refine hK299 _ _ ?_
    refine wp_seq_k (fun K304 hK305 => ?_)
    rcases (ite_some h296 : ((((x258 : Nat) : Int) < ((zs27.length : Nat) : Int)) ∧ _) ∨ (¬ (((x258 : Nat) : Int) < ((zs27.length : Nat) : Int)) ∧ _)) with ⟨hc306, h307⟩ | ⟨hc306, h307⟩
    · clear h296
      have hF308 : Fr 23 a300 [(0, .pointer (some ⟨b3, 0, none⟩)), (1, .pointer (some ⟨b15, 0, none⟩)), (10, .slice A31 zs27.length c32), (11, .int .i64 ((zs27.length : Nat) : Int)), (12, .int .i64 ((x258 : Nat) : Int)), (13, .bool true)] := hF301.pick [0, 1, 10, 11, 12, 13] (by rw [decide_eq_true hc306]; kernel_rfl); clear hF301
      refine condT hF308 (by kernel_rfl) ?_
      refine wp_skip ?_
      refine hK305 _ _ ?_
      refine wp_seq_k (fun K317 hK318 => ?_)
      refine wp_block ?_
      refine wp_seq_k (fun K319 hK320 => ?_)
      refine wp_region_lit ?_
      refine pu hT 2 _ hF308 [0, 1, 10, 11, 12, 14, 15] (G := [(0, .pointer (some ⟨b3, 0, none⟩)), (1, .pointer (some ⟨b15, 0, none⟩)), (10, .slice A31 zs27.length c32), (11, .int .i64 ((zs27.length : Nat) : Int)), (12, .int .i64 ((x258 : Nat) : Int)), (14, .int .i64 ((x258 : Nat) : Int)), (15, .pointer (some ⟨(ablk A31), (aoff A31 + x258), none⟩))]) (cs := [0 ≤ ((x258 : Nat) : Int), ((x258 : Nat) : Int) < ((zs27.length : Nat) : Int), (A31 : Option Addr) = some ⟨ablk A31, aoff A31, none⟩]) (by kernel_rfl) (And.intro (by omega) (And.intro hc306 (And.intro ((hS295.own 2 rfl).rd.some' (by have := (Eq.refl zs27.length); first | omega | (simp only [zA, zS, zT, zD, zR, zC, zN, zV, zI] <;> omega))) trivial))) ?_; clear hF308 a300; intro a321 hF322
      refine wl (s_load hT (d := 16) (A := ⟨(ablk A31), (aoff A31 + x258), none⟩) (v := .int .i64 (zs27.getD x258 0)) (by kernel_rfl) hF322 (Cells.at (hS295.own 2 rfl).rd.cells (vi_get zs27 (i := x258) (by have := (Eq.refl zs27.length); first | omega | (simp only [zA, zS, zT, zD, zR, zC, zN, zV, zI] <;> omega) | (simp [*]; done) | (simp [*]; omega))) (by first | rfl | omega)) ?_)
      rintro a323 ha325 hF324; clear ha325 hF322 a321
      have hF326 := hF324.pick [0, 1, 10, 11, 12, 14, 16] (G := [(0, .pointer (some ⟨b3, 0, none⟩)), (1, .pointer (some ⟨b15, 0, none⟩)), (10, .slice A31 zs27.length c32), (11, .int .i64 ((zs27.length : Nat) : Int)), (12, .int .i64 ((x258 : Nat) : Int)), (14, .int .i64 ((x258 : Nat) : Int)), (16, .int .i64 (zs27.getD x258 0))]) (by kernel_rfl); clear hF324
      refine pu_end hT 2 _ hF326 [0, 1, 10, 11, 12, 4, 5] (G := [(0, .pointer (some ⟨b3, 0, none⟩)), (1, .pointer (some ⟨b15, 0, none⟩)), (10, .slice A31 zs27.length c32), (11, .int .i64 ((zs27.length : Nat) : Int)), (12, .int .i64 ((x258 : Nat) : Int)), (4, .int .i64 ((x258 : Nat) : Int)), (5, .int .i64 (zs27.getD x258 0))]) (cs := []) (by kernel_rfl) rfl trivial ?_; clear hF326 a323; intro a327 hF328
      refine hK320 _ _ ?_
      obtain ⟨x329, hr331, h330⟩ := bnd_some h307; clear h307; replace hr331 : F_sha512_root (zs27.getD x258 0) (3 : Int) = some (x329) := hr331
      obtain ⟨g334, h333⟩ : (((x258 : Nat) : Int) < 80) ∧ _ := gd_some h330; clear h330
      refine wp_region_lit ?_
      refine pu hT 2 _ hF328 [0, 1, 10, 11, 12, 17, 18] (G := [(0, .pointer (some ⟨b3, 0, none⟩)), (1, .pointer (some ⟨b15, 0, none⟩)), (10, .slice A31 zs27.length c32), (11, .int .i64 ((zs27.length : Nat) : Int)), (12, .int .i64 ((x258 : Nat) : Int)), (17, .int .i64 ((x258 : Nat) : Int)), (18, .int .i64 (zs27.getD x258 0))]) (cs := []) (by kernel_rfl) trivial ?_; clear hF328 a327; intro a335 hF336
      refine wl (s_call (d := 19) (f := 43) (l := [.int .i64 (zs27.getD x258 0), .int .i64 3]) (by kernel_rfl) hF336 cl43 (W_sha512_root (zs27.getD x258 0) (3 : Int) _ x329 hr331) ?_)
      rintro a337 w338 v339 ⟨rfl, hh332, hC340⟩ ha341 hF342; clear ha341 hF336 a335
      have hS343 : Heap w [] w338 [.blk b3 24 (vs .u64 (List.replicate 80 0)), .blk b15 24 (vs .u64 zs254), .row 3 1 A31 zs27.length c32 (vi zs27)] := Heap.call hS295 hC340; clear hS295
      have hF344 := hF342.pick [0, 1, 10, 11, 12, 17, 19] (G := [(0, .pointer (some ⟨b3, 0, none⟩)), (1, .pointer (some ⟨b15, 0, none⟩)), (10, .slice A31 zs27.length c32), (11, .int .i64 ((zs27.length : Nat) : Int)), (12, .int .i64 ((x258 : Nat) : Int)), (17, .int .i64 ((x258 : Nat) : Int)), (19, .int .u64 ((x329 : Nat) : Int))]) (by kernel_rfl); clear hF342
      refine pu hT 1 _ hF344 [0, 1, 10, 11, 12, 19, 20] (G := [(0, .pointer (some ⟨b3, 0, none⟩)), (1, .pointer (some ⟨b15, 0, none⟩)), (10, .slice A31 zs27.length c32), (11, .int .i64 ((zs27.length : Nat) : Int)), (12, .int .i64 ((x258 : Nat) : Int)), (19, .int .u64 ((x329 : Nat) : Int)), (20, .pointer (some ⟨b15, (0 + x258), none⟩))]) (cs := [0 ≤ ((x258 : Nat) : Int), ((x258 : Nat) : Int) < 80]) (by kernel_rfl) (And.intro (by omega) (And.intro g334 trivial)) ?_; clear hF344 a337; intro a345 hF346
      refine wl (h_store hT (b := b15) (off := x258) (p := ⟨b15, (0 + x258), none⟩) (v := .int .u64 ((x329 : Nat) : Int)) (l' := vs .u64 (zs254.set x258 x329)) (by kernel_rfl) hF346 hS343 1 rfl (by first | rfl | (congr 1; omega)) (by have := hh255; simp only [zA, zS, zT, zD, zR, zC, zN, zV, zI] <;> omega) (by first | exact vs_set _ _ _ _ | exact vi_set _ _ _ | rfl) ?_)
      rintro a347 w348 ha351 hF352 hS349 g350; clear ha351 hF346 a345 hS343
      have hS353 : Heap w [] w348 [.blk b3 24 (vs .u64 (List.replicate 80 0)), .blk b15 24 (vs .u64 (zs254.set x258 x329)), .row 3 1 A31 zs27.length c32 (vi zs27)] := hS349; clear hS349
      have hF354 := hF352.pick [0, 1, 10, 11, 12] (G := [(0, .pointer (some ⟨b3, 0, none⟩)), (1, .pointer (some ⟨b15, 0, none⟩)), (10, .slice A31 zs27.length c32), (11, .int .i64 ((zs27.length : Nat) : Int)), (12, .int .i64 ((x258 : Nat) : Int))]) (by kernel_rfl); clear hF352
      refine wpList_nil ?_
      refine hK318 _ _ ?_
      obtain ⟨g356, h355⟩ : ((((x258 + 1) : Nat) : Int) ≤ 9223372036854775807) ∧ _ := gd_some h333; clear h333
      refine wp_region_lit ?_
      refine pu_end hT 2 _ hF354 [0, 1, 10, 11, 12] (G := [(0, .pointer (some ⟨b3, 0, none⟩)), (1, .pointer (some ⟨b15, 0, none⟩)), (10, .slice A31 zs27.length c32), (11, .int .i64 ((zs27.length : Nat) : Int)), (12, .int .i64 (((x258 + 1) : Nat) : Int))]) (cs := [-9223372036854775808 ≤ (((x258 + 1) : Nat) : Int), (((x258 + 1) : Nat) : Int) ≤ 9223372036854775807]) (by kernel_rfl) rfl (And.intro (by omega) (And.intro g356 trivial)) ?_; clear hF354 a347; intro a357 hF358
      obtain rfl := Option.some.inj h355
      exact hK289 _ _ _ hy288 ⟨(zs254.set x258 x329), (x258 + 1), rfl, hF358.pick [0, 1, 10, 11, 12] (by kernel_rfl), hS353.pick [0, 1, 2] (by decide) rfl, (len_set hh255 x258 x329), (hh256.set hh332 x258)⟩
    · clear h296
      have hF359 : Fr 23 a300 [(0, .pointer (some ⟨b3, 0, none⟩)), (1, .pointer (some ⟨b15, 0, none⟩)), (10, .slice A31 zs27.length c32), (11, .int .i64 ((zs27.length : Nat) : Int)), (12, .int .i64 ((x258 : Nat) : Int)), (13, .bool false)] := hF301.pick [0, 1, 10, 11, 12, 13] (by rw [decide_eq_false hc306]; kernel_rfl); clear hF301
      refine condF hF359 (by kernel_rfl) ?_
      refine wp_exit ?_
      obtain rfl := Option.some.inj h307
      obtain rfl : _ = xj185 := hy288
      exact ⟨zs254, rfl, hF359.pick [0, 1] (by kernel_rfl), hS295.pick [0, 1] (by decide) rfl, hh255, hh256⟩
  · skip
    clear hx186 hF43 hS40 
    rintro a360 w361 ⟨zs182, rfl, hF362, hS363, hh183, hh184⟩
    refine wp_seq_k (fun K365 hK366 => ?_)
    refine wp_region_lit ?_
    refine wl (s_loadA hT (d := 22) (b := b15) (off := 0) (sz := 80) (l := vs .u64 zs182) (by kernel_rfl) hF362 (hS363.blk 1 rfl).cells (by simp only [List.length_append, vs_length, vi_length, List.length_cons, List.length_nil, (hh183 : zs182.length = 80)]) ?_)
    rintro a367 ha369 hF368; clear ha369 hF362 a360
    have hF370 := hF368.pick [0, 22] (G := [(0, .pointer (some ⟨b3, 0, none⟩)), (22, .agg (vs .u64 zs182).toArray)]) (by kernel_rfl); clear hF368
    refine wl (h_storeV hT (b := b3) (l2 := vs .u64 zs182) (sz := 80) (by kernel_rfl) hF370 hS363 0 rfl (by simp only [List.length_append, vs_length, vi_length, List.length_cons, List.length_nil, (hh183 : zs182.length = 80)]) (by simp only [List.length_append, vs_length, vi_length, List.length_cons, List.length_nil, (hh183 : zs182.length = 80), ((len_rep (α := Nat) 80 0) : (List.replicate 80 0).length = 80)]) (vs_one) ?_)
    rintro a371 w372 ha375 hF376 hS373 g374; clear ha375 hF370 a367 hS363
    have hS377 : Heap w [] w372 [.blk b3 24 (vs .u64 zs182), .blk b15 24 (vs .u64 zs182)] := hS373; clear hS373
    have hF378 := hF376.pick [0] (G := [(0, .pointer (some ⟨b3, 0, none⟩))]) (by kernel_rfl); clear hF376
    refine wpList_nil ?_
    refine hK366 _ _ ?_
    refine wp_ret ?_
    obtain rfl := Option.some.inj h187
    refine retR1 (fn := Try.f16) (by first | exact .inl rfl | exact .inr rfl) hF378 rfl (resC hT (t := 0) (ty := 24) (b := b3) (by kernel_rfl) (i := tr24) (by kernel_rfl) rfl (hS377.blk 0 rfl) (show _ = 80 from by simp only [List.length_append, vs_length, vi_length, List.length_cons, List.length_nil, (hh183 : zs182.length = 80)])) ?_
    exact ⟨rfl, hh183, hh184, hS377.pick [] (by decide) rfl⟩

end Go.Proofs.Ytddphjmcoolinaa
