/- Walks of functions, printed by auto.py. -/
import Derived.Test.YtddphjmcoolinaaTi
import Derived.Test.YtddphjmcoolinaaUb
set_option linter.unusedVariables false
set_option linter.unusedSimpArgs false
set_option maxRecDepth 100000
namespace Go.Proofs.Ytddphjmcoolinaa
open Go.Proofs Go.RowKit
noncomputable def F_sha256_prime_l1 (xs1 : List Int) (x0 : Int) : Nat → Option (Nat ⊕ (Unit ⊕ Bool)) := fun (x456 : Nat) => if ((x456 : Nat) : Int) < ((xs1.length : Nat) : Int) then (gd (-9223372036854775808 ≤ ((xs1.getD x456 0) * (xs1.getD x456 0))) (gd (((xs1.getD x456 0) * (xs1.getD x456 0)) ≤ 9223372036854775807) (if x0 < ((xs1.getD x456 0) * (xs1.getD x456 0)) then (some (.inr (.inl ()))) else (gd (0 ≤ x0) (gd (0 < (xs1.getD x456 0)) (if (x0 % (xs1.getD x456 0)) = 0 then (some (.inr (.inr false))) else (gd ((((x456 + 1) : Nat) : Int) ≤ 9223372036854775807) (some (.inl (x456 + 1)))))))))) else (some (.inr (.inl ())))
noncomputable def F_sha256_prime (x0 : Int) (xs1 : List Int) : Option Bool := bnd (run (F_sha256_prime_l1 xs1 x0) 0 : Option (Unit ⊕ Bool)) (sel (fun (_ : Unit) => some true))
set_option maxHeartbeats 4000000 in
theorem W_sha256_prime (x0 : Int) (pA1 : Option Addr) (pc1 : Nat) (xs1 : List Int) (w : World) (pR1 : Rd w pA1 (vi xs1)) (pc_1 : xs1.length ≤ pc1) (r : Bool) (h : F_sha256_prime x0 xs1 = some r) :
    Calls Try.prog 48 [.int .i64 x0, .slice pA1 xs1.length pc1].toArray w (Ret fun v w' => v = .bool (r) ∧ Heap w [] w' []) := by
  unfold F_sha256_prime at h
  refine enter Try.func48 rfl (n := 23) Try.ntmps48 (by simp) ?_
  intro a hF
  have hS := Heap.init w
  refine wp_seq_k (fun K1 hK2 => ?_)
  refine wp_region_lit ?_
  refine pu_end hT 1 _ hF [0, 1] (G := [(0, .int .i64 x0), (1, .slice pA1 xs1.length pc1)]) (cs := []) (by kernel_rfl) rfl trivial ?_; clear hF a; intro a3 hF4
  refine hK2 _ _ ?_
  obtain ⟨xj306, hx307, h308⟩ := bnd_some h; clear h
  refine seqJ (fun a W => (.inl ()) = xj306 ∧ (Fr 23 a []) ∧ (Heap w [] W [])) ?_ ?_
  · skip
    refine wp_seq_k (fun K309 hK310 => ?_)
    refine wp_region_lit ?_
    refine pu_end hT 3 _ hF4 [0, 7, 8, 9] (G := [(0, .int .i64 x0), (7, .slice pA1 xs1.length pc1), (8, .int .i64 ((xs1.length : Nat) : Int)), (9, .int .i64 0)]) (cs := []) (by kernel_rfl) rfl trivial ?_; clear hF4 a3; intro a311 hF312
    refine hK310 _ _ ?_
    refine wp_block ?_
    refine loopR (F_sha256_prime_l1 xs1 x0) xj306 0 hx307 (fun s a W => ∃ (x456 : Nat), x456 = s ∧ (Fr 23 a [(0, .int .i64 x0), (7, .slice pA1 xs1.length pc1), (8, .int .i64 ((xs1.length : Nat) : Int)), (9, .int .i64 ((x456 : Nat) : Int))]) ∧ (Heap w [] W [])) ⟨0, rfl, hF312.pick [0, 7, 8, 9] (by kernel_rfl), hS.pick [] (by decide) rfl⟩ ?_
    clear hF312 hS hx307
    rintro k539 _ a534 w535 ⟨x456, rfl, hF536, hS537⟩ hit533 K532 hK531
    obtain ⟨y529, h538, hy530⟩ := iter_succ hit533; clear hit533
    unfold F_sha256_prime_l1 at h538; try dsimp only at h538
    refine wp_seq_k (fun K540 hK541 => ?_)
    refine wp_region_lit ?_
    refine pu_end hT 1 _ hF536 [0, 7, 8, 9, 10] (G := [(0, .int .i64 x0), (7, .slice pA1 xs1.length pc1), (8, .int .i64 ((xs1.length : Nat) : Int)), (9, .int .i64 ((x456 : Nat) : Int)), (10, .bool ((decide (((x456 : Nat) : Int) < ((xs1.length : Nat) : Int)))))]) (cs := []) (by kernel_rfl) rfl trivial ?_; clear hF536 a534; intro a542 hF543
    refine hK541 _ _ ?_
    refine wp_seq_k (fun K546 hK547 => ?_)
    rcases (ite_some h538 : ((((x456 : Nat) : Int) < ((xs1.length : Nat) : Int)) ∧ _) ∨ (¬ (((x456 : Nat) : Int) < ((xs1.length : Nat) : Int)) ∧ _)) with ⟨hc548, h549⟩ | ⟨hc548, h549⟩
    · clear h538
      have hF550 : Fr 23 a542 [(0, .int .i64 x0), (7, .slice pA1 xs1.length pc1), (8, .int .i64 ((xs1.length : Nat) : Int)), (9, .int .i64 ((x456 : Nat) : Int)), (10, .bool true)] := hF543.pick [0, 7, 8, 9, 10] (by rw [decide_eq_true hc548]; kernel_rfl); clear hF543
      refine condT hF550 (by kernel_rfl) ?_
      refine wp_skip ?_
      refine hK547 _ _ ?_
      refine wp_seq_k (fun K581 hK582 => ?_)
      refine wp_block ?_
      refine wp_seq_k (fun K583 hK584 => ?_)
      refine wp_region_lit ?_
      refine pu hT 1 _ hF550 [0, 7, 8, 9, 11] (G := [(0, .int .i64 x0), (7, .slice pA1 xs1.length pc1), (8, .int .i64 ((xs1.length : Nat) : Int)), (9, .int .i64 ((x456 : Nat) : Int)), (11, .pointer (some ⟨(ablk pA1), (aoff pA1 + x456), none⟩))]) (cs := [0 ≤ ((x456 : Nat) : Int), ((x456 : Nat) : Int) < ((xs1.length : Nat) : Int), (pA1 : Option Addr) = some ⟨ablk pA1, aoff pA1, none⟩]) (by kernel_rfl) (And.intro (by omega) (And.intro hc548 (And.intro ((hS537.rd0 pR1).some' (by have := (Eq.refl xs1.length); first | omega | (simp only [zA, zS, zT, zD, zR, zC, zN, zV, zI] <;> omega))) trivial))) ?_; clear hF550 a542; intro a585 hF586
      refine wl (s_load hT (d := 12) (A := ⟨(ablk pA1), (aoff pA1 + x456), none⟩) (v := .int .i64 (xs1.getD x456 0)) (by kernel_rfl) hF586 (Cells.at (hS537.rd0 pR1).cells (vi_get xs1 (i := x456) (by have := (Eq.refl xs1.length); first | omega | (simp only [zA, zS, zT, zD, zR, zC, zN, zV, zI] <;> omega) | (simp [*]; done) | (simp [*]; omega))) (by first | rfl | omega)) ?_)
      rintro a587 ha589 hF588; clear ha589 hF586 a585
      have hF590 := hF588.pick [0, 7, 8, 9, 12] (G := [(0, .int .i64 x0), (7, .slice pA1 xs1.length pc1), (8, .int .i64 ((xs1.length : Nat) : Int)), (9, .int .i64 ((x456 : Nat) : Int)), (12, .int .i64 (xs1.getD x456 0))]) (by kernel_rfl); clear hF588
      refine pu_end hT 1 _ hF590 [0, 7, 8, 9, 6] (G := [(0, .int .i64 x0), (7, .slice pA1 xs1.length pc1), (8, .int .i64 ((xs1.length : Nat) : Int)), (9, .int .i64 ((x456 : Nat) : Int)), (6, .int .i64 (xs1.getD x456 0))]) (cs := []) (by kernel_rfl) rfl trivial ?_; clear hF590 a587; intro a591 hF592
      refine hK584 _ _ ?_
      refine wp_seq_k (fun K601 hK602 => ?_)
      refine wp_seq_k (fun K603 hK604 => ?_)
      obtain ⟨g606, h605⟩ : (-9223372036854775808 ≤ ((xs1.getD x456 0) * (xs1.getD x456 0))) ∧ _ := gd_some h549; clear h549
      obtain ⟨g608, h607⟩ : (((xs1.getD x456 0) * (xs1.getD x456 0)) ≤ 9223372036854775807) ∧ _ := gd_some h605; clear h605
      refine wp_region_lit ?_
      refine pu_end hT 5 _ hF592 [0, 7, 8, 9, 6, 17] (G := [(0, .int .i64 x0), (7, .slice pA1 xs1.length pc1), (8, .int .i64 ((xs1.length : Nat) : Int)), (9, .int .i64 ((x456 : Nat) : Int)), (6, .int .i64 (xs1.getD x456 0)), (17, .bool ((decide (x0 < ((xs1.getD x456 0) * (xs1.getD x456 0))))))]) (cs := [-9223372036854775808 ≤ ((xs1.getD x456 0) * (xs1.getD x456 0)), ((xs1.getD x456 0) * (xs1.getD x456 0)) ≤ 9223372036854775807]) (by kernel_rfl) rfl (And.intro g606 (And.intro g608 trivial)) ?_; clear hF592 a591; intro a609 hF610
      refine hK604 _ _ ?_
      rcases (ite_some h607 : ((x0 < ((xs1.getD x456 0) * (xs1.getD x456 0))) ∧ _) ∨ (¬ (x0 < ((xs1.getD x456 0) * (xs1.getD x456 0))) ∧ _)) with ⟨hc611, h612⟩ | ⟨hc611, h612⟩
      · clear h607
        have hF613 : Fr 23 a609 [(0, .int .i64 x0), (7, .slice pA1 xs1.length pc1), (8, .int .i64 ((xs1.length : Nat) : Int)), (9, .int .i64 ((x456 : Nat) : Int)), (6, .int .i64 (xs1.getD x456 0)), (17, .bool true)] := hF610.pick [0, 7, 8, 9, 6, 17] (by rw [decide_eq_true hc611]; kernel_rfl); clear hF610
        refine condT hF613 (by kernel_rfl) ?_
        refine wp_exit ?_
        obtain rfl := Option.some.inj h612
        obtain rfl : _ = xj306 := hy530
        exact ⟨rfl, hF613.pick [] (by kernel_rfl), hS537.pick [] (by decide) rfl⟩
      · clear h607
        have hF614 : Fr 23 a609 [(0, .int .i64 x0), (7, .slice pA1 xs1.length pc1), (8, .int .i64 ((xs1.length : Nat) : Int)), (9, .int .i64 ((x456 : Nat) : Int)), (6, .int .i64 (xs1.getD x456 0)), (17, .bool false)] := hF610.pick [0, 7, 8, 9, 6, 17] (by rw [decide_eq_false hc611]; kernel_rfl); clear hF610
        refine condF hF614 (by kernel_rfl) ?_
        refine wp_skip ?_
        refine hK602 _ _ ?_
        refine wp_seq_k (fun K615 hK616 => ?_)
        obtain ⟨g618, h617⟩ : (0 ≤ x0) ∧ _ := gd_some h612; clear h612
        obtain ⟨g620, h619⟩ : (0 < (xs1.getD x456 0)) ∧ _ := gd_some h617; clear h617
        refine wp_region_lit ?_
        refine pu_end hT 4 _ hF614 [0, 7, 8, 9, 6, 21] (G := [(0, .int .i64 x0), (7, .slice pA1 xs1.length pc1), (8, .int .i64 ((xs1.length : Nat) : Int)), (9, .int .i64 ((x456 : Nat) : Int)), (6, .int .i64 (xs1.getD x456 0)), (21, .bool ((decide ((x0 % (xs1.getD x456 0)) = 0))))]) (cs := [0 ≤ x0, 0 < (xs1.getD x456 0)]) (by kernel_rfl) rfl (And.intro g618 (And.intro g620 trivial)) ?_; clear hF614 a609; intro a621 hF622
        refine hK616 _ _ ?_
        rcases (ite_some h619 : (((x0 % (xs1.getD x456 0)) = 0) ∧ _) ∨ (¬ ((x0 % (xs1.getD x456 0)) = 0) ∧ _)) with ⟨hc623, h624⟩ | ⟨hc623, h624⟩
        · clear h619
          have hF625 : Fr 23 a621 [(0, .int .i64 x0), (7, .slice pA1 xs1.length pc1), (8, .int .i64 ((xs1.length : Nat) : Int)), (9, .int .i64 ((x456 : Nat) : Int)), (6, .int .i64 (xs1.getD x456 0)), (21, .bool true)] := hF622.pick [0, 7, 8, 9, 6, 21] (by rw [decide_eq_true hc623]; kernel_rfl); clear hF622
          refine condT hF625 (by kernel_rfl) ?_
          refine wp_seq_k (fun K626 hK627 => ?_)
          refine wp_region_lit ?_
          refine pu_end hT 1 _ hF625 [4] (G := [(4, .bool false)]) (cs := []) (by kernel_rfl) rfl trivial ?_; clear hF625 a621; intro a628 hF629
          refine hK627 _ _ ?_
          refine wp_ret ?_
          obtain rfl := Option.some.inj h624
          obtain rfl : _ = xj306 := hy530
          obtain rfl := Option.some.inj (show some _ = some _ from h308)
          refine ret1 hF629 rfl (v := .bool false) (by kernel_rfl) ?_
          exact ⟨rfl, hS537.pick [] (by decide) rfl⟩
        · clear h619
          have hF630 : Fr 23 a621 [(0, .int .i64 x0), (7, .slice pA1 xs1.length pc1), (8, .int .i64 ((xs1.length : Nat) : Int)), (9, .int .i64 ((x456 : Nat) : Int)), (6, .int .i64 (xs1.getD x456 0)), (21, .bool false)] := hF622.pick [0, 7, 8, 9, 6, 21] (by rw [decide_eq_false hc623]; kernel_rfl); clear hF622
          refine condF hF630 (by kernel_rfl) ?_
          refine wp_skip ?_
          refine hK582 _ _ ?_
          obtain ⟨g632, h631⟩ : ((((x456 + 1) : Nat) : Int) ≤ 9223372036854775807) ∧ _ := gd_some h624; clear h624
          refine wp_region_lit ?_
          refine pu_end hT 2 _ hF630 [0, 7, 8, 6, 9] (G := [(0, .int .i64 x0), (7, .slice pA1 xs1.length pc1), (8, .int .i64 ((xs1.length : Nat) : Int)), (6, .int .i64 (xs1.getD x456 0)), (9, .int .i64 (((x456 + 1) : Nat) : Int))]) (cs := [-9223372036854775808 ≤ (((x456 + 1) : Nat) : Int), (((x456 + 1) : Nat) : Int) ≤ 9223372036854775807]) (by kernel_rfl) rfl (And.intro (by omega) (And.intro g632 trivial)) ?_; clear hF630 a621; intro a633 hF634
          obtain rfl := Option.some.inj h631
          exact hK531 _ _ _ hy530 ⟨(x456 + 1), rfl, hF634.pick [0, 7, 8, 9] (by kernel_rfl), hS537.pick [] (by decide) rfl⟩
    · clear h538
      have hF635 : Fr 23 a542 [(0, .int .i64 x0), (7, .slice pA1 xs1.length pc1), (8, .int .i64 ((xs1.length : Nat) : Int)), (9, .int .i64 ((x456 : Nat) : Int)), (10, .bool false)] := hF543.pick [0, 7, 8, 9, 10] (by rw [decide_eq_false hc548]; kernel_rfl); clear hF543
      refine condF hF635 (by kernel_rfl) ?_
      refine wp_exit ?_
      obtain rfl := Option.some.inj h549
      obtain rfl : _ = xj306 := hy530
      exact ⟨rfl, hF635.pick [] (by kernel_rfl), hS537.pick [] (by decide) rfl⟩
  · skip
    clear hx307 hF4 hS 
    rintro a636 w637 ⟨rfl, hF638, hS639⟩
    refine wp_seq_k (fun K641 hK642 => ?_)
    refine wp_region_lit ?_
    refine pu_end hT 1 _ hF638 [4] (G := [(4, .bool true)]) (cs := []) (by kernel_rfl) rfl trivial ?_; clear hF638 a636; intro a643 hF644
    refine hK642 _ _ ?_
    refine wp_ret ?_
    obtain rfl := Option.some.inj h308
    refine ret1 hF644 rfl (v := .bool true) (by kernel_rfl) ?_
    exact ⟨rfl, hS639.pick [] (by decide) rfl⟩

noncomputable def F_sha256_Primes_l1 (x0 : Int) : (List Int × Nat) → Option ((List Int × Nat) ⊕ (List Int)) := fun (zs409, x410) => if ((zs409.length : Nat) : Int) < x0 then (bnd (bnd (F_sha256_prime ((x410 : Nat) : Int) zs409) fun (b512 : Bool) => if b512 = true then (gd ((zs409.length + 1) * 8 ≤ 140737488355328) (some (zs409 ++ [((x410 : Nat) : Int)]))) else (some zs409) : Option (List Int)) (fun (zs506 : List Int) => gd ((((x410 + 1) : Nat) : Int) ≤ 9223372036854775807) (some (.inl (zs506, (x410 + 1)))))) else (some (.inr zs409))
noncomputable def F_sha256_Primes (x0 : Int) : Option (List Int × Nat) := if x0 < 0 then (some ([], 1)) else (if 100 < x0 then (some ([], 1)) else (bnd (run (F_sha256_Primes_l1 x0) ([], 2) : Option (List Int)) (fun (zs288 : List Int) => some (zs288, 0))))
set_option maxHeartbeats 4000000 in
theorem W_sha256_Primes (x0 : Int) (w : World) (r0 : List Int) (r1 : Nat) (h : F_sha256_Primes x0 = some (r0, r1)) :
    Calls Try.prog 26 [.int .i64 x0].toArray w (Ret fun v w' => ∃ (A_0 : Option Addr), ∃ (c_1 : Nat), v = .tuple #[.slice A_0 r0.length c_1, .int .i64 ((r1 : Nat) : Int)] ∧ Heap w [] w' [.row 3 1 A_0 r0.length c_1 (vi r0)]) := by
  obtain ⟨r, hr0⟩ : ∃ r, r = (r0, r1) := ⟨_, rfl⟩; rw [← hr0] at h
  unfold F_sha256_Primes at h
  refine enter Try.func26 rfl (n := 26) Try.ntmps26 (by simp) ?_
  intro a hF
  have hS := Heap.init w
  refine wp_seq_k (fun K1 hK2 => ?_)
  refine wp_region_lit ?_
  refine pu_end hT 2 _ hF [0] (G := [(0, .int .i64 x0)]) (cs := []) (by kernel_rfl) rfl trivial ?_; clear hF a; intro a3 hF4
  refine hK2 _ _ ?_
  refine wp_seq_k (fun K15 hK16 => ?_)
  refine wp_seq_k (fun K17 hK18 => ?_)
  rcases (ite_some h : ((x0 < 0) ∧ _) ∨ (¬ (x0 < 0) ∧ _)) with ⟨hc19, h20⟩ | ⟨hc19, h20⟩
  · clear h
    refine wp_region_lit ?_
    refine pu hT 3 _ hF4 [0, 8] (G := [(0, .int .i64 x0), (8, .bool ((decide (x0 < 0))))]) (cs := []) (by kernel_rfl) trivial ?_; clear hF4 a3; intro a21 hF22
    have hF23 : Fr 26 a21 [(0, .int .i64 x0), (8, .bool true)] := hF22.pick [0, 8] (by rw [decide_eq_true hc19]; kernel_rfl); clear hF22
    refine pu_end hT 3 _ hF23 [0, 11] (G := [(0, .int .i64 x0), (11, .bool true)]) (cs := []) (by kernel_rfl) rfl trivial ?_; clear hF23 a21; intro a24 hF25
    refine hK18 _ _ ?_
    refine condT hF25 (by kernel_rfl) ?_
    refine wp_seq_k (fun K26 hK27 => ?_)
    refine wp_region_lit ?_
    refine pu_end hT 2 _ hF25 [2, 3] (G := [(2, .slice none 0 0), (3, .int .i64 1)]) (cs := []) (by kernel_rfl) rfl trivial ?_; clear hF25 a24; intro a28 hF29
    refine hK27 _ _ ?_
    refine wp_ret ?_
    obtain rfl := Option.some.inj h20
    obtain ⟨hr1, hs1⟩ := Prod.mk.inj hr0; clear hr0; obtain rfl := hr1
    obtain rfl := hs1
    have hS31 : Heap w [] w [.row 3 1 none 0 0 (vi [])] := Heap.row0 hS 3 1; clear hS
    refine ret2 hF29 rfl (v := .slice none 0 0) (v2 := .int .i64 1) (by kernel_rfl) (by kernel_rfl) ?_
    exact ⟨none, 0, rfl, hS31.pick [0] (by decide) rfl⟩
  · clear h
    refine wp_region_lit ?_
    refine pu hT 3 _ hF4 [0, 8] (G := [(0, .int .i64 x0), (8, .bool ((decide (x0 < 0))))]) (cs := []) (by kernel_rfl) trivial ?_; clear hF4 a3; intro a32 hF33
    have hF34 : Fr 26 a32 [(0, .int .i64 x0), (8, .bool false)] := hF33.pick [0, 8] (by rw [decide_eq_false hc19]; kernel_rfl); clear hF33
    refine pu_end hT 3 _ hF34 [0, 11] (G := [(0, .int .i64 x0), (11, .bool ((decide (100 < x0))))]) (cs := []) (by kernel_rfl) rfl trivial ?_; clear hF34 a32; intro a35 hF36
    refine hK18 _ _ ?_
    rcases (ite_some h20 : ((100 < x0) ∧ _) ∨ (¬ (100 < x0) ∧ _)) with ⟨hc37, h38⟩ | ⟨hc37, h38⟩
    · clear h20
      have hF39 : Fr 26 a35 [(0, .int .i64 x0), (11, .bool true)] := hF36.pick [0, 11] (by rw [decide_eq_true hc37]; kernel_rfl); clear hF36
      refine condT hF39 (by kernel_rfl) ?_
      refine wp_seq_k (fun K40 hK41 => ?_)
      refine wp_region_lit ?_
      refine pu_end hT 2 _ hF39 [2, 3] (G := [(2, .slice none 0 0), (3, .int .i64 1)]) (cs := []) (by kernel_rfl) rfl trivial ?_; clear hF39 a35; intro a42 hF43
      refine hK41 _ _ ?_
      refine wp_ret ?_
      obtain rfl := Option.some.inj h38
      obtain ⟨hr1, hs1⟩ := Prod.mk.inj hr0; clear hr0; obtain rfl := hr1
      obtain rfl := hs1
      have hS45 : Heap w [] w [.row 3 1 none 0 0 (vi [])] := Heap.row0 hS 3 1; clear hS
      refine ret2 hF43 rfl (v := .slice none 0 0) (v2 := .int .i64 1) (by kernel_rfl) (by kernel_rfl) ?_
      exact ⟨none, 0, rfl, hS45.pick [0] (by decide) rfl⟩
    · clear h20
      have hF46 : Fr 26 a35 [(0, .int .i64 x0), (11, .bool false)] := hF36.pick [0, 11] (by rw [decide_eq_false hc37]; kernel_rfl); clear hF36
      refine condF hF46 (by kernel_rfl) ?_
      refine wp_skip ?_
      refine hK16 _ _ ?_
      refine wp_seq_k (fun K47 hK48 => ?_)
      refine wp_region_lit ?_
      refine pu_end hT 1 _ hF46 [0, 4] (G := [(0, .int .i64 x0), (4, .slice none 0 0)]) (cs := []) (by kernel_rfl) rfl trivial ?_; clear hF46 a35; intro a49 hF50
      refine hK48 _ _ ?_
      obtain ⟨xj289, hx290, h291⟩ := bnd_some h38; clear h38
      refine seqJ (fun a W => ∃ (zs288 : List Int), ∃ (A286 : Option Addr), ∃ (c287 : Nat), zs288 = xj289 ∧ (Fr 26 a [(4, .slice A286 zs288.length c287)]) ∧ (Heap w [] W [.row 3 1 A286 zs288.length c287 (vi zs288)])) ?_ ?_
      · skip
        refine wp_seq_k (fun K292 hK293 => ?_)
        refine wp_region_lit ?_
        refine pu_end hT 1 _ hF50 [0, 4, 5] (G := [(0, .int .i64 x0), (4, .slice none 0 0), (5, .int .i64 2)]) (cs := []) (by kernel_rfl) rfl trivial ?_; clear hF50 a49; intro a294 hF295
        refine hK293 _ _ ?_
        refine wp_block ?_
        have hS464 : Heap w [] w [.row 3 1 none 0 0 (vi [])] := Heap.row0 hS 3 1; clear hS
        refine loopR (F_sha256_Primes_l1 x0) xj289 ([], 2) hx290 (fun s a W => ∃ (zs409 : List Int), ∃ (x410 : Nat), ∃ (A407 : Option Addr), ∃ (c408 : Nat), (zs409, x410) = s ∧ (Fr 26 a [(0, .int .i64 x0), (4, .slice A407 zs409.length c408), (5, .int .i64 ((x410 : Nat) : Int))]) ∧ (Heap w [] W [.row 3 1 A407 zs409.length c408 (vi zs409)])) ⟨[], 2, none, 0, rfl, hF295.pick [0, 4, 5] (by kernel_rfl), hS464.pick [0] (by decide) rfl⟩ ?_
        clear hF295 hS464 hx290
        rintro k475 _ a470 w471 ⟨zs409, x410, A407, c408, rfl, hF472, hS473⟩ hit469 K468 hK467
        obtain ⟨y465, h474, hy466⟩ := iter_succ hit469; clear hit469
        unfold F_sha256_Primes_l1 at h474; try dsimp only at h474
        refine wp_seq_k (fun K480 hK481 => ?_)
        refine wp_seq_k (fun K482 hK483 => ?_)
        refine wp_region_lit ?_
        refine pu_end hT 4 _ hF472 [0, 4, 5, 15] (G := [(0, .int .i64 x0), (4, .slice A407 zs409.length c408), (5, .int .i64 ((x410 : Nat) : Int)), (15, .bool ((decide (((zs409.length : Nat) : Int) < x0))))]) (cs := []) (by kernel_rfl) rfl trivial ?_; clear hF472 a470; intro a484 hF485
        refine hK483 _ _ ?_
        rcases (ite_some h474 : ((((zs409.length : Nat) : Int) < x0) ∧ _) ∨ (¬ (((zs409.length : Nat) : Int) < x0) ∧ _)) with ⟨hc486, h487⟩ | ⟨hc486, h487⟩
        · clear h474
          have hF488 : Fr 26 a484 [(0, .int .i64 x0), (4, .slice A407 zs409.length c408), (5, .int .i64 ((x410 : Nat) : Int)), (15, .bool true)] := hF485.pick [0, 4, 5, 15] (by rw [decide_eq_true hc486]; kernel_rfl); clear hF485
          refine condT hF488 (by kernel_rfl) ?_
          refine wp_skip ?_
          refine hK481 _ _ ?_
          obtain ⟨xj507, hx508, h509⟩ := bnd_some h487; clear h487
          refine seqJ (fun a W => ∃ (zs506 : List Int), ∃ (A504 : Option Addr), ∃ (c505 : Nat), zs506 = xj507 ∧ (Fr 26 a [(0, .int .i64 x0), (4, .slice A504 zs506.length c505), (5, .int .i64 ((x410 : Nat) : Int))]) ∧ (Heap w [] W [.row 3 1 A504 zs506.length c505 (vi zs506)])) ?_ ?_
          · skip
            refine wp_block ?_
            refine wp_seq_k (fun K510 hK511 => ?_)
            obtain ⟨b512, hr514, h513⟩ := bnd_some hx508; clear hx508; replace hr514 : F_sha256_prime ((x410 : Nat) : Int) zs409 = some (b512) := hr514
            refine wp_region_lit ?_
            refine pu hT 2 _ hF488 [0, 4, 5, 18, 19] (G := [(0, .int .i64 x0), (4, .slice A407 zs409.length c408), (5, .int .i64 ((x410 : Nat) : Int)), (18, .int .i64 ((x410 : Nat) : Int)), (19, .slice A407 zs409.length c408)]) (cs := []) (by kernel_rfl) trivial ?_; clear hF488 a484; intro a515 hF516
            refine wl (s_call (d := 20) (f := 48) (l := [.int .i64 ((x410 : Nat) : Int), .slice A407 zs409.length c408]) (by kernel_rfl) hF516 cl48 (W_sha256_prime ((x410 : Nat) : Int) A407 c408 zs409 _ (hS473.own 0 rfl).rd (by have := (hS473.own 0 rfl).cap; have := (Eq.refl zs409.length); skip; have := (Eq.refl zs409.length); first | omega | (simp only [zA, zS, zT, zD, zR, zC, zN, zV, zI] <;> omega) | (simp only [zA, zS, zT, zD, zR, zC, zN, zV, zI] at * <;> omega)) b512 hr514) ?_)
            rintro a517 w518 v519 ⟨rfl, hC520⟩ ha521 hF522; clear ha521 hF516 a515
            have hS523 : Heap w [] w518 [.row 3 1 A407 zs409.length c408 (vi zs409)] := Heap.call hS473 hC520; clear hS473
            have hF524 := hF522.pick [0, 4, 5, 20] (G := [(0, .int .i64 x0), (4, .slice A407 zs409.length c408), (5, .int .i64 ((x410 : Nat) : Int)), (20, .bool (b512))]) (by kernel_rfl); clear hF522
            refine wpList_nil ?_
            refine hK511 _ _ ?_
            rcases (ite_some h513 : ((b512 = true) ∧ _) ∨ (¬ (b512 = true) ∧ _)) with ⟨hc525, h526⟩ | ⟨hc525, h526⟩
            · clear h513
              have hF527 : Fr 26 a517 [(0, .int .i64 x0), (4, .slice A407 zs409.length c408), (5, .int .i64 ((x410 : Nat) : Int)), (20, .bool true)] := hF524.pick [0, 4, 5, 20] (by rw [hc525]; kernel_rfl); clear hF524
              refine condT hF527 (by kernel_rfl) ?_
              obtain ⟨g531, h530⟩ : ((zs409.length + 1) * 8 ≤ 140737488355328) ∧ _ := gd_some h526; clear h526
              refine wp_region_lit ?_
              refine pu hT 2 _ hF527 [0, 4, 5, 21, 22] (G := [(0, .int .i64 x0), (4, .slice A407 zs409.length c408), (5, .int .i64 ((x410 : Nat) : Int)), (21, .slice A407 zs409.length c408), (22, .int .i64 ((x410 : Nat) : Int))]) (cs := []) (by kernel_rfl) trivial ?_; clear hF527 a517; intro a535 hF536
              refine wl (h_lit hT (d := 23) (T := 3) (l := vi [((x410 : Nat) : Int)]) (by kernel_rfl) hF536 hS523 (by simp [maxLen]) ?_)
              rintro a537 w538 A528 hS539 g540 ha541 hF542; clear ha541 hF536 a535 hS523
              have hS543 : Heap w [] w538 [.row 3 1 A528 1 1 (vi [((x410 : Nat) : Int)]), .row 3 1 A407 zs409.length c408 (vi zs409)] := hS539; clear hS539
              have hF544 := hF542.pick [0, 4, 5, 21, 23] (G := [(0, .int .i64 x0), (4, .slice A407 zs409.length c408), (5, .int .i64 ((x410 : Nat) : Int)), (21, .slice A407 zs409.length c408), (23, .slice A528 1 1)]) (by kernel_rfl); clear hF542
              refine wl (h_app hT (d := 24) (T := 3) (i := tr3) (m := zs409.length) (c := c408) (m2 := 1) (c2 := 1) (A2 := A528) (l2 := vi [((x410 : Nat) : Int)]) (n' := (zs409 ++ [((x410 : Nat) : Int)]).length) (l' := vi (zs409 ++ [((x410 : Nat) : Int)])) (by kernel_rfl) hF544 hS543 1 rfl rfl (by decide) (hS543.own 0 rfl).rd (by show _ = 1 * 1; have := (show ([((x410 : Nat) : Int)] : List Int).length = 1 from rfl); simp only [zA, zS, zT, zD, zR, zC, zN, zV, zI] <;> omega) vi_one (by show (zs409.length + 1) * 8 ≤ 140737488355328; first | exact g531 | omega) (by decide) (by have := (Eq.refl zs409.length); have := (show ([((x410 : Nat) : Int)] : List Int).length = 1 from rfl); first | omega | (simp only [zA, zS, zT, zD, zR, zC, zN, zV, zI] <;> omega) | (simp only [zA, zS, zT, zD, zR, zC, zN, zV, zI] at * <;> omega)) (by first | rfl | exact (vs_append _ _ _).symm | exact (vi_append _ _).symm | simp [vs, vi]) ?_)
              rintro a545 w546 A532 c533 hS547 g548 ha549 hF550; clear ha549 hF544 a537 hS543
              have hS551 : Heap w [] w546 [.row 3 1 A528 1 1 (vi [((x410 : Nat) : Int)]), .row 3 1 A532 ((zs409 ++ [((x410 : Nat) : Int)]).length) c533 (vi (zs409 ++ [((x410 : Nat) : Int)]))] := hS547; clear hS547
              have hF552 := hF550.pick [0, 4, 5, 24] (G := [(0, .int .i64 x0), (4, .slice A407 zs409.length c408), (5, .int .i64 ((x410 : Nat) : Int)), (24, .slice A532 ((zs409 ++ [((x410 : Nat) : Int)]).length) c533)]) (by kernel_rfl); clear hF550
              refine pu_end hT 1 _ hF552 [0, 5, 4] (G := [(0, .int .i64 x0), (5, .int .i64 ((x410 : Nat) : Int)), (4, .slice A532 ((zs409 ++ [((x410 : Nat) : Int)]).length) c533)]) (cs := []) (by kernel_rfl) rfl trivial ?_; clear hF552 a545; intro a553 hF554
              obtain rfl := Option.some.inj h530
              exact ⟨(zs409 ++ [((x410 : Nat) : Int)]), A532, c533, rfl, hF554.pick [0, 4, 5] (by kernel_rfl), hS551.pick [1] (by decide) rfl⟩
            · clear h513
              have hF555 : Fr 26 a517 [(0, .int .i64 x0), (4, .slice A407 zs409.length c408), (5, .int .i64 ((x410 : Nat) : Int)), (20, .bool false)] := hF524.pick [0, 4, 5, 20] (by rw [(Bool.eq_false_iff.2 hc525)]; kernel_rfl); clear hF524
              refine condF hF555 (by kernel_rfl) ?_
              refine wp_skip ?_
              obtain rfl := Option.some.inj h526
              exact ⟨zs409, A407, c408, rfl, hF555.pick [0, 4, 5] (by kernel_rfl), hS523.pick [0] (by decide) rfl⟩
          · skip
            clear hx508 hF488 hS473 
            rintro a556 w557 ⟨zs506, A504, c505, rfl, hF558, hS559⟩
            obtain ⟨g562, h561⟩ : ((((x410 + 1) : Nat) : Int) ≤ 9223372036854775807) ∧ _ := gd_some h509; clear h509
            refine wp_region_lit ?_
            refine pu_end hT 3 _ hF558 [0, 4, 5] (G := [(0, .int .i64 x0), (4, .slice A504 zs506.length c505), (5, .int .i64 (((x410 + 1) : Nat) : Int))]) (cs := [-9223372036854775808 ≤ (((x410 + 1) : Nat) : Int), (((x410 + 1) : Nat) : Int) ≤ 9223372036854775807]) (by kernel_rfl) rfl (And.intro (by omega) (And.intro g562 trivial)) ?_; clear hF558 a556; intro a563 hF564
            obtain rfl := Option.some.inj h561
            exact hK467 _ _ _ hy466 ⟨zs506, (x410 + 1), A504, c505, rfl, hF564.pick [0, 4, 5] (by kernel_rfl), hS559.pick [0] (by decide) rfl⟩
        · clear h474
          have hF565 : Fr 26 a484 [(0, .int .i64 x0), (4, .slice A407 zs409.length c408), (5, .int .i64 ((x410 : Nat) : Int)), (15, .bool false)] := hF485.pick [0, 4, 5, 15] (by rw [decide_eq_false hc486]; kernel_rfl); clear hF485
          refine condF hF565 (by kernel_rfl) ?_
          refine wp_exit ?_
          obtain rfl := Option.some.inj h487
          obtain rfl : _ = xj289 := hy466
          exact ⟨zs409, A407, c408, rfl, hF565.pick [4] (by kernel_rfl), hS473.pick [0] (by decide) rfl⟩
      · skip
        clear hx290 hF50 hS 
        rintro a566 w567 ⟨zs288, A286, c287, rfl, hF568, hS569⟩
        refine wp_seq_k (fun K571 hK572 => ?_)
        refine wp_region_lit ?_
        refine pu_end hT 3 _ hF568 [2, 3] (G := [(2, .slice A286 zs288.length c287), (3, .int .i64 0)]) (cs := []) (by kernel_rfl) rfl trivial ?_; clear hF568 a566; intro a573 hF574
        refine hK572 _ _ ?_
        refine wp_ret ?_
        obtain rfl := Option.some.inj h291
        obtain ⟨hr1, hs1⟩ := Prod.mk.inj hr0; clear hr0; obtain rfl := hr1
        obtain rfl := hs1
        refine ret2 hF574 rfl (v := .slice A286 zs288.length c287) (v2 := .int .i64 0) (by kernel_rfl) (by kernel_rfl) ?_
        exact ⟨A286, c287, rfl, hS569.pick [0] (by decide) rfl⟩

noncomputable def F_bits_RotateLeft64 (x0 : Nat) (x1 : Int) : Option Nat := ltb (((x0 * 2 ^ (((x1 % 18446744073709551616).toNat) &&& 63) % 18446744073709551616) ||| (x0 / 2 ^ ((64 + 18446744073709551616 - (((x1 % 18446744073709551616).toNat) &&& 63)) % 18446744073709551616)))) fun (t17 : Nat) => some t17
set_option maxHeartbeats 4000000 in
theorem W_bits_RotateLeft64 (x0 : Nat) (x1 : Int) (w : World) (px0 : x0 < 18446744073709551616) (r : Nat) (h : F_bits_RotateLeft64 x0 x1 = some r) :
    Calls Try.prog 78 [.int .u64 ((x0 : Nat) : Int), .int .i64 x1].toArray w (Ret fun v w' => v = .int .u64 ((r : Nat) : Int) ∧ r < 18446744073709551616 ∧ Heap w [] w' []) := by
  unfold F_bits_RotateLeft64 at h
  refine enter Try.func78 rfl (n := 17) Try.ntmps78 (by simp) ?_
  intro a hF
  have hS := Heap.init w
  refine wp_seq_k (fun K1 hK2 => ?_)
  refine wp_region_lit ?_
  refine pu_end hT 1 _ hF [0, 1] (G := [(0, .int .u64 ((x0 : Nat) : Int)), (1, .int .i64 x1)]) (cs := []) (by kernel_rfl) rfl trivial ?_; clear hF a; intro a3 hF4
  refine hK2 _ _ ?_
  refine wp_seq_k (fun K5 hK6 => ?_)
  refine wp_region_lit ?_
  refine pu hT 1 _ hF4 [0, 6] (G := [(0, .int .u64 ((x0 : Nat) : Int)), (6, .int .i64 x1)]) (cs := []) (by kernel_rfl) trivial ?_; clear hF4 a3; intro a7 hF8
  refine wl (s_conv64 hT (d := 7) (x := x1) (y := (x1 % 18446744073709551616).toNat) (by kernel_rfl) hF8 (by omega) ?_)
  rintro a9 ha11 hF10; clear ha11 hF8 a7
  have hF12 := hF10.pick [0, 7] (G := [(0, .int .u64 ((x0 : Nat) : Int)), (7, .int .u64 (((x1 % 18446744073709551616).toNat : Nat) : Int))]) (by kernel_rfl); clear hF10
  refine pu_end hT 2 _ hF12 [0, 5] (G := [(0, .int .u64 ((x0 : Nat) : Int)), (5, .int .u64 (((((x1 % 18446744073709551616).toNat) &&& 63) : Nat) : Int))]) (cs := [((x1 % 18446744073709551616).toNat) < 18446744073709551616, 63 < 18446744073709551616]) (by kernel_rfl) rfl (And.intro (lt_toNat (m := 18446744073709551616) (by decide)) (And.intro (by decide) trivial)) ?_; clear hF12 a9; intro a13 hF14
  refine hK6 _ _ ?_
  refine wp_seq_k (fun K15 hK16 => ?_)
  obtain ⟨t17, ht18, h19⟩ := ltb_some h; clear h; replace ht18 : t17 = ((x0 * 2 ^ (((x1 % 18446744073709551616).toNat) &&& 63) % 18446744073709551616) ||| (x0 / 2 ^ ((64 + 18446744073709551616 - (((x1 % 18446744073709551616).toNat) &&& 63)) % 18446744073709551616))) := ht18
  refine wp_region_lit ?_
  refine pu hT 8 _ hF14 [16] (G := [(16, .int .u64 ((((x0 * 2 ^ (((x1 % 18446744073709551616).toNat) &&& 63) % 18446744073709551616) ||| (x0 / 2 ^ ((64 + 18446744073709551616 - (((x1 % 18446744073709551616).toNat) &&& 63)) % 18446744073709551616))) : Nat) : Int))]) (cs := [(((x1 % 18446744073709551616).toNat) &&& 63) ≤ 18446744073709551616, x0 < 18446744073709551616, (x0 * 2 ^ (((x1 % 18446744073709551616).toNat) &&& 63) % 18446744073709551616) < 18446744073709551616, (x0 / 2 ^ ((64 + 18446744073709551616 - (((x1 % 18446744073709551616).toNat) &&& 63)) % 18446744073709551616)) < 18446744073709551616]) (by kernel_rfl) (And.intro (Nat.le_of_lt (lt_and (lt_toNat (m := 18446744073709551616) (by decide)))) (And.intro px0 (And.intro (Nat.mod_lt _ (by decide)) (And.intro (lt_div px0 _) trivial)))) ?_; clear hF14 a13; intro a21 hF22
  have hb20 : t17 < 18446744073709551616 := by rw [ht18]; exact (lt_or (n := 64) (Nat.mod_lt _ (by decide)) (lt_div px0 _))
  have hF23 : Fr 17 a21 [(16, .int .u64 ((t17 : Nat) : Int))] := hF22.pick [16] (by rw [ht18]; kernel_rfl); clear hF22
  refine pu_end hT 1 _ hF23 [4] (G := [(4, .int .u64 ((t17 : Nat) : Int))]) (cs := []) (by kernel_rfl) rfl trivial ?_; clear hF23 a21; intro a24 hF25
  refine hK16 _ _ ?_
  refine wp_ret ?_
  obtain rfl := Option.some.inj h19
  refine ret1 hF25 rfl (v := .int .u64 ((t17 : Nat) : Int)) (by kernel_rfl) ?_
  exact ⟨rfl, hb20, hS.pick [] (by decide) rfl⟩

noncomputable def F_sha512_rotr (x0 : Nat) (x1 : Int) : Option Nat := gd (-9223372036854775807 ≤ x1) (gd (x1 ≤ 9223372036854775807) (bnd (F_bits_RotateLeft64 x0 (-x1)) fun (x11 : Nat) => some x11))
set_option maxHeartbeats 4000000 in
theorem W_sha512_rotr (x0 : Nat) (x1 : Int) (w : World) (px0 : x0 < 18446744073709551616) (r : Nat) (h : F_sha512_rotr x0 x1 = some r) :
    Calls Try.prog 67 [.int .u64 ((x0 : Nat) : Int), .int .i64 x1].toArray w (Ret fun v w' => v = .int .u64 ((r : Nat) : Int) ∧ r < 18446744073709551616 ∧ Heap w [] w' []) := by
  unfold F_sha512_rotr at h
  refine enter Try.func67 rfl (n := 9) Try.ntmps67 (by simp) ?_
  intro a hF
  have hS := Heap.init w
  refine wp_seq_k (fun K1 hK2 => ?_)
  refine wp_region_lit ?_
  refine pu_end hT 1 _ hF [0, 1] (G := [(0, .int .u64 ((x0 : Nat) : Int)), (1, .int .i64 x1)]) (cs := []) (by kernel_rfl) rfl trivial ?_; clear hF a; intro a3 hF4
  refine hK2 _ _ ?_
  refine wp_seq_k (fun K5 hK6 => ?_)
  obtain ⟨g8, h7⟩ : (-9223372036854775807 ≤ x1) ∧ _ := gd_some h; clear h
  obtain ⟨g10, h9⟩ : (x1 ≤ 9223372036854775807) ∧ _ := gd_some h7; clear h7
  obtain ⟨x11, hr13, h12⟩ := bnd_some h9; clear h9; replace hr13 : F_bits_RotateLeft64 x0 (-x1) = some (x11) := hr13
  refine wp_region_lit ?_
  refine pu hT 3 _ hF4 [5, 7] (G := [(5, .int .u64 ((x0 : Nat) : Int)), (7, .int .i64 (-x1))]) (cs := [-9223372036854775807 ≤ x1, x1 ≤ 9223372036854775807]) (by kernel_rfl) (And.intro g8 (And.intro g10 trivial)) ?_; clear hF4 a3; intro a15 hF16
  refine wl (s_call (d := 8) (f := 78) (l := [.int .u64 ((x0 : Nat) : Int), .int .i64 (-x1)]) (by kernel_rfl) hF16 cl78 (W_bits_RotateLeft64 x0 (-x1) _ px0 x11 hr13) ?_)
  rintro a17 w18 v19 ⟨rfl, hh14, hC20⟩ ha21 hF22; clear ha21 hF16 a15
  have hS23 : Heap w [] w18 [] := Heap.call hS hC20; clear hS
  have hF24 := hF22.pick [8] (G := [(8, .int .u64 ((x11 : Nat) : Int))]) (by kernel_rfl); clear hF22
  refine pu_end hT 1 _ hF24 [4] (G := [(4, .int .u64 ((x11 : Nat) : Int))]) (cs := []) (by kernel_rfl) rfl trivial ?_; clear hF24 a17; intro a25 hF26
  refine hK6 _ _ ?_
  refine wp_ret ?_
  obtain rfl := Option.some.inj h12
  refine ret1 hF26 rfl (v := .int .u64 ((x11 : Nat) : Int)) (by kernel_rfl) ?_
  exact ⟨rfl, hh14, hS23.pick [] (by decide) rfl⟩

noncomputable def F_sha512_Pad_l1 : (List Nat) → Option ((List Nat) ⊕ (List Nat)) := fun (zs214 : List Nat) => gd ((((zs214.length + 16) : Nat) : Int) ≤ 9223372036854775807) (if ((((zs214.length + 16) % 128) : Nat) : Int) = 0 then (some (.inr zs214)) else (gd ((zs214.length + 1) * 1 ≤ 140737488355328) (some (.inl (zs214 ++ [0])))))
noncomputable def F_sha512_Pad_l2 (xs0 : List Nat) : (List Nat × Int) → Option ((List Nat × Int) ⊕ (List Nat)) := fun (zs649, x651) => if 0 ≤ x651 then (gd (xs0.length < 18446744073709551616) (gd ((0 : Int) ≤ x651) (gd ((zs649.length + 1) * 1 ≤ 140737488355328) (gd (-9223372036854775808 ≤ (x651 - 8)) (gd ((x651 - 8) ≤ 9223372036854775807) (some (.inl ((zs649 ++ [(((8 * xs0.length % 18446744073709551616) / 2 ^ x651.toNat) % 256)]), (x651 - 8))))))))) else (some (.inr zs649))
noncomputable def F_sha512_Pad (xs0 : List Nat) : Option (List Nat) := gd ((0 + xs0.length) * 1 ≤ 140737488355328) (gd ((xs0.length + 1) * 1 ≤ 140737488355328) (bnd (run F_sha512_Pad_l1 (xs0 ++ [128]) : Option (List Nat)) (fun (zs158 : List Nat) => gd ((zs158.length + 8) * 1 ≤ 140737488355328) (bnd (run (F_sha512_Pad_l2 xs0) ((zs158 ++ (List.replicate 8 0)), (56 : Int)) : Option (List Nat)) (fun (zs526 : List Nat) => some zs526)))))
set_option maxHeartbeats 4000000 in
theorem W_sha512_Pad (pA0 : Option Addr) (pc0 : Nat) (xs0 : List Nat) (w : World) (pR0 : Rd w pA0 (vs .u8 xs0)) (pc_0 : xs0.length ≤ pc0) (pb0 : LB 256 xs0) (r : List Nat) (h : F_sha512_Pad xs0 = some r) :
    Calls Try.prog 21 [.slice pA0 xs0.length pc0].toArray w (Ret fun v w' => ∃ (A_0 : Option Addr), ∃ (c_1 : Nat), v = .slice A_0 r.length c_1 ∧ LB 256 r ∧ Heap w [] w' [.row 5 1 A_0 r.length c_1 (vs .u8 r)]) := by
  unfold F_sha512_Pad at h
  refine enter Try.func21 rfl (n := 34) Try.ntmps21 (by simp) ?_
  intro a hF
  have hS := Heap.init w
  refine wp_seq_k (fun K1 hK2 => ?_)
  refine wp_region_lit ?_
  refine pu_end hT 1 _ hF [0] (G := [(0, .slice pA0 xs0.length pc0)]) (cs := []) (by kernel_rfl) rfl trivial ?_; clear hF a; intro a3 hF4
  refine hK2 _ _ ?_
  refine wp_seq_k (fun K5 hK6 => ?_)
  obtain ⟨g8, h7⟩ : ((0 + xs0.length) * 1 ≤ 140737488355328) ∧ _ := gd_some h; clear h
  obtain ⟨g16, h15⟩ : ((xs0.length + 1) * 1 ≤ 140737488355328) ∧ _ := gd_some h7; clear h7
  refine wp_region_lit ?_
  refine pu hT 1 _ hF4 [0, 5] (G := [(0, .slice pA0 xs0.length pc0), (5, .slice pA0 xs0.length pc0)]) (cs := []) (by kernel_rfl) trivial ?_; clear hF4 a3; intro a20 hF21
  have hS22 : Heap w [] w [.row 5 1 none 0 0 (vs .u8 [])] := Heap.row0 hS 5 1; clear hS
  refine wl (h_app hT (d := 6) (T := 5) (i := tr5) (m := 0) (c := 0) (m2 := xs0.length) (c2 := pc0) (A2 := pA0) (l2 := vs .u8 xs0) (n' := xs0.length) (l' := vs .u8 xs0) (by kernel_rfl) hF21 hS22 0 rfl rfl (by decide) (hS22.rd0 pR0) (by show _ = xs0.length * 1; have := (Eq.refl xs0.length); simp only [zA, zS, zT, zD, zR, zC, zN, zV, zI] <;> omega) vs_one (by show (0 + xs0.length) * 1 ≤ 140737488355328; first | exact g8 | omega) (by decide) (by have := (show ([] : List Nat).length = 0 from rfl); have := (Eq.refl xs0.length); first | omega | (simp only [zA, zS, zT, zD, zR, zC, zN, zV, zI] <;> omega) | (simp only [zA, zS, zT, zD, zR, zC, zN, zV, zI] at * <;> omega)) (by first | rfl | exact (vs_append _ _ _).symm | exact (vi_append _ _).symm | simp [vs, vi]) ?_)
  rintro a23 w24 A9 c10 hS25 g26 ha27 hF28; clear ha27 hF21 a20 hS22
  have hS29 : Heap w [] w24 [.row 5 1 A9 xs0.length c10 (vs .u8 xs0)] := hS25; clear hS25
  have hF30 := hF28.pick [0, 6] (G := [(0, .slice pA0 xs0.length pc0), (6, .slice A9 xs0.length c10)]) (by kernel_rfl); clear hF28
  refine wl (h_lit hT (d := 7) (T := 5) (l := vs .u8 [128]) (by kernel_rfl) hF30 hS29 (by simp [maxLen]) ?_)
  rintro a31 w32 A13 hS33 g34 ha35 hF36; clear ha35 hF30 a23 hS29
  have hS37 : Heap w [] w32 [.row 5 1 A13 1 1 (vs .u8 [128]), .row 5 1 A9 xs0.length c10 (vs .u8 xs0)] := hS33; clear hS33
  have hF38 := hF36.pick [0, 6, 7] (G := [(0, .slice pA0 xs0.length pc0), (6, .slice A9 xs0.length c10), (7, .slice A13 1 1)]) (by kernel_rfl); clear hF36
  refine wl (h_app hT (d := 8) (T := 5) (i := tr5) (m := xs0.length) (c := c10) (m2 := 1) (c2 := 1) (A2 := A13) (l2 := vs .u8 [128]) (n' := (xs0 ++ [128]).length) (l' := vs .u8 (xs0 ++ [128])) (by kernel_rfl) hF38 hS37 1 rfl rfl (by decide) (hS37.own 0 rfl).rd (by show _ = 1 * 1; have := (show ([128] : List Nat).length = 1 from rfl); simp only [zA, zS, zT, zD, zR, zC, zN, zV, zI] <;> omega) vs_one (by show (xs0.length + 1) * 1 ≤ 140737488355328; first | exact g16 | omega) (by decide) (by have := (Eq.refl xs0.length); have := (show ([128] : List Nat).length = 1 from rfl); first | omega | (simp only [zA, zS, zT, zD, zR, zC, zN, zV, zI] <;> omega) | (simp only [zA, zS, zT, zD, zR, zC, zN, zV, zI] at * <;> omega)) (by first | rfl | exact (vs_append _ _ _).symm | exact (vi_append _ _).symm | simp [vs, vi]) ?_)
  rintro a39 w40 A17 c18 hS41 g42 ha43 hF44; clear ha43 hF38 a31 hS37
  have hS45 : Heap w [] w40 [.row 5 1 A13 1 1 (vs .u8 [128]), .row 5 1 A17 ((xs0 ++ [128]).length) c18 (vs .u8 (xs0 ++ [128]))] := hS41; clear hS41
  have hF46 := hF44.pick [0, 8] (G := [(0, .slice pA0 xs0.length pc0), (8, .slice A17 ((xs0 ++ [128]).length) c18)]) (by kernel_rfl); clear hF44
  refine pu_end hT 1 _ hF46 [0, 3] (G := [(0, .slice pA0 xs0.length pc0), (3, .slice A17 ((xs0 ++ [128]).length) c18)]) (cs := []) (by kernel_rfl) rfl trivial ?_; clear hF46 a39; intro a47 hF48
  refine hK6 _ _ ?_
  obtain ⟨xj160, hx161, h162⟩ := bnd_some h15; clear h15
  refine seqJ (fun a W => ∃ (zs158 : List Nat), ∃ (A156 : Option Addr), ∃ (c157 : Nat), zs158 = xj160 ∧ (Fr 34 a [(0, .slice pA0 xs0.length pc0), (3, .slice A156 zs158.length c157)]) ∧ (Heap w [] W [.row 5 1 A156 zs158.length c157 (vs .u8 zs158)]) ∧ (LB 256 zs158)) ?_ ?_
  · skip
    refine wp_block ?_
    refine loopR F_sha512_Pad_l1 xj160 (xs0 ++ [128]) hx161 (fun s a W => ∃ (zs214 : List Nat), ∃ (A212 : Option Addr), ∃ (c213 : Nat), zs214 = s ∧ (Fr 34 a [(0, .slice pA0 xs0.length pc0), (3, .slice A212 zs214.length c213)]) ∧ (Heap w [] W [.row 5 1 A212 zs214.length c213 (vs .u8 zs214)]) ∧ (LB 256 zs214)) ⟨(xs0 ++ [128]), A17, c18, rfl, hF48.pick [0, 3] (by kernel_rfl), hS45.pick [1] (by decide) rfl, (pb0.app (LB.cons (by decide) LB.nil))⟩ ?_
    clear hF48 hS45 hx161
    rintro k247 _ a242 w243 ⟨zs214, A212, c213, rfl, hF244, hS245, hh215⟩ hit241 K240 hK239
    obtain ⟨y237, h246, hy238⟩ := iter_succ hit241; clear hit241
    unfold F_sha512_Pad_l1 at h246; try dsimp only at h246
    refine wp_seq_k (fun K254 hK255 => ?_)
    refine wp_seq_k (fun K256 hK257 => ?_)
    obtain ⟨g259, h258⟩ : ((((zs214.length + 16) : Nat) : Int) ≤ 9223372036854775807) ∧ _ := gd_some h246; clear h246
    refine wp_region_lit ?_
    refine pu_end hT 5 _ hF244 [0, 3, 13] (G := [(0, .slice pA0 xs0.length pc0), (3, .slice A212 zs214.length c213), (13, .bool (!(decide (((((zs214.length + 16) % 128) : Nat) : Int) = 0))))]) (cs := [-9223372036854775808 ≤ (((zs214.length + 16) : Nat) : Int), (((zs214.length + 16) : Nat) : Int) ≤ 9223372036854775807, 0 ≤ (((zs214.length + 16) : Nat) : Int), 0 < (128 : Int)]) (by kernel_rfl) rfl (And.intro (by omega) (And.intro g259 (And.intro (by omega) (And.intro (by decide) trivial)))) ?_; clear hF244 a242; intro a260 hF261
    refine hK257 _ _ ?_
    rcases (ite_some h258 : ((((((zs214.length + 16) % 128) : Nat) : Int) = 0) ∧ _) ∨ (¬ (((((zs214.length + 16) % 128) : Nat) : Int) = 0) ∧ _)) with ⟨hc262, h263⟩ | ⟨hc262, h263⟩
    · clear h258
      have hF264 : Fr 34 a260 [(0, .slice pA0 xs0.length pc0), (3, .slice A212 zs214.length c213), (13, .bool false)] := hF261.pick [0, 3, 13] (by rw [decide_eq_true hc262]; kernel_rfl); clear hF261
      refine condF hF264 (by kernel_rfl) ?_
      refine wp_exit ?_
      obtain rfl := Option.some.inj h263
      obtain rfl : _ = xj160 := hy238
      exact ⟨zs214, A212, c213, rfl, hF264.pick [0, 3] (by kernel_rfl), hS245.pick [0] (by decide) rfl, hh215⟩
    · clear h258
      have hF265 : Fr 34 a260 [(0, .slice pA0 xs0.length pc0), (3, .slice A212 zs214.length c213), (13, .bool true)] := hF261.pick [0, 3, 13] (by rw [decide_eq_false hc262]; kernel_rfl); clear hF261
      refine condT hF265 (by kernel_rfl) ?_
      refine wp_skip ?_
      refine hK255 _ _ ?_
      refine wp_block ?_
      obtain ⟨g269, h268⟩ : ((zs214.length + 1) * 1 ≤ 140737488355328) ∧ _ := gd_some h263; clear h263
      refine wp_region_lit ?_
      refine pu hT 1 _ hF265 [0, 3, 14] (G := [(0, .slice pA0 xs0.length pc0), (3, .slice A212 zs214.length c213), (14, .slice A212 zs214.length c213)]) (cs := []) (by kernel_rfl) trivial ?_; clear hF265 a260; intro a273 hF274
      refine wl (h_lit hT (d := 15) (T := 5) (l := vs .u8 [0]) (by kernel_rfl) hF274 hS245 (by simp [maxLen]) ?_)
      rintro a275 w276 A266 hS277 g278 ha279 hF280; clear ha279 hF274 a273 hS245
      have hS281 : Heap w [] w276 [.row 5 1 A266 1 1 (vs .u8 [0]), .row 5 1 A212 zs214.length c213 (vs .u8 zs214)] := hS277; clear hS277
      have hF282 := hF280.pick [0, 3, 14, 15] (G := [(0, .slice pA0 xs0.length pc0), (3, .slice A212 zs214.length c213), (14, .slice A212 zs214.length c213), (15, .slice A266 1 1)]) (by kernel_rfl); clear hF280
      refine wl (h_app hT (d := 16) (T := 5) (i := tr5) (m := zs214.length) (c := c213) (m2 := 1) (c2 := 1) (A2 := A266) (l2 := vs .u8 [0]) (n' := (zs214 ++ [0]).length) (l' := vs .u8 (zs214 ++ [0])) (by kernel_rfl) hF282 hS281 1 rfl rfl (by decide) (hS281.own 0 rfl).rd (by show _ = 1 * 1; have := (show ([0] : List Nat).length = 1 from rfl); simp only [zA, zS, zT, zD, zR, zC, zN, zV, zI] <;> omega) vs_one (by show (zs214.length + 1) * 1 ≤ 140737488355328; first | exact g269 | omega) (by decide) (by have := (Eq.refl zs214.length); have := (show ([0] : List Nat).length = 1 from rfl); first | omega | (simp only [zA, zS, zT, zD, zR, zC, zN, zV, zI] <;> omega) | (simp only [zA, zS, zT, zD, zR, zC, zN, zV, zI] at * <;> omega)) (by first | rfl | exact (vs_append _ _ _).symm | exact (vi_append _ _).symm | simp [vs, vi]) ?_)
      rintro a283 w284 A270 c271 hS285 g286 ha287 hF288; clear ha287 hF282 a275 hS281
      have hS289 : Heap w [] w284 [.row 5 1 A266 1 1 (vs .u8 [0]), .row 5 1 A270 ((zs214 ++ [0]).length) c271 (vs .u8 (zs214 ++ [0]))] := hS285; clear hS285
      have hF290 := hF288.pick [0, 3, 16] (G := [(0, .slice pA0 xs0.length pc0), (3, .slice A212 zs214.length c213), (16, .slice A270 ((zs214 ++ [0]).length) c271)]) (by kernel_rfl); clear hF288
      refine pu_end hT 1 _ hF290 [0, 3] (G := [(0, .slice pA0 xs0.length pc0), (3, .slice A270 ((zs214 ++ [0]).length) c271)]) (cs := []) (by kernel_rfl) rfl trivial ?_; clear hF290 a283; intro a291 hF292
      obtain rfl := Option.some.inj h268
      exact hK239 _ _ _ hy238 ⟨(zs214 ++ [0]), A270, c271, rfl, hF292.pick [0, 3] (by kernel_rfl), hS289.pick [1] (by decide) rfl, (hh215.app (LB.cons (by decide) LB.nil))⟩
  · skip
    clear hx161 hF48 hS45 
    rintro a293 w294 ⟨zs158, A156, c157, rfl, hF295, hS296, hh159⟩
    refine wp_seq_k (fun K298 hK299 => ?_)
    obtain ⟨g301, h300⟩ : ((zs158.length + 8) * 1 ≤ 140737488355328) ∧ _ := gd_some h162; clear h162
    refine wp_region_lit ?_
    refine pu hT 1 _ hF295 [0, 3, 17] (G := [(0, .slice pA0 xs0.length pc0), (3, .slice A156 zs158.length c157), (17, .slice A156 zs158.length c157)]) (cs := []) (by kernel_rfl) trivial ?_; clear hF295 a293; intro a305 hF306
    refine wl (h_appZ hT (d := 18) (T := 5) (i := tr5) (m := zs158.length) (c := c157) (m2 := 8) (n' := (zs158 ++ (List.replicate 8 0)).length) (l' := vs .u8 (zs158 ++ (List.replicate 8 0))) (by kernel_rfl) hF306 hS296 0 rfl rfl rfl rfl (by decide) (by omega) (by show (zs158.length + 8) * 1 ≤ 140737488355328; first | exact g301 | omega) (by have := (Eq.refl zs158.length); have := (len_rep (α := Nat) 8 0); first | omega | (simp only [zA, zS, zT, zD, zR, zC, zN, zV, zI] <;> omega) | (simp only [zA, zS, zT, zD, zR, zC, zN, zV, zI] at * <;> omega)) (by first | exact (congrArg _ (rep_vs _ _)).trans (vs_append _ _ _).symm | exact rep_vs _ _ | simp [vs]) ?_)
    rintro a307 w308 A302 c303 hS309 g310 ha311 hF312; clear ha311 hF306 a305 hS296
    have hS313 : Heap w [] w308 [.row 5 1 A302 ((zs158 ++ (List.replicate 8 0)).length) c303 (vs .u8 (zs158 ++ (List.replicate 8 0)))] := hS309; clear hS309
    have hF314 := hF312.pick [0, 3, 18] (G := [(0, .slice pA0 xs0.length pc0), (3, .slice A156 zs158.length c157), (18, .slice A302 ((zs158 ++ (List.replicate 8 0)).length) c303)]) (by kernel_rfl); clear hF312
    refine pu_end hT 1 _ hF314 [0, 3] (G := [(0, .slice pA0 xs0.length pc0), (3, .slice A302 ((zs158 ++ (List.replicate 8 0)).length) c303)]) (cs := []) (by kernel_rfl) rfl trivial ?_; clear hF314 a307; intro a315 hF316
    refine hK299 _ _ ?_
    obtain ⟨xj528, hx529, h530⟩ := bnd_some h300; clear h300
    refine seqJ (fun a W => ∃ (zs526 : List Nat), ∃ (A524 : Option Addr), ∃ (c525 : Nat), zs526 = xj528 ∧ (Fr 34 a [(3, .slice A524 zs526.length c525)]) ∧ (Heap w [] W [.row 5 1 A524 zs526.length c525 (vs .u8 zs526)]) ∧ (LB 256 zs526)) ?_ ?_
    · skip
      refine wp_seq_k (fun K531 hK532 => ?_)
      refine wp_region_lit ?_
      refine pu_end hT 1 _ hF316 [0, 3, 4] (G := [(0, .slice pA0 xs0.length pc0), (3, .slice A302 ((zs158 ++ (List.replicate 8 0)).length) c303), (4, .int .i64 56)]) (cs := []) (by kernel_rfl) rfl trivial ?_; clear hF316 a315; intro a533 hF534
      refine hK532 _ _ ?_
      refine wp_block ?_
      refine loopR (F_sha512_Pad_l2 xs0) xj528 ((zs158 ++ (List.replicate 8 0)), (56 : Int)) hx529 (fun s a W => ∃ (zs649 : List Nat), ∃ (x651 : Int), ∃ (A647 : Option Addr), ∃ (c648 : Nat), (zs649, x651) = s ∧ (Fr 34 a [(0, .slice pA0 xs0.length pc0), (3, .slice A647 zs649.length c648), (4, .int .i64 x651)]) ∧ (Heap w [] W [.row 5 1 A647 zs649.length c648 (vs .u8 zs649)]) ∧ (LB 256 zs649)) ⟨(zs158 ++ (List.replicate 8 0)), (56 : Int), A302, c303, rfl, hF534.pick [0, 3, 4] (by kernel_rfl), hS313.pick [0] (by decide) rfl, (hh159.app (LB.rep (m := 256) (x := 0) (by decide) 8))⟩ ?_
      clear hF534 hS313 hx529
      rintro k700 _ a695 w696 ⟨zs649, x651, A647, c648, rfl, hF697, hS698, hh650⟩ hit694 K693 hK692
      obtain ⟨y690, h699, hy691⟩ := iter_succ hit694; clear hit694
      unfold F_sha512_Pad_l2 at h699; try dsimp only at h699
      refine wp_seq_k (fun K705 hK706 => ?_)
      refine wp_seq_k (fun K707 hK708 => ?_)
      refine wp_region_lit ?_
      refine pu_end hT 2 _ hF697 [0, 3, 4, 20] (G := [(0, .slice pA0 xs0.length pc0), (3, .slice A647 zs649.length c648), (4, .int .i64 x651), (20, .bool ((decide (0 ≤ x651))))]) (cs := []) (by kernel_rfl) rfl trivial ?_; clear hF697 a695; intro a709 hF710
      refine hK708 _ _ ?_
      rcases (ite_some h699 : ((0 ≤ x651) ∧ _) ∨ (¬ (0 ≤ x651) ∧ _)) with ⟨hc711, h712⟩ | ⟨hc711, h712⟩
      · clear h699
        have hF713 : Fr 34 a709 [(0, .slice pA0 xs0.length pc0), (3, .slice A647 zs649.length c648), (4, .int .i64 x651), (20, .bool true)] := hF710.pick [0, 3, 4, 20] (by rw [decide_eq_true hc711]; kernel_rfl); clear hF710
        refine condT hF713 (by kernel_rfl) ?_
        refine wp_skip ?_
        refine hK706 _ _ ?_
        refine wp_seq_k (fun K725 hK726 => ?_)
        refine wp_block ?_
        obtain ⟨g728, h727⟩ : (xs0.length < 18446744073709551616) ∧ _ := gd_some h712; clear h712
        obtain ⟨g730, h729⟩ : ((0 : Int) ≤ x651) ∧ _ := gd_some h727; clear h727
        obtain ⟨g734, h733⟩ : ((zs649.length + 1) * 1 ≤ 140737488355328) ∧ _ := gd_some h729; clear h729
        refine wp_region_lit ?_
        refine pu hT 6 _ hF713 [0, 3, 4, 23, 27, 28] (G := [(0, .slice pA0 xs0.length pc0), (3, .slice A647 zs649.length c648), (4, .int .i64 x651), (23, .slice A647 zs649.length c648), (27, .int .u64 (((8 * xs0.length % 18446744073709551616) : Nat) : Int)), (28, .int .i64 x651)]) (cs := [xs0.length < 18446744073709551616]) (by kernel_rfl) (And.intro g728 trivial) ?_; clear hF713 a709; intro a738 hF739
        refine wl (s_shiftI hT (d := 29) (op := .shr) (k := .u64) (a' := (((8 * xs0.length % 18446744073709551616) : Nat) : Int)) (k' := .i64) (y := x651) (v := .int .u64 ((((8 * xs0.length % 18446744073709551616) / 2 ^ x651.toNat) : Nat) : Int)) (cs := [(8 * xs0.length % 18446744073709551616) < 18446744073709551616]) (by kernel_rfl) hF739 g730 (by kernel_rfl) (.inr rfl) (And.intro (Nat.mod_lt _ (by decide)) trivial) ?_)
        rintro a740 ha742 hF741; clear ha742 hF739 a738
        have hF743 := hF741.pick [0, 3, 4, 23, 29] (G := [(0, .slice pA0 xs0.length pc0), (3, .slice A647 zs649.length c648), (4, .int .i64 x651), (23, .slice A647 zs649.length c648), (29, .int .u64 ((((8 * xs0.length % 18446744073709551616) / 2 ^ x651.toNat) : Nat) : Int))]) (by kernel_rfl); clear hF741
        refine pu hT 1 _ hF743 [0, 3, 4, 23, 30] (G := [(0, .slice pA0 xs0.length pc0), (3, .slice A647 zs649.length c648), (4, .int .i64 x651), (23, .slice A647 zs649.length c648), (30, .int .u8 (((((8 * xs0.length % 18446744073709551616) / 2 ^ x651.toNat) % 256) : Nat) : Int))]) (cs := []) (by kernel_rfl) trivial ?_; clear hF743 a740; intro a744 hF745
        refine wl (h_lit hT (d := 31) (T := 5) (l := vs .u8 [(((8 * xs0.length % 18446744073709551616) / 2 ^ x651.toNat) % 256)]) (by kernel_rfl) hF745 hS698 (by simp [maxLen]) ?_)
        rintro a746 w747 A731 hS748 g749 ha750 hF751; clear ha750 hF745 a744 hS698
        have hS752 : Heap w [] w747 [.row 5 1 A731 1 1 (vs .u8 [(((8 * xs0.length % 18446744073709551616) / 2 ^ x651.toNat) % 256)]), .row 5 1 A647 zs649.length c648 (vs .u8 zs649)] := hS748; clear hS748
        have hF753 := hF751.pick [0, 3, 4, 23, 31] (G := [(0, .slice pA0 xs0.length pc0), (3, .slice A647 zs649.length c648), (4, .int .i64 x651), (23, .slice A647 zs649.length c648), (31, .slice A731 1 1)]) (by kernel_rfl); clear hF751
        refine wl (h_app hT (d := 32) (T := 5) (i := tr5) (m := zs649.length) (c := c648) (m2 := 1) (c2 := 1) (A2 := A731) (l2 := vs .u8 [(((8 * xs0.length % 18446744073709551616) / 2 ^ x651.toNat) % 256)]) (n' := (zs649 ++ [(((8 * xs0.length % 18446744073709551616) / 2 ^ x651.toNat) % 256)]).length) (l' := vs .u8 (zs649 ++ [(((8 * xs0.length % 18446744073709551616) / 2 ^ x651.toNat) % 256)])) (by kernel_rfl) hF753 hS752 1 rfl rfl (by decide) (hS752.own 0 rfl).rd (by show _ = 1 * 1; have := (show ([(((8 * xs0.length % 18446744073709551616) / 2 ^ x651.toNat) % 256)] : List Nat).length = 1 from rfl); simp only [zA, zS, zT, zD, zR, zC, zN, zV, zI] <;> omega) vs_one (by show (zs649.length + 1) * 1 ≤ 140737488355328; first | exact g734 | omega) (by decide) (by have := (Eq.refl zs649.length); have := (show ([(((8 * xs0.length % 18446744073709551616) / 2 ^ x651.toNat) % 256)] : List Nat).length = 1 from rfl); first | omega | (simp only [zA, zS, zT, zD, zR, zC, zN, zV, zI] <;> omega) | (simp only [zA, zS, zT, zD, zR, zC, zN, zV, zI] at * <;> omega)) (by first | rfl | exact (vs_append _ _ _).symm | exact (vi_append _ _).symm | simp [vs, vi]) ?_)
        rintro a754 w755 A735 c736 hS756 g757 ha758 hF759; clear ha758 hF753 a746 hS752
        have hS760 : Heap w [] w755 [.row 5 1 A731 1 1 (vs .u8 [(((8 * xs0.length % 18446744073709551616) / 2 ^ x651.toNat) % 256)]), .row 5 1 A735 ((zs649 ++ [(((8 * xs0.length % 18446744073709551616) / 2 ^ x651.toNat) % 256)]).length) c736 (vs .u8 (zs649 ++ [(((8 * xs0.length % 18446744073709551616) / 2 ^ x651.toNat) % 256)]))] := hS756; clear hS756
        have hF761 := hF759.pick [0, 3, 4, 32] (G := [(0, .slice pA0 xs0.length pc0), (3, .slice A647 zs649.length c648), (4, .int .i64 x651), (32, .slice A735 ((zs649 ++ [(((8 * xs0.length % 18446744073709551616) / 2 ^ x651.toNat) % 256)]).length) c736)]) (by kernel_rfl); clear hF759
        refine pu_end hT 1 _ hF761 [0, 4, 3] (G := [(0, .slice pA0 xs0.length pc0), (4, .int .i64 x651), (3, .slice A735 ((zs649 ++ [(((8 * xs0.length % 18446744073709551616) / 2 ^ x651.toNat) % 256)]).length) c736)]) (cs := []) (by kernel_rfl) rfl trivial ?_; clear hF761 a754; intro a762 hF763
        refine hK726 _ _ ?_
        obtain ⟨g765, h764⟩ : (-9223372036854775808 ≤ (x651 - 8)) ∧ _ := gd_some h733; clear h733
        obtain ⟨g767, h766⟩ : ((x651 - 8) ≤ 9223372036854775807) ∧ _ := gd_some h764; clear h764
        refine wp_region_lit ?_
        refine pu_end hT 3 _ hF763 [0, 3, 4] (G := [(0, .slice pA0 xs0.length pc0), (3, .slice A735 ((zs649 ++ [(((8 * xs0.length % 18446744073709551616) / 2 ^ x651.toNat) % 256)]).length) c736), (4, .int .i64 (x651 - 8))]) (cs := [-9223372036854775808 ≤ (x651 - 8), (x651 - 8) ≤ 9223372036854775807]) (by kernel_rfl) rfl (And.intro g765 (And.intro g767 trivial)) ?_; clear hF763 a762; intro a768 hF769
        obtain rfl := Option.some.inj h766
        exact hK692 _ _ _ hy691 ⟨(zs649 ++ [(((8 * xs0.length % 18446744073709551616) / 2 ^ x651.toNat) % 256)]), (x651 - 8), A735, c736, rfl, hF769.pick [0, 3, 4] (by kernel_rfl), hS760.pick [1] (by decide) rfl, (hh650.app (LB.cons (Nat.mod_lt _ (by decide)) LB.nil))⟩
      · clear h699
        have hF770 : Fr 34 a709 [(0, .slice pA0 xs0.length pc0), (3, .slice A647 zs649.length c648), (4, .int .i64 x651), (20, .bool false)] := hF710.pick [0, 3, 4, 20] (by rw [decide_eq_false hc711]; kernel_rfl); clear hF710
        refine condF hF770 (by kernel_rfl) ?_
        refine wp_exit ?_
        obtain rfl := Option.some.inj h712
        obtain rfl : _ = xj528 := hy691
        exact ⟨zs649, A647, c648, rfl, hF770.pick [3] (by kernel_rfl), hS698.pick [0] (by decide) rfl, hh650⟩
    · skip
      clear hx529 hF316 hS313 
      rintro a771 w772 ⟨zs526, A524, c525, rfl, hF773, hS774, hh527⟩
      refine wp_seq_k (fun K776 hK777 => ?_)
      refine wp_region_lit ?_
      refine pu_end hT 2 _ hF773 [2] (G := [(2, .slice A524 zs526.length c525)]) (cs := []) (by kernel_rfl) rfl trivial ?_; clear hF773 a771; intro a778 hF779
      refine hK777 _ _ ?_
      refine wp_ret ?_
      obtain rfl := Option.some.inj h530
      refine ret1 hF779 rfl (v := .slice A524 zs526.length c525) (by kernel_rfl) ?_
      exact ⟨A524, c525, rfl, hh527, hS774.pick [0] (by decide) rfl⟩

noncomputable def F_bits_Mul64 (x0 : Nat) (x1 : Nat) : Option (Nat × Nat) := ltb (((x0 &&& 4294967295) * (x1 &&& 4294967295) % 18446744073709551616)) fun (t23 : Nat) => ltb (((((x0 / 2 ^ 32) * (x1 &&& 4294967295) % 18446744073709551616) + (t23 / 2 ^ 32)) % 18446744073709551616)) fun (t32 : Nat) => ltb ((((t32 &&& 4294967295) + ((x0 &&& 4294967295) * (x1 / 2 ^ 32) % 18446744073709551616)) % 18446744073709551616)) fun (t49 : Nat) => ltb (((((((x0 / 2 ^ 32) * (x1 / 2 ^ 32) % 18446744073709551616) + (t32 / 2 ^ 32)) % 18446744073709551616) + (t49 / 2 ^ 32)) % 18446744073709551616)) fun (t58 : Nat) => some (t58, (x0 * x1 % 18446744073709551616))
set_option maxHeartbeats 4000000 in
theorem W_bits_Mul64 (x0 : Nat) (x1 : Nat) (w : World) (px0 : x0 < 18446744073709551616) (px1 : x1 < 18446744073709551616) (r0 : Nat) (r1 : Nat) (h : F_bits_Mul64 x0 x1 = some (r0, r1)) :
    Calls Try.prog 68 [.int .u64 ((x0 : Nat) : Int), .int .u64 ((x1 : Nat) : Int)].toArray w (Ret fun v w' => v = .tuple #[.int .u64 ((r0 : Nat) : Int), .int .u64 ((r1 : Nat) : Int)] ∧ r0 < 18446744073709551616 ∧ r1 < 18446744073709551616 ∧ Heap w [] w' []) := by
  obtain ⟨r, hr0⟩ : ∃ r, r = (r0, r1) := ⟨_, rfl⟩; rw [← hr0] at h
  unfold F_bits_Mul64 at h
  refine enter Try.func68 rfl (n := 51) Try.ntmps68 (by simp) ?_
  intro a hF
  have hS := Heap.init w
  refine wp_seq_k (fun K1 hK2 => ?_)
  refine wp_region_lit ?_
  refine pu_end hT 2 _ hF [0, 1] (G := [(0, .int .u64 ((x0 : Nat) : Int)), (1, .int .u64 ((x1 : Nat) : Int))]) (cs := []) (by kernel_rfl) rfl trivial ?_; clear hF a; intro a3 hF4
  refine hK2 _ _ ?_
  refine wp_seq_k (fun K5 hK6 => ?_)
  refine wp_region_lit ?_
  refine pu_end hT 3 _ hF4 [0, 1, 6] (G := [(0, .int .u64 ((x0 : Nat) : Int)), (1, .int .u64 ((x1 : Nat) : Int)), (6, .int .u64 (((x0 &&& 4294967295) : Nat) : Int))]) (cs := [x0 < 18446744073709551616, 4294967295 < 18446744073709551616]) (by kernel_rfl) rfl (And.intro px0 (And.intro (by decide) trivial)) ?_; clear hF4 a3; intro a7 hF8
  refine hK6 _ _ ?_
  refine wp_seq_k (fun K9 hK10 => ?_)
  refine wp_region_lit ?_
  refine pu_end hT 3 _ hF8 [0, 1, 6, 7] (G := [(0, .int .u64 ((x0 : Nat) : Int)), (1, .int .u64 ((x1 : Nat) : Int)), (6, .int .u64 (((x0 &&& 4294967295) : Nat) : Int)), (7, .int .u64 (((x0 / 2 ^ 32) : Nat) : Int))]) (cs := [x0 < 18446744073709551616]) (by kernel_rfl) rfl (And.intro px0 trivial) ?_; clear hF8 a7; intro a11 hF12
  refine hK10 _ _ ?_
  refine wp_seq_k (fun K13 hK14 => ?_)
  refine wp_region_lit ?_
  refine pu_end hT 3 _ hF12 [0, 1, 6, 7, 8] (G := [(0, .int .u64 ((x0 : Nat) : Int)), (1, .int .u64 ((x1 : Nat) : Int)), (6, .int .u64 (((x0 &&& 4294967295) : Nat) : Int)), (7, .int .u64 (((x0 / 2 ^ 32) : Nat) : Int)), (8, .int .u64 (((x1 &&& 4294967295) : Nat) : Int))]) (cs := [x1 < 18446744073709551616, 4294967295 < 18446744073709551616]) (by kernel_rfl) rfl (And.intro px1 (And.intro (by decide) trivial)) ?_; clear hF12 a11; intro a15 hF16
  refine hK14 _ _ ?_
  refine wp_seq_k (fun K17 hK18 => ?_)
  refine wp_region_lit ?_
  refine pu_end hT 3 _ hF16 [0, 1, 6, 7, 8, 9] (G := [(0, .int .u64 ((x0 : Nat) : Int)), (1, .int .u64 ((x1 : Nat) : Int)), (6, .int .u64 (((x0 &&& 4294967295) : Nat) : Int)), (7, .int .u64 (((x0 / 2 ^ 32) : Nat) : Int)), (8, .int .u64 (((x1 &&& 4294967295) : Nat) : Int)), (9, .int .u64 (((x1 / 2 ^ 32) : Nat) : Int))]) (cs := [x1 < 18446744073709551616]) (by kernel_rfl) rfl (And.intro px1 trivial) ?_; clear hF16 a15; intro a19 hF20
  refine hK18 _ _ ?_
  refine wp_seq_k (fun K21 hK22 => ?_)
  obtain ⟨t23, ht24, h25⟩ := ltb_some h; clear h; replace ht24 : t23 = ((x0 &&& 4294967295) * (x1 &&& 4294967295) % 18446744073709551616) := ht24
  refine wp_region_lit ?_
  refine pu_end hT 4 _ hF20 [0, 1, 6, 7, 8, 9, 10] (G := [(0, .int .u64 ((x0 : Nat) : Int)), (1, .int .u64 ((x1 : Nat) : Int)), (6, .int .u64 (((x0 &&& 4294967295) : Nat) : Int)), (7, .int .u64 (((x0 / 2 ^ 32) : Nat) : Int)), (8, .int .u64 (((x1 &&& 4294967295) : Nat) : Int)), (9, .int .u64 (((x1 / 2 ^ 32) : Nat) : Int)), (10, .int .u64 ((((x0 &&& 4294967295) * (x1 &&& 4294967295) % 18446744073709551616) : Nat) : Int))]) (cs := []) (by kernel_rfl) rfl trivial ?_; clear hF20 a19; intro a27 hF28
  have hb26 : t23 < 18446744073709551616 := by rw [ht24]; exact (Nat.mod_lt _ (by decide))
  have hF29 : Fr 51 a27 [(0, .int .u64 ((x0 : Nat) : Int)), (1, .int .u64 ((x1 : Nat) : Int)), (6, .int .u64 (((x0 &&& 4294967295) : Nat) : Int)), (7, .int .u64 (((x0 / 2 ^ 32) : Nat) : Int)), (8, .int .u64 (((x1 &&& 4294967295) : Nat) : Int)), (9, .int .u64 (((x1 / 2 ^ 32) : Nat) : Int)), (10, .int .u64 ((t23 : Nat) : Int))] := hF28.pick [0, 1, 6, 7, 8, 9, 10] (by rw [ht24]; kernel_rfl); clear hF28
  refine hK22 _ _ ?_
  refine wp_seq_k (fun K30 hK31 => ?_)
  obtain ⟨t32, ht33, h34⟩ := ltb_some h25; clear h25; replace ht33 : t32 = ((((x0 / 2 ^ 32) * (x1 &&& 4294967295) % 18446744073709551616) + (t23 / 2 ^ 32)) % 18446744073709551616) := ht33
  refine wp_region_lit ?_
  refine pu_end hT 7 _ hF29 [0, 1, 6, 7, 9, 11] (G := [(0, .int .u64 ((x0 : Nat) : Int)), (1, .int .u64 ((x1 : Nat) : Int)), (6, .int .u64 (((x0 &&& 4294967295) : Nat) : Int)), (7, .int .u64 (((x0 / 2 ^ 32) : Nat) : Int)), (9, .int .u64 (((x1 / 2 ^ 32) : Nat) : Int)), (11, .int .u64 ((((((x0 / 2 ^ 32) * (x1 &&& 4294967295) % 18446744073709551616) + (t23 / 2 ^ 32)) % 18446744073709551616) : Nat) : Int))]) (cs := [t23 < 18446744073709551616]) (by kernel_rfl) rfl (And.intro hb26 trivial) ?_; clear hF29 a27; intro a36 hF37
  have hb35 : t32 < 18446744073709551616 := by rw [ht33]; exact (Nat.mod_lt _ (by decide))
  have hF38 : Fr 51 a36 [(0, .int .u64 ((x0 : Nat) : Int)), (1, .int .u64 ((x1 : Nat) : Int)), (6, .int .u64 (((x0 &&& 4294967295) : Nat) : Int)), (7, .int .u64 (((x0 / 2 ^ 32) : Nat) : Int)), (9, .int .u64 (((x1 / 2 ^ 32) : Nat) : Int)), (11, .int .u64 ((t32 : Nat) : Int))] := hF37.pick [0, 1, 6, 7, 9, 11] (by rw [ht33]; kernel_rfl); clear hF37
  refine hK31 _ _ ?_
  refine wp_seq_k (fun K39 hK40 => ?_)
  refine wp_region_lit ?_
  refine pu_end hT 3 _ hF38 [0, 1, 6, 7, 9, 11, 12] (G := [(0, .int .u64 ((x0 : Nat) : Int)), (1, .int .u64 ((x1 : Nat) : Int)), (6, .int .u64 (((x0 &&& 4294967295) : Nat) : Int)), (7, .int .u64 (((x0 / 2 ^ 32) : Nat) : Int)), (9, .int .u64 (((x1 / 2 ^ 32) : Nat) : Int)), (11, .int .u64 ((t32 : Nat) : Int)), (12, .int .u64 (((t32 &&& 4294967295) : Nat) : Int))]) (cs := [t32 < 18446744073709551616, 4294967295 < 18446744073709551616]) (by kernel_rfl) rfl (And.intro hb35 (And.intro (by decide) trivial)) ?_; clear hF38 a36; intro a41 hF42
  refine hK40 _ _ ?_
  refine wp_seq_k (fun K43 hK44 => ?_)
  refine wp_region_lit ?_
  refine pu_end hT 3 _ hF42 [0, 1, 6, 7, 9, 12, 13] (G := [(0, .int .u64 ((x0 : Nat) : Int)), (1, .int .u64 ((x1 : Nat) : Int)), (6, .int .u64 (((x0 &&& 4294967295) : Nat) : Int)), (7, .int .u64 (((x0 / 2 ^ 32) : Nat) : Int)), (9, .int .u64 (((x1 / 2 ^ 32) : Nat) : Int)), (12, .int .u64 (((t32 &&& 4294967295) : Nat) : Int)), (13, .int .u64 (((t32 / 2 ^ 32) : Nat) : Int))]) (cs := [t32 < 18446744073709551616]) (by kernel_rfl) rfl (And.intro hb35 trivial) ?_; clear hF42 a41; intro a45 hF46
  refine hK44 _ _ ?_
  refine wp_seq_k (fun K47 hK48 => ?_)
  obtain ⟨t49, ht50, h51⟩ := ltb_some h34; clear h34; replace ht50 : t49 = (((t32 &&& 4294967295) + ((x0 &&& 4294967295) * (x1 / 2 ^ 32) % 18446744073709551616)) % 18446744073709551616) := ht50
  refine wp_region_lit ?_
  refine pu_end hT 6 _ hF46 [0, 1, 7, 9, 13, 12] (G := [(0, .int .u64 ((x0 : Nat) : Int)), (1, .int .u64 ((x1 : Nat) : Int)), (7, .int .u64 (((x0 / 2 ^ 32) : Nat) : Int)), (9, .int .u64 (((x1 / 2 ^ 32) : Nat) : Int)), (13, .int .u64 (((t32 / 2 ^ 32) : Nat) : Int)), (12, .int .u64 (((((t32 &&& 4294967295) + ((x0 &&& 4294967295) * (x1 / 2 ^ 32) % 18446744073709551616)) % 18446744073709551616) : Nat) : Int))]) (cs := []) (by kernel_rfl) rfl trivial ?_; clear hF46 a45; intro a53 hF54
  have hb52 : t49 < 18446744073709551616 := by rw [ht50]; exact (Nat.mod_lt _ (by decide))
  have hF55 : Fr 51 a53 [(0, .int .u64 ((x0 : Nat) : Int)), (1, .int .u64 ((x1 : Nat) : Int)), (7, .int .u64 (((x0 / 2 ^ 32) : Nat) : Int)), (9, .int .u64 (((x1 / 2 ^ 32) : Nat) : Int)), (13, .int .u64 (((t32 / 2 ^ 32) : Nat) : Int)), (12, .int .u64 ((t49 : Nat) : Int))] := hF54.pick [0, 1, 7, 9, 13, 12] (by rw [ht50]; kernel_rfl); clear hF54
  refine hK48 _ _ ?_
  refine wp_seq_k (fun K56 hK57 => ?_)
  obtain ⟨t58, ht59, h60⟩ := ltb_some h51; clear h51; replace ht59 : t58 = ((((((x0 / 2 ^ 32) * (x1 / 2 ^ 32) % 18446744073709551616) + (t32 / 2 ^ 32)) % 18446744073709551616) + (t49 / 2 ^ 32)) % 18446744073709551616) := ht59
  refine wp_region_lit ?_
  refine pu_end hT 9 _ hF55 [0, 1, 4] (G := [(0, .int .u64 ((x0 : Nat) : Int)), (1, .int .u64 ((x1 : Nat) : Int)), (4, .int .u64 ((((((((x0 / 2 ^ 32) * (x1 / 2 ^ 32) % 18446744073709551616) + (t32 / 2 ^ 32)) % 18446744073709551616) + (t49 / 2 ^ 32)) % 18446744073709551616) : Nat) : Int))]) (cs := [t49 < 18446744073709551616]) (by kernel_rfl) rfl (And.intro hb52 trivial) ?_; clear hF55 a53; intro a62 hF63
  have hb61 : t58 < 18446744073709551616 := by rw [ht59]; exact (Nat.mod_lt _ (by decide))
  have hF64 : Fr 51 a62 [(0, .int .u64 ((x0 : Nat) : Int)), (1, .int .u64 ((x1 : Nat) : Int)), (4, .int .u64 ((t58 : Nat) : Int))] := hF63.pick [0, 1, 4] (by rw [ht59]; kernel_rfl); clear hF63
  refine hK57 _ _ ?_
  refine wp_seq_k (fun K65 hK66 => ?_)
  refine wp_region_lit ?_
  refine pu_end hT 4 _ hF64 [4, 5] (G := [(4, .int .u64 ((t58 : Nat) : Int)), (5, .int .u64 (((x0 * x1 % 18446744073709551616) : Nat) : Int))]) (cs := []) (by kernel_rfl) rfl trivial ?_; clear hF64 a62; intro a67 hF68
  refine hK66 _ _ ?_
  refine wp_ret ?_
  obtain rfl := Option.some.inj h60
  obtain ⟨hr1, hs1⟩ := Prod.mk.inj hr0; clear hr0; obtain rfl := hr1
  obtain rfl := hs1
  refine ret2 hF68 rfl (v := .int .u64 ((t58 : Nat) : Int)) (v2 := .int .u64 (((x0 * x1 % 18446744073709551616) : Nat) : Int)) (by kernel_rfl) (by kernel_rfl) ?_
  exact ⟨rfl, hb61, (Nat.mod_lt _ (by decide)), hS.pick [] (by decide) rfl⟩

end Go.Proofs.Ytddphjmcoolinaa
