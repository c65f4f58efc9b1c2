/- Walks of functions, printed by auto.py. -/
import Derived.Test.YtddphjmcoolinaaTi
import Derived.Test.YtddphjmcoolinaaUb
set_option linter.unusedVariables false
set_option linter.unusedSimpArgs false
set_option maxRecDepth 100000
namespace Go.Proofs.Ytddphjmcoolinaa
open Go.Proofs Go.RowKit
noncomputable def F_casemateref13_Greater_l1 (xs0 : List Int) (xs1 : List Int) : Int → Option (Int ⊕ (Unit ⊕ Bool)) := fun (x660 : Int) => if 0 ≤ x660 then (bnd (if x660 < ((xs0.length : Nat) : Int) then (some (xs0.getD x660.toNat 0)) else (some (0 : Int)) : Option Int) (fun (x847 : Int) => bnd (if x660 < ((xs1.length : Nat) : Int) then (some (xs1.getD x660.toNat 0)) else (some (0 : Int)) : Option Int) (fun (x876 : Int) => if x847 = x876 then (gd (-9223372036854775808 ≤ (x660 - 1)) (gd ((x660 - 1) ≤ 9223372036854775807) (some (.inl (x660 - 1))))) else (some (.inr (.inr ((decide (x876 < x847))))))))) else (some (.inr (.inl ())))
noncomputable def F_casemateref13_Greater (xs0 : List Int) (xs1 : List Int) : Option Bool := bnd (gd (-9223372036854775808 ≤ ((((Nat.max xs0.length xs1.length) : Nat) : Int) - 1)) (gd (((((Nat.max xs0.length xs1.length) : Nat) : Int) - 1) ≤ 9223372036854775807) (run (F_casemateref13_Greater_l1 xs0 xs1) ((((Nat.max xs0.length xs1.length) : Nat) : Int) - 1))) : Option (Unit ⊕ Bool)) (sel (fun (_ : Unit) => some false))
set_option maxHeartbeats 4000000 in
theorem W_casemateref13_Greater (pA0 : Option Addr) (pc0 : Nat) (xs0 : List Int) (pA1 : Option Addr) (pc1 : Nat) (xs1 : List Int) (w : World) (pR0 : Rd w pA0 (vi xs0)) (pc_0 : xs0.length ≤ pc0) (pR1 : Rd w pA1 (vi xs1)) (pc_1 : xs1.length ≤ pc1) (r : Bool) (h : F_casemateref13_Greater xs0 xs1 = some r) :
    Calls Try.prog 66 [.slice pA0 xs0.length pc0, .slice pA1 xs1.length pc1].toArray w (Ret fun v w' => v = .bool (r) ∧ Heap w [] w' []) := by
  unfold F_casemateref13_Greater at h
  refine enter Try.func66 rfl (n := 40) Try.ntmps66 (by simp) ?_
  intro a hF
  have hS := Heap.init w
  refine wp_seq_k (fun K1 hK2 => ?_)
  refine wp_region_lit ?_
  refine pu_end hT 1 _ hF [0, 1] (G := [(0, .slice pA0 xs0.length pc0), (1, .slice pA1 xs1.length pc1)]) (cs := []) (by kernel_rfl) rfl trivial ?_; clear hF a; intro a3 hF4
  refine hK2 _ _ ?_
  obtain ⟨xj440, hx441, h442⟩ := bnd_some h; clear h
  refine seqJ (fun a W => (.inl ()) = xj440 ∧ (Fr 40 a []) ∧ (Heap w [] W [])) ?_ ?_
  · skip
    refine wp_seq_k (fun K443 hK444 => ?_)
    obtain ⟨g446, h445⟩ : (-9223372036854775808 ≤ ((((Nat.max xs0.length xs1.length) : Nat) : Int) - 1)) ∧ _ := gd_some hx441; clear hx441
    obtain ⟨g448, h447⟩ : (((((Nat.max xs0.length xs1.length) : Nat) : Int) - 1) ≤ 9223372036854775807) ∧ _ := gd_some h445; clear h445
    refine wp_region_lit ?_
    refine pu_end hT 7 _ hF4 [0, 1, 5] (G := [(0, .slice pA0 xs0.length pc0), (1, .slice pA1 xs1.length pc1), (5, .int .i64 ((((Nat.max xs0.length xs1.length) : Nat) : Int) - 1))]) (cs := [-9223372036854775808 ≤ ((((Nat.max xs0.length xs1.length) : Nat) : Int) - 1), ((((Nat.max xs0.length xs1.length) : Nat) : Int) - 1) ≤ 9223372036854775807]) (by kernel_rfl) rfl (And.intro g446 (And.intro g448 trivial)) ?_; clear hF4 a3; intro a449 hF450
    refine hK444 _ _ ?_
    refine wp_block ?_
    refine loopR (F_casemateref13_Greater_l1 xs0 xs1) xj440 ((((Nat.max xs0.length xs1.length) : Nat) : Int) - 1) h447 (fun s a W => ∃ (x660 : Int), x660 = s ∧ (Fr 40 a [(0, .slice pA0 xs0.length pc0), (1, .slice pA1 xs1.length pc1), (5, .int .i64 x660)]) ∧ (Heap w [] W [])) ⟨((((Nat.max xs0.length xs1.length) : Nat) : Int) - 1), rfl, hF450.pick [0, 1, 5] (by kernel_rfl), hS.pick [] (by decide) rfl⟩ ?_
    clear hF450 hS h447
    rintro k775 _ a770 w771 ⟨x660, rfl, hF772, hS773⟩ hit769 K768 hK767
    obtain ⟨y765, h774, hy766⟩ := iter_succ hit769; clear hit769
    unfold F_casemateref13_Greater_l1 at h774; try dsimp only at h774
    refine wp_seq_k (fun K780 hK781 => ?_)
    refine wp_seq_k (fun K782 hK783 => ?_)
    refine wp_region_lit ?_
    refine pu_end hT 2 _ hF772 [0, 1, 5, 15] (G := [(0, .slice pA0 xs0.length pc0), (1, .slice pA1 xs1.length pc1), (5, .int .i64 x660), (15, .bool ((decide (0 ≤ x660))))]) (cs := []) (by kernel_rfl) rfl trivial ?_; clear hF772 a770; intro a784 hF785
    refine hK783 _ _ ?_
    rcases (ite_some h774 : ((0 ≤ x660) ∧ _) ∨ (¬ (0 ≤ x660) ∧ _)) with ⟨hc786, h787⟩ | ⟨hc786, h787⟩
    · clear h774
      have hF788 : Fr 40 a784 [(0, .slice pA0 xs0.length pc0), (1, .slice pA1 xs1.length pc1), (5, .int .i64 x660), (15, .bool true)] := hF785.pick [0, 1, 5, 15] (by rw [decide_eq_true hc786]; kernel_rfl); clear hF785
      refine condT hF788 (by kernel_rfl) ?_
      refine wp_skip ?_
      refine hK781 _ _ ?_
      refine wp_seq_k (fun K833 hK834 => ?_)
      refine wp_block ?_
      refine wp_seq_k (fun K835 hK836 => ?_)
      refine wp_region_lit ?_
      refine pu_end hT 1 _ hF788 [0, 1, 5, 6] (G := [(0, .slice pA0 xs0.length pc0), (1, .slice pA1 xs1.length pc1), (5, .int .i64 x660), (6, .int .i64 0)]) (cs := []) (by kernel_rfl) rfl trivial ?_; clear hF788 a784; intro a837 hF838
      refine hK836 _ _ ?_
      refine wp_seq_k (fun K839 hK840 => ?_)
      refine wp_region_lit ?_
      refine pu_end hT 1 _ hF838 [0, 1, 5, 6, 7] (G := [(0, .slice pA0 xs0.length pc0), (1, .slice pA1 xs1.length pc1), (5, .int .i64 x660), (6, .int .i64 0), (7, .int .i64 0)]) (cs := []) (by kernel_rfl) rfl trivial ?_; clear hF838 a837; intro a841 hF842
      refine hK840 _ _ ?_
      obtain ⟨xj848, hx849, h850⟩ := bnd_some h787; clear h787
      refine seqJ (fun a W => ∃ (x847 : Int), x847 = xj848 ∧ (Fr 40 a [(0, .slice pA0 xs0.length pc0), (1, .slice pA1 xs1.length pc1), (5, .int .i64 x660), (6, .int .i64 x847), (7, .int .i64 0)]) ∧ (Heap w [] W [])) ?_ ?_
      · skip
        refine wp_seq_k (fun K851 hK852 => ?_)
        refine wp_region_lit ?_
        refine pu_end hT 4 _ hF842 [0, 1, 5, 6, 7, 21] (G := [(0, .slice pA0 xs0.length pc0), (1, .slice pA1 xs1.length pc1), (5, .int .i64 x660), (6, .int .i64 0), (7, .int .i64 0), (21, .bool ((decide (x660 < ((xs0.length : Nat) : Int)))))]) (cs := []) (by kernel_rfl) rfl trivial ?_; clear hF842 a841; intro a853 hF854
        refine hK852 _ _ ?_
        rcases (ite_some hx849 : ((x660 < ((xs0.length : Nat) : Int)) ∧ _) ∨ (¬ (x660 < ((xs0.length : Nat) : Int)) ∧ _)) with ⟨hc855, h856⟩ | ⟨hc855, h856⟩
        · clear hx849
          have hF857 : Fr 40 a853 [(0, .slice pA0 xs0.length pc0), (1, .slice pA1 xs1.length pc1), (5, .int .i64 x660), (6, .int .i64 0), (7, .int .i64 0), (21, .bool true)] := hF854.pick [0, 1, 5, 6, 7, 21] (by rw [decide_eq_true hc855]; kernel_rfl); clear hF854
          refine condT hF857 (by kernel_rfl) ?_
          refine wp_region_lit ?_
          refine pu hT 3 _ hF857 [0, 1, 5, 6, 7, 24] (G := [(0, .slice pA0 xs0.length pc0), (1, .slice pA1 xs1.length pc1), (5, .int .i64 x660), (6, .int .i64 0), (7, .int .i64 0), (24, .pointer (some ⟨(ablk pA0), (aoff pA0 + x660.toNat), none⟩))]) (cs := [0 ≤ x660, x660 < ((xs0.length : Nat) : Int), (pA0 : Option Addr) = some ⟨ablk pA0, aoff pA0, none⟩]) (by kernel_rfl) (And.intro hc786 (And.intro hc855 (And.intro ((hS773.rd0 pR0).some' (by have := (Eq.refl xs0.length); first | omega | (simp only [zA, zS, zT, zD, zR, zC, zN, zV, zI] <;> omega))) trivial))) ?_; clear hF857 a853; intro a858 hF859
          refine wl (s_load hT (d := 25) (A := ⟨(ablk pA0), (aoff pA0 + x660.toNat), none⟩) (v := .int .i64 (xs0.getD x660.toNat 0)) (by kernel_rfl) hF859 (Cells.at (hS773.rd0 pR0).cells (vi_get xs0 (i := x660.toNat) (by have := (Eq.refl xs0.length); first | omega | (simp only [zA, zS, zT, zD, zR, zC, zN, zV, zI] <;> omega) | (simp [*]; done) | (simp [*]; omega))) (by first | rfl | omega)) ?_)
          rintro a860 ha862 hF861; clear ha862 hF859 a858
          have hF863 := hF861.pick [0, 1, 5, 6, 7, 25] (G := [(0, .slice pA0 xs0.length pc0), (1, .slice pA1 xs1.length pc1), (5, .int .i64 x660), (6, .int .i64 0), (7, .int .i64 0), (25, .int .i64 (xs0.getD x660.toNat 0))]) (by kernel_rfl); clear hF861
          refine pu_end hT 1 _ hF863 [0, 1, 5, 7, 6] (G := [(0, .slice pA0 xs0.length pc0), (1, .slice pA1 xs1.length pc1), (5, .int .i64 x660), (7, .int .i64 0), (6, .int .i64 (xs0.getD x660.toNat 0))]) (cs := []) (by kernel_rfl) rfl trivial ?_; clear hF863 a860; intro a864 hF865
          obtain rfl := Option.some.inj h856
          exact ⟨(xs0.getD x660.toNat 0), rfl, hF865.pick [0, 1, 5, 6, 7] (by kernel_rfl), hS773.pick [] (by decide) rfl⟩
        · clear hx849
          have hF866 : Fr 40 a853 [(0, .slice pA0 xs0.length pc0), (1, .slice pA1 xs1.length pc1), (5, .int .i64 x660), (6, .int .i64 0), (7, .int .i64 0), (21, .bool false)] := hF854.pick [0, 1, 5, 6, 7, 21] (by rw [decide_eq_false hc855]; kernel_rfl); clear hF854
          refine condF hF866 (by kernel_rfl) ?_
          refine wp_skip ?_
          obtain rfl := Option.some.inj h856
          exact ⟨(0 : Int), rfl, hF866.pick [0, 1, 5, 6, 7] (by kernel_rfl), hS773.pick [] (by decide) rfl⟩
      · skip
        clear hx849 hF842 hS773 
        rintro a867 w868 ⟨x847, rfl, hF869, hS870⟩
        obtain ⟨xj877, hx878, h879⟩ := bnd_some h850; clear h850
        refine seqJ (fun a W => ∃ (x876 : Int), x876 = xj877 ∧ (Fr 40 a [(0, .slice pA0 xs0.length pc0), (1, .slice pA1 xs1.length pc1), (5, .int .i64 x660), (6, .int .i64 x847), (7, .int .i64 x876)]) ∧ (Heap w [] W [])) ?_ ?_
        · skip
          refine wp_seq_k (fun K880 hK881 => ?_)
          refine wp_region_lit ?_
          refine pu_end hT 4 _ hF869 [0, 1, 5, 6, 7, 29] (G := [(0, .slice pA0 xs0.length pc0), (1, .slice pA1 xs1.length pc1), (5, .int .i64 x660), (6, .int .i64 x847), (7, .int .i64 0), (29, .bool ((decide (x660 < ((xs1.length : Nat) : Int)))))]) (cs := []) (by kernel_rfl) rfl trivial ?_; clear hF869 a867; intro a882 hF883
          refine hK881 _ _ ?_
          rcases (ite_some hx878 : ((x660 < ((xs1.length : Nat) : Int)) ∧ _) ∨ (¬ (x660 < ((xs1.length : Nat) : Int)) ∧ _)) with ⟨hc884, h885⟩ | ⟨hc884, h885⟩
          · clear hx878
            have hF886 : Fr 40 a882 [(0, .slice pA0 xs0.length pc0), (1, .slice pA1 xs1.length pc1), (5, .int .i64 x660), (6, .int .i64 x847), (7, .int .i64 0), (29, .bool true)] := hF883.pick [0, 1, 5, 6, 7, 29] (by rw [decide_eq_true hc884]; kernel_rfl); clear hF883
            refine condT hF886 (by kernel_rfl) ?_
            refine wp_region_lit ?_
            refine pu hT 3 _ hF886 [0, 1, 5, 6, 7, 32] (G := [(0, .slice pA0 xs0.length pc0), (1, .slice pA1 xs1.length pc1), (5, .int .i64 x660), (6, .int .i64 x847), (7, .int .i64 0), (32, .pointer (some ⟨(ablk pA1), (aoff pA1 + x660.toNat), none⟩))]) (cs := [0 ≤ x660, x660 < ((xs1.length : Nat) : Int), (pA1 : Option Addr) = some ⟨ablk pA1, aoff pA1, none⟩]) (by kernel_rfl) (And.intro hc786 (And.intro hc884 (And.intro ((hS870.rd0 pR1).some' (by have := (Eq.refl xs1.length); first | omega | (simp only [zA, zS, zT, zD, zR, zC, zN, zV, zI] <;> omega))) trivial))) ?_; clear hF886 a882; intro a887 hF888
            refine wl (s_load hT (d := 33) (A := ⟨(ablk pA1), (aoff pA1 + x660.toNat), none⟩) (v := .int .i64 (xs1.getD x660.toNat 0)) (by kernel_rfl) hF888 (Cells.at (hS870.rd0 pR1).cells (vi_get xs1 (i := x660.toNat) (by have := (Eq.refl xs1.length); first | omega | (simp only [zA, zS, zT, zD, zR, zC, zN, zV, zI] <;> omega) | (simp [*]; done) | (simp [*]; omega))) (by first | rfl | omega)) ?_)
            rintro a889 ha891 hF890; clear ha891 hF888 a887
            have hF892 := hF890.pick [0, 1, 5, 6, 7, 33] (G := [(0, .slice pA0 xs0.length pc0), (1, .slice pA1 xs1.length pc1), (5, .int .i64 x660), (6, .int .i64 x847), (7, .int .i64 0), (33, .int .i64 (xs1.getD x660.toNat 0))]) (by kernel_rfl); clear hF890
            refine pu_end hT 1 _ hF892 [0, 1, 5, 6, 7] (G := [(0, .slice pA0 xs0.length pc0), (1, .slice pA1 xs1.length pc1), (5, .int .i64 x660), (6, .int .i64 x847), (7, .int .i64 (xs1.getD x660.toNat 0))]) (cs := []) (by kernel_rfl) rfl trivial ?_; clear hF892 a889; intro a893 hF894
            obtain rfl := Option.some.inj h885
            exact ⟨(xs1.getD x660.toNat 0), rfl, hF894.pick [0, 1, 5, 6, 7] (by kernel_rfl), hS870.pick [] (by decide) rfl⟩
          · clear hx878
            have hF895 : Fr 40 a882 [(0, .slice pA0 xs0.length pc0), (1, .slice pA1 xs1.length pc1), (5, .int .i64 x660), (6, .int .i64 x847), (7, .int .i64 0), (29, .bool false)] := hF883.pick [0, 1, 5, 6, 7, 29] (by rw [decide_eq_false hc884]; kernel_rfl); clear hF883
            refine condF hF895 (by kernel_rfl) ?_
            refine wp_skip ?_
            obtain rfl := Option.some.inj h885
            exact ⟨(0 : Int), rfl, hF895.pick [0, 1, 5, 6, 7] (by kernel_rfl), hS870.pick [] (by decide) rfl⟩
        · skip
          clear hx878 hF869 hS870 
          rintro a896 w897 ⟨x876, rfl, hF898, hS899⟩
          refine wp_seq_k (fun K901 hK902 => ?_)
          refine wp_region_lit ?_
          refine pu_end hT 3 _ hF898 [0, 1, 5, 6, 7, 36] (G := [(0, .slice pA0 xs0.length pc0), (1, .slice pA1 xs1.length pc1), (5, .int .i64 x660), (6, .int .i64 x847), (7, .int .i64 x876), (36, .bool (!(decide (x847 = x876))))]) (cs := []) (by kernel_rfl) rfl trivial ?_; clear hF898 a896; intro a903 hF904
          refine hK902 _ _ ?_
          rcases (ite_some h879 : ((x847 = x876) ∧ _) ∨ (¬ (x847 = x876) ∧ _)) with ⟨hc905, h906⟩ | ⟨hc905, h906⟩
          · clear h879
            have hF907 : Fr 40 a903 [(0, .slice pA0 xs0.length pc0), (1, .slice pA1 xs1.length pc1), (5, .int .i64 x660), (6, .int .i64 x847), (7, .int .i64 x876), (36, .bool false)] := hF904.pick [0, 1, 5, 6, 7, 36] (by rw [decide_eq_true hc905]; kernel_rfl); clear hF904
            refine condF hF907 (by kernel_rfl) ?_
            refine wp_skip ?_
            refine hK834 _ _ ?_
            obtain ⟨g909, h908⟩ : (-9223372036854775808 ≤ (x660 - 1)) ∧ _ := gd_some h906; clear h906
            obtain ⟨g911, h910⟩ : ((x660 - 1) ≤ 9223372036854775807) ∧ _ := gd_some h908; clear h908
            refine wp_region_lit ?_
            refine pu_end hT 3 _ hF907 [0, 1, 6, 7, 5] (G := [(0, .slice pA0 xs0.length pc0), (1, .slice pA1 xs1.length pc1), (6, .int .i64 x847), (7, .int .i64 x876), (5, .int .i64 (x660 - 1))]) (cs := [-9223372036854775808 ≤ (x660 - 1), (x660 - 1) ≤ 9223372036854775807]) (by kernel_rfl) rfl (And.intro g909 (And.intro g911 trivial)) ?_; clear hF907 a903; intro a912 hF913
            obtain rfl := Option.some.inj h910
            exact hK767 _ _ _ hy766 ⟨(x660 - 1), rfl, hF913.pick [0, 1, 5] (by kernel_rfl), hS899.pick [] (by decide) rfl⟩
          · clear h879
            have hF914 : Fr 40 a903 [(0, .slice pA0 xs0.length pc0), (1, .slice pA1 xs1.length pc1), (5, .int .i64 x660), (6, .int .i64 x847), (7, .int .i64 x876), (36, .bool true)] := hF904.pick [0, 1, 5, 6, 7, 36] (by rw [decide_eq_false hc905]; kernel_rfl); clear hF904
            refine condT hF914 (by kernel_rfl) ?_
            refine wp_seq_k (fun K915 hK916 => ?_)
            refine wp_region_lit ?_
            refine pu_end hT 4 _ hF914 [4] (G := [(4, .bool ((decide (x876 < x847))))]) (cs := []) (by kernel_rfl) rfl trivial ?_; clear hF914 a903; intro a917 hF918
            refine hK916 _ _ ?_
            refine wp_ret ?_
            obtain rfl := Option.some.inj h906
            obtain rfl : _ = xj440 := hy766
            obtain rfl := Option.some.inj (show some _ = some _ from h442)
            refine ret1 hF918 rfl (v := .bool ((decide (x876 < x847)))) (by kernel_rfl) ?_
            exact ⟨rfl, hS899.pick [] (by decide) rfl⟩
    · clear h774
      have hF919 : Fr 40 a784 [(0, .slice pA0 xs0.length pc0), (1, .slice pA1 xs1.length pc1), (5, .int .i64 x660), (15, .bool false)] := hF785.pick [0, 1, 5, 15] (by rw [decide_eq_false hc786]; kernel_rfl); clear hF785
      refine condF hF919 (by kernel_rfl) ?_
      refine wp_exit ?_
      obtain rfl := Option.some.inj h787
      obtain rfl : _ = xj440 := hy766
      exact ⟨rfl, hF919.pick [] (by kernel_rfl), hS773.pick [] (by decide) rfl⟩
  · skip
    clear hx441 hF4 hS 
    rintro a920 w921 ⟨rfl, hF922, hS923⟩
    refine wp_seq_k (fun K925 hK926 => ?_)
    refine wp_region_lit ?_
    refine pu_end hT 1 _ hF922 [4] (G := [(4, .bool false)]) (cs := []) (by kernel_rfl) rfl trivial ?_; clear hF922 a920; intro a927 hF928
    refine hK926 _ _ ?_
    refine wp_ret ?_
    obtain rfl := Option.some.inj h442
    refine ret1 hF928 rfl (v := .bool false) (by kernel_rfl) ?_
    exact ⟨rfl, hS923.pick [] (by decide) rfl⟩

noncomputable def F_casemateref13_Times_l2 (xs1 : List Int) (x6905 : Nat) (xs0 : List Int) : (List Int × Int × Nat) → Option ((List Int × Int × Nat) ⊕ (List Int × Int × Nat)) := fun (zs8922, x8924, x8925) => bnd (if ((x8925 : Nat) : Int) < ((xs1.length : Nat) : Int) then (some (.inl ())) else (if 0 < x8924 then (some (.inl ())) else (some (.inr (.inr (zs8922, x8924, x8925))))) : Option (Unit ⊕ ((List Int × Int × Nat) ⊕ (List Int × Int × Nat)))) (sel (fun (_ : Unit) => gd ((((x6905 + x8925) : Nat) : Int) ≤ 9223372036854775807) (gd ((((x6905 + x8925) : Nat) : Int) < ((((xs0.length + xs1.length) + 1) : Nat) : Int)) (gd (-9223372036854775808 ≤ ((zs8922.getD (x6905 + x8925) 0) + x8924)) (gd (((zs8922.getD (x6905 + x8925) 0) + x8924) ≤ 9223372036854775807) (bnd (if ((x8925 : Nat) : Int) < ((xs1.length : Nat) : Int) then (gd (-9223372036854775808 ≤ ((xs0.getD x6905 0) * (xs1.getD x8925 0))) (gd (((xs0.getD x6905 0) * (xs1.getD x8925 0)) ≤ 9223372036854775807) (gd (-9223372036854775808 ≤ (((zs8922.getD (x6905 + x8925) 0) + x8924) + ((xs0.getD x6905 0) * (xs1.getD x8925 0)))) (gd ((((zs8922.getD (x6905 + x8925) 0) + x8924) + ((xs0.getD x6905 0) * (xs1.getD x8925 0))) ≤ 9223372036854775807) (ltb ((((zs8922.getD (x6905 + x8925) 0) + x8924) + ((xs0.getD x6905 0) * (xs1.getD x8925 0)))) fun (t9218 : Int) => some t9218))))) else (some ((zs8922.getD (x6905 + x8925) 0) + x8924)) : Option Int) (fun (x9199 : Int) => gd (0 ≤ x9199) (gd (x9199 ≤ 9223372036854775807) (gd ((((x8925 + 1) : Nat) : Int) ≤ 9223372036854775807) (some (.inl ((zs8922.set (x6905 + x8925) (x9199 % 65536)), (x9199 / 65536), (x8925 + 1)))))))))))))
noncomputable def F_casemateref13_Times_l1 (xs0 : List Int) (xs1 : List Int) : (List Int × Nat) → Option ((List Int × Nat) ⊕ (List Int)) := fun (zs6903, x6905) => if ((x6905 : Nat) : Int) < ((xs0.length : Nat) : Int) then (bnd (run (F_casemateref13_Times_l2 xs1 x6905 xs0) (zs6903, (0 : Int), 0) : Option (List Int × Int × Nat)) (fun (zs8639, x8641, x8642) => gd ((((x6905 + 1) : Nat) : Int) ≤ 9223372036854775807) (some (.inl (zs8639, (x6905 + 1)))))) else (some (.inr zs6903))
noncomputable def F_casemateref13_Times (xs0 : List Int) (xs1 : List Int) : Option (List Int) := gd ((((xs0.length + xs1.length) : Nat) : Int) ≤ 9223372036854775807) (gd (((((xs0.length + xs1.length) + 1) : Nat) : Int) ≤ 9223372036854775807) (gd (((xs0.length + xs1.length) + 1) * 8 ≤ 140737488355328) (bnd (run (F_casemateref13_Times_l1 xs0 xs1) ((List.replicate ((xs0.length + xs1.length) + 1) (0 : Int)), 0) : Option (List Int)) (fun (zs4616 : List Int) => some zs4616))))
set_option maxHeartbeats 4000000 in
theorem W_casemateref13_Times (pA0 : Option Addr) (pc0 : Nat) (xs0 : List Int) (pA1 : Option Addr) (pc1 : Nat) (xs1 : List Int) (w : World) (pR0 : Rd w pA0 (vi xs0)) (pc_0 : xs0.length ≤ pc0) (pR1 : Rd w pA1 (vi xs1)) (pc_1 : xs1.length ≤ pc1) (r : List Int) (h : F_casemateref13_Times xs0 xs1 = some r) :
    Calls Try.prog 65 [.slice pA0 xs0.length pc0, .slice pA1 xs1.length pc1].toArray w (Ret fun v w' => ∃ (A_0 : Option Addr), ∃ (c_1 : Nat), v = .slice A_0 r.length c_1 ∧ Heap w [] w' [.row 3 1 A_0 r.length c_1 (vi r)]) := by
  unfold F_casemateref13_Times at h
  refine enter Try.func65 rfl (n := 66) Try.ntmps65 (by simp) ?_
  intro a hF
  have hS := Heap.init w
  refine wp_seq_k (fun K1 hK2 => ?_)
  refine wp_region_lit ?_
  refine pu_end hT 1 _ hF [0, 1] (G := [(0, .slice pA0 xs0.length pc0), (1, .slice pA1 xs1.length pc1)]) (cs := []) (by kernel_rfl) rfl trivial ?_; clear hF a; intro a3 hF4
  refine hK2 _ _ ?_
  refine wp_seq_k (fun K5 hK6 => ?_)
  obtain ⟨g8, h7⟩ : ((((xs0.length + xs1.length) : Nat) : Int) ≤ 9223372036854775807) ∧ _ := gd_some h; clear h
  obtain ⟨g10, h9⟩ : (((((xs0.length + xs1.length) + 1) : Nat) : Int) ≤ 9223372036854775807) ∧ _ := gd_some h7; clear h7
  obtain ⟨g12, h11⟩ : (((xs0.length + xs1.length) + 1) * 8 ≤ 140737488355328) ∧ _ := gd_some h9; clear h9
  refine wp_region_lit ?_
  refine pu hT 6 _ hF4 [0, 1, 15] (G := [(0, .slice pA0 xs0.length pc0), (1, .slice pA1 xs1.length pc1), (15, .int .i64 ((((xs0.length + xs1.length) + 1) : Nat) : Int))]) (cs := [-9223372036854775808 ≤ (((xs0.length + xs1.length) : Nat) : Int), (((xs0.length + xs1.length) : Nat) : Int) ≤ 9223372036854775807, -9223372036854775808 ≤ ((((xs0.length + xs1.length) + 1) : Nat) : Int), ((((xs0.length + xs1.length) + 1) : Nat) : Int) ≤ 9223372036854775807]) (by kernel_rfl) (And.intro (by omega) (And.intro g8 (And.intro (by omega) (And.intro g10 trivial)))) ?_; clear hF4 a3; intro a15 hF16
  refine wl (h_make hT (d := 16) (T := 3) (m := ((xs0.length + xs1.length) + 1)) (i := tr3) (l' := vi (List.replicate ((xs0.length + xs1.length) + 1) (0 : Int))) (by kernel_rfl) (by intro t x y h; cases h; rfl) hF16 hS g12 (by have := g12; simp only [maxLen]; omega) rfl (by first | exact made_list rfl rfl | exact made_vi rfl rfl) ?_)
  rintro a17 w18 A13 hS19 g20 ha21 hF22; clear ha21 hF16 a15 hS
  have hS23 : Heap w [] w18 [.row 3 1 A13 ((xs0.length + xs1.length) + 1) ((xs0.length + xs1.length) + 1) (vi (List.replicate ((xs0.length + xs1.length) + 1) (0 : Int)))] := hS19; clear hS19
  have hF24 := hF22.pick [0, 1, 16] (G := [(0, .slice pA0 xs0.length pc0), (1, .slice pA1 xs1.length pc1), (16, .slice A13 ((xs0.length + xs1.length) + 1) ((xs0.length + xs1.length) + 1))]) (by kernel_rfl); clear hF22
  refine pu_end hT 1 _ hF24 [0, 1, 5] (G := [(0, .slice pA0 xs0.length pc0), (1, .slice pA1 xs1.length pc1), (5, .slice A13 ((xs0.length + xs1.length) + 1) ((xs0.length + xs1.length) + 1))]) (cs := []) (by kernel_rfl) rfl trivial ?_; clear hF24 a17; intro a25 hF26
  refine hK6 _ _ ?_
  obtain ⟨xj4618, hx4619, h4620⟩ := bnd_some h11; clear h11
  refine seqJ (fun a W => ∃ (zs4616 : List Int), zs4616 = xj4618 ∧ (Fr 66 a [(5, .slice A13 ((xs0.length + xs1.length) + 1) ((xs0.length + xs1.length) + 1))]) ∧ (Heap w [] W [.row 3 1 A13 ((xs0.length + xs1.length) + 1) ((xs0.length + xs1.length) + 1) (vi zs4616)]) ∧ (zs4616.length = ((xs0.length + xs1.length) + 1))) ?_ ?_
  · skip
    refine wp_seq_k (fun K4621 hK4622 => ?_)
    refine wp_region_lit ?_
    refine pu_end hT 1 _ hF26 [0, 1, 5, 6] (G := [(0, .slice pA0 xs0.length pc0), (1, .slice pA1 xs1.length pc1), (5, .slice A13 ((xs0.length + xs1.length) + 1) ((xs0.length + xs1.length) + 1)), (6, .int .i64 0)]) (cs := []) (by kernel_rfl) rfl trivial ?_; clear hF26 a25; intro a4623 hF4624
    refine hK4622 _ _ ?_
    refine wp_block ?_
    refine loopR (F_casemateref13_Times_l1 xs0 xs1) xj4618 ((List.replicate ((xs0.length + xs1.length) + 1) (0 : Int)), 0) hx4619 (fun s a W => ∃ (zs6903 : List Int), ∃ (x6905 : Nat), (zs6903, x6905) = s ∧ (Fr 66 a [(0, .slice pA0 xs0.length pc0), (1, .slice pA1 xs1.length pc1), (5, .slice A13 ((xs0.length + xs1.length) + 1) ((xs0.length + xs1.length) + 1)), (6, .int .i64 ((x6905 : Nat) : Int))]) ∧ (Heap w [] W [.row 3 1 A13 ((xs0.length + xs1.length) + 1) ((xs0.length + xs1.length) + 1) (vi zs6903)]) ∧ (zs6903.length = ((xs0.length + xs1.length) + 1))) ⟨(List.replicate ((xs0.length + xs1.length) + 1) (0 : Int)), 0, rfl, hF4624.pick [0, 1, 5, 6] (by kernel_rfl), hS23.pick [0] (by decide) rfl, (len_rep (α := Int) ((xs0.length + xs1.length) + 1) 0)⟩ ?_
    clear hF4624 hS23 hx4619
    rintro k8063 _ a8058 w8059 ⟨zs6903, x6905, rfl, hF8060, hS8061, hh6904⟩ hit8057 K8056 hK8055
    obtain ⟨y8053, h8062, hy8054⟩ := iter_succ hit8057; clear hit8057
    unfold F_casemateref13_Times_l1 at h8062; try dsimp only at h8062
    refine wp_seq_k (fun K8068 hK8069 => ?_)
    refine wp_seq_k (fun K8070 hK8071 => ?_)
    refine wp_region_lit ?_
    refine pu_end hT 4 _ hF8060 [0, 1, 5, 6, 20] (G := [(0, .slice pA0 xs0.length pc0), (1, .slice pA1 xs1.length pc1), (5, .slice A13 ((xs0.length + xs1.length) + 1) ((xs0.length + xs1.length) + 1)), (6, .int .i64 ((x6905 : Nat) : Int)), (20, .bool ((decide (((x6905 : Nat) : Int) < ((xs0.length : Nat) : Int)))))]) (cs := []) (by kernel_rfl) rfl trivial ?_; clear hF8060 a8058; intro a8072 hF8073
    refine hK8071 _ _ ?_
    rcases (ite_some h8062 : ((((x6905 : Nat) : Int) < ((xs0.length : Nat) : Int)) ∧ _) ∨ (¬ (((x6905 : Nat) : Int) < ((xs0.length : Nat) : Int)) ∧ _)) with ⟨hc8074, h8075⟩ | ⟨hc8074, h8075⟩
    · clear h8062
      have hF8076 : Fr 66 a8072 [(0, .slice pA0 xs0.length pc0), (1, .slice pA1 xs1.length pc1), (5, .slice A13 ((xs0.length + xs1.length) + 1) ((xs0.length + xs1.length) + 1)), (6, .int .i64 ((x6905 : Nat) : Int)), (20, .bool true)] := hF8073.pick [0, 1, 5, 6, 20] (by rw [decide_eq_true hc8074]; kernel_rfl); clear hF8073
      refine condT hF8076 (by kernel_rfl) ?_
      refine wp_skip ?_
      refine hK8069 _ _ ?_
      obtain ⟨xj8643, hx8644, h8645⟩ := bnd_some h8075; clear h8075
      refine seqJ (fun a W => ∃ (zs8639 : List Int), ∃ (x8641 : Int), ∃ (x8642 : Nat), (zs8639, x8641, x8642) = xj8643 ∧ (Fr 66 a [(0, .slice pA0 xs0.length pc0), (1, .slice pA1 xs1.length pc1), (5, .slice A13 ((xs0.length + xs1.length) + 1) ((xs0.length + xs1.length) + 1)), (6, .int .i64 ((x6905 : Nat) : Int)), (7, .int .i64 x8641), (8, .int .i64 ((x8642 : Nat) : Int))]) ∧ (Heap w [] W [.row 3 1 A13 ((xs0.length + xs1.length) + 1) ((xs0.length + xs1.length) + 1) (vi zs8639)]) ∧ (zs8639.length = ((xs0.length + xs1.length) + 1))) ?_ ?_
      · skip
        refine wp_block ?_
        refine wp_seq_k (fun K8646 hK8647 => ?_)
        refine wp_region_lit ?_
        refine pu_end hT 1 _ hF8076 [0, 1, 5, 6, 7] (G := [(0, .slice pA0 xs0.length pc0), (1, .slice pA1 xs1.length pc1), (5, .slice A13 ((xs0.length + xs1.length) + 1) ((xs0.length + xs1.length) + 1)), (6, .int .i64 ((x6905 : Nat) : Int)), (7, .int .i64 0)]) (cs := []) (by kernel_rfl) rfl trivial ?_; clear hF8076 a8072; intro a8648 hF8649
        refine hK8647 _ _ ?_
        refine wp_seq_k (fun K8650 hK8651 => ?_)
        refine wp_region_lit ?_
        refine pu_end hT 1 _ hF8649 [0, 1, 5, 6, 7, 8] (G := [(0, .slice pA0 xs0.length pc0), (1, .slice pA1 xs1.length pc1), (5, .slice A13 ((xs0.length + xs1.length) + 1) ((xs0.length + xs1.length) + 1)), (6, .int .i64 ((x6905 : Nat) : Int)), (7, .int .i64 0), (8, .int .i64 0)]) (cs := []) (by kernel_rfl) rfl trivial ?_; clear hF8649 a8648; intro a8652 hF8653
        refine hK8651 _ _ ?_
        refine wp_block ?_
        refine loopR (F_casemateref13_Times_l2 xs1 x6905 xs0) xj8643 (zs6903, (0 : Int), 0) hx8644 (fun s a W => ∃ (zs8922 : List Int), ∃ (x8924 : Int), ∃ (x8925 : Nat), (zs8922, x8924, x8925) = s ∧ (Fr 66 a [(0, .slice pA0 xs0.length pc0), (1, .slice pA1 xs1.length pc1), (5, .slice A13 ((xs0.length + xs1.length) + 1) ((xs0.length + xs1.length) + 1)), (6, .int .i64 ((x6905 : Nat) : Int)), (7, .int .i64 x8924), (8, .int .i64 ((x8925 : Nat) : Int))]) ∧ (Heap w [] W [.row 3 1 A13 ((xs0.length + xs1.length) + 1) ((xs0.length + xs1.length) + 1) (vi zs8922)]) ∧ (zs8922.length = ((xs0.length + xs1.length) + 1))) ⟨zs6903, (0 : Int), 0, rfl, hF8653.pick [0, 1, 5, 6, 7, 8] (by kernel_rfl), hS8061.pick [0] (by decide) rfl, hh6904⟩ ?_
        clear hF8653 hS8061 hx8644
        rintro k9073 _ a9068 w9069 ⟨zs8922, x8924, x8925, rfl, hF9070, hS9071, hh8923⟩ hit9067 K9066 hK9065
        obtain ⟨y9063, h9072, hy9064⟩ := iter_succ hit9067; clear hit9067
        unfold F_casemateref13_Times_l2 at h9072; try dsimp only at h9072
        obtain ⟨xj9081, hx9082, h9083⟩ := bnd_some h9072; clear h9072
        refine seqJ (fun a W => (.inl ()) = xj9081 ∧ (Fr 66 a [(0, .slice pA0 xs0.length pc0), (1, .slice pA1 xs1.length pc1), (5, .slice A13 ((xs0.length + xs1.length) + 1) ((xs0.length + xs1.length) + 1)), (6, .int .i64 ((x6905 : Nat) : Int)), (7, .int .i64 x8924), (8, .int .i64 ((x8925 : Nat) : Int))]) ∧ (Heap w [] W [.row 3 1 A13 ((xs0.length + xs1.length) + 1) ((xs0.length + xs1.length) + 1) (vi zs8922)])) ?_ ?_
        · skip
          refine wp_seq_k (fun K9084 hK9085 => ?_)
          rcases (ite_some hx9082 : ((((x8925 : Nat) : Int) < ((xs1.length : Nat) : Int)) ∧ _) ∨ (¬ (((x8925 : Nat) : Int) < ((xs1.length : Nat) : Int)) ∧ _)) with ⟨hc9086, h9087⟩ | ⟨hc9086, h9087⟩
          · clear hx9082
            refine wp_region_lit ?_
            refine pu hT 5 _ hF9070 [0, 1, 5, 6, 7, 8, 27] (G := [(0, .slice pA0 xs0.length pc0), (1, .slice pA1 xs1.length pc1), (5, .slice A13 ((xs0.length + xs1.length) + 1) ((xs0.length + xs1.length) + 1)), (6, .int .i64 ((x6905 : Nat) : Int)), (7, .int .i64 x8924), (8, .int .i64 ((x8925 : Nat) : Int)), (27, .bool ((decide (((x8925 : Nat) : Int) < ((xs1.length : Nat) : Int)))))]) (cs := []) (by kernel_rfl) trivial ?_; clear hF9070 a9068; intro a9088 hF9089
            have hF9090 : Fr 66 a9088 [(0, .slice pA0 xs0.length pc0), (1, .slice pA1 xs1.length pc1), (5, .slice A13 ((xs0.length + xs1.length) + 1) ((xs0.length + xs1.length) + 1)), (6, .int .i64 ((x6905 : Nat) : Int)), (7, .int .i64 x8924), (8, .int .i64 ((x8925 : Nat) : Int)), (27, .bool true)] := hF9089.pick [0, 1, 5, 6, 7, 8, 27] (by rw [decide_eq_true hc9086]; kernel_rfl); clear hF9089
            refine pu_end hT 3 _ hF9090 [0, 1, 5, 6, 7, 8, 30] (G := [(0, .slice pA0 xs0.length pc0), (1, .slice pA1 xs1.length pc1), (5, .slice A13 ((xs0.length + xs1.length) + 1) ((xs0.length + xs1.length) + 1)), (6, .int .i64 ((x6905 : Nat) : Int)), (7, .int .i64 x8924), (8, .int .i64 ((x8925 : Nat) : Int)), (30, .bool true)]) (cs := []) (by kernel_rfl) rfl trivial ?_; clear hF9090 a9088; intro a9091 hF9092
            refine hK9085 _ _ ?_
            refine condT hF9092 (by kernel_rfl) ?_
            refine wp_skip ?_
            obtain rfl := Option.some.inj h9087
            exact ⟨rfl, hF9092.pick [0, 1, 5, 6, 7, 8] (by kernel_rfl), hS9071.pick [0] (by decide) rfl⟩
          · clear hx9082
            refine wp_region_lit ?_
            refine pu hT 5 _ hF9070 [0, 1, 5, 6, 7, 8, 27] (G := [(0, .slice pA0 xs0.length pc0), (1, .slice pA1 xs1.length pc1), (5, .slice A13 ((xs0.length + xs1.length) + 1) ((xs0.length + xs1.length) + 1)), (6, .int .i64 ((x6905 : Nat) : Int)), (7, .int .i64 x8924), (8, .int .i64 ((x8925 : Nat) : Int)), (27, .bool ((decide (((x8925 : Nat) : Int) < ((xs1.length : Nat) : Int)))))]) (cs := []) (by kernel_rfl) trivial ?_; clear hF9070 a9068; intro a9093 hF9094
            have hF9095 : Fr 66 a9093 [(0, .slice pA0 xs0.length pc0), (1, .slice pA1 xs1.length pc1), (5, .slice A13 ((xs0.length + xs1.length) + 1) ((xs0.length + xs1.length) + 1)), (6, .int .i64 ((x6905 : Nat) : Int)), (7, .int .i64 x8924), (8, .int .i64 ((x8925 : Nat) : Int)), (27, .bool false)] := hF9094.pick [0, 1, 5, 6, 7, 8, 27] (by rw [decide_eq_false hc9086]; kernel_rfl); clear hF9094
            refine pu_end hT 3 _ hF9095 [0, 1, 5, 6, 7, 8, 30] (G := [(0, .slice pA0 xs0.length pc0), (1, .slice pA1 xs1.length pc1), (5, .slice A13 ((xs0.length + xs1.length) + 1) ((xs0.length + xs1.length) + 1)), (6, .int .i64 ((x6905 : Nat) : Int)), (7, .int .i64 x8924), (8, .int .i64 ((x8925 : Nat) : Int)), (30, .bool ((decide (0 < x8924))))]) (cs := []) (by kernel_rfl) rfl trivial ?_; clear hF9095 a9093; intro a9096 hF9097
            refine hK9085 _ _ ?_
            rcases (ite_some h9087 : ((0 < x8924) ∧ _) ∨ (¬ (0 < x8924) ∧ _)) with ⟨hc9098, h9099⟩ | ⟨hc9098, h9099⟩
            · clear h9087
              have hF9100 : Fr 66 a9096 [(0, .slice pA0 xs0.length pc0), (1, .slice pA1 xs1.length pc1), (5, .slice A13 ((xs0.length + xs1.length) + 1) ((xs0.length + xs1.length) + 1)), (6, .int .i64 ((x6905 : Nat) : Int)), (7, .int .i64 x8924), (8, .int .i64 ((x8925 : Nat) : Int)), (30, .bool true)] := hF9097.pick [0, 1, 5, 6, 7, 8, 30] (by rw [decide_eq_true hc9098]; kernel_rfl); clear hF9097
              refine condT hF9100 (by kernel_rfl) ?_
              refine wp_skip ?_
              obtain rfl := Option.some.inj h9099
              exact ⟨rfl, hF9100.pick [0, 1, 5, 6, 7, 8] (by kernel_rfl), hS9071.pick [0] (by decide) rfl⟩
            · clear h9087
              have hF9101 : Fr 66 a9096 [(0, .slice pA0 xs0.length pc0), (1, .slice pA1 xs1.length pc1), (5, .slice A13 ((xs0.length + xs1.length) + 1) ((xs0.length + xs1.length) + 1)), (6, .int .i64 ((x6905 : Nat) : Int)), (7, .int .i64 x8924), (8, .int .i64 ((x8925 : Nat) : Int)), (30, .bool false)] := hF9097.pick [0, 1, 5, 6, 7, 8, 30] (by rw [decide_eq_false hc9098]; kernel_rfl); clear hF9097
              refine condF hF9101 (by kernel_rfl) ?_
              refine wp_exit ?_
              obtain rfl := Option.some.inj h9099
              obtain rfl := Option.some.inj (show some _ = some _ from h9083)
              obtain rfl : _ = xj8643 := hy9064
              exact ⟨zs8922, x8924, x8925, rfl, hF9101.pick [0, 1, 5, 6, 7, 8] (by kernel_rfl), hS9071.pick [0] (by decide) rfl, hh8923⟩
        · skip
          clear hx9082 hF9070 hS9071 
          rintro a9102 w9103 ⟨rfl, hF9104, hS9105⟩
          refine wp_seq_k (fun K9163 hK9164 => ?_)
          refine wp_block ?_
          refine wp_seq_k (fun K9165 hK9166 => ?_)
          obtain ⟨g9168, h9167⟩ : ((((x6905 + x8925) : Nat) : Int) ≤ 9223372036854775807) ∧ _ := gd_some h9083; clear h9083
          obtain ⟨g9170, h9169⟩ : ((((x6905 + x8925) : Nat) : Int) < ((((xs0.length + xs1.length) + 1) : Nat) : Int)) ∧ _ := gd_some h9167; clear h9167
          obtain ⟨g9172, h9171⟩ : (-9223372036854775808 ≤ ((zs8922.getD (x6905 + x8925) 0) + x8924)) ∧ _ := gd_some h9169; clear h9169
          obtain ⟨g9174, h9173⟩ : (((zs8922.getD (x6905 + x8925) 0) + x8924) ≤ 9223372036854775807) ∧ _ := gd_some h9171; clear h9171
          refine wp_region_lit ?_
          refine pu hT 5 _ hF9104 [0, 1, 5, 6, 7, 8, 37] (G := [(0, .slice pA0 xs0.length pc0), (1, .slice pA1 xs1.length pc1), (5, .slice A13 ((xs0.length + xs1.length) + 1) ((xs0.length + xs1.length) + 1)), (6, .int .i64 ((x6905 : Nat) : Int)), (7, .int .i64 x8924), (8, .int .i64 ((x8925 : Nat) : Int)), (37, .pointer (some ⟨(ablk A13), (aoff A13 + (x6905 + x8925)), none⟩))]) (cs := [-9223372036854775808 ≤ (((x6905 + x8925) : Nat) : Int), (((x6905 + x8925) : Nat) : Int) ≤ 9223372036854775807, 0 ≤ (((x6905 + x8925) : Nat) : Int), (((x6905 + x8925) : Nat) : Int) < ((((xs0.length + xs1.length) + 1) : Nat) : Int), (A13 : Option Addr) = some ⟨ablk A13, aoff A13, none⟩]) (by kernel_rfl) (And.intro (by omega) (And.intro g9168 (And.intro (by omega) (And.intro g9170 (And.intro ((hS9105.own 0 rfl).rd.some' (by have := hh8923; first | omega | (simp only [zA, zS, zT, zD, zR, zC, zN, zV, zI] <;> omega))) trivial))))) ?_; clear hF9104 a9102; intro a9175 hF9176
          refine wl (s_load hT (d := 38) (A := ⟨(ablk A13), (aoff A13 + (x6905 + x8925)), none⟩) (v := .int .i64 (zs8922.getD (x6905 + x8925) 0)) (by kernel_rfl) hF9176 (Cells.at (hS9105.own 0 rfl).rd.cells (vi_get zs8922 (i := (x6905 + x8925)) (by have := hh8923; first | omega | (simp only [zA, zS, zT, zD, zR, zC, zN, zV, zI] <;> omega) | (simp [*]; done) | (simp [*]; omega))) (by first | rfl | omega)) ?_)
          rintro a9177 ha9179 hF9178; clear ha9179 hF9176 a9175
          have hF9180 := hF9178.pick [0, 1, 5, 6, 7, 8, 38] (G := [(0, .slice pA0 xs0.length pc0), (1, .slice pA1 xs1.length pc1), (5, .slice A13 ((xs0.length + xs1.length) + 1) ((xs0.length + xs1.length) + 1)), (6, .int .i64 ((x6905 : Nat) : Int)), (7, .int .i64 x8924), (8, .int .i64 ((x8925 : Nat) : Int)), (38, .int .i64 (zs8922.getD (x6905 + x8925) 0))]) (by kernel_rfl); clear hF9178
          refine pu_end hT 3 _ hF9180 [0, 1, 5, 6, 7, 8, 9] (G := [(0, .slice pA0 xs0.length pc0), (1, .slice pA1 xs1.length pc1), (5, .slice A13 ((xs0.length + xs1.length) + 1) ((xs0.length + xs1.length) + 1)), (6, .int .i64 ((x6905 : Nat) : Int)), (7, .int .i64 x8924), (8, .int .i64 ((x8925 : Nat) : Int)), (9, .int .i64 ((zs8922.getD (x6905 + x8925) 0) + x8924))]) (cs := [-9223372036854775808 ≤ ((zs8922.getD (x6905 + x8925) 0) + x8924), ((zs8922.getD (x6905 + x8925) 0) + x8924) ≤ 9223372036854775807]) (by kernel_rfl) rfl (And.intro g9172 (And.intro g9174 trivial)) ?_; clear hF9180 a9177; intro a9181 hF9182
          refine hK9166 _ _ ?_
          obtain ⟨xj9200, hx9201, h9202⟩ := bnd_some h9173; clear h9173
          refine seqJ (fun a W => ∃ (x9199 : Int), x9199 = xj9200 ∧ (Fr 66 a [(0, .slice pA0 xs0.length pc0), (1, .slice pA1 xs1.length pc1), (5, .slice A13 ((xs0.length + xs1.length) + 1) ((xs0.length + xs1.length) + 1)), (6, .int .i64 ((x6905 : Nat) : Int)), (8, .int .i64 ((x8925 : Nat) : Int)), (9, .int .i64 x9199)]) ∧ (Heap w [] W [.row 3 1 A13 ((xs0.length + xs1.length) + 1) ((xs0.length + xs1.length) + 1) (vi zs8922)])) ?_ ?_
          · skip
            refine wp_seq_k (fun K9203 hK9204 => ?_)
            refine wp_region_lit ?_
            refine pu_end hT 4 _ hF9182 [0, 1, 5, 6, 7, 8, 9, 44] (G := [(0, .slice pA0 xs0.length pc0), (1, .slice pA1 xs1.length pc1), (5, .slice A13 ((xs0.length + xs1.length) + 1) ((xs0.length + xs1.length) + 1)), (6, .int .i64 ((x6905 : Nat) : Int)), (7, .int .i64 x8924), (8, .int .i64 ((x8925 : Nat) : Int)), (9, .int .i64 ((zs8922.getD (x6905 + x8925) 0) + x8924)), (44, .bool ((decide (((x8925 : Nat) : Int) < ((xs1.length : Nat) : Int)))))]) (cs := []) (by kernel_rfl) rfl trivial ?_; clear hF9182 a9181; intro a9205 hF9206
            refine hK9204 _ _ ?_
            rcases (ite_some hx9201 : ((((x8925 : Nat) : Int) < ((xs1.length : Nat) : Int)) ∧ _) ∨ (¬ (((x8925 : Nat) : Int) < ((xs1.length : Nat) : Int)) ∧ _)) with ⟨hc9207, h9208⟩ | ⟨hc9207, h9208⟩
            · clear hx9201
              have hF9209 : Fr 66 a9205 [(0, .slice pA0 xs0.length pc0), (1, .slice pA1 xs1.length pc1), (5, .slice A13 ((xs0.length + xs1.length) + 1) ((xs0.length + xs1.length) + 1)), (6, .int .i64 ((x6905 : Nat) : Int)), (7, .int .i64 x8924), (8, .int .i64 ((x8925 : Nat) : Int)), (9, .int .i64 ((zs8922.getD (x6905 + x8925) 0) + x8924)), (44, .bool true)] := hF9206.pick [0, 1, 5, 6, 7, 8, 9, 44] (by rw [decide_eq_true hc9207]; kernel_rfl); clear hF9206
              refine condT hF9209 (by kernel_rfl) ?_
              obtain ⟨g9211, h9210⟩ : (-9223372036854775808 ≤ ((xs0.getD x6905 0) * (xs1.getD x8925 0))) ∧ _ := gd_some h9208; clear h9208
              obtain ⟨g9213, h9212⟩ : (((xs0.getD x6905 0) * (xs1.getD x8925 0)) ≤ 9223372036854775807) ∧ _ := gd_some h9210; clear h9210
              obtain ⟨g9215, h9214⟩ : (-9223372036854775808 ≤ (((zs8922.getD (x6905 + x8925) 0) + x8924) + ((xs0.getD x6905 0) * (xs1.getD x8925 0)))) ∧ _ := gd_some h9212; clear h9212
              obtain ⟨g9217, h9216⟩ : ((((zs8922.getD (x6905 + x8925) 0) + x8924) + ((xs0.getD x6905 0) * (xs1.getD x8925 0))) ≤ 9223372036854775807) ∧ _ := gd_some h9214; clear h9214
              obtain ⟨t9218, ht9219, h9220⟩ := ltb_some h9216; clear h9216; replace ht9219 : t9218 = (((zs8922.getD (x6905 + x8925) 0) + x8924) + ((xs0.getD x6905 0) * (xs1.getD x8925 0))) := ht9219
              have hlt9221 := hS9105.ids
              have hsz9223 := hS9105.size
              let SL9222 : List SP := [SP.val (.int .i64 ((zs8922.getD (x6905 + x8925) 0) + x8924)), SP.val (.slice pA0 xs0.length pc0), SP.val (.int .i64 ((x6905 : Nat) : Int)), SP.val (.pointer (some ⟨(ablk pA0), (aoff pA0 + x6905), none⟩)), SP.val (.int .i64 (xs0.getD x6905 0)), SP.val (.slice pA1 xs1.length pc1), SP.val (.int .i64 ((x8925 : Nat) : Int)), SP.val (.pointer (some ⟨(ablk pA1), (aoff pA1 + x8925), none⟩)), SP.val (.int .i64 (xs1.getD x8925 0)), SP.val (.int .i64 ((xs0.getD x6905 0) * (xs1.getD x8925 0))), SP.val (.int .i64 (((zs8922.getD (x6905 + x8925) 0) + x8924) + ((xs0.getD x6905 0) * (xs1.getD x8925 0)))), SP.val (.int .i64 t9218)]
              refine region_rel (SL := SL9222) (J := (fun (B : Bool) (W : World) => w9103.heap.size ≤ W.heap.size ∧ Heap w [] W [.row 3 1 A13 ((xs0.length + xs1.length) + 1) ((xs0.length + xs1.length) + 1) (vi zs8922)])) (m := 12) wide (by kernel_rfl) (by kernel_rfl) hF9209 rfl ?_ ⟨Nat.le_refl _, hS9105⟩ ⟨?_, ?_, ?_, ?_, ?_, ?_, ?_, ?_, ?_, ?_, ?_, ?_, trivial⟩ [(9, some 11), (0, none), (1, none), (5, none), (6, none), (8, none)] (by kernel_rfl) ?_
              · intro b W W' hj g; exact ⟨Nat.le_trans hj.1 g.size, hj.2.growN g⟩
              · -- operation 0
                rintro a9225 w9224 b9228 KK9234 hs9230 hd9231 hJ9232 hb9233 hr9235 hK9229
                have hr9235x : RD SL9222 b9228 a9225 a9205 w9224 [(9, none)] := hr9235 _ (by kernel_rfl)
                obtain ⟨q9236, -⟩ := hr9235x
                obtain ⟨hX9237, hS9227⟩ := hJ9232
                have hF9226 : Fr 66 a9225 [(9, .int .i64 ((zs8922.getD (x6905 + x8925) 0) + x8924))] := Fr.of hs9230 hd9231 ⟨(Fr.init hF9209 q9236 (by kernel_rfl)), trivial⟩
                refine s_pure hT (d := 45) (v := .int .i64 ((zs8922.getD (x6905 + x8925) 0) + x8924)) (cs := []) (by kernel_rfl) (by kernel_rfl) trivial hF9226 ?_
                rintro a2 ha2 hF2; rw [ha2]
                exact hK9229 _ _ rfl (grown_refl _ _)
              · -- operation 1
                rintro a9239 w9238 b9242 KK9248 hs9244 hd9245 hJ9246 hb9247 hr9249 hK9243
                have hr9249x : RD SL9222 b9242 a9239 a9205 w9238 [(0, none)] := hr9249 _ (by kernel_rfl)
                obtain ⟨q9250, -⟩ := hr9249x
                obtain ⟨hX9251, hS9241⟩ := hJ9246
                have hF9240 : Fr 66 a9239 [(0, .slice pA0 xs0.length pc0)] := Fr.of hs9244 hd9245 ⟨(Fr.init hF9209 q9250 (by kernel_rfl)), trivial⟩
                refine s_pure hT (d := 46) (v := .slice pA0 xs0.length pc0) (cs := []) (by kernel_rfl) (by kernel_rfl) trivial hF9240 ?_
                rintro a2 ha2 hF2; rw [ha2]
                exact hK9243 _ _ rfl (grown_refl _ _)
              · -- operation 2
                rintro a9253 w9252 b9256 KK9262 hs9258 hd9259 hJ9260 hb9261 hr9263 hK9257
                have hr9263x : RD SL9222 b9256 a9253 a9205 w9252 [(6, none)] := hr9263 _ (by kernel_rfl)
                obtain ⟨q9264, -⟩ := hr9263x
                obtain ⟨hX9265, hS9255⟩ := hJ9260
                have hF9254 : Fr 66 a9253 [(6, .int .i64 ((x6905 : Nat) : Int))] := Fr.of hs9258 hd9259 ⟨(Fr.init hF9209 q9264 (by kernel_rfl)), trivial⟩
                refine s_pure hT (d := 47) (v := .int .i64 ((x6905 : Nat) : Int)) (cs := []) (by kernel_rfl) (by kernel_rfl) trivial hF9254 ?_
                rintro a2 ha2 hF2; rw [ha2]
                exact hK9257 _ _ rfl (grown_refl _ _)
              · -- operation 3
                rintro a9267 w9266 b9270 KK9276 hs9272 hd9273 hJ9274 hb9275 hr9277 hK9271
                have hr9277x : RD SL9222 b9270 a9267 a9205 w9266 [(46, some 1), (47, some 2)] := hr9277 _ (by kernel_rfl)
                obtain ⟨⟨v9279, q9278, s9280⟩, ⟨v9282, q9281, s9283⟩, -⟩ := hr9277x
                obtain rfl : v9279 = .slice pA0 xs0.length pc0 := s9280
                obtain rfl : v9282 = .int .i64 ((x6905 : Nat) : Int) := s9283
                obtain ⟨hX9284, hS9269⟩ := hJ9274
                have hF9268 : Fr 66 a9267 [(46, .slice pA0 xs0.length pc0), (47, .int .i64 ((x6905 : Nat) : Int))] := Fr.of hs9272 hd9273 ⟨q9278, q9281, trivial⟩
                refine s_pure hT (d := 48) (v := .pointer (some ⟨(ablk pA0), (aoff pA0 + x6905), none⟩)) (cs := [0 ≤ ((x6905 : Nat) : Int), ((x6905 : Nat) : Int) < ((xs0.length : Nat) : Int), (pA0 : Option Addr) = some ⟨ablk pA0, aoff pA0, none⟩]) (by kernel_rfl) (by kernel_rfl) (And.intro (by omega) (And.intro hc8074 (And.intro ((hS9269.rd0 pR0).some' (by have := (Eq.refl xs0.length); first | omega | (simp only [zA, zS, zT, zD, zR, zC, zN, zV, zI] <;> omega))) trivial))) hF9268 ?_
                rintro a2 ha2 hF2; rw [ha2]
                exact hK9271 _ _ rfl (grown_refl _ _)
              · -- operation 4
                rintro a9286 w9285 b9289 KK9295 hs9291 hd9292 hJ9293 hb9294 hr9296 hK9290
                have hr9296x : RD SL9222 b9289 a9286 a9205 w9285 [(48, some 3)] := hr9296 _ (by kernel_rfl)
                obtain ⟨⟨v9298, q9297, s9299⟩, -⟩ := hr9296x
                obtain rfl : v9298 = .pointer (some ⟨(ablk pA0), (aoff pA0 + x6905), none⟩) := s9299
                obtain ⟨hX9300, hS9288⟩ := hJ9293
                have hF9287 : Fr 66 a9286 [(48, .pointer (some ⟨(ablk pA0), (aoff pA0 + x6905), none⟩))] := Fr.of hs9291 hd9292 ⟨q9297, trivial⟩
                refine s_load hT (d := 49) (A := ⟨(ablk pA0), (aoff pA0 + x6905), none⟩) (v := .int .i64 (xs0.getD x6905 0)) (by kernel_rfl) hF9287 (Cells.at (hS9288.rd0 pR0).cells (vi_get xs0 (i := x6905) (by have := (Eq.refl xs0.length); first | omega | (simp only [zA, zS, zT, zD, zR, zC, zN, zV, zI] <;> omega) | (simp [*]; done) | (simp [*]; omega))) (by first | rfl | omega)) ?_
                rintro a9301 ha9303 hF9302
                rw [ha9303]
                exact hK9290 _ _ rfl (grown_refl _ _)
              · -- operation 5
                rintro a9305 w9304 b9308 KK9314 hs9310 hd9311 hJ9312 hb9313 hr9315 hK9309
                have hr9315x : RD SL9222 b9308 a9305 a9205 w9304 [(1, none)] := hr9315 _ (by kernel_rfl)
                obtain ⟨q9316, -⟩ := hr9315x
                obtain ⟨hX9317, hS9307⟩ := hJ9312
                have hF9306 : Fr 66 a9305 [(1, .slice pA1 xs1.length pc1)] := Fr.of hs9310 hd9311 ⟨(Fr.init hF9209 q9316 (by kernel_rfl)), trivial⟩
                refine s_pure hT (d := 50) (v := .slice pA1 xs1.length pc1) (cs := []) (by kernel_rfl) (by kernel_rfl) trivial hF9306 ?_
                rintro a2 ha2 hF2; rw [ha2]
                exact hK9309 _ _ rfl (grown_refl _ _)
              · -- operation 6
                rintro a9319 w9318 b9322 KK9328 hs9324 hd9325 hJ9326 hb9327 hr9329 hK9323
                have hr9329x : RD SL9222 b9322 a9319 a9205 w9318 [(8, none)] := hr9329 _ (by kernel_rfl)
                obtain ⟨q9330, -⟩ := hr9329x
                obtain ⟨hX9331, hS9321⟩ := hJ9326
                have hF9320 : Fr 66 a9319 [(8, .int .i64 ((x8925 : Nat) : Int))] := Fr.of hs9324 hd9325 ⟨(Fr.init hF9209 q9330 (by kernel_rfl)), trivial⟩
                refine s_pure hT (d := 51) (v := .int .i64 ((x8925 : Nat) : Int)) (cs := []) (by kernel_rfl) (by kernel_rfl) trivial hF9320 ?_
                rintro a2 ha2 hF2; rw [ha2]
                exact hK9323 _ _ rfl (grown_refl _ _)
              · -- operation 7
                rintro a9333 w9332 b9336 KK9342 hs9338 hd9339 hJ9340 hb9341 hr9343 hK9337
                have hr9343x : RD SL9222 b9336 a9333 a9205 w9332 [(50, some 5), (51, some 6)] := hr9343 _ (by kernel_rfl)
                obtain ⟨⟨v9345, q9344, s9346⟩, ⟨v9348, q9347, s9349⟩, -⟩ := hr9343x
                obtain rfl : v9345 = .slice pA1 xs1.length pc1 := s9346
                obtain rfl : v9348 = .int .i64 ((x8925 : Nat) : Int) := s9349
                obtain ⟨hX9350, hS9335⟩ := hJ9340
                have hF9334 : Fr 66 a9333 [(50, .slice pA1 xs1.length pc1), (51, .int .i64 ((x8925 : Nat) : Int))] := Fr.of hs9338 hd9339 ⟨q9344, q9347, trivial⟩
                refine s_pure hT (d := 52) (v := .pointer (some ⟨(ablk pA1), (aoff pA1 + x8925), none⟩)) (cs := [0 ≤ ((x8925 : Nat) : Int), ((x8925 : Nat) : Int) < ((xs1.length : Nat) : Int), (pA1 : Option Addr) = some ⟨ablk pA1, aoff pA1, none⟩]) (by kernel_rfl) (by kernel_rfl) (And.intro (by omega) (And.intro hc9207 (And.intro ((hS9335.rd0 pR1).some' (by have := (Eq.refl xs1.length); first | omega | (simp only [zA, zS, zT, zD, zR, zC, zN, zV, zI] <;> omega))) trivial))) hF9334 ?_
                rintro a2 ha2 hF2; rw [ha2]
                exact hK9337 _ _ rfl (grown_refl _ _)
              · -- operation 8
                rintro a9352 w9351 b9355 KK9361 hs9357 hd9358 hJ9359 hb9360 hr9362 hK9356
                have hr9362x : RD SL9222 b9355 a9352 a9205 w9351 [(52, some 7)] := hr9362 _ (by kernel_rfl)
                obtain ⟨⟨v9364, q9363, s9365⟩, -⟩ := hr9362x
                obtain rfl : v9364 = .pointer (some ⟨(ablk pA1), (aoff pA1 + x8925), none⟩) := s9365
                obtain ⟨hX9366, hS9354⟩ := hJ9359
                have hF9353 : Fr 66 a9352 [(52, .pointer (some ⟨(ablk pA1), (aoff pA1 + x8925), none⟩))] := Fr.of hs9357 hd9358 ⟨q9363, trivial⟩
                refine s_load hT (d := 53) (A := ⟨(ablk pA1), (aoff pA1 + x8925), none⟩) (v := .int .i64 (xs1.getD x8925 0)) (by kernel_rfl) hF9353 (Cells.at (hS9354.rd0 pR1).cells (vi_get xs1 (i := x8925) (by have := (Eq.refl xs1.length); first | omega | (simp only [zA, zS, zT, zD, zR, zC, zN, zV, zI] <;> omega) | (simp [*]; done) | (simp [*]; omega))) (by first | rfl | omega)) ?_
                rintro a9367 ha9369 hF9368
                rw [ha9369]
                exact hK9356 _ _ rfl (grown_refl _ _)
              · -- operation 9
                rintro a9371 w9370 b9374 KK9380 hs9376 hd9377 hJ9378 hb9379 hr9381 hK9375
                have hr9381x : RD SL9222 b9374 a9371 a9205 w9370 [(49, some 4), (53, some 8)] := hr9381 _ (by kernel_rfl)
                obtain ⟨⟨v9383, q9382, s9384⟩, ⟨v9386, q9385, s9387⟩, -⟩ := hr9381x
                obtain rfl : v9383 = .int .i64 (xs0.getD x6905 0) := s9384
                obtain rfl : v9386 = .int .i64 (xs1.getD x8925 0) := s9387
                obtain ⟨hX9388, hS9373⟩ := hJ9378
                have hF9372 : Fr 66 a9371 [(49, .int .i64 (xs0.getD x6905 0)), (53, .int .i64 (xs1.getD x8925 0))] := Fr.of hs9376 hd9377 ⟨q9382, q9385, trivial⟩
                refine s_pure hT (d := 54) (v := .int .i64 ((xs0.getD x6905 0) * (xs1.getD x8925 0))) (cs := [-9223372036854775808 ≤ ((xs0.getD x6905 0) * (xs1.getD x8925 0)), ((xs0.getD x6905 0) * (xs1.getD x8925 0)) ≤ 9223372036854775807]) (by kernel_rfl) (by kernel_rfl) (And.intro g9211 (And.intro g9213 trivial)) hF9372 ?_
                rintro a2 ha2 hF2; rw [ha2]
                exact hK9375 _ _ rfl (grown_refl _ _)
              · -- operation 10
                rintro a9390 w9389 b9393 KK9399 hs9395 hd9396 hJ9397 hb9398 hr9400 hK9394
                have hr9400x : RD SL9222 b9393 a9390 a9205 w9389 [(45, some 0), (54, some 9)] := hr9400 _ (by kernel_rfl)
                obtain ⟨⟨v9402, q9401, s9403⟩, ⟨v9405, q9404, s9406⟩, -⟩ := hr9400x
                obtain rfl : v9402 = .int .i64 ((zs8922.getD (x6905 + x8925) 0) + x8924) := s9403
                obtain rfl : v9405 = .int .i64 ((xs0.getD x6905 0) * (xs1.getD x8925 0)) := s9406
                obtain ⟨hX9407, hS9392⟩ := hJ9397
                have hF9391 : Fr 66 a9390 [(45, .int .i64 ((zs8922.getD (x6905 + x8925) 0) + x8924)), (54, .int .i64 ((xs0.getD x6905 0) * (xs1.getD x8925 0)))] := Fr.of hs9395 hd9396 ⟨q9401, q9404, trivial⟩
                refine s_pure hT (d := 55) (v := .int .i64 (((zs8922.getD (x6905 + x8925) 0) + x8924) + ((xs0.getD x6905 0) * (xs1.getD x8925 0)))) (cs := [-9223372036854775808 ≤ (((zs8922.getD (x6905 + x8925) 0) + x8924) + ((xs0.getD x6905 0) * (xs1.getD x8925 0))), (((zs8922.getD (x6905 + x8925) 0) + x8924) + ((xs0.getD x6905 0) * (xs1.getD x8925 0))) ≤ 9223372036854775807]) (by kernel_rfl) (by kernel_rfl) (And.intro g9215 (And.intro g9217 trivial)) hF9391 ?_
                rintro a2 ha2 hF2; rw [ha2]
                exact hK9394 _ _ rfl (grown_refl _ _)
              · -- operation 11
                rintro a9409 w9408 b9412 KK9418 hs9414 hd9415 hJ9416 hb9417 hr9419 hK9413
                have hr9419x : RD SL9222 b9412 a9409 a9205 w9408 [(55, some 10)] := hr9419 _ (by kernel_rfl)
                obtain ⟨⟨v9421, q9420, s9422⟩, -⟩ := hr9419x
                obtain rfl : v9421 = .int .i64 (((zs8922.getD (x6905 + x8925) 0) + x8924) + ((xs0.getD x6905 0) * (xs1.getD x8925 0))) := s9422
                obtain ⟨hX9423, hS9411⟩ := hJ9416
                have hF9410 : Fr 66 a9409 [(55, .int .i64 (((zs8922.getD (x6905 + x8925) 0) + x8924) + ((xs0.getD x6905 0) * (xs1.getD x8925 0))))] := Fr.of hs9414 hd9415 ⟨q9420, trivial⟩
                refine s_pure hT (d := 9) (v := .int .i64 (((zs8922.getD (x6905 + x8925) 0) + x8924) + ((xs0.getD x6905 0) * (xs1.getD x8925 0)))) (cs := []) (by kernel_rfl) (by kernel_rfl) trivial hF9410 ?_
                rintro a2 ha2 hF2; rw [ha2]
                exact hK9413 _ _ (show (.int .i64 (((zs8922.getD (x6905 + x8925) 0) + x8924) + ((xs0.getD x6905 0) * (xs1.getD x8925 0))) : Value) = .int .i64 t9218 by (rw [ht9219] <;> rfl)) (grown_refl _ _)
              · -- behind the region
                rintro a9424 w9425 hs9426 hd9427 ⟨⟨v9430, q9431, s9432⟩, q9433, q9434, q9435, q9436, q9437, -⟩ ⟨hX9429, hS9428⟩
                obtain rfl : v9430 = .int .i64 t9218 := s9432
                have hF9438 : Fr 66 a9424 [(9, .int .i64 t9218), (0, .slice pA0 xs0.length pc0), (1, .slice pA1 xs1.length pc1), (5, .slice A13 ((xs0.length + xs1.length) + 1) ((xs0.length + xs1.length) + 1)), (6, .int .i64 ((x6905 : Nat) : Int)), (8, .int .i64 ((x8925 : Nat) : Int))] := Fr.of hs9426 hd9427 ⟨q9431, (Fr.init hF9209 q9433 (by kernel_rfl)), (Fr.init hF9209 q9434 (by kernel_rfl)), (Fr.init hF9209 q9435 (by kernel_rfl)), (Fr.init hF9209 q9436 (by kernel_rfl)), (Fr.init hF9209 q9437 (by kernel_rfl)), trivial⟩
                clear hF9209 hS9105 hs9426 hd9427 q9431 q9433 q9434 q9435 q9436 q9437
                obtain rfl := Option.some.inj h9220
                exact ⟨t9218, rfl, hF9438.pick [0, 1, 5, 6, 8, 9] (by kernel_rfl), hS9428.pick [0] (by decide) rfl⟩
            · clear hx9201
              have hF9439 : Fr 66 a9205 [(0, .slice pA0 xs0.length pc0), (1, .slice pA1 xs1.length pc1), (5, .slice A13 ((xs0.length + xs1.length) + 1) ((xs0.length + xs1.length) + 1)), (6, .int .i64 ((x6905 : Nat) : Int)), (7, .int .i64 x8924), (8, .int .i64 ((x8925 : Nat) : Int)), (9, .int .i64 ((zs8922.getD (x6905 + x8925) 0) + x8924)), (44, .bool false)] := hF9206.pick [0, 1, 5, 6, 7, 8, 9, 44] (by rw [decide_eq_false hc9207]; kernel_rfl); clear hF9206
              refine condF hF9439 (by kernel_rfl) ?_
              refine wp_skip ?_
              obtain rfl := Option.some.inj h9208
              exact ⟨((zs8922.getD (x6905 + x8925) 0) + x8924), rfl, hF9439.pick [0, 1, 5, 6, 8, 9] (by kernel_rfl), hS9105.pick [0] (by decide) rfl⟩
          · skip
            clear hx9201 hF9182 hS9105 
            rintro a9440 w9441 ⟨x9199, rfl, hF9442, hS9443⟩
            refine wp_seq_k (fun K9445 hK9446 => ?_)
            obtain ⟨g9448, h9447⟩ : (0 ≤ x9199) ∧ _ := gd_some h9202; clear h9202
            refine wp_region_lit ?_
            refine pu hT 7 _ hF9442 [0, 1, 5, 6, 8, 9, 61, 62] (G := [(0, .slice pA0 xs0.length pc0), (1, .slice pA1 xs1.length pc1), (5, .slice A13 ((xs0.length + xs1.length) + 1) ((xs0.length + xs1.length) + 1)), (6, .int .i64 ((x6905 : Nat) : Int)), (8, .int .i64 ((x8925 : Nat) : Int)), (9, .int .i64 x9199), (61, .int .i64 (x9199 % 65536)), (62, .pointer (some ⟨(ablk A13), (aoff A13 + (x6905 + x8925)), none⟩))]) (cs := [-9223372036854775808 ≤ (((x6905 + x8925) : Nat) : Int), (((x6905 + x8925) : Nat) : Int) ≤ 9223372036854775807, 0 ≤ x9199, 0 < (65536 : Int), 0 ≤ (((x6905 + x8925) : Nat) : Int), (((x6905 + x8925) : Nat) : Int) < ((((xs0.length + xs1.length) + 1) : Nat) : Int), (A13 : Option Addr) = some ⟨ablk A13, aoff A13, none⟩]) (by kernel_rfl) (And.intro (by omega) (And.intro g9168 (And.intro g9448 (And.intro (by decide) (And.intro (by omega) (And.intro g9170 (And.intro ((hS9443.own 0 rfl).rd.some' (by have := hh8923; first | omega | (simp only [zA, zS, zT, zD, zR, zC, zN, zV, zI] <;> omega))) trivial))))))) ?_; clear hF9442 a9440; intro a9449 hF9450
            refine wl (h_storeR hT (off := (x6905 + x8925)) (p := ⟨(ablk A13), (aoff A13 + (x6905 + x8925)), none⟩) (v := .int .i64 (x9199 % 65536)) (l' := vi (zs8922.set (x6905 + x8925) (x9199 % 65536))) (by kernel_rfl) hF9450 hS9443 0 rfl (by have := hh8923; have := (hS9443.own 0 rfl).cap; simp only [zA, zS, zT, zD, zR, zC, zN, zV, zI] <;> omega) (by first | rfl | (congr 1; omega)) (by first | exact vs_set _ _ _ _ | exact vi_set _ _ _ | rfl) ?_)
            rintro a9451 w9452 ha9455 hF9456 hS9453 g9454; clear ha9455 hF9450 a9449 hS9443
            have hS9457 : Heap w [] w9452 [.row 3 1 A13 ((xs0.length + xs1.length) + 1) ((xs0.length + xs1.length) + 1) (vi (zs8922.set (x6905 + x8925) (x9199 % 65536)))] := hS9453; clear hS9453
            have hF9458 := hF9456.pick [0, 1, 5, 6, 8, 9] (G := [(0, .slice pA0 xs0.length pc0), (1, .slice pA1 xs1.length pc1), (5, .slice A13 ((xs0.length + xs1.length) + 1) ((xs0.length + xs1.length) + 1)), (6, .int .i64 ((x6905 : Nat) : Int)), (8, .int .i64 ((x8925 : Nat) : Int)), (9, .int .i64 x9199)]) (by kernel_rfl); clear hF9456
            refine wpList_nil ?_
            refine hK9446 _ _ ?_
            obtain ⟨g9460, h9459⟩ : (x9199 ≤ 9223372036854775807) ∧ _ := gd_some h9447; clear h9447
            refine wp_region_lit ?_
            refine pu_end hT 3 _ hF9458 [0, 1, 5, 6, 8, 9, 7] (G := [(0, .slice pA0 xs0.length pc0), (1, .slice pA1 xs1.length pc1), (5, .slice A13 ((xs0.length + xs1.length) + 1) ((xs0.length + xs1.length) + 1)), (6, .int .i64 ((x6905 : Nat) : Int)), (8, .int .i64 ((x8925 : Nat) : Int)), (9, .int .i64 x9199), (7, .int .i64 (x9199 / 65536))]) (cs := [0 ≤ x9199, x9199 ≤ 9223372036854775807, 0 < (65536 : Int)]) (by kernel_rfl) rfl (And.intro g9448 (And.intro g9460 (And.intro (by decide) trivial))) ?_; clear hF9458 a9451; intro a9461 hF9462
            refine hK9164 _ _ ?_
            obtain ⟨g9464, h9463⟩ : ((((x8925 + 1) : Nat) : Int) ≤ 9223372036854775807) ∧ _ := gd_some h9459; clear h9459
            refine wp_region_lit ?_
            refine pu_end hT 3 _ hF9462 [0, 1, 5, 6, 9, 7, 8] (G := [(0, .slice pA0 xs0.length pc0), (1, .slice pA1 xs1.length pc1), (5, .slice A13 ((xs0.length + xs1.length) + 1) ((xs0.length + xs1.length) + 1)), (6, .int .i64 ((x6905 : Nat) : Int)), (9, .int .i64 x9199), (7, .int .i64 (x9199 / 65536)), (8, .int .i64 (((x8925 + 1) : Nat) : Int))]) (cs := [-9223372036854775808 ≤ (((x8925 + 1) : Nat) : Int), (((x8925 + 1) : Nat) : Int) ≤ 9223372036854775807]) (by kernel_rfl) rfl (And.intro (by omega) (And.intro g9464 trivial)) ?_; clear hF9462 a9461; intro a9465 hF9466
            obtain rfl := Option.some.inj h9463
            exact hK9065 _ _ _ hy9064 ⟨(zs8922.set (x6905 + x8925) (x9199 % 65536)), (x9199 / 65536), (x8925 + 1), rfl, hF9466.pick [0, 1, 5, 6, 7, 8] (by kernel_rfl), hS9457.pick [0] (by decide) rfl, (len_set hh8923 (x6905 + x8925) (x9199 % 65536))⟩
      · skip
        clear hx8644 hF8076 hS8061 
        rintro a9467 w9468 ⟨zs8639, x8641, x8642, rfl, hF9469, hS9470, hh8640⟩
        obtain ⟨g9473, h9472⟩ : ((((x6905 + 1) : Nat) : Int) ≤ 9223372036854775807) ∧ _ := gd_some h8645; clear h8645
        refine wp_region_lit ?_
        refine pu_end hT 3 _ hF9469 [0, 1, 5, 7, 8, 6] (G := [(0, .slice pA0 xs0.length pc0), (1, .slice pA1 xs1.length pc1), (5, .slice A13 ((xs0.length + xs1.length) + 1) ((xs0.length + xs1.length) + 1)), (7, .int .i64 x8641), (8, .int .i64 ((x8642 : Nat) : Int)), (6, .int .i64 (((x6905 + 1) : Nat) : Int))]) (cs := [-9223372036854775808 ≤ (((x6905 + 1) : Nat) : Int), (((x6905 + 1) : Nat) : Int) ≤ 9223372036854775807]) (by kernel_rfl) rfl (And.intro (by omega) (And.intro g9473 trivial)) ?_; clear hF9469 a9467; intro a9474 hF9475
        obtain rfl := Option.some.inj h9472
        exact hK8055 _ _ _ hy8054 ⟨zs8639, (x6905 + 1), rfl, hF9475.pick [0, 1, 5, 6] (by kernel_rfl), hS9470.pick [0] (by decide) rfl, hh8640⟩
    · clear h8062
      have hF9476 : Fr 66 a8072 [(0, .slice pA0 xs0.length pc0), (1, .slice pA1 xs1.length pc1), (5, .slice A13 ((xs0.length + xs1.length) + 1) ((xs0.length + xs1.length) + 1)), (6, .int .i64 ((x6905 : Nat) : Int)), (20, .bool false)] := hF8073.pick [0, 1, 5, 6, 20] (by rw [decide_eq_false hc8074]; kernel_rfl); clear hF8073
      refine condF hF9476 (by kernel_rfl) ?_
      refine wp_exit ?_
      obtain rfl := Option.some.inj h8075
      obtain rfl : _ = xj4618 := hy8054
      exact ⟨zs6903, rfl, hF9476.pick [5] (by kernel_rfl), hS8061.pick [0] (by decide) rfl, hh6904⟩
  · skip
    clear hx4619 hF26 hS23 
    rintro a9477 w9478 ⟨zs4616, rfl, hF9479, hS9480, hh4617⟩
    refine wp_seq_k (fun K9482 hK9483 => ?_)
    refine wp_region_lit ?_
    refine pu_end hT 2 _ hF9479 [4] (G := [(4, .slice A13 ((xs0.length + xs1.length) + 1) ((xs0.length + xs1.length) + 1))]) (cs := []) (by kernel_rfl) rfl trivial ?_; clear hF9479 a9477; intro a9484 hF9485
    refine hK9483 _ _ ?_
    refine wp_ret ?_
    obtain rfl := Option.some.inj h4620
    have hS9486 : Heap w [] w9478 [.row 3 1 A13 zs4616.length ((xs0.length + xs1.length) + 1) (vi zs4616)] := by rw [(hh4617 : zs4616.length = ((xs0.length + xs1.length) + 1))]; exact hS9480
    have hF9487 : Fr 66 a9484 [(4, .slice A13 zs4616.length ((xs0.length + xs1.length) + 1))] := by rw [(hh4617 : zs4616.length = ((xs0.length + xs1.length) + 1))]; exact hF9485.pick [4] (by kernel_rfl)
    refine ret1 hF9487 rfl (v := .slice A13 zs4616.length ((xs0.length + xs1.length) + 1)) (by kernel_rfl) ?_
    exact ⟨A13, ((xs0.length + xs1.length) + 1), rfl, hS9486.pick [0] (by decide) rfl⟩

noncomputable def F_casemateref13_Primes_l2 (zs2733 : List Int) (x2734 : Nat) : (Bool × Nat) → Option ((Bool × Nat) ⊕ (Bool × Nat)) := fun (b3815, x3816) => if ((x3816 : Nat) : Int) < ((zs2733.length : Nat) : Int) then (bnd (if b3815 = true then (gd (0 < (zs2733.getD x3816 0)) (some (!(decide ((((x2734 : Nat) : Int) % (zs2733.getD x3816 0)) = 0))))) else (some (false)) : Option Bool) (fun (b3876 : Bool) => gd ((((x3816 + 1) : Nat) : Int) ≤ 9223372036854775807) (some (.inl ((b3876), (x3816 + 1)))))) else (some (.inr ((b3815), x3816)))
noncomputable def F_casemateref13_Primes_l1 (x0 : Int) : (List Int × Nat) → Option ((List Int × Nat) ⊕ (List Int)) := fun (zs2733, x2734) => if ((zs2733.length : Nat) : Int) < x0 then (bnd (bnd (run (F_casemateref13_Primes_l2 zs2733 x2734) ((true), 0) : Option (Bool × Nat)) (fun (b3755, x3756) => if b3755 = true then (gd ((zs2733.length + 1) * 8 ≤ 140737488355328) (some ((zs2733 ++ [((x2734 : Nat) : Int)]), (true), x3756))) else (some (zs2733, (false), x3756))) : Option (List Int × Bool × Nat)) (fun (zs3618, b3619, x3620) => gd ((((x2734 + 1) : Nat) : Int) ≤ 9223372036854775807) (some (.inl (zs3618, (x2734 + 1)))))) else (some (.inr zs2733))
noncomputable def F_casemateref13_Primes (x0 : Int) : Option (List Int) := bnd (run (F_casemateref13_Primes_l1 x0) ([], 2) : Option (List Int)) (fun (zs1955 : List Int) => some zs1955)
set_option maxHeartbeats 4000000 in
theorem W_casemateref13_Primes (x0 : Int) (w : World) (r : List Int) (h : F_casemateref13_Primes x0 = some r) :
    Calls Try.prog 29 [.int .i64 x0].toArray w (Ret fun v w' => ∃ (A_0 : Option Addr), ∃ (c_1 : Nat), v = .slice A_0 r.length c_1 ∧ Heap w [] w' [.row 3 1 A_0 r.length c_1 (vi r)]) := by
  unfold F_casemateref13_Primes at h
  refine enter Try.func29 rfl (n := 35) Try.ntmps29 (by simp) ?_
  intro a hF
  have hS := Heap.init w
  refine wp_seq_k (fun K1 hK2 => ?_)
  refine wp_region_lit ?_
  refine pu_end hT 1 _ hF [0] (G := [(0, .int .i64 x0)]) (cs := []) (by kernel_rfl) rfl trivial ?_; clear hF a; intro a3 hF4
  refine hK2 _ _ ?_
  refine wp_seq_k (fun K5 hK6 => ?_)
  refine wp_region_lit ?_
  refine pu_end hT 1 _ hF4 [0, 3] (G := [(0, .int .i64 x0), (3, .slice none 0 0)]) (cs := []) (by kernel_rfl) rfl trivial ?_; clear hF4 a3; intro a7 hF8
  refine hK6 _ _ ?_
  obtain ⟨xj1956, hx1957, h1958⟩ := bnd_some h; clear h
  refine seqJ (fun a W => ∃ (zs1955 : List Int), ∃ (A1953 : Option Addr), ∃ (c1954 : Nat), zs1955 = xj1956 ∧ (Fr 35 a [(3, .slice A1953 zs1955.length c1954)]) ∧ (Heap w [] W [.row 3 1 A1953 zs1955.length c1954 (vi zs1955)])) ?_ ?_
  · skip
    refine wp_seq_k (fun K1959 hK1960 => ?_)
    refine wp_region_lit ?_
    refine pu_end hT 1 _ hF8 [0, 3, 4] (G := [(0, .int .i64 x0), (3, .slice none 0 0), (4, .int .i64 2)]) (cs := []) (by kernel_rfl) rfl trivial ?_; clear hF8 a7; intro a1961 hF1962
    refine hK1960 _ _ ?_
    refine wp_block ?_
    have hS3314 : Heap w [] w [.row 3 1 none 0 0 (vi [])] := Heap.row0 hS 3 1; clear hS
    refine loopR (F_casemateref13_Primes_l1 x0) xj1956 ([], 2) hx1957 (fun s a W => ∃ (zs2733 : List Int), ∃ (x2734 : Nat), ∃ (A2731 : Option Addr), ∃ (c2732 : Nat), (zs2733, x2734) = s ∧ (Fr 35 a [(0, .int .i64 x0), (3, .slice A2731 zs2733.length c2732), (4, .int .i64 ((x2734 : Nat) : Int))]) ∧ (Heap w [] W [.row 3 1 A2731 zs2733.length c2732 (vi zs2733)])) ⟨[], 2, none, 0, rfl, hF1962.pick [0, 3, 4] (by kernel_rfl), hS3314.pick [0] (by decide) rfl⟩ ?_
    clear hF1962 hS3314 hx1957
    rintro k3325 _ a3320 w3321 ⟨zs2733, x2734, A2731, c2732, rfl, hF3322, hS3323⟩ hit3319 K3318 hK3317
    obtain ⟨y3315, h3324, hy3316⟩ := iter_succ hit3319; clear hit3319
    unfold F_casemateref13_Primes_l1 at h3324; try dsimp only at h3324
    refine wp_seq_k (fun K3330 hK3331 => ?_)
    refine wp_seq_k (fun K3332 hK3333 => ?_)
    refine wp_region_lit ?_
    refine pu_end hT 4 _ hF3322 [0, 3, 4, 10] (G := [(0, .int .i64 x0), (3, .slice A2731 zs2733.length c2732), (4, .int .i64 ((x2734 : Nat) : Int)), (10, .bool ((decide (((zs2733.length : Nat) : Int) < x0))))]) (cs := []) (by kernel_rfl) rfl trivial ?_; clear hF3322 a3320; intro a3334 hF3335
    refine hK3333 _ _ ?_
    rcases (ite_some h3324 : ((((zs2733.length : Nat) : Int) < x0) ∧ _) ∨ (¬ (((zs2733.length : Nat) : Int) < x0) ∧ _)) with ⟨hc3336, h3337⟩ | ⟨hc3336, h3337⟩
    · clear h3324
      have hF3338 : Fr 35 a3334 [(0, .int .i64 x0), (3, .slice A2731 zs2733.length c2732), (4, .int .i64 ((x2734 : Nat) : Int)), (10, .bool true)] := hF3335.pick [0, 3, 4, 10] (by rw [decide_eq_true hc3336]; kernel_rfl); clear hF3335
      refine condT hF3338 (by kernel_rfl) ?_
      refine wp_skip ?_
      refine hK3331 _ _ ?_
      obtain ⟨xj3621, hx3622, h3623⟩ := bnd_some h3337; clear h3337
      refine seqJ (fun a W => ∃ (zs3618 : List Int), ∃ (b3619 : Bool), ∃ (x3620 : Nat), ∃ (A3616 : Option Addr), ∃ (c3617 : Nat), (zs3618, b3619, x3620) = xj3621 ∧ (Fr 35 a [(0, .int .i64 x0), (3, .slice A3616 zs3618.length c3617), (4, .int .i64 ((x2734 : Nat) : Int)), (5, .bool (b3619)), (6, .int .i64 ((x3620 : Nat) : Int))]) ∧ (Heap w [] W [.row 3 1 A3616 zs3618.length c3617 (vi zs3618)])) ?_ ?_
      · skip
        refine wp_block ?_
        refine wp_seq_k (fun K3624 hK3625 => ?_)
        refine wp_region_lit ?_
        refine pu_end hT 1 _ hF3338 [0, 3, 4, 5] (G := [(0, .int .i64 x0), (3, .slice A2731 zs2733.length c2732), (4, .int .i64 ((x2734 : Nat) : Int)), (5, .bool true)]) (cs := []) (by kernel_rfl) rfl trivial ?_; clear hF3338 a3334; intro a3626 hF3627
        refine hK3625 _ _ ?_
        obtain ⟨xj3757, hx3758, h3759⟩ := bnd_some hx3622; clear hx3622
        refine seqJ (fun a W => ∃ (b3755 : Bool), ∃ (x3756 : Nat), (b3755, x3756) = xj3757 ∧ (Fr 35 a [(0, .int .i64 x0), (3, .slice A2731 zs2733.length c2732), (4, .int .i64 ((x2734 : Nat) : Int)), (5, .bool (b3755)), (6, .int .i64 ((x3756 : Nat) : Int))]) ∧ (Heap w [] W [.row 3 1 A2731 zs2733.length c2732 (vi zs2733)])) ?_ ?_
        · skip
          refine wp_seq_k (fun K3760 hK3761 => ?_)
          refine wp_region_lit ?_
          refine pu_end hT 1 _ hF3627 [0, 3, 4, 5, 6] (G := [(0, .int .i64 x0), (3, .slice A2731 zs2733.length c2732), (4, .int .i64 ((x2734 : Nat) : Int)), (5, .bool true), (6, .int .i64 0)]) (cs := []) (by kernel_rfl) rfl trivial ?_; clear hF3627 a3626; intro a3762 hF3763
          refine hK3761 _ _ ?_
          refine wp_block ?_
          refine loopR (F_casemateref13_Primes_l2 zs2733 x2734) xj3757 ((true), 0) hx3758 (fun s a W => ∃ (b3815 : Bool), ∃ (x3816 : Nat), (b3815, x3816) = s ∧ (Fr 35 a [(0, .int .i64 x0), (3, .slice A2731 zs2733.length c2732), (4, .int .i64 ((x2734 : Nat) : Int)), (5, .bool (b3815)), (6, .int .i64 ((x3816 : Nat) : Int))]) ∧ (Heap w [] W [.row 3 1 A2731 zs2733.length c2732 (vi zs2733)])) ⟨(true), 0, rfl, hF3763.pick [0, 3, 4, 5, 6] (by kernel_rfl), hS3323.pick [0] (by decide) rfl⟩ ?_
          clear hF3763 hS3323 hx3758
          rintro k3857 _ a3852 w3853 ⟨b3815, x3816, rfl, hF3854, hS3855⟩ hit3851 K3850 hK3849
          obtain ⟨y3847, h3856, hy3848⟩ := iter_succ hit3851; clear hit3851
          unfold F_casemateref13_Primes_l2 at h3856; try dsimp only at h3856
          refine wp_seq_k (fun K3862 hK3863 => ?_)
          refine wp_seq_k (fun K3864 hK3865 => ?_)
          refine wp_region_lit ?_
          refine pu_end hT 4 _ hF3854 [0, 3, 4, 5, 6, 16] (G := [(0, .int .i64 x0), (3, .slice A2731 zs2733.length c2732), (4, .int .i64 ((x2734 : Nat) : Int)), (5, .bool (b3815)), (6, .int .i64 ((x3816 : Nat) : Int)), (16, .bool ((decide (((x3816 : Nat) : Int) < ((zs2733.length : Nat) : Int)))))]) (cs := []) (by kernel_rfl) rfl trivial ?_; clear hF3854 a3852; intro a3866 hF3867
          refine hK3865 _ _ ?_
          rcases (ite_some h3856 : ((((x3816 : Nat) : Int) < ((zs2733.length : Nat) : Int)) ∧ _) ∨ (¬ (((x3816 : Nat) : Int) < ((zs2733.length : Nat) : Int)) ∧ _)) with ⟨hc3868, h3869⟩ | ⟨hc3868, h3869⟩
          · clear h3856
            have hF3870 : Fr 35 a3866 [(0, .int .i64 x0), (3, .slice A2731 zs2733.length c2732), (4, .int .i64 ((x2734 : Nat) : Int)), (5, .bool (b3815)), (6, .int .i64 ((x3816 : Nat) : Int)), (16, .bool true)] := hF3867.pick [0, 3, 4, 5, 6, 16] (by rw [decide_eq_true hc3868]; kernel_rfl); clear hF3867
            refine condT hF3870 (by kernel_rfl) ?_
            refine wp_skip ?_
            refine hK3863 _ _ ?_
            obtain ⟨xj3877, hx3878, h3879⟩ := bnd_some h3869; clear h3869
            refine seqJ (fun a W => ∃ (b3876 : Bool), b3876 = xj3877 ∧ (Fr 35 a [(0, .int .i64 x0), (3, .slice A2731 zs2733.length c2732), (4, .int .i64 ((x2734 : Nat) : Int)), (5, .bool (b3876)), (6, .int .i64 ((x3816 : Nat) : Int))]) ∧ (Heap w [] W [.row 3 1 A2731 zs2733.length c2732 (vi zs2733)])) ?_ ?_
            · skip
              refine wp_block ?_
              rcases (ite_some hx3878 : ((b3815 = true) ∧ _) ∨ (¬ (b3815 = true) ∧ _)) with ⟨hc3880, h3881⟩ | ⟨hc3880, h3881⟩
              · clear hx3878
                obtain ⟨g3883, h3882⟩ : (0 < (zs2733.getD x3816 0)) ∧ _ := gd_some h3881; clear h3881
                refine wp_region_lit ?_
                refine pu hT 2 _ hF3870 [0, 3, 4, 5, 6, 20] (G := [(0, .int .i64 x0), (3, .slice A2731 zs2733.length c2732), (4, .int .i64 ((x2734 : Nat) : Int)), (5, .bool (b3815)), (6, .int .i64 ((x3816 : Nat) : Int)), (20, .bool (b3815))]) (cs := []) (by kernel_rfl) trivial ?_; clear hF3870 a3866; intro a3884 hF3885
                have hF3886 : Fr 35 a3884 [(0, .int .i64 x0), (3, .slice A2731 zs2733.length c2732), (4, .int .i64 ((x2734 : Nat) : Int)), (5, .bool (b3815)), (6, .int .i64 ((x3816 : Nat) : Int)), (20, .bool true)] := hF3885.pick [0, 3, 4, 5, 6, 20] (by rw [hc3880]; kernel_rfl); clear hF3885
                refine pu hT 4 _ hF3886 [0, 3, 4, 5, 6, 20, 21, 24] (G := [(0, .int .i64 x0), (3, .slice A2731 zs2733.length c2732), (4, .int .i64 ((x2734 : Nat) : Int)), (5, .bool (b3815)), (6, .int .i64 ((x3816 : Nat) : Int)), (20, .bool true), (21, .int .i64 ((x2734 : Nat) : Int)), (24, .pointer (some ⟨(ablk A2731), (aoff A2731 + x3816), none⟩))]) (cs := [0 ≤ ((x3816 : Nat) : Int), ((x3816 : Nat) : Int) < ((zs2733.length : Nat) : Int), (A2731 : Option Addr) = some ⟨ablk A2731, aoff A2731, none⟩]) (by kernel_rfl) (And.intro (by omega) (And.intro hc3868 (And.intro ((hS3855.own 0 rfl).rd.some' (by have := (Eq.refl zs2733.length); first | omega | (simp only [zA, zS, zT, zD, zR, zC, zN, zV, zI] <;> omega))) trivial))) ?_; clear hF3886 a3884; intro a3887 hF3888
                refine wl (One.bare hF3888 (by kernel_rfl) (s_load hT (d := 25) (A := ⟨(ablk A2731), (aoff A2731 + x3816), none⟩) (v := .int .i64 (zs2733.getD x3816 0)) (by kernel_rfl) hF3888 (Cells.at (hS3855.own 0 rfl).rd.cells (vi_get zs2733 (i := x3816) (by have := (Eq.refl zs2733.length); first | omega | (simp only [zA, zS, zT, zD, zR, zC, zN, zV, zI] <;> omega) | (simp [*]; done) | (simp [*]; omega))) (by first | rfl | omega)) ?_))
                rintro a3889 ha3891 hF3890; clear ha3891 hF3888 a3887
                have hF3892 := hF3890.pick [0, 3, 4, 5, 6, 20, 21, 25] (G := [(0, .int .i64 x0), (3, .slice A2731 zs2733.length c2732), (4, .int .i64 ((x2734 : Nat) : Int)), (5, .bool (b3815)), (6, .int .i64 ((x3816 : Nat) : Int)), (20, .bool true), (21, .int .i64 ((x2734 : Nat) : Int)), (25, .int .i64 (zs2733.getD x3816 0))]) (by kernel_rfl); clear hF3890
                refine pu_end hT 4 _ hF3892 [0, 3, 4, 6, 5] (G := [(0, .int .i64 x0), (3, .slice A2731 zs2733.length c2732), (4, .int .i64 ((x2734 : Nat) : Int)), (6, .int .i64 ((x3816 : Nat) : Int)), (5, .bool (!(decide ((((x2734 : Nat) : Int) % (zs2733.getD x3816 0)) = 0))))]) (cs := [0 ≤ ((x2734 : Nat) : Int), 0 < (zs2733.getD x3816 0)]) (by kernel_rfl) rfl (And.intro (by omega) (And.intro g3883 trivial)) ?_; clear hF3892 a3889; intro a3893 hF3894
                obtain rfl := Option.some.inj h3882
                exact ⟨(!(decide ((((x2734 : Nat) : Int) % (zs2733.getD x3816 0)) = 0))), rfl, hF3894.pick [0, 3, 4, 5, 6] (by kernel_rfl), hS3855.pick [0] (by decide) rfl⟩
              · clear hx3878
                refine wp_region_lit ?_
                refine pu hT 2 _ hF3870 [0, 3, 4, 5, 6, 20] (G := [(0, .int .i64 x0), (3, .slice A2731 zs2733.length c2732), (4, .int .i64 ((x2734 : Nat) : Int)), (5, .bool (b3815)), (6, .int .i64 ((x3816 : Nat) : Int)), (20, .bool (b3815))]) (cs := []) (by kernel_rfl) trivial ?_; clear hF3870 a3866; intro a3895 hF3896
                have hF3897 : Fr 35 a3895 [(0, .int .i64 x0), (3, .slice A2731 zs2733.length c2732), (4, .int .i64 ((x2734 : Nat) : Int)), (5, .bool (b3815)), (6, .int .i64 ((x3816 : Nat) : Int)), (20, .bool false)] := hF3896.pick [0, 3, 4, 5, 6, 20] (by rw [(Bool.eq_false_iff.2 hc3880)]; kernel_rfl); clear hF3896
                refine pu_end hT 9 _ hF3897 [0, 3, 4, 6, 5] (G := [(0, .int .i64 x0), (3, .slice A2731 zs2733.length c2732), (4, .int .i64 ((x2734 : Nat) : Int)), (6, .int .i64 ((x3816 : Nat) : Int)), (5, .bool false)]) (cs := []) (by kernel_rfl) rfl trivial ?_; clear hF3897 a3895; intro a3898 hF3899
                obtain rfl := Option.some.inj h3881
                exact ⟨(false), rfl, hF3899.pick [0, 3, 4, 5, 6] (by kernel_rfl), hS3855.pick [0] (by decide) rfl⟩
            · skip
              clear hx3878 hF3870 hS3855 
              rintro a3900 w3901 ⟨b3876, rfl, hF3902, hS3903⟩
              obtain ⟨g3906, h3905⟩ : ((((x3816 + 1) : Nat) : Int) ≤ 9223372036854775807) ∧ _ := gd_some h3879; clear h3879
              refine wp_region_lit ?_
              refine pu_end hT 3 _ hF3902 [0, 3, 4, 5, 6] (G := [(0, .int .i64 x0), (3, .slice A2731 zs2733.length c2732), (4, .int .i64 ((x2734 : Nat) : Int)), (5, .bool (b3876)), (6, .int .i64 (((x3816 + 1) : Nat) : Int))]) (cs := [-9223372036854775808 ≤ (((x3816 + 1) : Nat) : Int), (((x3816 + 1) : Nat) : Int) ≤ 9223372036854775807]) (by kernel_rfl) rfl (And.intro (by omega) (And.intro g3906 trivial)) ?_; clear hF3902 a3900; intro a3907 hF3908
              obtain rfl := Option.some.inj h3905
              exact hK3849 _ _ _ hy3848 ⟨(b3876), (x3816 + 1), rfl, hF3908.pick [0, 3, 4, 5, 6] (by kernel_rfl), hS3903.pick [0] (by decide) rfl⟩
          · clear h3856
            have hF3909 : Fr 35 a3866 [(0, .int .i64 x0), (3, .slice A2731 zs2733.length c2732), (4, .int .i64 ((x2734 : Nat) : Int)), (5, .bool (b3815)), (6, .int .i64 ((x3816 : Nat) : Int)), (16, .bool false)] := hF3867.pick [0, 3, 4, 5, 6, 16] (by rw [decide_eq_false hc3868]; kernel_rfl); clear hF3867
            refine condF hF3909 (by kernel_rfl) ?_
            refine wp_exit ?_
            obtain rfl := Option.some.inj h3869
            obtain rfl : _ = xj3757 := hy3848
            exact ⟨(b3815), x3816, rfl, hF3909.pick [0, 3, 4, 5, 6] (by kernel_rfl), hS3855.pick [0] (by decide) rfl⟩
        · skip
          clear hx3758 hF3627 hS3323 
          rintro a3910 w3911 ⟨b3755, x3756, rfl, hF3912, hS3913⟩
          refine wp_seq_k (fun K3915 hK3916 => ?_)
          refine wp_region_lit ?_
          refine pu_end hT 1 _ hF3912 [0, 3, 4, 5, 6, 29] (G := [(0, .int .i64 x0), (3, .slice A2731 zs2733.length c2732), (4, .int .i64 ((x2734 : Nat) : Int)), (5, .bool (b3755)), (6, .int .i64 ((x3756 : Nat) : Int)), (29, .bool (b3755))]) (cs := []) (by kernel_rfl) rfl trivial ?_; clear hF3912 a3910; intro a3917 hF3918
          refine hK3916 _ _ ?_
          rcases (ite_some h3759 : ((b3755 = true) ∧ _) ∨ (¬ (b3755 = true) ∧ _)) with ⟨hc3919, h3920⟩ | ⟨hc3919, h3920⟩
          · clear h3759
            have hF3921 : Fr 35 a3917 [(0, .int .i64 x0), (3, .slice A2731 zs2733.length c2732), (4, .int .i64 ((x2734 : Nat) : Int)), (5, .bool (b3755)), (6, .int .i64 ((x3756 : Nat) : Int)), (29, .bool true)] := hF3918.pick [0, 3, 4, 5, 6, 29] (by rw [hc3919]; kernel_rfl); clear hF3918
            have hF3922 : Fr 35 a3917 [(0, .int .i64 x0), (3, .slice A2731 zs2733.length c2732), (4, .int .i64 ((x2734 : Nat) : Int)), (5, .bool true), (6, .int .i64 ((x3756 : Nat) : Int)), (29, .bool true)] := hF3921.pick [0, 3, 4, 5, 6, 29] (by rw [hc3919]; kernel_rfl); clear hF3921
            refine condT hF3922 (by kernel_rfl) ?_
            obtain ⟨g3926, h3925⟩ : ((zs2733.length + 1) * 8 ≤ 140737488355328) ∧ _ := gd_some h3920; clear h3920
            refine wp_region_lit ?_
            refine pu hT 2 _ hF3922 [0, 3, 4, 5, 6, 30, 31] (G := [(0, .int .i64 x0), (3, .slice A2731 zs2733.length c2732), (4, .int .i64 ((x2734 : Nat) : Int)), (5, .bool true), (6, .int .i64 ((x3756 : Nat) : Int)), (30, .slice A2731 zs2733.length c2732), (31, .int .i64 ((x2734 : Nat) : Int))]) (cs := []) (by kernel_rfl) trivial ?_; clear hF3922 a3917; intro a3930 hF3931
            refine wl (h_lit hT (d := 32) (T := 3) (l := vi [((x2734 : Nat) : Int)]) (by kernel_rfl) hF3931 hS3913 (by simp [maxLen]) ?_)
            rintro a3932 w3933 A3923 hS3934 g3935 ha3936 hF3937; clear ha3936 hF3931 a3930 hS3913
            have hS3938 : Heap w [] w3933 [.row 3 1 A3923 1 1 (vi [((x2734 : Nat) : Int)]), .row 3 1 A2731 zs2733.length c2732 (vi zs2733)] := hS3934; clear hS3934
            have hF3939 := hF3937.pick [0, 3, 4, 5, 6, 30, 32] (G := [(0, .int .i64 x0), (3, .slice A2731 zs2733.length c2732), (4, .int .i64 ((x2734 : Nat) : Int)), (5, .bool true), (6, .int .i64 ((x3756 : Nat) : Int)), (30, .slice A2731 zs2733.length c2732), (32, .slice A3923 1 1)]) (by kernel_rfl); clear hF3937
            refine wl (h_app hT (d := 33) (T := 3) (i := tr3) (m := zs2733.length) (c := c2732) (m2 := 1) (c2 := 1) (A2 := A3923) (l2 := vi [((x2734 : Nat) : Int)]) (n' := (zs2733 ++ [((x2734 : Nat) : Int)]).length) (l' := vi (zs2733 ++ [((x2734 : Nat) : Int)])) (by kernel_rfl) hF3939 hS3938 1 rfl rfl (by decide) (hS3938.own 0 rfl).rd (by show _ = 1 * 1; have := (show ([((x2734 : Nat) : Int)] : List Int).length = 1 from rfl); simp only [zA, zS, zT, zD, zR, zC, zN, zV, zI] <;> omega) vi_one (by show (zs2733.length + 1) * 8 ≤ 140737488355328; first | exact g3926 | omega) (by decide) (by have := (Eq.refl zs2733.length); have := (show ([((x2734 : Nat) : Int)] : List Int).length = 1 from rfl); first | omega | (simp only [zA, zS, zT, zD, zR, zC, zN, zV, zI] <;> omega) | (simp only [zA, zS, zT, zD, zR, zC, zN, zV, zI] at * <;> omega)) (by first | rfl | exact (vs_append _ _ _).symm | exact (vi_append _ _).symm | simp [vs, vi]) ?_)
            rintro a3940 w3941 A3927 c3928 hS3942 g3943 ha3944 hF3945; clear ha3944 hF3939 a3932 hS3938
            have hS3946 : Heap w [] w3941 [.row 3 1 A3923 1 1 (vi [((x2734 : Nat) : Int)]), .row 3 1 A3927 ((zs2733 ++ [((x2734 : Nat) : Int)]).length) c3928 (vi (zs2733 ++ [((x2734 : Nat) : Int)]))] := hS3942; clear hS3942
            have hF3947 := hF3945.pick [0, 3, 4, 5, 6, 33] (G := [(0, .int .i64 x0), (3, .slice A2731 zs2733.length c2732), (4, .int .i64 ((x2734 : Nat) : Int)), (5, .bool true), (6, .int .i64 ((x3756 : Nat) : Int)), (33, .slice A3927 ((zs2733 ++ [((x2734 : Nat) : Int)]).length) c3928)]) (by kernel_rfl); clear hF3945
            refine pu_end hT 1 _ hF3947 [0, 4, 5, 6, 3] (G := [(0, .int .i64 x0), (4, .int .i64 ((x2734 : Nat) : Int)), (5, .bool true), (6, .int .i64 ((x3756 : Nat) : Int)), (3, .slice A3927 ((zs2733 ++ [((x2734 : Nat) : Int)]).length) c3928)]) (cs := []) (by kernel_rfl) rfl trivial ?_; clear hF3947 a3940; intro a3948 hF3949
            obtain rfl := Option.some.inj h3925
            exact ⟨(zs2733 ++ [((x2734 : Nat) : Int)]), (true), x3756, A3927, c3928, rfl, hF3949.pick [0, 3, 4, 5, 6] (by kernel_rfl), hS3946.pick [1] (by decide) rfl⟩
          · clear h3759
            have hF3950 : Fr 35 a3917 [(0, .int .i64 x0), (3, .slice A2731 zs2733.length c2732), (4, .int .i64 ((x2734 : Nat) : Int)), (5, .bool (b3755)), (6, .int .i64 ((x3756 : Nat) : Int)), (29, .bool false)] := hF3918.pick [0, 3, 4, 5, 6, 29] (by rw [(Bool.eq_false_iff.2 hc3919)]; kernel_rfl); clear hF3918
            have hF3951 : Fr 35 a3917 [(0, .int .i64 x0), (3, .slice A2731 zs2733.length c2732), (4, .int .i64 ((x2734 : Nat) : Int)), (5, .bool false), (6, .int .i64 ((x3756 : Nat) : Int)), (29, .bool false)] := hF3950.pick [0, 3, 4, 5, 6, 29] (by rw [(Bool.eq_false_iff.2 hc3919)]; kernel_rfl); clear hF3950
            refine condF hF3951 (by kernel_rfl) ?_
            refine wp_skip ?_
            obtain rfl := Option.some.inj h3920
            exact ⟨zs2733, (false), x3756, A2731, c2732, rfl, hF3951.pick [0, 3, 4, 5, 6] (by kernel_rfl), hS3913.pick [0] (by decide) rfl⟩
      · skip
        clear hx3622 hF3338 hS3323 
        rintro a3952 w3953 ⟨zs3618, b3619, x3620, A3616, c3617, rfl, hF3954, hS3955⟩
        obtain ⟨g3958, h3957⟩ : ((((x2734 + 1) : Nat) : Int) ≤ 9223372036854775807) ∧ _ := gd_some h3623; clear h3623
        refine wp_region_lit ?_
        refine pu_end hT 3 _ hF3954 [0, 3, 5, 6, 4] (G := [(0, .int .i64 x0), (3, .slice A3616 zs3618.length c3617), (5, .bool (b3619)), (6, .int .i64 ((x3620 : Nat) : Int)), (4, .int .i64 (((x2734 + 1) : Nat) : Int))]) (cs := [-9223372036854775808 ≤ (((x2734 + 1) : Nat) : Int), (((x2734 + 1) : Nat) : Int) ≤ 9223372036854775807]) (by kernel_rfl) rfl (And.intro (by omega) (And.intro g3958 trivial)) ?_; clear hF3954 a3952; intro a3959 hF3960
        obtain rfl := Option.some.inj h3957
        exact hK3317 _ _ _ hy3316 ⟨zs3618, (x2734 + 1), A3616, c3617, rfl, hF3960.pick [0, 3, 4] (by kernel_rfl), hS3955.pick [0] (by decide) rfl⟩
    · clear h3324
      have hF3961 : Fr 35 a3334 [(0, .int .i64 x0), (3, .slice A2731 zs2733.length c2732), (4, .int .i64 ((x2734 : Nat) : Int)), (10, .bool false)] := hF3335.pick [0, 3, 4, 10] (by rw [decide_eq_false hc3336]; kernel_rfl); clear hF3335
      refine condF hF3961 (by kernel_rfl) ?_
      refine wp_exit ?_
      obtain rfl := Option.some.inj h3337
      obtain rfl : _ = xj1956 := hy3316
      exact ⟨zs2733, A2731, c2732, rfl, hF3961.pick [3] (by kernel_rfl), hS3323.pick [0] (by decide) rfl⟩
  · skip
    clear hx1957 hF8 hS 
    rintro a3962 w3963 ⟨zs1955, A1953, c1954, rfl, hF3964, hS3965⟩
    refine wp_seq_k (fun K3967 hK3968 => ?_)
    refine wp_region_lit ?_
    refine pu_end hT 2 _ hF3964 [2] (G := [(2, .slice A1953 zs1955.length c1954)]) (cs := []) (by kernel_rfl) rfl trivial ?_; clear hF3964 a3962; intro a3969 hF3970
    refine hK3968 _ _ ?_
    refine wp_ret ?_
    obtain rfl := Option.some.inj h1958
    refine ret1 hF3970 rfl (v := .slice A1953 zs1955.length c1954) (by kernel_rfl) ?_
    exact ⟨A1953, c1954, rfl, hS3965.pick [0] (by decide) rfl⟩

noncomputable def F_casemateref14_rotr (x0 : Nat) (x1 : Nat) : Option Nat := ltb (((x0 / 2 ^ x1) ||| (x0 * 2 ^ ((64 + 18446744073709551616 - x1) % 18446744073709551616) % 18446744073709551616))) fun (t7 : Nat) => some t7
set_option maxHeartbeats 4000000 in
theorem W_casemateref14_rotr (x0 : Nat) (x1 : Nat) (w : World) (px0 : x0 < 18446744073709551616) (px1 : x1 < 18446744073709551616) (r : Nat) (h : F_casemateref14_rotr x0 x1 = some r) :
    Calls Try.prog 46 [.int .u64 ((x0 : Nat) : Int), .int .u64 ((x1 : Nat) : Int)].toArray w (Ret fun v w' => v = .int .u64 ((r : Nat) : Int) ∧ r < 18446744073709551616 ∧ Heap w [] w' []) := by
  unfold F_casemateref14_rotr at h
  refine enter Try.func46 rfl (n := 13) Try.ntmps46 (by simp) ?_
  intro a hF
  have hS := Heap.init w
  refine wp_seq_k (fun K1 hK2 => ?_)
  refine wp_region_lit ?_
  refine pu_end hT 1 _ hF [0, 1] (G := [(0, .int .u64 ((x0 : Nat) : Int)), (1, .int .u64 ((x1 : Nat) : Int))]) (cs := []) (by kernel_rfl) rfl trivial ?_; clear hF a; intro a3 hF4
  refine hK2 _ _ ?_
  refine wp_seq_k (fun K5 hK6 => ?_)
  obtain ⟨t7, ht8, h9⟩ := ltb_some h; clear h; replace ht8 : t7 = ((x0 / 2 ^ x1) ||| (x0 * 2 ^ ((64 + 18446744073709551616 - x1) % 18446744073709551616) % 18446744073709551616)) := ht8
  refine wp_region_lit ?_
  refine pu_end hT 9 _ hF4 [4] (G := [(4, .int .u64 ((((x0 / 2 ^ x1) ||| (x0 * 2 ^ ((64 + 18446744073709551616 - x1) % 18446744073709551616) % 18446744073709551616)) : Nat) : Int))]) (cs := [x0 < 18446744073709551616, x1 ≤ 18446744073709551616, (x0 / 2 ^ x1) < 18446744073709551616, (x0 * 2 ^ ((64 + 18446744073709551616 - x1) % 18446744073709551616) % 18446744073709551616) < 18446744073709551616]) (by kernel_rfl) rfl (And.intro px0 (And.intro (Nat.le_of_lt px1) (And.intro (lt_div px0 _) (And.intro (Nat.mod_lt _ (by decide)) trivial)))) ?_; clear hF4 a3; intro a11 hF12
  have hb10 : t7 < 18446744073709551616 := by rw [ht8]; exact (lt_or (n := 64) (lt_div px0 _) (Nat.mod_lt _ (by decide)))
  have hF13 : Fr 13 a11 [(4, .int .u64 ((t7 : Nat) : Int))] := hF12.pick [4] (by rw [ht8]; kernel_rfl); clear hF12
  refine hK6 _ _ ?_
  refine wp_ret ?_
  obtain rfl := Option.some.inj h9
  refine ret1 hF13 rfl (v := .int .u64 ((t7 : Nat) : Int)) (by kernel_rfl) ?_
  exact ⟨rfl, hb10, hS.pick [] (by decide) rfl⟩

noncomputable def F_casemateref14_three (x0 : Nat) (x1 : Nat) (x2 : Nat) (x3 : Nat) : Option Nat := bnd (F_casemateref14_rotr x0 x1) fun (x7 : Nat) => bnd (F_casemateref14_rotr x0 x2) fun (x11 : Nat) => bnd (F_casemateref14_rotr x0 x3) fun (x15 : Nat) => some ((x7 ^^^ x11) ^^^ x15)
set_option maxHeartbeats 4000000 in
theorem W_casemateref14_three (x0 : Nat) (x1 : Nat) (x2 : Nat) (x3 : Nat) (w : World) (px0 : x0 < 18446744073709551616) (px1 : x1 < 18446744073709551616) (px2 : x2 < 18446744073709551616) (px3 : x3 < 18446744073709551616) (r : Nat) (h : F_casemateref14_three x0 x1 x2 x3 = some r) :
    Calls Try.prog 47 [.int .u64 ((x0 : Nat) : Int), .int .u64 ((x1 : Nat) : Int), .int .u64 ((x2 : Nat) : Int), .int .u64 ((x3 : Nat) : Int)].toArray w (Ret fun v w' => v = .int .u64 ((r : Nat) : Int) ∧ r < 18446744073709551616 ∧ Heap w [] w' []) := by
  unfold F_casemateref14_three at h
  refine enter Try.func47 rfl (n := 20) Try.ntmps47 (by simp) ?_
  intro a hF
  have hS := Heap.init w
  refine wp_seq_k (fun K1 hK2 => ?_)
  refine wp_region_lit ?_
  refine pu_end hT 1 _ hF [0, 1, 2, 3] (G := [(0, .int .u64 ((x0 : Nat) : Int)), (1, .int .u64 ((x1 : Nat) : Int)), (2, .int .u64 ((x2 : Nat) : Int)), (3, .int .u64 ((x3 : Nat) : Int))]) (cs := []) (by kernel_rfl) rfl trivial ?_; clear hF a; intro a3 hF4
  refine hK2 _ _ ?_
  refine wp_seq_k (fun K5 hK6 => ?_)
  obtain ⟨x7, hr9, h8⟩ := bnd_some h; clear h; replace hr9 : F_casemateref14_rotr x0 x1 = some (x7) := hr9
  obtain ⟨x11, hr13, h12⟩ := bnd_some h8; clear h8; replace hr13 : F_casemateref14_rotr x0 x2 = some (x11) := hr13
  obtain ⟨x15, hr17, h16⟩ := bnd_some h12; clear h12; replace hr17 : F_casemateref14_rotr x0 x3 = some (x15) := hr17
  refine wp_region_lit ?_
  refine pu hT 2 _ hF4 [0, 2, 3, 9, 10] (G := [(0, .int .u64 ((x0 : Nat) : Int)), (2, .int .u64 ((x2 : Nat) : Int)), (3, .int .u64 ((x3 : Nat) : Int)), (9, .int .u64 ((x0 : Nat) : Int)), (10, .int .u64 ((x1 : Nat) : Int))]) (cs := []) (by kernel_rfl) trivial ?_; clear hF4 a3; intro a19 hF20
  refine wl (s_call (d := 11) (f := 46) (l := [.int .u64 ((x0 : Nat) : Int), .int .u64 ((x1 : Nat) : Int)]) (by kernel_rfl) hF20 cl46 (W_casemateref14_rotr x0 x1 _ px0 px1 x7 hr9) ?_)
  rintro a21 w22 v23 ⟨rfl, hh10, hC24⟩ ha25 hF26; clear ha25 hF20 a19
  have hS27 : Heap w [] w22 [] := Heap.call hS hC24; clear hS
  have hF28 := hF26.pick [0, 2, 3, 11] (G := [(0, .int .u64 ((x0 : Nat) : Int)), (2, .int .u64 ((x2 : Nat) : Int)), (3, .int .u64 ((x3 : Nat) : Int)), (11, .int .u64 ((x7 : Nat) : Int))]) (by kernel_rfl); clear hF26
  refine pu hT 2 _ hF28 [0, 3, 11, 12, 13] (G := [(0, .int .u64 ((x0 : Nat) : Int)), (3, .int .u64 ((x3 : Nat) : Int)), (11, .int .u64 ((x7 : Nat) : Int)), (12, .int .u64 ((x0 : Nat) : Int)), (13, .int .u64 ((x2 : Nat) : Int))]) (cs := []) (by kernel_rfl) trivial ?_; clear hF28 a21; intro a29 hF30
  refine wl (s_call (d := 14) (f := 46) (l := [.int .u64 ((x0 : Nat) : Int), .int .u64 ((x2 : Nat) : Int)]) (by kernel_rfl) hF30 cl46 (W_casemateref14_rotr x0 x2 _ px0 px2 x11 hr13) ?_)
  rintro a31 w32 v33 ⟨rfl, hh14, hC34⟩ ha35 hF36; clear ha35 hF30 a29
  have hS37 : Heap w [] w32 [] := Heap.call hS27 hC34; clear hS27
  have hF38 := hF36.pick [0, 3, 11, 14] (G := [(0, .int .u64 ((x0 : Nat) : Int)), (3, .int .u64 ((x3 : Nat) : Int)), (11, .int .u64 ((x7 : Nat) : Int)), (14, .int .u64 ((x11 : Nat) : Int))]) (by kernel_rfl); clear hF36
  refine pu hT 3 _ hF38 [15, 16, 17] (G := [(15, .int .u64 (((x7 ^^^ x11) : Nat) : Int)), (16, .int .u64 ((x0 : Nat) : Int)), (17, .int .u64 ((x3 : Nat) : Int))]) (cs := [x7 < 18446744073709551616, x11 < 18446744073709551616]) (by kernel_rfl) (And.intro hh10 (And.intro hh14 trivial)) ?_; clear hF38 a31; intro a39 hF40
  refine wl (s_call (d := 18) (f := 46) (l := [.int .u64 ((x0 : Nat) : Int), .int .u64 ((x3 : Nat) : Int)]) (by kernel_rfl) hF40 cl46 (W_casemateref14_rotr x0 x3 _ px0 px3 x15 hr17) ?_)
  rintro a41 w42 v43 ⟨rfl, hh18, hC44⟩ ha45 hF46; clear ha45 hF40 a39
  have hS47 : Heap w [] w42 [] := Heap.call hS37 hC44; clear hS37
  have hF48 := hF46.pick [15, 18] (G := [(15, .int .u64 (((x7 ^^^ x11) : Nat) : Int)), (18, .int .u64 ((x15 : Nat) : Int))]) (by kernel_rfl); clear hF46
  refine pu_end hT 2 _ hF48 [8] (G := [(8, .int .u64 ((((x7 ^^^ x11) ^^^ x15) : Nat) : Int))]) (cs := [(x7 ^^^ x11) < 18446744073709551616, x15 < 18446744073709551616]) (by kernel_rfl) rfl (And.intro (lt_xor (n := 64) hh10 hh14) (And.intro hh18 trivial)) ?_; clear hF48 a41; intro a49 hF50
  refine hK6 _ _ ?_
  refine wp_ret ?_
  obtain rfl := Option.some.inj h16
  refine ret1 hF50 rfl (v := .int .u64 ((((x7 ^^^ x11) ^^^ x15) : Nat) : Int)) (by kernel_rfl) ?_
  exact ⟨rfl, (lt_xor (n := 64) (lt_xor (n := 64) hh10 hh14) hh18), hS47.pick [] (by decide) rfl⟩

noncomputable def F_casemateref14_root_l2 (x8439 : Int) : (Nat × Nat) → Option ((Nat × Nat) ⊕ (Nat × Nat)) := fun (x10171, x10172) => if ((x10172 : Nat) : Int) < (x8439 % 16) then (gd ((((2 * x10171) : Nat) : Int) ≤ 9223372036854775807) (gd ((((x10172 + 1) : Nat) : Int) ≤ 9223372036854775807) (some (.inl ((2 * x10171), (x10172 + 1)))))) else (some (.inr (x10171, x10172)))
noncomputable def F_casemateref14_root_l3 (x1 : Int) (zs8437 : List Int) (x8439 : Int) (x10127 : Nat) : (List Int × Nat) → Option ((List Int × Nat) ⊕ (List Int × Nat)) := fun (zs10479, x10480) => if ((x10480 : Nat) : Int) < x1 then (bnd (F_casemateref13_Times zs10479 (zs8437.set ((x8439 / 16).toNat) ((zs8437.getD ((x8439 / 16).toNat) 0) + ((x10127 : Nat) : Int)))) fun (zs10539 : List Int) => gd ((((x10480 + 1) : Nat) : Int) ≤ 9223372036854775807) (some (.inl (zs10539, (x10480 + 1))))) else (some (.inr (zs10479, x10480)))
noncomputable def F_casemateref14_root_l1 (x1 : Int) (x0 : Int) : (List Int × Int) → Option ((List Int × Int) ⊕ (List Int)) := fun (zs8437, x8439) => if 0 ≤ x8439 then (bnd (bnd (run (F_casemateref14_root_l2 x8439) (1, 0) : Option (Nat × Nat)) (fun (x10127, x10128) => gd (x8439 ≤ 9223372036854775807) (gd (0 ≤ (x8439 / 16)) (gd ((x8439 / 16) < ((5 : Nat) : Int)) (gd (-9223372036854775808 ≤ ((zs8437.getD ((x8439 / 16).toNat) 0) + ((x10127 : Nat) : Int))) (gd (((zs8437.getD ((x8439 / 16).toNat) 0) + ((x10127 : Nat) : Int)) ≤ 9223372036854775807) (bnd (run (F_casemateref14_root_l3 x1 zs8437 x8439 x10127) ([1], 0) : Option (List Int × Nat)) (fun (zs10408, x10409) => gd (-9223372036854775808 ≤ (4 * x1)) (gd ((4 * x1) ≤ 9223372036854775807) (gd ((0 : Int) ≤ (4 * x1)) (ltb ((4 * x1).toNat) fun (t10576 : Nat) => gd (t10576 * 8 ≤ 140737488355328) (gd ((t10576 + 1) * 8 ≤ 140737488355328) (bnd (F_casemateref13_Greater zs10408 ((List.replicate t10576 (0 : Int)) ++ [x0])) fun (b10628 : Bool) => if b10628 = true then (gd (-9223372036854775808 ≤ (((zs8437.set ((x8439 / 16).toNat) ((zs8437.getD ((x8439 / 16).toNat) 0) + ((x10127 : Nat) : Int))).getD ((x8439 / 16).toNat) 0) - ((x10127 : Nat) : Int))) (gd ((((zs8437.set ((x8439 / 16).toNat) ((zs8437.getD ((x8439 / 16).toNat) 0) + ((x10127 : Nat) : Int))).getD ((x8439 / 16).toNat) 0) - ((x10127 : Nat) : Int)) ≤ 9223372036854775807) (some (((zs8437.set ((x8439 / 16).toNat) ((zs8437.getD ((x8439 / 16).toNat) 0) + ((x10127 : Nat) : Int))).set ((x8439 / 16).toNat) (((zs8437.set ((x8439 / 16).toNat) ((zs8437.getD ((x8439 / 16).toNat) 0) + ((x10127 : Nat) : Int))).getD ((x8439 / 16).toNat) 0) - ((x10127 : Nat) : Int))), x10127, x10128, zs10408, x10409)))) else (some ((zs8437.set ((x8439 / 16).toNat) ((zs8437.getD ((x8439 / 16).toNat) 0) + ((x10127 : Nat) : Int))), x10127, x10128, zs10408, x10409)))))))))))))) : Option (List Int × Nat × Nat × List Int × Nat)) (fun (zs10024, x10026, x10027, zs10031, x10032) => gd (-9223372036854775808 ≤ (x8439 - 1)) (gd ((x8439 - 1) ≤ 9223372036854775807) (some (.inl (zs10024, (x8439 - 1))))))) else (some (.inr zs8437))
noncomputable def F_casemateref14_root_l4 (zs5282 : List Int) : (Nat × Int) → Option ((Nat × Int) ⊕ Nat) := fun (x10931, x10933) => if 0 ≤ x10933 then (gd (x10933 < ((5 : Nat) : Int)) (ltb ((((x10931 * 65536 % 18446744073709551616) + (((zs5282.getD x10933.toNat 0) % 18446744073709551616).toNat)) % 18446744073709551616)) fun (t10996 : Nat) => gd (-9223372036854775808 ≤ (x10933 - 1)) (gd ((x10933 - 1) ≤ 9223372036854775807) (some (.inl (t10996, (x10933 - 1))))))) else (some (.inr x10931))
noncomputable def F_casemateref14_root (x0 : Int) (x1 : Int) : Option Nat := bnd (run (F_casemateref14_root_l1 x1 x0) ((List.replicate 5 (0 : Int)), (68 : Int)) : Option (List Int)) (fun (zs5282 : List Int) => bnd (run (F_casemateref14_root_l4 zs5282) (0, (3 : Int)) : Option Nat) (fun (x10840 : Nat) => some x10840))
set_option maxHeartbeats 4000000 in
theorem W_casemateref14_root (x0 : Int) (x1 : Int) (w : World) (r : Nat) (h : F_casemateref14_root x0 x1 = some r) :
    Calls Try.prog 44 [.int .i64 x0, .int .i64 x1].toArray w (Ret fun v w' => v = .int .u64 ((r : Nat) : Int) ∧ r < 18446744073709551616 ∧ Heap w [] w' []) := by
  unfold F_casemateref14_root at h
  refine enter Try.func44 rfl (n := 81) Try.ntmps44 (by simp) ?_
  intro a hF
  have hS := Heap.init w
  refine wp_seq_k (fun K1 hK2 => ?_)
  refine wp_region_lit ?_
  refine pu_end hT 1 _ hF [0, 1] (G := [(0, .int .i64 x0), (1, .int .i64 x1)]) (cs := []) (by kernel_rfl) rfl trivial ?_; clear hF a; intro a3 hF4
  refine hK2 _ _ ?_
  refine wp_seq_k (fun K5 hK6 => ?_)
  refine wp_region_lit ?_
  refine wl (h_make hT (d := 14) (T := 3) (m := 5) (i := tr3) (l' := vi (List.replicate 5 (0 : Int))) (by kernel_rfl) (by intro t x y h; cases h; rfl) hF4 hS (by decide) (by simp [maxLen]) rfl (by first | exact made_list rfl rfl | exact made_vi rfl rfl) ?_)
  rintro a9 w10 A7 hS11 g12 ha13 hF14; clear ha13 hF4 a3 hS
  have hS15 : Heap w [] w10 [.row 3 1 A7 5 5 (vi (List.replicate 5 (0 : Int)))] := hS11; clear hS11
  have hF16 := hF14.pick [0, 1, 14] (G := [(0, .int .i64 x0), (1, .int .i64 x1), (14, .slice A7 5 5)]) (by kernel_rfl); clear hF14
  refine pu_end hT 1 _ hF16 [0, 1, 5] (G := [(0, .int .i64 x0), (1, .int .i64 x1), (5, .slice A7 5 5)]) (cs := []) (by kernel_rfl) rfl trivial ?_; clear hF16 a9; intro a17 hF18
  refine hK6 _ _ ?_
  obtain ⟨xj5284, hx5285, h5286⟩ := bnd_some h; clear h
  refine seqJ (fun a W => ∃ (zs5282 : List Int), zs5282 = xj5284 ∧ (Fr 81 a [(5, .slice A7 5 5)]) ∧ (Heap w [] W [.row 3 1 A7 5 5 (vi zs5282)]) ∧ (zs5282.length = 5)) ?_ ?_
  · skip
    refine wp_seq_k (fun K5287 hK5288 => ?_)
    refine wp_region_lit ?_
    refine pu_end hT 1 _ hF18 [0, 1, 5, 6] (G := [(0, .int .i64 x0), (1, .int .i64 x1), (5, .slice A7 5 5), (6, .int .i64 68)]) (cs := []) (by kernel_rfl) rfl trivial ?_; clear hF18 a17; intro a5289 hF5290
    refine hK5288 _ _ ?_
    refine wp_block ?_
    refine loopR (F_casemateref14_root_l1 x1 x0) xj5284 ((List.replicate 5 (0 : Int)), (68 : Int)) hx5285 (fun s a W => ∃ (zs8437 : List Int), ∃ (x8439 : Int), (zs8437, x8439) = s ∧ (Fr 81 a [(0, .int .i64 x0), (1, .int .i64 x1), (5, .slice A7 5 5), (6, .int .i64 x8439)]) ∧ (Heap w [] W [.row 3 1 A7 5 5 (vi zs8437)]) ∧ (zs8437.length = 5)) ⟨(List.replicate 5 (0 : Int)), (68 : Int), rfl, hF5290.pick [0, 1, 5, 6] (by kernel_rfl), hS15.pick [0] (by decide) rfl, (len_rep (α := Int) 5 0)⟩ ?_
    clear hF5290 hS15 hx5285
    rintro k9500 _ a9495 w9496 ⟨zs8437, x8439, rfl, hF9497, hS9498, hh8438⟩ hit9494 K9493 hK9492
    obtain ⟨y9490, h9499, hy9491⟩ := iter_succ hit9494; clear hit9494
    unfold F_casemateref14_root_l1 at h9499; try dsimp only at h9499
    refine wp_seq_k (fun K9505 hK9506 => ?_)
    refine wp_seq_k (fun K9507 hK9508 => ?_)
    refine wp_region_lit ?_
    refine pu_end hT 2 _ hF9497 [0, 1, 5, 6, 16] (G := [(0, .int .i64 x0), (1, .int .i64 x1), (5, .slice A7 5 5), (6, .int .i64 x8439), (16, .bool ((decide (0 ≤ x8439))))]) (cs := []) (by kernel_rfl) rfl trivial ?_; clear hF9497 a9495; intro a9509 hF9510
    refine hK9508 _ _ ?_
    rcases (ite_some h9499 : ((0 ≤ x8439) ∧ _) ∨ (¬ (0 ≤ x8439) ∧ _)) with ⟨hc9511, h9512⟩ | ⟨hc9511, h9512⟩
    · clear h9499
      have hF9513 : Fr 81 a9509 [(0, .int .i64 x0), (1, .int .i64 x1), (5, .slice A7 5 5), (6, .int .i64 x8439), (16, .bool true)] := hF9510.pick [0, 1, 5, 6, 16] (by rw [decide_eq_true hc9511]; kernel_rfl); clear hF9510
      refine condT hF9513 (by kernel_rfl) ?_
      refine wp_skip ?_
      refine hK9506 _ _ ?_
      obtain ⟨xj10033, hx10034, h10035⟩ := bnd_some h9512; clear h9512
      refine seqJ (fun a W => ∃ (zs10024 : List Int), ∃ (x10026 : Nat), ∃ (x10027 : Nat), ∃ (zs10031 : List Int), ∃ (x10032 : Nat), ∃ (A10029 : Option Addr), ∃ (c10030 : Nat), (zs10024, x10026, x10027, zs10031, x10032) = xj10033 ∧ (Fr 81 a [(0, .int .i64 x0), (1, .int .i64 x1), (5, .slice A7 5 5), (6, .int .i64 x8439), (7, .int .i64 ((x10026 : Nat) : Int)), (8, .int .i64 ((x10027 : Nat) : Int)), (9, .slice A10029 zs10031.length c10030), (10, .int .i64 ((x10032 : Nat) : Int))]) ∧ (Heap w [] W [.row 3 1 A7 5 5 (vi zs10024), .row 3 1 A10029 zs10031.length c10030 (vi zs10031)]) ∧ (zs10024.length = 5)) ?_ ?_
      · skip
        refine wp_block ?_
        refine wp_seq_k (fun K10036 hK10037 => ?_)
        refine wp_region_lit ?_
        refine pu_end hT 1 _ hF9513 [0, 1, 5, 6, 7] (G := [(0, .int .i64 x0), (1, .int .i64 x1), (5, .slice A7 5 5), (6, .int .i64 x8439), (7, .int .i64 1)]) (cs := []) (by kernel_rfl) rfl trivial ?_; clear hF9513 a9509; intro a10038 hF10039
        refine hK10037 _ _ ?_
        obtain ⟨xj10129, hx10130, h10131⟩ := bnd_some hx10034; clear hx10034
        refine seqJ (fun a W => ∃ (x10127 : Nat), ∃ (x10128 : Nat), (x10127, x10128) = xj10129 ∧ (Fr 81 a [(0, .int .i64 x0), (1, .int .i64 x1), (5, .slice A7 5 5), (6, .int .i64 x8439), (7, .int .i64 ((x10127 : Nat) : Int)), (8, .int .i64 ((x10128 : Nat) : Int))]) ∧ (Heap w [] W [.row 3 1 A7 5 5 (vi zs8437)])) ?_ ?_
        · skip
          refine wp_seq_k (fun K10132 hK10133 => ?_)
          refine wp_region_lit ?_
          refine pu_end hT 1 _ hF10039 [0, 1, 5, 6, 7, 8] (G := [(0, .int .i64 x0), (1, .int .i64 x1), (5, .slice A7 5 5), (6, .int .i64 x8439), (7, .int .i64 1), (8, .int .i64 0)]) (cs := []) (by kernel_rfl) rfl trivial ?_; clear hF10039 a10038; intro a10134 hF10135
          refine hK10133 _ _ ?_
          refine wp_block ?_
          refine loopR (F_casemateref14_root_l2 x8439) xj10129 (1, 0) hx10130 (fun s a W => ∃ (x10171 : Nat), ∃ (x10172 : Nat), (x10171, x10172) = s ∧ (Fr 81 a [(0, .int .i64 x0), (1, .int .i64 x1), (5, .slice A7 5 5), (6, .int .i64 x8439), (7, .int .i64 ((x10171 : Nat) : Int)), (8, .int .i64 ((x10172 : Nat) : Int))]) ∧ (Heap w [] W [.row 3 1 A7 5 5 (vi zs8437)])) ⟨1, 0, rfl, hF10135.pick [0, 1, 5, 6, 7, 8] (by kernel_rfl), hS9498.pick [0] (by decide) rfl⟩ ?_
          clear hF10135 hS9498 hx10130
          rintro k10201 _ a10196 w10197 ⟨x10171, x10172, rfl, hF10198, hS10199⟩ hit10195 K10194 hK10193
          obtain ⟨y10191, h10200, hy10192⟩ := iter_succ hit10195; clear hit10195
          unfold F_casemateref14_root_l2 at h10200; try dsimp only at h10200
          refine wp_seq_k (fun K10206 hK10207 => ?_)
          refine wp_seq_k (fun K10208 hK10209 => ?_)
          refine wp_region_lit ?_
          refine pu_end hT 4 _ hF10198 [0, 1, 5, 6, 7, 8, 22] (G := [(0, .int .i64 x0), (1, .int .i64 x1), (5, .slice A7 5 5), (6, .int .i64 x8439), (7, .int .i64 ((x10171 : Nat) : Int)), (8, .int .i64 ((x10172 : Nat) : Int)), (22, .bool ((decide (((x10172 : Nat) : Int) < (x8439 % 16)))))]) (cs := [0 ≤ x8439, 0 < (16 : Int)]) (by kernel_rfl) rfl (And.intro hc9511 (And.intro (by decide) trivial)) ?_; clear hF10198 a10196; intro a10210 hF10211
          refine hK10209 _ _ ?_
          rcases (ite_some h10200 : ((((x10172 : Nat) : Int) < (x8439 % 16)) ∧ _) ∨ (¬ (((x10172 : Nat) : Int) < (x8439 % 16)) ∧ _)) with ⟨hc10212, h10213⟩ | ⟨hc10212, h10213⟩
          · clear h10200
            have hF10214 : Fr 81 a10210 [(0, .int .i64 x0), (1, .int .i64 x1), (5, .slice A7 5 5), (6, .int .i64 x8439), (7, .int .i64 ((x10171 : Nat) : Int)), (8, .int .i64 ((x10172 : Nat) : Int)), (22, .bool true)] := hF10211.pick [0, 1, 5, 6, 7, 8, 22] (by rw [decide_eq_true hc10212]; kernel_rfl); clear hF10211
            refine condT hF10214 (by kernel_rfl) ?_
            refine wp_skip ?_
            refine hK10207 _ _ ?_
            refine wp_seq_k (fun K10217 hK10218 => ?_)
            refine wp_block ?_
            obtain ⟨g10220, h10219⟩ : ((((2 * x10171) : Nat) : Int) ≤ 9223372036854775807) ∧ _ := gd_some h10213; clear h10213
            refine wp_region_lit ?_
            refine pu_end hT 3 _ hF10214 [0, 1, 5, 6, 8, 7] (G := [(0, .int .i64 x0), (1, .int .i64 x1), (5, .slice A7 5 5), (6, .int .i64 x8439), (8, .int .i64 ((x10172 : Nat) : Int)), (7, .int .i64 (((2 * x10171) : Nat) : Int))]) (cs := [-9223372036854775808 ≤ (((2 * x10171) : Nat) : Int), (((2 * x10171) : Nat) : Int) ≤ 9223372036854775807]) (by kernel_rfl) rfl (And.intro (Int.le_trans (by decide) (Int.natCast_nonneg _)) (And.intro g10220 trivial)) ?_; clear hF10214 a10210; intro a10221 hF10222
            refine hK10218 _ _ ?_
            obtain ⟨g10224, h10223⟩ : ((((x10172 + 1) : Nat) : Int) ≤ 9223372036854775807) ∧ _ := gd_some h10219; clear h10219
            refine wp_region_lit ?_
            refine pu_end hT 3 _ hF10222 [0, 1, 5, 6, 7, 8] (G := [(0, .int .i64 x0), (1, .int .i64 x1), (5, .slice A7 5 5), (6, .int .i64 x8439), (7, .int .i64 (((2 * x10171) : Nat) : Int)), (8, .int .i64 (((x10172 + 1) : Nat) : Int))]) (cs := [-9223372036854775808 ≤ (((x10172 + 1) : Nat) : Int), (((x10172 + 1) : Nat) : Int) ≤ 9223372036854775807]) (by kernel_rfl) rfl (And.intro (by omega) (And.intro g10224 trivial)) ?_; clear hF10222 a10221; intro a10225 hF10226
            obtain rfl := Option.some.inj h10223
            exact hK10193 _ _ _ hy10192 ⟨(2 * x10171), (x10172 + 1), rfl, hF10226.pick [0, 1, 5, 6, 7, 8] (by kernel_rfl), hS10199.pick [0] (by decide) rfl⟩
          · clear h10200
            have hF10227 : Fr 81 a10210 [(0, .int .i64 x0), (1, .int .i64 x1), (5, .slice A7 5 5), (6, .int .i64 x8439), (7, .int .i64 ((x10171 : Nat) : Int)), (8, .int .i64 ((x10172 : Nat) : Int)), (22, .bool false)] := hF10211.pick [0, 1, 5, 6, 7, 8, 22] (by rw [decide_eq_false hc10212]; kernel_rfl); clear hF10211
            refine condF hF10227 (by kernel_rfl) ?_
            refine wp_exit ?_
            obtain rfl := Option.some.inj h10213
            obtain rfl : _ = xj10129 := hy10192
            exact ⟨x10171, x10172, rfl, hF10227.pick [0, 1, 5, 6, 7, 8] (by kernel_rfl), hS10199.pick [0] (by decide) rfl⟩
        · skip
          clear hx10130 hF10039 hS9498 
          rintro a10228 w10229 ⟨x10127, x10128, rfl, hF10230, hS10231⟩
          refine wp_seq_k (fun K10233 hK10234 => ?_)
          obtain ⟨g10236, h10235⟩ : (x8439 ≤ 9223372036854775807) ∧ _ := gd_some h10131; clear h10131
          obtain ⟨g10238, h10237⟩ : (0 ≤ (x8439 / 16)) ∧ _ := gd_some h10235; clear h10235
          obtain ⟨g10240, h10239⟩ : ((x8439 / 16) < ((5 : Nat) : Int)) ∧ _ := gd_some h10237; clear h10237
          obtain ⟨g10242, h10241⟩ : (-9223372036854775808 ≤ ((zs8437.getD ((x8439 / 16).toNat) 0) + ((x10127 : Nat) : Int))) ∧ _ := gd_some h10239; clear h10239
          obtain ⟨g10244, h10243⟩ : (((zs8437.getD ((x8439 / 16).toNat) 0) + ((x10127 : Nat) : Int)) ≤ 9223372036854775807) ∧ _ := gd_some h10241; clear h10241
          refine wp_region_lit ?_
          refine pu hT 7 _ hF10230 [0, 1, 5, 6, 7, 8, 27, 29, 33] (G := [(0, .int .i64 x0), (1, .int .i64 x1), (5, .slice A7 5 5), (6, .int .i64 x8439), (7, .int .i64 ((x10127 : Nat) : Int)), (8, .int .i64 ((x10128 : Nat) : Int)), (27, .slice A7 5 5), (29, .int .i64 (x8439 / 16)), (33, .pointer (some ⟨(ablk A7), (aoff A7 + (x8439 / 16).toNat), none⟩))]) (cs := [0 ≤ x8439, x8439 ≤ 9223372036854775807, 0 < (16 : Int), 0 ≤ x8439, x8439 ≤ 9223372036854775807, 0 < (16 : Int), 0 ≤ (x8439 / 16), (x8439 / 16) < ((5 : Nat) : Int), (A7 : Option Addr) = some ⟨ablk A7, aoff A7, none⟩]) (by kernel_rfl) (And.intro hc9511 (And.intro g10236 (And.intro (by decide) (And.intro hc9511 (And.intro g10236 (And.intro (by decide) (And.intro g10238 (And.intro g10240 (And.intro ((hS10231.own 0 rfl).rd.some' (by have := hh8438; first | omega | (simp only [zA, zS, zT, zD, zR, zC, zN, zV, zI] <;> omega))) trivial))))))))) ?_; clear hF10230 a10228; intro a10245 hF10246
          refine wl (s_load hT (d := 34) (A := ⟨(ablk A7), (aoff A7 + (x8439 / 16).toNat), none⟩) (v := .int .i64 (zs8437.getD ((x8439 / 16).toNat) 0)) (by kernel_rfl) hF10246 (Cells.at (hS10231.own 0 rfl).rd.cells (vi_get zs8437 (i := (x8439 / 16).toNat) (by have := hh8438; first | omega | (simp only [zA, zS, zT, zD, zR, zC, zN, zV, zI] <;> omega) | (simp [*]; done) | (simp [*]; omega))) (by first | rfl | omega)) ?_)
          rintro a10247 ha10249 hF10248; clear ha10249 hF10246 a10245
          have hF10250 := hF10248.pick [0, 1, 5, 6, 7, 8, 27, 29, 34] (G := [(0, .int .i64 x0), (1, .int .i64 x1), (5, .slice A7 5 5), (6, .int .i64 x8439), (7, .int .i64 ((x10127 : Nat) : Int)), (8, .int .i64 ((x10128 : Nat) : Int)), (27, .slice A7 5 5), (29, .int .i64 (x8439 / 16)), (34, .int .i64 (zs8437.getD ((x8439 / 16).toNat) 0))]) (by kernel_rfl); clear hF10248
          refine pu hT 3 _ hF10250 [0, 1, 5, 6, 7, 8, 36, 37] (G := [(0, .int .i64 x0), (1, .int .i64 x1), (5, .slice A7 5 5), (6, .int .i64 x8439), (7, .int .i64 ((x10127 : Nat) : Int)), (8, .int .i64 ((x10128 : Nat) : Int)), (36, .int .i64 ((zs8437.getD ((x8439 / 16).toNat) 0) + ((x10127 : Nat) : Int))), (37, .pointer (some ⟨(ablk A7), (aoff A7 + (x8439 / 16).toNat), none⟩))]) (cs := [-9223372036854775808 ≤ ((zs8437.getD ((x8439 / 16).toNat) 0) + ((x10127 : Nat) : Int)), ((zs8437.getD ((x8439 / 16).toNat) 0) + ((x10127 : Nat) : Int)) ≤ 9223372036854775807, 0 ≤ (x8439 / 16), (x8439 / 16) < ((5 : Nat) : Int), (A7 : Option Addr) = some ⟨ablk A7, aoff A7, none⟩]) (by kernel_rfl) (And.intro g10242 (And.intro g10244 (And.intro g10238 (And.intro g10240 (And.intro ((hS10231.own 0 rfl).rd.some' (by have := hh8438; first | omega | (simp only [zA, zS, zT, zD, zR, zC, zN, zV, zI] <;> omega))) trivial))))) ?_; clear hF10250 a10247; intro a10251 hF10252
          refine wl (h_storeR hT (off := (x8439 / 16).toNat) (p := ⟨(ablk A7), (aoff A7 + (x8439 / 16).toNat), none⟩) (v := .int .i64 ((zs8437.getD ((x8439 / 16).toNat) 0) + ((x10127 : Nat) : Int))) (l' := vi (zs8437.set ((x8439 / 16).toNat) ((zs8437.getD ((x8439 / 16).toNat) 0) + ((x10127 : Nat) : Int)))) (by kernel_rfl) hF10252 hS10231 0 rfl (by have := hh8438; have := (hS10231.own 0 rfl).cap; simp only [zA, zS, zT, zD, zR, zC, zN, zV, zI] <;> omega) (by first | rfl | (congr 1; omega)) (by first | exact vs_set _ _ _ _ | exact vi_set _ _ _ | rfl) ?_)
          rintro a10253 w10254 ha10257 hF10258 hS10255 g10256; clear ha10257 hF10252 a10251 hS10231
          have hS10259 : Heap w [] w10254 [.row 3 1 A7 5 5 (vi (zs8437.set ((x8439 / 16).toNat) ((zs8437.getD ((x8439 / 16).toNat) 0) + ((x10127 : Nat) : Int))))] := hS10255; clear hS10255
          have hF10260 := hF10258.pick [0, 1, 5, 6, 7, 8] (G := [(0, .int .i64 x0), (1, .int .i64 x1), (5, .slice A7 5 5), (6, .int .i64 x8439), (7, .int .i64 ((x10127 : Nat) : Int)), (8, .int .i64 ((x10128 : Nat) : Int))]) (by kernel_rfl); clear hF10258
          refine wpList_nil ?_
          refine hK10234 _ _ ?_
          refine wp_seq_k (fun K10261 hK10262 => ?_)
          refine wp_region_lit ?_
          refine wl (h_lit hT (d := 38) (T := 3) (l := vi [1]) (by kernel_rfl) hF10260 hS10259 (by simp [maxLen]) ?_)
          rintro a10265 w10266 A10263 hS10267 g10268 ha10269 hF10270; clear ha10269 hF10260 a10253 hS10259
          have hS10271 : Heap w [] w10266 [.row 3 1 A10263 1 1 (vi [1]), .row 3 1 A7 5 5 (vi (zs8437.set ((x8439 / 16).toNat) ((zs8437.getD ((x8439 / 16).toNat) 0) + ((x10127 : Nat) : Int))))] := hS10267; clear hS10267
          have hF10272 := hF10270.pick [0, 1, 5, 6, 7, 8, 38] (G := [(0, .int .i64 x0), (1, .int .i64 x1), (5, .slice A7 5 5), (6, .int .i64 x8439), (7, .int .i64 ((x10127 : Nat) : Int)), (8, .int .i64 ((x10128 : Nat) : Int)), (38, .slice A10263 1 1)]) (by kernel_rfl); clear hF10270
          refine pu_end hT 1 _ hF10272 [0, 1, 5, 6, 7, 8, 9] (G := [(0, .int .i64 x0), (1, .int .i64 x1), (5, .slice A7 5 5), (6, .int .i64 x8439), (7, .int .i64 ((x10127 : Nat) : Int)), (8, .int .i64 ((x10128 : Nat) : Int)), (9, .slice A10263 1 1)]) (cs := []) (by kernel_rfl) rfl trivial ?_; clear hF10272 a10265; intro a10273 hF10274
          refine hK10262 _ _ ?_
          obtain ⟨xj10410, hx10411, h10412⟩ := bnd_some h10243; clear h10243
          refine seqJ (fun a W => ∃ (zs10408 : List Int), ∃ (x10409 : Nat), ∃ (A10406 : Option Addr), ∃ (c10407 : Nat), (zs10408, x10409) = xj10410 ∧ (Fr 81 a [(0, .int .i64 x0), (1, .int .i64 x1), (5, .slice A7 5 5), (6, .int .i64 x8439), (7, .int .i64 ((x10127 : Nat) : Int)), (8, .int .i64 ((x10128 : Nat) : Int)), (9, .slice A10406 zs10408.length c10407), (10, .int .i64 ((x10409 : Nat) : Int))]) ∧ (Heap w [] W [.row 3 1 A7 5 5 (vi (zs8437.set ((x8439 / 16).toNat) ((zs8437.getD ((x8439 / 16).toNat) 0) + ((x10127 : Nat) : Int)))), .row 3 1 A10406 zs10408.length c10407 (vi zs10408)])) ?_ ?_
          · skip
            refine wp_seq_k (fun K10413 hK10414 => ?_)
            refine wp_region_lit ?_
            refine pu_end hT 1 _ hF10274 [0, 1, 5, 6, 7, 8, 9, 10] (G := [(0, .int .i64 x0), (1, .int .i64 x1), (5, .slice A7 5 5), (6, .int .i64 x8439), (7, .int .i64 ((x10127 : Nat) : Int)), (8, .int .i64 ((x10128 : Nat) : Int)), (9, .slice A10263 1 1), (10, .int .i64 0)]) (cs := []) (by kernel_rfl) rfl trivial ?_; clear hF10274 a10273; intro a10415 hF10416
            refine hK10414 _ _ ?_
            refine wp_block ?_
            refine loopR (F_casemateref14_root_l3 x1 zs8437 x8439 x10127) xj10410 ([1], 0) hx10411 (fun s a W => ∃ (zs10479 : List Int), ∃ (x10480 : Nat), ∃ (A10477 : Option Addr), ∃ (c10478 : Nat), (zs10479, x10480) = s ∧ (Fr 81 a [(0, .int .i64 x0), (1, .int .i64 x1), (5, .slice A7 5 5), (6, .int .i64 x8439), (7, .int .i64 ((x10127 : Nat) : Int)), (8, .int .i64 ((x10128 : Nat) : Int)), (9, .slice A10477 zs10479.length c10478), (10, .int .i64 ((x10480 : Nat) : Int))]) ∧ (Heap w [] W [.row 3 1 A7 5 5 (vi (zs8437.set ((x8439 / 16).toNat) ((zs8437.getD ((x8439 / 16).toNat) 0) + ((x10127 : Nat) : Int)))), .row 3 1 A10477 zs10479.length c10478 (vi zs10479)])) ⟨[1], 0, A10263, 1, rfl, hF10416.pick [0, 1, 5, 6, 7, 8, 9, 10] (by kernel_rfl), hS10271.pick [1, 0] (by decide) rfl⟩ ?_
            clear hF10416 hS10271 hx10411
            rintro k10517 _ a10512 w10513 ⟨zs10479, x10480, A10477, c10478, rfl, hF10514, hS10515⟩ hit10511 K10510 hK10509
            obtain ⟨y10507, h10516, hy10508⟩ := iter_succ hit10511; clear hit10511
            unfold F_casemateref14_root_l3 at h10516; try dsimp only at h10516
            refine wp_seq_k (fun K10522 hK10523 => ?_)
            refine wp_seq_k (fun K10524 hK10525 => ?_)
            refine wp_region_lit ?_
            refine pu_end hT 3 _ hF10514 [0, 1, 5, 6, 7, 8, 9, 10, 41] (G := [(0, .int .i64 x0), (1, .int .i64 x1), (5, .slice A7 5 5), (6, .int .i64 x8439), (7, .int .i64 ((x10127 : Nat) : Int)), (8, .int .i64 ((x10128 : Nat) : Int)), (9, .slice A10477 zs10479.length c10478), (10, .int .i64 ((x10480 : Nat) : Int)), (41, .bool ((decide (((x10480 : Nat) : Int) < x1))))]) (cs := []) (by kernel_rfl) rfl trivial ?_; clear hF10514 a10512; intro a10526 hF10527
            refine hK10525 _ _ ?_
            rcases (ite_some h10516 : ((((x10480 : Nat) : Int) < x1) ∧ _) ∨ (¬ (((x10480 : Nat) : Int) < x1) ∧ _)) with ⟨hc10528, h10529⟩ | ⟨hc10528, h10529⟩
            · clear h10516
              have hF10530 : Fr 81 a10526 [(0, .int .i64 x0), (1, .int .i64 x1), (5, .slice A7 5 5), (6, .int .i64 x8439), (7, .int .i64 ((x10127 : Nat) : Int)), (8, .int .i64 ((x10128 : Nat) : Int)), (9, .slice A10477 zs10479.length c10478), (10, .int .i64 ((x10480 : Nat) : Int)), (41, .bool true)] := hF10527.pick [0, 1, 5, 6, 7, 8, 9, 10, 41] (by rw [decide_eq_true hc10528]; kernel_rfl); clear hF10527
              refine condT hF10530 (by kernel_rfl) ?_
              refine wp_skip ?_
              refine hK10523 _ _ ?_
              refine wp_seq_k (fun K10537 hK10538 => ?_)
              refine wp_block ?_
              obtain ⟨zs10539, hr10541, h10540⟩ := bnd_some h10529; clear h10529; replace hr10541 : F_casemateref13_Times zs10479 (zs8437.set ((x8439 / 16).toNat) ((zs8437.getD ((x8439 / 16).toNat) 0) + ((x10127 : Nat) : Int))) = some (zs10539) := hr10541
              refine wp_region_lit ?_
              refine pu hT 2 _ hF10530 [0, 1, 5, 6, 7, 8, 9, 10, 44, 45] (G := [(0, .int .i64 x0), (1, .int .i64 x1), (5, .slice A7 5 5), (6, .int .i64 x8439), (7, .int .i64 ((x10127 : Nat) : Int)), (8, .int .i64 ((x10128 : Nat) : Int)), (9, .slice A10477 zs10479.length c10478), (10, .int .i64 ((x10480 : Nat) : Int)), (44, .slice A10477 zs10479.length c10478), (45, .slice A7 5 5)]) (cs := []) (by kernel_rfl) trivial ?_; clear hF10530 a10526; intro a10545 hF10546
              have hF10547 : Fr 81 a10545 [(0, .int .i64 x0), (1, .int .i64 x1), (5, .slice A7 5 5), (6, .int .i64 x8439), (7, .int .i64 ((x10127 : Nat) : Int)), (8, .int .i64 ((x10128 : Nat) : Int)), (9, .slice A10477 zs10479.length c10478), (10, .int .i64 ((x10480 : Nat) : Int)), (44, .slice A10477 zs10479.length c10478), (45, .slice A7 ((zs8437.set ((x8439 / 16).toNat) ((zs8437.getD ((x8439 / 16).toNat) 0) + ((x10127 : Nat) : Int))).length) 5)] := (hF10546.pick [0, 1, 5, 6, 7, 8, 9, 10, 44, 45] (G := [(0, .int .i64 x0), (1, .int .i64 x1), (5, .slice A7 5 5), (6, .int .i64 x8439), (7, .int .i64 ((x10127 : Nat) : Int)), (8, .int .i64 ((x10128 : Nat) : Int)), (9, .slice A10477 zs10479.length c10478), (10, .int .i64 ((x10480 : Nat) : Int)), (44, .slice A10477 zs10479.length c10478), (45, .slice A7 5 5)]) (by kernel_rfl)).to (by simp only [((len_set hh8438 ((x8439 / 16).toNat) ((zs8437.getD ((x8439 / 16).toNat) 0) + ((x10127 : Nat) : Int))) : (zs8437.set ((x8439 / 16).toNat) ((zs8437.getD ((x8439 / 16).toNat) 0) + ((x10127 : Nat) : Int))).length = 5)]); clear hF10546
              refine wl (s_call (d := 46) (f := 65) (l := [.slice A10477 zs10479.length c10478, .slice A7 ((zs8437.set ((x8439 / 16).toNat) ((zs8437.getD ((x8439 / 16).toNat) 0) + ((x10127 : Nat) : Int))).length) 5]) (by kernel_rfl) hF10547 cl65 (W_casemateref13_Times A10477 c10478 zs10479 A7 5 (zs8437.set ((x8439 / 16).toNat) ((zs8437.getD ((x8439 / 16).toNat) 0) + ((x10127 : Nat) : Int))) _ (hS10515.own 1 rfl).rd (by have := (hS10515.own 1 rfl).cap; have := (Eq.refl zs10479.length); skip; have := (Eq.refl zs10479.length); first | omega | (simp only [zA, zS, zT, zD, zR, zC, zN, zV, zI] <;> omega) | (simp only [zA, zS, zT, zD, zR, zC, zN, zV, zI] at * <;> omega)) (hS10515.own 0 rfl).rd (by have := (hS10515.own 0 rfl).cap; have := (len_set hh8438 ((x8439 / 16).toNat) ((zs8437.getD ((x8439 / 16).toNat) 0) + ((x10127 : Nat) : Int))); skip; have := (len_set hh8438 ((x8439 / 16).toNat) ((zs8437.getD ((x8439 / 16).toNat) 0) + ((x10127 : Nat) : Int))); first | omega | (simp only [zA, zS, zT, zD, zR, zC, zN, zV, zI] <;> omega) | (simp only [zA, zS, zT, zD, zR, zC, zN, zV, zI] at * <;> omega)) zs10539 hr10541) ?_)
              rintro a10548 w10549 v10550 ⟨A10542, c10543, rfl, hC10551⟩ ha10552 hF10553; clear ha10552 hF10547 a10545
              have hS10554 : Heap w [] w10549 [.row 3 1 A10542 zs10539.length c10543 (vi zs10539), .row 3 1 A7 5 5 (vi (zs8437.set ((x8439 / 16).toNat) ((zs8437.getD ((x8439 / 16).toNat) 0) + ((x10127 : Nat) : Int)))), .row 3 1 A10477 zs10479.length c10478 (vi zs10479)] := Heap.call hS10515 hC10551; clear hS10515
              have hF10555 := hF10553.pick [0, 1, 5, 6, 7, 8, 9, 10, 46] (G := [(0, .int .i64 x0), (1, .int .i64 x1), (5, .slice A7 5 5), (6, .int .i64 x8439), (7, .int .i64 ((x10127 : Nat) : Int)), (8, .int .i64 ((x10128 : Nat) : Int)), (9, .slice A10477 zs10479.length c10478), (10, .int .i64 ((x10480 : Nat) : Int)), (46, .slice A10542 zs10539.length c10543)]) (by kernel_rfl); clear hF10553
              refine pu_end hT 1 _ hF10555 [0, 1, 5, 6, 7, 8, 10, 9] (G := [(0, .int .i64 x0), (1, .int .i64 x1), (5, .slice A7 5 5), (6, .int .i64 x8439), (7, .int .i64 ((x10127 : Nat) : Int)), (8, .int .i64 ((x10128 : Nat) : Int)), (10, .int .i64 ((x10480 : Nat) : Int)), (9, .slice A10542 zs10539.length c10543)]) (cs := []) (by kernel_rfl) rfl trivial ?_; clear hF10555 a10548; intro a10556 hF10557
              refine hK10538 _ _ ?_
              obtain ⟨g10559, h10558⟩ : ((((x10480 + 1) : Nat) : Int) ≤ 9223372036854775807) ∧ _ := gd_some h10540; clear h10540
              refine wp_region_lit ?_
              refine pu_end hT 3 _ hF10557 [0, 1, 5, 6, 7, 8, 9, 10] (G := [(0, .int .i64 x0), (1, .int .i64 x1), (5, .slice A7 5 5), (6, .int .i64 x8439), (7, .int .i64 ((x10127 : Nat) : Int)), (8, .int .i64 ((x10128 : Nat) : Int)), (9, .slice A10542 zs10539.length c10543), (10, .int .i64 (((x10480 + 1) : Nat) : Int))]) (cs := [-9223372036854775808 ≤ (((x10480 + 1) : Nat) : Int), (((x10480 + 1) : Nat) : Int) ≤ 9223372036854775807]) (by kernel_rfl) rfl (And.intro (by omega) (And.intro g10559 trivial)) ?_; clear hF10557 a10556; intro a10560 hF10561
              obtain rfl := Option.some.inj h10558
              exact hK10509 _ _ _ hy10508 ⟨zs10539, (x10480 + 1), A10542, c10543, rfl, hF10561.pick [0, 1, 5, 6, 7, 8, 9, 10] (by kernel_rfl), hS10554.pick [1, 0] (by decide) rfl⟩
            · clear h10516
              have hF10562 : Fr 81 a10526 [(0, .int .i64 x0), (1, .int .i64 x1), (5, .slice A7 5 5), (6, .int .i64 x8439), (7, .int .i64 ((x10127 : Nat) : Int)), (8, .int .i64 ((x10128 : Nat) : Int)), (9, .slice A10477 zs10479.length c10478), (10, .int .i64 ((x10480 : Nat) : Int)), (41, .bool false)] := hF10527.pick [0, 1, 5, 6, 7, 8, 9, 10, 41] (by rw [decide_eq_false hc10528]; kernel_rfl); clear hF10527
              refine condF hF10562 (by kernel_rfl) ?_
              refine wp_exit ?_
              obtain rfl := Option.some.inj h10529
              obtain rfl : _ = xj10410 := hy10508
              exact ⟨zs10479, x10480, A10477, c10478, rfl, hF10562.pick [0, 1, 5, 6, 7, 8, 9, 10] (by kernel_rfl), hS10515.pick [0, 1] (by decide) rfl⟩
          · skip
            clear hx10411 hF10274 hS10271 
            rintro a10563 w10564 ⟨zs10408, x10409, A10406, c10407, rfl, hF10565, hS10566⟩
            refine wp_seq_k (fun K10568 hK10569 => ?_)
            obtain ⟨g10571, h10570⟩ : (-9223372036854775808 ≤ (4 * x1)) ∧ _ := gd_some h10412; clear h10412
            obtain ⟨g10573, h10572⟩ : ((4 * x1) ≤ 9223372036854775807) ∧ _ := gd_some h10570; clear h10570
            obtain ⟨g10575, h10574⟩ : ((0 : Int) ≤ (4 * x1)) ∧ _ := gd_some h10572; clear h10572
            obtain ⟨t10576, hm10577, h10578⟩ := ltb_some h10574; clear h10574; have hm10579 : ((t10576 : Nat) : Int) = (4 * x1) := by rw [show t10576 = (4 * x1).toNat from hm10577]; exact Int.toNat_of_nonneg g10575
            obtain ⟨g10581, h10580⟩ : (t10576 * 8 ≤ 140737488355328) ∧ _ := gd_some h10578; clear h10578
            refine wp_region_lit ?_
            refine pu hT 2 _ hF10565 [0, 1, 5, 6, 7, 8, 9, 10, 48] (G := [(0, .int .i64 x0), (1, .int .i64 x1), (5, .slice A7 5 5), (6, .int .i64 x8439), (7, .int .i64 ((x10127 : Nat) : Int)), (8, .int .i64 ((x10128 : Nat) : Int)), (9, .slice A10406 zs10408.length c10407), (10, .int .i64 ((x10409 : Nat) : Int)), (48, .int .i64 (4 * x1))]) (cs := [-9223372036854775808 ≤ (4 * x1), (4 * x1) ≤ 9223372036854775807]) (by kernel_rfl) (And.intro g10571 (And.intro g10573 trivial)) ?_; clear hF10565 a10563; intro a10584 hF10585
            have hF10586 : Fr 81 a10584 [(0, .int .i64 x0), (1, .int .i64 x1), (5, .slice A7 5 5), (6, .int .i64 x8439), (7, .int .i64 ((x10127 : Nat) : Int)), (8, .int .i64 ((x10128 : Nat) : Int)), (9, .slice A10406 zs10408.length c10407), (10, .int .i64 ((x10409 : Nat) : Int)), (48, .int .i64 ((t10576 : Nat) : Int))] := hF10585.pick [0, 1, 5, 6, 7, 8, 9, 10, 48] (by rw [hm10579]; kernel_rfl); clear hF10585
            refine wl (h_make hT (d := 49) (T := 3) (m := t10576) (i := tr3) (l' := vi (List.replicate t10576 (0 : Int))) (by kernel_rfl) (by intro t x y h; cases h; rfl) hF10586 hS10566 g10581 (by have := g10581; simp only [maxLen]; omega) rfl (by first | exact made_list rfl rfl | exact made_vi rfl rfl) ?_)
            rintro a10587 w10588 A10582 hS10589 g10590 ha10591 hF10592; clear ha10591 hF10586 a10584 hS10566
            have hS10593 : Heap w [] w10588 [.row 3 1 A10582 t10576 t10576 (vi (List.replicate t10576 (0 : Int))), .row 3 1 A7 5 5 (vi (zs8437.set ((x8439 / 16).toNat) ((zs8437.getD ((x8439 / 16).toNat) 0) + ((x10127 : Nat) : Int)))), .row 3 1 A10406 zs10408.length c10407 (vi zs10408)] := hS10589; clear hS10589
            have hF10594 := hF10592.pick [0, 1, 5, 6, 7, 8, 9, 10, 49] (G := [(0, .int .i64 x0), (1, .int .i64 x1), (5, .slice A7 5 5), (6, .int .i64 x8439), (7, .int .i64 ((x10127 : Nat) : Int)), (8, .int .i64 ((x10128 : Nat) : Int)), (9, .slice A10406 zs10408.length c10407), (10, .int .i64 ((x10409 : Nat) : Int)), (49, .slice A10582 t10576 t10576)]) (by kernel_rfl); clear hF10592
            refine pu_end hT 1 _ hF10594 [0, 1, 5, 6, 7, 8, 9, 10, 11] (G := [(0, .int .i64 x0), (1, .int .i64 x1), (5, .slice A7 5 5), (6, .int .i64 x8439), (7, .int .i64 ((x10127 : Nat) : Int)), (8, .int .i64 ((x10128 : Nat) : Int)), (9, .slice A10406 zs10408.length c10407), (10, .int .i64 ((x10409 : Nat) : Int)), (11, .slice A10582 t10576 t10576)]) (cs := []) (by kernel_rfl) rfl trivial ?_; clear hF10594 a10587; intro a10595 hF10596
            refine hK10569 _ _ ?_
            refine wp_seq_k (fun K10597 hK10598 => ?_)
            obtain ⟨g10602, h10601⟩ : ((t10576 + 1) * 8 ≤ 140737488355328) ∧ _ := gd_some h10580; clear h10580
            refine wp_region_lit ?_
            refine pu hT 2 _ hF10596 [0, 1, 5, 6, 7, 8, 9, 10, 11, 50, 51] (G := [(0, .int .i64 x0), (1, .int .i64 x1), (5, .slice A7 5 5), (6, .int .i64 x8439), (7, .int .i64 ((x10127 : Nat) : Int)), (8, .int .i64 ((x10128 : Nat) : Int)), (9, .slice A10406 zs10408.length c10407), (10, .int .i64 ((x10409 : Nat) : Int)), (11, .slice A10582 t10576 t10576), (50, .slice A10582 t10576 t10576), (51, .int .i64 x0)]) (cs := []) (by kernel_rfl) trivial ?_; clear hF10596 a10595; intro a10606 hF10607
            refine wl (h_lit hT (d := 52) (T := 3) (l := vi [x0]) (by kernel_rfl) hF10607 hS10593 (by simp [maxLen]) ?_)
            rintro a10608 w10609 A10599 hS10610 g10611 ha10612 hF10613; clear ha10612 hF10607 a10606 hS10593
            have hS10614 : Heap w [] w10609 [.row 3 1 A10599 1 1 (vi [x0]), .row 3 1 A10582 t10576 t10576 (vi (List.replicate t10576 (0 : Int))), .row 3 1 A7 5 5 (vi (zs8437.set ((x8439 / 16).toNat) ((zs8437.getD ((x8439 / 16).toNat) 0) + ((x10127 : Nat) : Int)))), .row 3 1 A10406 zs10408.length c10407 (vi zs10408)] := hS10610; clear hS10610
            have hF10615 := hF10613.pick [0, 1, 5, 6, 7, 8, 9, 10, 11, 50, 52] (G := [(0, .int .i64 x0), (1, .int .i64 x1), (5, .slice A7 5 5), (6, .int .i64 x8439), (7, .int .i64 ((x10127 : Nat) : Int)), (8, .int .i64 ((x10128 : Nat) : Int)), (9, .slice A10406 zs10408.length c10407), (10, .int .i64 ((x10409 : Nat) : Int)), (11, .slice A10582 t10576 t10576), (50, .slice A10582 t10576 t10576), (52, .slice A10599 1 1)]) (by kernel_rfl); clear hF10613
            refine wl (h_app hT (d := 53) (T := 3) (i := tr3) (m := t10576) (c := t10576) (m2 := 1) (c2 := 1) (A2 := A10599) (l2 := vi [x0]) (n' := ((List.replicate t10576 (0 : Int)) ++ [x0]).length) (l' := vi ((List.replicate t10576 (0 : Int)) ++ [x0])) (by kernel_rfl) hF10615 hS10614 1 rfl rfl (by decide) (hS10614.own 0 rfl).rd (by show _ = 1 * 1; have := (show ([x0] : List Int).length = 1 from rfl); simp only [zA, zS, zT, zD, zR, zC, zN, zV, zI] <;> omega) vi_one (by show (t10576 + 1) * 8 ≤ 140737488355328; first | exact g10602 | omega) (by decide) (by have := (len_rep (α := Int) t10576 0); have := (show ([x0] : List Int).length = 1 from rfl); first | omega | (simp only [zA, zS, zT, zD, zR, zC, zN, zV, zI] <;> omega) | (simp only [zA, zS, zT, zD, zR, zC, zN, zV, zI] at * <;> omega)) (by first | rfl | exact (vs_append _ _ _).symm | exact (vi_append _ _).symm | simp [vs, vi]) ?_)
            rintro a10616 w10617 A10603 c10604 hS10618 g10619 ha10620 hF10621; clear ha10620 hF10615 a10608 hS10614
            have hS10622 : Heap w [] w10617 [.row 3 1 A10599 1 1 (vi [x0]), .row 3 1 A10603 (((List.replicate t10576 (0 : Int)) ++ [x0]).length) c10604 (vi ((List.replicate t10576 (0 : Int)) ++ [x0])), .row 3 1 A7 5 5 (vi (zs8437.set ((x8439 / 16).toNat) ((zs8437.getD ((x8439 / 16).toNat) 0) + ((x10127 : Nat) : Int)))), .row 3 1 A10406 zs10408.length c10407 (vi zs10408)] := hS10618; clear hS10618
            have hF10623 := hF10621.pick [0, 1, 5, 6, 7, 8, 9, 10, 11, 53] (G := [(0, .int .i64 x0), (1, .int .i64 x1), (5, .slice A7 5 5), (6, .int .i64 x8439), (7, .int .i64 ((x10127 : Nat) : Int)), (8, .int .i64 ((x10128 : Nat) : Int)), (9, .slice A10406 zs10408.length c10407), (10, .int .i64 ((x10409 : Nat) : Int)), (11, .slice A10582 t10576 t10576), (53, .slice A10603 (((List.replicate t10576 (0 : Int)) ++ [x0]).length) c10604)]) (by kernel_rfl); clear hF10621
            refine pu_end hT 1 _ hF10623 [0, 1, 5, 6, 7, 8, 9, 10, 11] (G := [(0, .int .i64 x0), (1, .int .i64 x1), (5, .slice A7 5 5), (6, .int .i64 x8439), (7, .int .i64 ((x10127 : Nat) : Int)), (8, .int .i64 ((x10128 : Nat) : Int)), (9, .slice A10406 zs10408.length c10407), (10, .int .i64 ((x10409 : Nat) : Int)), (11, .slice A10603 (((List.replicate t10576 (0 : Int)) ++ [x0]).length) c10604)]) (cs := []) (by kernel_rfl) rfl trivial ?_; clear hF10623 a10616; intro a10624 hF10625
            refine hK10598 _ _ ?_
            refine wp_seq_k (fun K10626 hK10627 => ?_)
            obtain ⟨b10628, hr10630, h10629⟩ := bnd_some h10601; clear h10601; replace hr10630 : F_casemateref13_Greater zs10408 ((List.replicate t10576 (0 : Int)) ++ [x0]) = some (b10628) := hr10630
            refine wp_region_lit ?_
            refine pu hT 2 _ hF10625 [0, 1, 5, 6, 7, 8, 9, 10, 54, 55] (G := [(0, .int .i64 x0), (1, .int .i64 x1), (5, .slice A7 5 5), (6, .int .i64 x8439), (7, .int .i64 ((x10127 : Nat) : Int)), (8, .int .i64 ((x10128 : Nat) : Int)), (9, .slice A10406 zs10408.length c10407), (10, .int .i64 ((x10409 : Nat) : Int)), (54, .slice A10406 zs10408.length c10407), (55, .slice A10603 (((List.replicate t10576 (0 : Int)) ++ [x0]).length) c10604)]) (cs := []) (by kernel_rfl) trivial ?_; clear hF10625 a10624; intro a10631 hF10632
            refine wl (s_call (d := 56) (f := 66) (l := [.slice A10406 zs10408.length c10407, .slice A10603 (((List.replicate t10576 (0 : Int)) ++ [x0]).length) c10604]) (by kernel_rfl) hF10632 cl66 (W_casemateref13_Greater A10406 c10407 zs10408 A10603 c10604 ((List.replicate t10576 (0 : Int)) ++ [x0]) _ (hS10622.own 3 rfl).rd (by have := (hS10622.own 3 rfl).cap; have := (Eq.refl zs10408.length); skip; have := (Eq.refl zs10408.length); first | omega | (simp only [zA, zS, zT, zD, zR, zC, zN, zV, zI] <;> omega) | (simp only [zA, zS, zT, zD, zR, zC, zN, zV, zI] at * <;> omega)) (hS10622.own 1 rfl).rd (by have := (hS10622.own 1 rfl).cap; have := (Eq.refl ((List.replicate t10576 (0 : Int)) ++ [x0]).length); skip; have := (Eq.refl ((List.replicate t10576 (0 : Int)) ++ [x0]).length); first | omega | (simp only [zA, zS, zT, zD, zR, zC, zN, zV, zI] <;> omega) | (simp only [zA, zS, zT, zD, zR, zC, zN, zV, zI] at * <;> omega)) b10628 hr10630) ?_)
            rintro a10633 w10634 v10635 ⟨rfl, hC10636⟩ ha10637 hF10638; clear ha10637 hF10632 a10631
            have hS10639 : Heap w [] w10634 [.row 3 1 A10599 1 1 (vi [x0]), .row 3 1 A10603 (((List.replicate t10576 (0 : Int)) ++ [x0]).length) c10604 (vi ((List.replicate t10576 (0 : Int)) ++ [x0])), .row 3 1 A7 5 5 (vi (zs8437.set ((x8439 / 16).toNat) ((zs8437.getD ((x8439 / 16).toNat) 0) + ((x10127 : Nat) : Int)))), .row 3 1 A10406 zs10408.length c10407 (vi zs10408)] := Heap.call hS10622 hC10636; clear hS10622
            have hF10640 := hF10638.pick [0, 1, 5, 6, 7, 8, 9, 10, 56] (G := [(0, .int .i64 x0), (1, .int .i64 x1), (5, .slice A7 5 5), (6, .int .i64 x8439), (7, .int .i64 ((x10127 : Nat) : Int)), (8, .int .i64 ((x10128 : Nat) : Int)), (9, .slice A10406 zs10408.length c10407), (10, .int .i64 ((x10409 : Nat) : Int)), (56, .bool (b10628))]) (by kernel_rfl); clear hF10638
            refine wpList_nil ?_
            refine hK10627 _ _ ?_
            rcases (ite_some h10629 : ((b10628 = true) ∧ _) ∨ (¬ (b10628 = true) ∧ _)) with ⟨hc10641, h10642⟩ | ⟨hc10641, h10642⟩
            · clear h10629
              have hF10643 : Fr 81 a10633 [(0, .int .i64 x0), (1, .int .i64 x1), (5, .slice A7 5 5), (6, .int .i64 x8439), (7, .int .i64 ((x10127 : Nat) : Int)), (8, .int .i64 ((x10128 : Nat) : Int)), (9, .slice A10406 zs10408.length c10407), (10, .int .i64 ((x10409 : Nat) : Int)), (56, .bool true)] := hF10640.pick [0, 1, 5, 6, 7, 8, 9, 10, 56] (by rw [hc10641]; kernel_rfl); clear hF10640
              refine condT hF10643 (by kernel_rfl) ?_
              obtain ⟨g10645, h10644⟩ : (-9223372036854775808 ≤ (((zs8437.set ((x8439 / 16).toNat) ((zs8437.getD ((x8439 / 16).toNat) 0) + ((x10127 : Nat) : Int))).getD ((x8439 / 16).toNat) 0) - ((x10127 : Nat) : Int))) ∧ _ := gd_some h10642; clear h10642
              obtain ⟨g10647, h10646⟩ : ((((zs8437.set ((x8439 / 16).toNat) ((zs8437.getD ((x8439 / 16).toNat) 0) + ((x10127 : Nat) : Int))).getD ((x8439 / 16).toNat) 0) - ((x10127 : Nat) : Int)) ≤ 9223372036854775807) ∧ _ := gd_some h10644; clear h10644
              refine wp_region_lit ?_
              refine pu hT 7 _ hF10643 [0, 1, 5, 6, 7, 8, 9, 10, 57, 59, 63] (G := [(0, .int .i64 x0), (1, .int .i64 x1), (5, .slice A7 5 5), (6, .int .i64 x8439), (7, .int .i64 ((x10127 : Nat) : Int)), (8, .int .i64 ((x10128 : Nat) : Int)), (9, .slice A10406 zs10408.length c10407), (10, .int .i64 ((x10409 : Nat) : Int)), (57, .slice A7 5 5), (59, .int .i64 (x8439 / 16)), (63, .pointer (some ⟨(ablk A7), (aoff A7 + (x8439 / 16).toNat), none⟩))]) (cs := [0 ≤ x8439, x8439 ≤ 9223372036854775807, 0 < (16 : Int), 0 ≤ x8439, x8439 ≤ 9223372036854775807, 0 < (16 : Int), 0 ≤ (x8439 / 16), (x8439 / 16) < ((5 : Nat) : Int), (A7 : Option Addr) = some ⟨ablk A7, aoff A7, none⟩]) (by kernel_rfl) (And.intro hc9511 (And.intro g10236 (And.intro (by decide) (And.intro hc9511 (And.intro g10236 (And.intro (by decide) (And.intro g10238 (And.intro g10240 (And.intro ((hS10639.own 2 rfl).rd.some' (by have := (len_set hh8438 ((x8439 / 16).toNat) ((zs8437.getD ((x8439 / 16).toNat) 0) + ((x10127 : Nat) : Int))); first | omega | (simp only [zA, zS, zT, zD, zR, zC, zN, zV, zI] <;> omega))) trivial))))))))) ?_; clear hF10643 a10633; intro a10648 hF10649
              refine wl (s_load hT (d := 64) (A := ⟨(ablk A7), (aoff A7 + (x8439 / 16).toNat), none⟩) (v := .int .i64 ((zs8437.set ((x8439 / 16).toNat) ((zs8437.getD ((x8439 / 16).toNat) 0) + ((x10127 : Nat) : Int))).getD ((x8439 / 16).toNat) 0)) (by kernel_rfl) hF10649 (Cells.at (hS10639.own 2 rfl).rd.cells (vi_get (zs8437.set ((x8439 / 16).toNat) ((zs8437.getD ((x8439 / 16).toNat) 0) + ((x10127 : Nat) : Int))) (i := (x8439 / 16).toNat) (by have := (len_set hh8438 ((x8439 / 16).toNat) ((zs8437.getD ((x8439 / 16).toNat) 0) + ((x10127 : Nat) : Int))); first | omega | (simp only [zA, zS, zT, zD, zR, zC, zN, zV, zI] <;> omega) | (simp [*]; done) | (simp [*]; omega))) (by first | rfl | omega)) ?_)
              rintro a10650 ha10652 hF10651; clear ha10652 hF10649 a10648
              have hF10653 := hF10651.pick [0, 1, 5, 6, 7, 8, 9, 10, 57, 59, 64] (G := [(0, .int .i64 x0), (1, .int .i64 x1), (5, .slice A7 5 5), (6, .int .i64 x8439), (7, .int .i64 ((x10127 : Nat) : Int)), (8, .int .i64 ((x10128 : Nat) : Int)), (9, .slice A10406 zs10408.length c10407), (10, .int .i64 ((x10409 : Nat) : Int)), (57, .slice A7 5 5), (59, .int .i64 (x8439 / 16)), (64, .int .i64 ((zs8437.set ((x8439 / 16).toNat) ((zs8437.getD ((x8439 / 16).toNat) 0) + ((x10127 : Nat) : Int))).getD ((x8439 / 16).toNat) 0))]) (by kernel_rfl); clear hF10651
              refine pu hT 3 _ hF10653 [0, 1, 5, 6, 7, 8, 9, 10, 66, 67] (G := [(0, .int .i64 x0), (1, .int .i64 x1), (5, .slice A7 5 5), (6, .int .i64 x8439), (7, .int .i64 ((x10127 : Nat) : Int)), (8, .int .i64 ((x10128 : Nat) : Int)), (9, .slice A10406 zs10408.length c10407), (10, .int .i64 ((x10409 : Nat) : Int)), (66, .int .i64 (((zs8437.set ((x8439 / 16).toNat) ((zs8437.getD ((x8439 / 16).toNat) 0) + ((x10127 : Nat) : Int))).getD ((x8439 / 16).toNat) 0) - ((x10127 : Nat) : Int))), (67, .pointer (some ⟨(ablk A7), (aoff A7 + (x8439 / 16).toNat), none⟩))]) (cs := [-9223372036854775808 ≤ (((zs8437.set ((x8439 / 16).toNat) ((zs8437.getD ((x8439 / 16).toNat) 0) + ((x10127 : Nat) : Int))).getD ((x8439 / 16).toNat) 0) - ((x10127 : Nat) : Int)), (((zs8437.set ((x8439 / 16).toNat) ((zs8437.getD ((x8439 / 16).toNat) 0) + ((x10127 : Nat) : Int))).getD ((x8439 / 16).toNat) 0) - ((x10127 : Nat) : Int)) ≤ 9223372036854775807, 0 ≤ (x8439 / 16), (x8439 / 16) < ((5 : Nat) : Int), (A7 : Option Addr) = some ⟨ablk A7, aoff A7, none⟩]) (by kernel_rfl) (And.intro g10645 (And.intro g10647 (And.intro g10238 (And.intro g10240 (And.intro ((hS10639.own 2 rfl).rd.some' (by have := (len_set hh8438 ((x8439 / 16).toNat) ((zs8437.getD ((x8439 / 16).toNat) 0) + ((x10127 : Nat) : Int))); first | omega | (simp only [zA, zS, zT, zD, zR, zC, zN, zV, zI] <;> omega))) trivial))))) ?_; clear hF10653 a10650; intro a10654 hF10655
              refine wl (h_storeR hT (off := (x8439 / 16).toNat) (p := ⟨(ablk A7), (aoff A7 + (x8439 / 16).toNat), none⟩) (v := .int .i64 (((zs8437.set ((x8439 / 16).toNat) ((zs8437.getD ((x8439 / 16).toNat) 0) + ((x10127 : Nat) : Int))).getD ((x8439 / 16).toNat) 0) - ((x10127 : Nat) : Int))) (l' := vi ((zs8437.set ((x8439 / 16).toNat) ((zs8437.getD ((x8439 / 16).toNat) 0) + ((x10127 : Nat) : Int))).set ((x8439 / 16).toNat) (((zs8437.set ((x8439 / 16).toNat) ((zs8437.getD ((x8439 / 16).toNat) 0) + ((x10127 : Nat) : Int))).getD ((x8439 / 16).toNat) 0) - ((x10127 : Nat) : Int)))) (by kernel_rfl) hF10655 hS10639 2 rfl (by have := (len_set hh8438 ((x8439 / 16).toNat) ((zs8437.getD ((x8439 / 16).toNat) 0) + ((x10127 : Nat) : Int))); have := (hS10639.own 2 rfl).cap; simp only [zA, zS, zT, zD, zR, zC, zN, zV, zI] <;> omega) (by first | rfl | (congr 1; omega)) (by first | exact vs_set _ _ _ _ | exact vi_set _ _ _ | rfl) ?_)
              rintro a10656 w10657 ha10660 hF10661 hS10658 g10659; clear ha10660 hF10655 a10654 hS10639
              have hS10662 : Heap w [] w10657 [.row 3 1 A10599 1 1 (vi [x0]), .row 3 1 A10603 (((List.replicate t10576 (0 : Int)) ++ [x0]).length) c10604 (vi ((List.replicate t10576 (0 : Int)) ++ [x0])), .row 3 1 A7 5 5 (vi ((zs8437.set ((x8439 / 16).toNat) ((zs8437.getD ((x8439 / 16).toNat) 0) + ((x10127 : Nat) : Int))).set ((x8439 / 16).toNat) (((zs8437.set ((x8439 / 16).toNat) ((zs8437.getD ((x8439 / 16).toNat) 0) + ((x10127 : Nat) : Int))).getD ((x8439 / 16).toNat) 0) - ((x10127 : Nat) : Int)))), .row 3 1 A10406 zs10408.length c10407 (vi zs10408)] := hS10658; clear hS10658
              have hF10663 := hF10661.pick [0, 1, 5, 6, 7, 8, 9, 10] (G := [(0, .int .i64 x0), (1, .int .i64 x1), (5, .slice A7 5 5), (6, .int .i64 x8439), (7, .int .i64 ((x10127 : Nat) : Int)), (8, .int .i64 ((x10128 : Nat) : Int)), (9, .slice A10406 zs10408.length c10407), (10, .int .i64 ((x10409 : Nat) : Int))]) (by kernel_rfl); clear hF10661
              refine wpList_nil ?_
              obtain rfl := Option.some.inj h10646
              exact ⟨((zs8437.set ((x8439 / 16).toNat) ((zs8437.getD ((x8439 / 16).toNat) 0) + ((x10127 : Nat) : Int))).set ((x8439 / 16).toNat) (((zs8437.set ((x8439 / 16).toNat) ((zs8437.getD ((x8439 / 16).toNat) 0) + ((x10127 : Nat) : Int))).getD ((x8439 / 16).toNat) 0) - ((x10127 : Nat) : Int))), x10127, x10128, zs10408, x10409, A10406, c10407, rfl, hF10663.pick [0, 1, 5, 6, 7, 8, 9, 10] (by kernel_rfl), hS10662.pick [2, 3] (by decide) rfl, (len_set (len_set hh8438 ((x8439 / 16).toNat) ((zs8437.getD ((x8439 / 16).toNat) 0) + ((x10127 : Nat) : Int))) ((x8439 / 16).toNat) (((zs8437.set ((x8439 / 16).toNat) ((zs8437.getD ((x8439 / 16).toNat) 0) + ((x10127 : Nat) : Int))).getD ((x8439 / 16).toNat) 0) - ((x10127 : Nat) : Int)))⟩
            · clear h10629
              have hF10664 : Fr 81 a10633 [(0, .int .i64 x0), (1, .int .i64 x1), (5, .slice A7 5 5), (6, .int .i64 x8439), (7, .int .i64 ((x10127 : Nat) : Int)), (8, .int .i64 ((x10128 : Nat) : Int)), (9, .slice A10406 zs10408.length c10407), (10, .int .i64 ((x10409 : Nat) : Int)), (56, .bool false)] := hF10640.pick [0, 1, 5, 6, 7, 8, 9, 10, 56] (by rw [(Bool.eq_false_iff.2 hc10641)]; kernel_rfl); clear hF10640
              refine condF hF10664 (by kernel_rfl) ?_
              refine wp_skip ?_
              obtain rfl := Option.some.inj h10642
              exact ⟨(zs8437.set ((x8439 / 16).toNat) ((zs8437.getD ((x8439 / 16).toNat) 0) + ((x10127 : Nat) : Int))), x10127, x10128, zs10408, x10409, A10406, c10407, rfl, hF10664.pick [0, 1, 5, 6, 7, 8, 9, 10] (by kernel_rfl), hS10639.pick [2, 3] (by decide) rfl, (len_set hh8438 ((x8439 / 16).toNat) ((zs8437.getD ((x8439 / 16).toNat) 0) + ((x10127 : Nat) : Int)))⟩
      · skip
        clear hx10034 hF9513 hS9498 
        rintro a10665 w10666 ⟨zs10024, x10026, x10027, zs10031, x10032, A10029, c10030, rfl, hF10667, hS10668, hh10025⟩
        obtain ⟨g10671, h10670⟩ : (-9223372036854775808 ≤ (x8439 - 1)) ∧ _ := gd_some h10035; clear h10035
        obtain ⟨g10673, h10672⟩ : ((x8439 - 1) ≤ 9223372036854775807) ∧ _ := gd_some h10670; clear h10670
        refine wp_region_lit ?_
        refine pu_end hT 3 _ hF10667 [0, 1, 5, 7, 8, 9, 10, 6] (G := [(0, .int .i64 x0), (1, .int .i64 x1), (5, .slice A7 5 5), (7, .int .i64 ((x10026 : Nat) : Int)), (8, .int .i64 ((x10027 : Nat) : Int)), (9, .slice A10029 zs10031.length c10030), (10, .int .i64 ((x10032 : Nat) : Int)), (6, .int .i64 (x8439 - 1))]) (cs := [-9223372036854775808 ≤ (x8439 - 1), (x8439 - 1) ≤ 9223372036854775807]) (by kernel_rfl) rfl (And.intro g10671 (And.intro g10673 trivial)) ?_; clear hF10667 a10665; intro a10674 hF10675
        obtain rfl := Option.some.inj h10672
        exact hK9492 _ _ _ hy9491 ⟨zs10024, (x8439 - 1), rfl, hF10675.pick [0, 1, 5, 6] (by kernel_rfl), hS10668.pick [0] (by decide) rfl, hh10025⟩
    · clear h9499
      have hF10676 : Fr 81 a9509 [(0, .int .i64 x0), (1, .int .i64 x1), (5, .slice A7 5 5), (6, .int .i64 x8439), (16, .bool false)] := hF9510.pick [0, 1, 5, 6, 16] (by rw [decide_eq_false hc9511]; kernel_rfl); clear hF9510
      refine condF hF10676 (by kernel_rfl) ?_
      refine wp_exit ?_
      obtain rfl := Option.some.inj h9512
      obtain rfl : _ = xj5284 := hy9491
      exact ⟨zs8437, rfl, hF10676.pick [5] (by kernel_rfl), hS9498.pick [0] (by decide) rfl, hh8438⟩
  · skip
    clear hx5285 hF18 hS15 
    rintro a10677 w10678 ⟨zs5282, rfl, hF10679, hS10680, hh5283⟩
    refine wp_seq_k (fun K10682 hK10683 => ?_)
    refine wp_region_lit ?_
    refine pu_end hT 1 _ hF10679 [5, 12] (G := [(5, .slice A7 5 5), (12, .int .u64 0)]) (cs := []) (by kernel_rfl) rfl trivial ?_; clear hF10679 a10677; intro a10684 hF10685
    refine hK10683 _ _ ?_
    obtain ⟨xj10842, hx10843, h10844⟩ := bnd_some h5286; clear h5286
    refine seqJ (fun a W => ∃ (x10840 : Nat), x10840 = xj10842 ∧ (Fr 81 a [(12, .int .u64 ((x10840 : Nat) : Int))]) ∧ (Heap w [] W []) ∧ (x10840 < 18446744073709551616)) ?_ ?_
    · skip
      refine wp_seq_k (fun K10845 hK10846 => ?_)
      refine wp_region_lit ?_
      refine pu_end hT 1 _ hF10685 [5, 12, 13] (G := [(5, .slice A7 5 5), (12, .int .u64 0), (13, .int .i64 3)]) (cs := []) (by kernel_rfl) rfl trivial ?_; clear hF10685 a10684; intro a10847 hF10848
      refine hK10846 _ _ ?_
      refine wp_block ?_
      refine loopR (F_casemateref14_root_l4 zs5282) xj10842 (0, (3 : Int)) hx10843 (fun s a W => ∃ (x10931 : Nat), ∃ (x10933 : Int), (x10931, x10933) = s ∧ (Fr 81 a [(5, .slice A7 5 5), (12, .int .u64 ((x10931 : Nat) : Int)), (13, .int .i64 x10933)]) ∧ (Heap w [] W [.row 3 1 A7 5 5 (vi zs5282)]) ∧ (x10931 < 18446744073709551616)) ⟨0, (3 : Int), rfl, hF10848.pick [5, 12, 13] (by kernel_rfl), hS10680.pick [0] (by decide) rfl, (by decide)⟩ ?_
      clear hF10848 hS10680 hx10843
      rintro k10972 _ a10967 w10968 ⟨x10931, x10933, rfl, hF10969, hS10970, hh10932⟩ hit10966 K10965 hK10964
      obtain ⟨y10962, h10971, hy10963⟩ := iter_succ hit10966; clear hit10966
      unfold F_casemateref14_root_l4 at h10971; try dsimp only at h10971
      refine wp_seq_k (fun K10977 hK10978 => ?_)
      refine wp_seq_k (fun K10979 hK10980 => ?_)
      refine wp_region_lit ?_
      refine pu_end hT 2 _ hF10969 [5, 12, 13, 69] (G := [(5, .slice A7 5 5), (12, .int .u64 ((x10931 : Nat) : Int)), (13, .int .i64 x10933), (69, .bool ((decide (0 ≤ x10933))))]) (cs := []) (by kernel_rfl) rfl trivial ?_; clear hF10969 a10967; intro a10981 hF10982
      refine hK10980 _ _ ?_
      rcases (ite_some h10971 : ((0 ≤ x10933) ∧ _) ∨ (¬ (0 ≤ x10933) ∧ _)) with ⟨hc10983, h10984⟩ | ⟨hc10983, h10984⟩
      · clear h10971
        have hF10985 : Fr 81 a10981 [(5, .slice A7 5 5), (12, .int .u64 ((x10931 : Nat) : Int)), (13, .int .i64 x10933), (69, .bool true)] := hF10982.pick [5, 12, 13, 69] (by rw [decide_eq_true hc10983]; kernel_rfl); clear hF10982
        refine condT hF10985 (by kernel_rfl) ?_
        refine wp_skip ?_
        refine hK10978 _ _ ?_
        refine wp_seq_k (fun K10992 hK10993 => ?_)
        refine wp_block ?_
        obtain ⟨g10995, h10994⟩ : (x10933 < ((5 : Nat) : Int)) ∧ _ := gd_some h10984; clear h10984
        obtain ⟨t10996, ht10997, h10998⟩ := ltb_some h10994; clear h10994; replace ht10997 : t10996 = (((x10931 * 65536 % 18446744073709551616) + (((zs5282.getD x10933.toNat 0) % 18446744073709551616).toNat)) % 18446744073709551616) := ht10997
        refine wp_region_lit ?_
        refine pu hT 5 _ hF10985 [5, 12, 13, 73, 76] (G := [(5, .slice A7 5 5), (12, .int .u64 ((x10931 : Nat) : Int)), (13, .int .i64 x10933), (73, .int .u64 (((x10931 * 65536 % 18446744073709551616) : Nat) : Int)), (76, .pointer (some ⟨(ablk A7), (aoff A7 + x10933.toNat), none⟩))]) (cs := [0 ≤ x10933, x10933 < ((5 : Nat) : Int), (A7 : Option Addr) = some ⟨ablk A7, aoff A7, none⟩]) (by kernel_rfl) (And.intro hc10983 (And.intro g10995 (And.intro ((hS10970.own 0 rfl).rd.some' (by have := hh5283; first | omega | (simp only [zA, zS, zT, zD, zR, zC, zN, zV, zI] <;> omega))) trivial))) ?_; clear hF10985 a10981; intro a11000 hF11001
        refine wl (s_load hT (d := 77) (A := ⟨(ablk A7), (aoff A7 + x10933.toNat), none⟩) (v := .int .i64 (zs5282.getD x10933.toNat 0)) (by kernel_rfl) hF11001 (Cells.at (hS10970.own 0 rfl).rd.cells (vi_get zs5282 (i := x10933.toNat) (by have := hh5283; first | omega | (simp only [zA, zS, zT, zD, zR, zC, zN, zV, zI] <;> omega) | (simp [*]; done) | (simp [*]; omega))) (by first | rfl | omega)) ?_)
        rintro a11002 ha11004 hF11003; clear ha11004 hF11001 a11000
        have hF11005 := hF11003.pick [5, 12, 13, 73, 77] (G := [(5, .slice A7 5 5), (12, .int .u64 ((x10931 : Nat) : Int)), (13, .int .i64 x10933), (73, .int .u64 (((x10931 * 65536 % 18446744073709551616) : Nat) : Int)), (77, .int .i64 (zs5282.getD x10933.toNat 0))]) (by kernel_rfl); clear hF11003
        refine wl (s_conv64 hT (d := 78) (x := (zs5282.getD x10933.toNat 0)) (y := ((zs5282.getD x10933.toNat 0) % 18446744073709551616).toNat) (by kernel_rfl) hF11005 (by omega) ?_)
        rintro a11006 ha11008 hF11007; clear ha11008 hF11005 a11002
        have hF11009 := hF11007.pick [5, 12, 13, 73, 78] (G := [(5, .slice A7 5 5), (12, .int .u64 ((x10931 : Nat) : Int)), (13, .int .i64 x10933), (73, .int .u64 (((x10931 * 65536 % 18446744073709551616) : Nat) : Int)), (78, .int .u64 ((((zs5282.getD x10933.toNat 0) % 18446744073709551616).toNat : Nat) : Int))]) (by kernel_rfl); clear hF11007
        refine pu_end hT 2 _ hF11009 [5, 13, 12] (G := [(5, .slice A7 5 5), (13, .int .i64 x10933), (12, .int .u64 (((((x10931 * 65536 % 18446744073709551616) + (((zs5282.getD x10933.toNat 0) % 18446744073709551616).toNat)) % 18446744073709551616) : Nat) : Int))]) (cs := []) (by kernel_rfl) rfl trivial ?_; clear hF11009 a11006; intro a11010 hF11011
        have hb10999 : t10996 < 18446744073709551616 := by rw [ht10997]; exact (Nat.mod_lt _ (by decide))
        have hF11012 : Fr 81 a11010 [(5, .slice A7 5 5), (13, .int .i64 x10933), (12, .int .u64 ((t10996 : Nat) : Int))] := hF11011.pick [5, 13, 12] (by rw [ht10997]; kernel_rfl); clear hF11011
        refine hK10993 _ _ ?_
        obtain ⟨g11014, h11013⟩ : (-9223372036854775808 ≤ (x10933 - 1)) ∧ _ := gd_some h10998; clear h10998
        obtain ⟨g11016, h11015⟩ : ((x10933 - 1) ≤ 9223372036854775807) ∧ _ := gd_some h11013; clear h11013
        refine wp_region_lit ?_
        refine pu_end hT 3 _ hF11012 [5, 12, 13] (G := [(5, .slice A7 5 5), (12, .int .u64 ((t10996 : Nat) : Int)), (13, .int .i64 (x10933 - 1))]) (cs := [-9223372036854775808 ≤ (x10933 - 1), (x10933 - 1) ≤ 9223372036854775807]) (by kernel_rfl) rfl (And.intro g11014 (And.intro g11016 trivial)) ?_; clear hF11012 a11010; intro a11017 hF11018
        obtain rfl := Option.some.inj h11015
        exact hK10964 _ _ _ hy10963 ⟨t10996, (x10933 - 1), rfl, hF11018.pick [5, 12, 13] (by kernel_rfl), hS10970.pick [0] (by decide) rfl, hb10999⟩
      · clear h10971
        have hF11019 : Fr 81 a10981 [(5, .slice A7 5 5), (12, .int .u64 ((x10931 : Nat) : Int)), (13, .int .i64 x10933), (69, .bool false)] := hF10982.pick [5, 12, 13, 69] (by rw [decide_eq_false hc10983]; kernel_rfl); clear hF10982
        refine condF hF11019 (by kernel_rfl) ?_
        refine wp_exit ?_
        obtain rfl := Option.some.inj h10984
        obtain rfl : _ = xj10842 := hy10963
        exact ⟨x10931, rfl, hF11019.pick [12] (by kernel_rfl), hS10970.pick [] (by decide) rfl, hh10932⟩
    · skip
      clear hx10843 hF10685 hS10680 
      rintro a11020 w11021 ⟨x10840, rfl, hF11022, hS11023, hh10841⟩
      refine wp_seq_k (fun K11025 hK11026 => ?_)
      refine wp_region_lit ?_
      refine pu_end hT 2 _ hF11022 [4] (G := [(4, .int .u64 ((x10840 : Nat) : Int))]) (cs := []) (by kernel_rfl) rfl trivial ?_; clear hF11022 a11020; intro a11027 hF11028
      refine hK11026 _ _ ?_
      refine wp_ret ?_
      obtain rfl := Option.some.inj h10844
      refine ret1 hF11028 rfl (v := .int .u64 ((x10840 : Nat) : Int)) (by kernel_rfl) ?_
      exact ⟨rfl, hh10841, hS11023.pick [] (by decide) rfl⟩

noncomputable def F_casemateref14_Start_l1 (zs27 : List Int) : (List Nat × Nat) → Option ((List Nat × Nat) ⊕ (List Nat)) := fun (zs241, x245) => if ((x245 : Nat) : Int) < 8 then (gd (((x245 : Nat) : Int) < ((zs27.length : Nat) : Int)) (bnd (F_casemateref14_root (zs27.getD x245 0) (2 : Int)) fun (x306 : Nat) => gd ((((x245 + 1) : Nat) : Int) ≤ 9223372036854775807) (some (.inl ((zs241.set x245 x306), (x245 + 1)))))) else (some (.inr zs241))
noncomputable def F_casemateref14_Start : Option (List Nat) := bnd (F_casemateref13_Primes (8 : Int)) fun (zs27 : List Int) => bnd (run (F_casemateref14_Start_l1 zs27) ((List.replicate 8 0), 0) : Option (List Nat)) (fun (zs173 : List Nat) => some zs173)
set_option maxHeartbeats 4000000 in
theorem W_casemateref14_Start (w : World) (r : List Nat) (h : F_casemateref14_Start = some r) :
    Calls Try.prog 19 [].toArray w (Ret fun v w' => v = .agg (vs .u64 r).toArray ∧ r.length = 8 ∧ LB 18446744073709551616 r ∧ Heap w [] w' []) := by
  unfold F_casemateref14_Start at h
  refine enter Try.func19 rfl (n := 17) Try.ntmps19 (by simp) ?_
  intro a hF
  have hS := Heap.init w
  refine wp_seq_k (fun K1 hK2 => ?_)
  refine wp_region_lit ?_
  refine wl (h_alloc hT (d := 0) (T := 26) (l := vs .u64 (List.replicate 8 0)) (by kernel_rfl) hF hS ?_)
  rintro a5 w6 b3 hS7 g8 ha9 hF10; clear ha9 hF a hS
  have hS11 : Heap w [] w6 [.blk b3 26 (vs .u64 (List.replicate 8 0))] := hS7; clear hS7
  have hF12 := hF10.pick [0] (G := [(0, .pointer (some ⟨b3, 0, none⟩))]) (by kernel_rfl); clear hF10
  refine wpList_nil ?_
  refine hK2 _ _ ?_
  refine wp_seq_k (fun K13 hK14 => ?_)
  refine wp_region_lit ?_
  refine wl (h_alloc hT (d := 1) (T := 26) (l := vs .u64 (List.replicate 8 0)) (by kernel_rfl) hF12 hS11 ?_)
  rintro a17 w18 b15 hS19 g20 ha21 hF22; clear ha21 hF12 a5 hS11
  have hS23 : Heap w [] w18 [.blk b15 26 (vs .u64 (List.replicate 8 0)), .blk b3 26 (vs .u64 (List.replicate 8 0))] := hS19; clear hS19
  have hF24 := hF22.pick [0, 1] (G := [(0, .pointer (some ⟨b3, 0, none⟩)), (1, .pointer (some ⟨b15, 0, none⟩))]) (by kernel_rfl); clear hF22
  refine wpList_nil ?_
  refine hK14 _ _ ?_
  refine wp_seq_k (fun K25 hK26 => ?_)
  obtain ⟨zs27, hr29, h28⟩ := bnd_some h; clear h; replace hr29 : F_casemateref13_Primes (8 : Int) = some (zs27) := hr29
  refine wp_region_lit ?_
  refine wl (s_call (d := 4) (f := 29) (l := [.int .i64 8]) (by kernel_rfl) hF24 cl29 (W_casemateref13_Primes (8 : Int) _ zs27 hr29) ?_)
  rintro a33 w34 v35 ⟨A30, c31, rfl, hC36⟩ ha37 hF38; clear ha37 hF24 a17
  have hS39 : Heap w [] w34 [.row 3 1 A30 zs27.length c31 (vi zs27), .blk b15 26 (vs .u64 (List.replicate 8 0)), .blk b3 26 (vs .u64 (List.replicate 8 0))] := Heap.call hS23 hC36; clear hS23
  have hF40 := hF38.pick [0, 1, 4] (G := [(0, .pointer (some ⟨b3, 0, none⟩)), (1, .pointer (some ⟨b15, 0, none⟩)), (4, .slice A30 zs27.length c31)]) (by kernel_rfl); clear hF38
  refine pu_end hT 1 _ hF40 [0, 1, 2] (G := [(0, .pointer (some ⟨b3, 0, none⟩)), (1, .pointer (some ⟨b15, 0, none⟩)), (2, .slice A30 zs27.length c31)]) (cs := []) (by kernel_rfl) rfl trivial ?_; clear hF40 a33; intro a41 hF42
  refine hK26 _ _ ?_
  obtain ⟨xj176, hx177, h178⟩ := bnd_some h28; clear h28
  refine seqJ (fun a W => ∃ (zs173 : List Nat), zs173 = xj176 ∧ (Fr 17 a [(0, .pointer (some ⟨b3, 0, none⟩)), (1, .pointer (some ⟨b15, 0, none⟩))]) ∧ (Heap w [] W [.blk b3 26 (vs .u64 (List.replicate 8 0)), .blk b15 26 (vs .u64 zs173)]) ∧ (zs173.length = 8) ∧ (LB 18446744073709551616 zs173)) ?_ ?_
  · skip
    refine wp_seq_k (fun K179 hK180 => ?_)
    refine wp_region_lit ?_
    refine pu_end hT 1 _ hF42 [0, 1, 2, 3] (G := [(0, .pointer (some ⟨b3, 0, none⟩)), (1, .pointer (some ⟨b15, 0, none⟩)), (2, .slice A30 zs27.length c31), (3, .int .i64 0)]) (cs := []) (by kernel_rfl) rfl trivial ?_; clear hF42 a41; intro a181 hF182
    refine hK180 _ _ ?_
    refine wp_block ?_
    refine loopR (F_casemateref14_Start_l1 zs27) xj176 ((List.replicate 8 0), 0) hx177 (fun s a W => ∃ (zs241 : List Nat), ∃ (x245 : Nat), (zs241, x245) = s ∧ (Fr 17 a [(0, .pointer (some ⟨b3, 0, none⟩)), (1, .pointer (some ⟨b15, 0, none⟩)), (2, .slice A30 zs27.length c31), (3, .int .i64 ((x245 : Nat) : Int))]) ∧ (Heap w [] W [.blk b3 26 (vs .u64 (List.replicate 8 0)), .blk b15 26 (vs .u64 zs241), .row 3 1 A30 zs27.length c31 (vi zs27)]) ∧ (zs241.length = 8) ∧ (LB 18446744073709551616 zs241)) ⟨(List.replicate 8 0), 0, rfl, hF182.pick [0, 1, 2, 3] (by kernel_rfl), hS39.pick [2, 1, 0] (by decide) rfl, (len_rep (α := Nat) 8 0), (LB.rep (m := 18446744073709551616) (x := 0) (by decide) 8)⟩ ?_
    clear hF182 hS39 hx177
    rintro k282 _ a277 w278 ⟨zs241, x245, rfl, hF279, hS280, hh242, hh243⟩ hit276 K275 hK274
    obtain ⟨y272, h281, hy273⟩ := iter_succ hit276; clear hit276
    unfold F_casemateref14_Start_l1 at h281; try dsimp only at h281
    refine wp_seq_k (fun K287 hK288 => ?_)
    refine wp_seq_k (fun K289 hK290 => ?_)
    refine wp_region_lit ?_
    refine pu_end hT 2 _ hF279 [0, 1, 2, 3, 6] (G := [(0, .pointer (some ⟨b3, 0, none⟩)), (1, .pointer (some ⟨b15, 0, none⟩)), (2, .slice A30 zs27.length c31), (3, .int .i64 ((x245 : Nat) : Int)), (6, .bool ((decide (((x245 : Nat) : Int) < 8))))]) (cs := []) (by kernel_rfl) rfl trivial ?_; clear hF279 a277; intro a291 hF292
    refine hK290 _ _ ?_
    rcases (ite_some h281 : ((((x245 : Nat) : Int) < 8) ∧ _) ∨ (¬ (((x245 : Nat) : Int) < 8) ∧ _)) with ⟨hc293, h294⟩ | ⟨hc293, h294⟩
    · clear h281
      have hF295 : Fr 17 a291 [(0, .pointer (some ⟨b3, 0, none⟩)), (1, .pointer (some ⟨b15, 0, none⟩)), (2, .slice A30 zs27.length c31), (3, .int .i64 ((x245 : Nat) : Int)), (6, .bool true)] := hF292.pick [0, 1, 2, 3, 6] (by rw [decide_eq_true hc293]; kernel_rfl); clear hF292
      refine condT hF295 (by kernel_rfl) ?_
      refine wp_skip ?_
      refine hK288 _ _ ?_
      refine wp_seq_k (fun K302 hK303 => ?_)
      refine wp_block ?_
      obtain ⟨g305, h304⟩ : (((x245 : Nat) : Int) < ((zs27.length : Nat) : Int)) ∧ _ := gd_some h294; clear h294
      obtain ⟨x306, hr308, h307⟩ := bnd_some h304; clear h304; replace hr308 : F_casemateref14_root (zs27.getD x245 0) (2 : Int) = some (x306) := hr308
      refine wp_region_lit ?_
      refine pu hT 4 _ hF295 [0, 1, 2, 3, 9, 12] (G := [(0, .pointer (some ⟨b3, 0, none⟩)), (1, .pointer (some ⟨b15, 0, none⟩)), (2, .slice A30 zs27.length c31), (3, .int .i64 ((x245 : Nat) : Int)), (9, .int .i64 ((x245 : Nat) : Int)), (12, .pointer (some ⟨(ablk A30), (aoff A30 + x245), none⟩))]) (cs := [0 ≤ ((x245 : Nat) : Int), ((x245 : Nat) : Int) < ((zs27.length : Nat) : Int), (A30 : Option Addr) = some ⟨ablk A30, aoff A30, none⟩]) (by kernel_rfl) (And.intro (by omega) (And.intro g305 (And.intro ((hS280.own 2 rfl).rd.some' (by have := (Eq.refl zs27.length); first | omega | (simp only [zA, zS, zT, zD, zR, zC, zN, zV, zI] <;> omega))) trivial))) ?_; clear hF295 a291; intro a310 hF311
      refine wl (s_load hT (d := 13) (A := ⟨(ablk A30), (aoff A30 + x245), none⟩) (v := .int .i64 (zs27.getD x245 0)) (by kernel_rfl) hF311 (Cells.at (hS280.own 2 rfl).rd.cells (vi_get zs27 (i := x245) (by have := (Eq.refl zs27.length); first | omega | (simp only [zA, zS, zT, zD, zR, zC, zN, zV, zI] <;> omega) | (simp [*]; done) | (simp [*]; omega))) (by first | rfl | omega)) ?_)
      rintro a312 ha314 hF313; clear ha314 hF311 a310
      have hF315 := hF313.pick [0, 1, 2, 3, 9, 13] (G := [(0, .pointer (some ⟨b3, 0, none⟩)), (1, .pointer (some ⟨b15, 0, none⟩)), (2, .slice A30 zs27.length c31), (3, .int .i64 ((x245 : Nat) : Int)), (9, .int .i64 ((x245 : Nat) : Int)), (13, .int .i64 (zs27.getD x245 0))]) (by kernel_rfl); clear hF313
      refine wl (s_call (d := 14) (f := 44) (l := [.int .i64 (zs27.getD x245 0), .int .i64 2]) (by kernel_rfl) hF315 cl44 (W_casemateref14_root (zs27.getD x245 0) (2 : Int) _ x306 hr308) ?_)
      rintro a316 w317 v318 ⟨rfl, hh309, hC319⟩ ha320 hF321; clear ha320 hF315 a312
      have hS322 : Heap w [] w317 [.blk b3 26 (vs .u64 (List.replicate 8 0)), .blk b15 26 (vs .u64 zs241), .row 3 1 A30 zs27.length c31 (vi zs27)] := Heap.call hS280 hC319; clear hS280
      have hF323 := hF321.pick [0, 1, 2, 3, 9, 14] (G := [(0, .pointer (some ⟨b3, 0, none⟩)), (1, .pointer (some ⟨b15, 0, none⟩)), (2, .slice A30 zs27.length c31), (3, .int .i64 ((x245 : Nat) : Int)), (9, .int .i64 ((x245 : Nat) : Int)), (14, .int .u64 ((x306 : Nat) : Int))]) (by kernel_rfl); clear hF321
      refine pu hT 1 _ hF323 [0, 1, 2, 3, 14, 15] (G := [(0, .pointer (some ⟨b3, 0, none⟩)), (1, .pointer (some ⟨b15, 0, none⟩)), (2, .slice A30 zs27.length c31), (3, .int .i64 ((x245 : Nat) : Int)), (14, .int .u64 ((x306 : Nat) : Int)), (15, .pointer (some ⟨b15, (0 + x245), none⟩))]) (cs := [0 ≤ ((x245 : Nat) : Int), ((x245 : Nat) : Int) < 8]) (by kernel_rfl) (And.intro (by omega) (And.intro hc293 trivial)) ?_; clear hF323 a316; intro a324 hF325
      refine wl (h_store hT (b := b15) (off := x245) (p := ⟨b15, (0 + x245), none⟩) (v := .int .u64 ((x306 : Nat) : Int)) (l' := vs .u64 (zs241.set x245 x306)) (by kernel_rfl) hF325 hS322 1 rfl (by first | rfl | (congr 1; omega)) (by have := hh242; simp only [zA, zS, zT, zD, zR, zC, zN, zV, zI] <;> omega) (by first | exact vs_set _ _ _ _ | exact vi_set _ _ _ | rfl) ?_)
      rintro a326 w327 ha330 hF331 hS328 g329; clear ha330 hF325 a324 hS322
      have hS332 : Heap w [] w327 [.blk b3 26 (vs .u64 (List.replicate 8 0)), .blk b15 26 (vs .u64 (zs241.set x245 x306)), .row 3 1 A30 zs27.length c31 (vi zs27)] := hS328; clear hS328
      have hF333 := hF331.pick [0, 1, 2, 3] (G := [(0, .pointer (some ⟨b3, 0, none⟩)), (1, .pointer (some ⟨b15, 0, none⟩)), (2, .slice A30 zs27.length c31), (3, .int .i64 ((x245 : Nat) : Int))]) (by kernel_rfl); clear hF331
      refine wpList_nil ?_
      refine hK303 _ _ ?_
      obtain ⟨g335, h334⟩ : ((((x245 + 1) : Nat) : Int) ≤ 9223372036854775807) ∧ _ := gd_some h307; clear h307
      refine wp_region_lit ?_
      refine pu_end hT 3 _ hF333 [0, 1, 2, 3] (G := [(0, .pointer (some ⟨b3, 0, none⟩)), (1, .pointer (some ⟨b15, 0, none⟩)), (2, .slice A30 zs27.length c31), (3, .int .i64 (((x245 + 1) : Nat) : Int))]) (cs := [-9223372036854775808 ≤ (((x245 + 1) : Nat) : Int), (((x245 + 1) : Nat) : Int) ≤ 9223372036854775807]) (by kernel_rfl) rfl (And.intro (by omega) (And.intro g335 trivial)) ?_; clear hF333 a326; intro a336 hF337
      obtain rfl := Option.some.inj h334
      exact hK274 _ _ _ hy273 ⟨(zs241.set x245 x306), (x245 + 1), rfl, hF337.pick [0, 1, 2, 3] (by kernel_rfl), hS332.pick [0, 1, 2] (by decide) rfl, (len_set hh242 x245 x306), (hh243.set hh309 x245)⟩
    · clear h281
      have hF338 : Fr 17 a291 [(0, .pointer (some ⟨b3, 0, none⟩)), (1, .pointer (some ⟨b15, 0, none⟩)), (2, .slice A30 zs27.length c31), (3, .int .i64 ((x245 : Nat) : Int)), (6, .bool false)] := hF292.pick [0, 1, 2, 3, 6] (by rw [decide_eq_false hc293]; kernel_rfl); clear hF292
      refine condF hF338 (by kernel_rfl) ?_
      refine wp_exit ?_
      obtain rfl := Option.some.inj h294
      obtain rfl : _ = xj176 := hy273
      exact ⟨zs241, rfl, hF338.pick [0, 1] (by kernel_rfl), hS280.pick [0, 1] (by decide) rfl, hh242, hh243⟩
  · skip
    clear hx177 hF42 hS39 
    rintro a339 w340 ⟨zs173, rfl, hF341, hS342, hh174, hh175⟩
    refine wp_seq_k (fun K344 hK345 => ?_)
    refine wp_region_lit ?_
    refine wl (s_loadA hT (d := 16) (b := b15) (off := 0) (sz := 8) (l := vs .u64 zs173) (by kernel_rfl) hF341 (hS342.blk 1 rfl).cells (by simp only [List.length_append, vs_length, vi_length, List.length_cons, List.length_nil, (hh174 : zs173.length = 8)]) ?_)
    rintro a346 ha348 hF347; clear ha348 hF341 a339
    have hF349 := hF347.pick [0, 16] (G := [(0, .pointer (some ⟨b3, 0, none⟩)), (16, .agg (vs .u64 zs173).toArray)]) (by kernel_rfl); clear hF347
    refine wl (h_storeV hT (b := b3) (l2 := vs .u64 zs173) (sz := 8) (by kernel_rfl) hF349 hS342 0 rfl (by simp only [List.length_append, vs_length, vi_length, List.length_cons, List.length_nil, (hh174 : zs173.length = 8)]) (by simp only [List.length_append, vs_length, vi_length, List.length_cons, List.length_nil, (hh174 : zs173.length = 8), ((len_rep (α := Nat) 8 0) : (List.replicate 8 0).length = 8)]) (vs_one) ?_)
    rintro a350 w351 ha354 hF355 hS352 g353; clear ha354 hF349 a346 hS342
    have hS356 : Heap w [] w351 [.blk b3 26 (vs .u64 zs173), .blk b15 26 (vs .u64 zs173)] := hS352; clear hS352
    have hF357 := hF355.pick [0] (G := [(0, .pointer (some ⟨b3, 0, none⟩))]) (by kernel_rfl); clear hF355
    refine wpList_nil ?_
    refine hK345 _ _ ?_
    refine wp_ret ?_
    obtain rfl := Option.some.inj h178
    refine retR1 (fn := Try.f19) (by first | exact .inl rfl | exact .inr rfl) hF357 rfl (resC hT (t := 0) (ty := 26) (b := b3) (by kernel_rfl) (i := tr26) (by kernel_rfl) rfl (hS356.blk 0 rfl) (show _ = 8 from by simp only [List.length_append, vs_length, vi_length, List.length_cons, List.length_nil, (hh174 : zs173.length = 8)])) ?_
    exact ⟨rfl, hh174, hh175, hS356.pick [] (by decide) rfl⟩

noncomputable def F_casemateref14_Rounds_l1 (zs27 : List Int) : (List Nat × Nat) → Option ((List Nat × Nat) ⊕ (List Nat)) := fun (zs241, x245) => if ((x245 : Nat) : Int) < 80 then (gd (((x245 : Nat) : Int) < ((zs27.length : Nat) : Int)) (bnd (F_casemateref14_root (zs27.getD x245 0) (3 : Int)) fun (x306 : Nat) => gd ((((x245 + 1) : Nat) : Int) ≤ 9223372036854775807) (some (.inl ((zs241.set x245 x306), (x245 + 1)))))) else (some (.inr zs241))
noncomputable def F_casemateref14_Rounds : Option (List Nat) := bnd (F_casemateref13_Primes (80 : Int)) fun (zs27 : List Int) => bnd (run (F_casemateref14_Rounds_l1 zs27) ((List.replicate 80 0), 0) : Option (List Nat)) (fun (zs173 : List Nat) => some zs173)
set_option maxHeartbeats 4000000 in
theorem W_casemateref14_Rounds (w : World) (r : List Nat) (h : F_casemateref14_Rounds = some r) :
    Calls Try.prog 17 [].toArray w (Ret fun v w' => v = .agg (vs .u64 r).toArray ∧ r.length = 80 ∧ LB 18446744073709551616 r ∧ Heap w [] w' []) := by
  unfold F_casemateref14_Rounds at h
  refine enter Try.func17 rfl (n := 17) Try.ntmps17 (by simp) ?_
  intro a hF
  have hS := Heap.init w
  refine wp_seq_k (fun K1 hK2 => ?_)
  refine wp_region_lit ?_
  refine wl (h_alloc hT (d := 0) (T := 24) (l := vs .u64 (List.replicate 80 0)) (by kernel_rfl) hF hS ?_)
  rintro a5 w6 b3 hS7 g8 ha9 hF10; clear ha9 hF a hS
  have hS11 : Heap w [] w6 [.blk b3 24 (vs .u64 (List.replicate 80 0))] := hS7; clear hS7
  have hF12 := hF10.pick [0] (G := [(0, .pointer (some ⟨b3, 0, none⟩))]) (by kernel_rfl); clear hF10
  refine wpList_nil ?_
  refine hK2 _ _ ?_
  refine wp_seq_k (fun K13 hK14 => ?_)
  refine wp_region_lit ?_
  refine wl (h_alloc hT (d := 1) (T := 24) (l := vs .u64 (List.replicate 80 0)) (by kernel_rfl) hF12 hS11 ?_)
  rintro a17 w18 b15 hS19 g20 ha21 hF22; clear ha21 hF12 a5 hS11
  have hS23 : Heap w [] w18 [.blk b15 24 (vs .u64 (List.replicate 80 0)), .blk b3 24 (vs .u64 (List.replicate 80 0))] := hS19; clear hS19
  have hF24 := hF22.pick [0, 1] (G := [(0, .pointer (some ⟨b3, 0, none⟩)), (1, .pointer (some ⟨b15, 0, none⟩))]) (by kernel_rfl); clear hF22
  refine wpList_nil ?_
  refine hK14 _ _ ?_
  refine wp_seq_k (fun K25 hK26 => ?_)
  obtain ⟨zs27, hr29, h28⟩ := bnd_some h; clear h; replace hr29 : F_casemateref13_Primes (80 : Int) = some (zs27) := hr29
  refine wp_region_lit ?_
  refine wl (s_call (d := 4) (f := 29) (l := [.int .i64 80]) (by kernel_rfl) hF24 cl29 (W_casemateref13_Primes (80 : Int) _ zs27 hr29) ?_)
  rintro a33 w34 v35 ⟨A30, c31, rfl, hC36⟩ ha37 hF38; clear ha37 hF24 a17
  have hS39 : Heap w [] w34 [.row 3 1 A30 zs27.length c31 (vi zs27), .blk b15 24 (vs .u64 (List.replicate 80 0)), .blk b3 24 (vs .u64 (List.replicate 80 0))] := Heap.call hS23 hC36; clear hS23
  have hF40 := hF38.pick [0, 1, 4] (G := [(0, .pointer (some ⟨b3, 0, none⟩)), (1, .pointer (some ⟨b15, 0, none⟩)), (4, .slice A30 zs27.length c31)]) (by kernel_rfl); clear hF38
  refine pu_end hT 1 _ hF40 [0, 1, 2] (G := [(0, .pointer (some ⟨b3, 0, none⟩)), (1, .pointer (some ⟨b15, 0, none⟩)), (2, .slice A30 zs27.length c31)]) (cs := []) (by kernel_rfl) rfl trivial ?_; clear hF40 a33; intro a41 hF42
  refine hK26 _ _ ?_
  obtain ⟨xj176, hx177, h178⟩ := bnd_some h28; clear h28
  refine seqJ (fun a W => ∃ (zs173 : List Nat), zs173 = xj176 ∧ (Fr 17 a [(0, .pointer (some ⟨b3, 0, none⟩)), (1, .pointer (some ⟨b15, 0, none⟩))]) ∧ (Heap w [] W [.blk b3 24 (vs .u64 (List.replicate 80 0)), .blk b15 24 (vs .u64 zs173)]) ∧ (zs173.length = 80) ∧ (LB 18446744073709551616 zs173)) ?_ ?_
  · skip
    refine wp_seq_k (fun K179 hK180 => ?_)
    refine wp_region_lit ?_
    refine pu_end hT 1 _ hF42 [0, 1, 2, 3] (G := [(0, .pointer (some ⟨b3, 0, none⟩)), (1, .pointer (some ⟨b15, 0, none⟩)), (2, .slice A30 zs27.length c31), (3, .int .i64 0)]) (cs := []) (by kernel_rfl) rfl trivial ?_; clear hF42 a41; intro a181 hF182
    refine hK180 _ _ ?_
    refine wp_block ?_
    refine loopR (F_casemateref14_Rounds_l1 zs27) xj176 ((List.replicate 80 0), 0) hx177 (fun s a W => ∃ (zs241 : List Nat), ∃ (x245 : Nat), (zs241, x245) = s ∧ (Fr 17 a [(0, .pointer (some ⟨b3, 0, none⟩)), (1, .pointer (some ⟨b15, 0, none⟩)), (2, .slice A30 zs27.length c31), (3, .int .i64 ((x245 : Nat) : Int))]) ∧ (Heap w [] W [.blk b3 24 (vs .u64 (List.replicate 80 0)), .blk b15 24 (vs .u64 zs241), .row 3 1 A30 zs27.length c31 (vi zs27)]) ∧ (zs241.length = 80) ∧ (LB 18446744073709551616 zs241)) ⟨(List.replicate 80 0), 0, rfl, hF182.pick [0, 1, 2, 3] (by kernel_rfl), hS39.pick [2, 1, 0] (by decide) rfl, (len_rep (α := Nat) 80 0), (LB.rep (m := 18446744073709551616) (x := 0) (by decide) 80)⟩ ?_
    clear hF182 hS39 hx177
    rintro k282 _ a277 w278 ⟨zs241, x245, rfl, hF279, hS280, hh242, hh243⟩ hit276 K275 hK274
    obtain ⟨y272, h281, hy273⟩ := iter_succ hit276; clear hit276
    unfold F_casemateref14_Rounds_l1 at h281; try dsimp only at h281
    refine wp_seq_k (fun K287 hK288 => ?_)
    refine wp_seq_k (fun K289 hK290 => ?_)
    refine wp_region_lit ?_
    refine pu_end hT 2 _ hF279 [0, 1, 2, 3, 6] (G := [(0, .pointer (some ⟨b3, 0, none⟩)), (1, .pointer (some ⟨b15, 0, none⟩)), (2, .slice A30 zs27.length c31), (3, .int .i64 ((x245 : Nat) : Int)), (6, .bool ((decide (((x245 : Nat) : Int) < 80))))]) (cs := []) (by kernel_rfl) rfl trivial ?_; clear hF279 a277; intro a291 hF292
    refine hK290 _ _ ?_
    rcases (ite_some h281 : ((((x245 : Nat) : Int) < 80) ∧ _) ∨ (¬ (((x245 : Nat) : Int) < 80) ∧ _)) with ⟨hc293, h294⟩ | ⟨hc293, h294⟩
    · clear h281
      have hF295 : Fr 17 a291 [(0, .pointer (some ⟨b3, 0, none⟩)), (1, .pointer (some ⟨b15, 0, none⟩)), (2, .slice A30 zs27.length c31), (3, .int .i64 ((x245 : Nat) : Int)), (6, .bool true)] := hF292.pick [0, 1, 2, 3, 6] (by rw [decide_eq_true hc293]; kernel_rfl); clear hF292
      refine condT hF295 (by kernel_rfl) ?_
      refine wp_skip ?_
      refine hK288 _ _ ?_
      refine wp_seq_k (fun K302 hK303 => ?_)
      refine wp_block ?_
      obtain ⟨g305, h304⟩ : (((x245 : Nat) : Int) < ((zs27.length : Nat) : Int)) ∧ _ := gd_some h294; clear h294
      obtain ⟨x306, hr308, h307⟩ := bnd_some h304; clear h304; replace hr308 : F_casemateref14_root (zs27.getD x245 0) (3 : Int) = some (x306) := hr308
      refine wp_region_lit ?_
      refine pu hT 4 _ hF295 [0, 1, 2, 3, 9, 12] (G := [(0, .pointer (some ⟨b3, 0, none⟩)), (1, .pointer (some ⟨b15, 0, none⟩)), (2, .slice A30 zs27.length c31), (3, .int .i64 ((x245 : Nat) : Int)), (9, .int .i64 ((x245 : Nat) : Int)), (12, .pointer (some ⟨(ablk A30), (aoff A30 + x245), none⟩))]) (cs := [0 ≤ ((x245 : Nat) : Int), ((x245 : Nat) : Int) < ((zs27.length : Nat) : Int), (A30 : Option Addr) = some ⟨ablk A30, aoff A30, none⟩]) (by kernel_rfl) (And.intro (by omega) (And.intro g305 (And.intro ((hS280.own 2 rfl).rd.some' (by have := (Eq.refl zs27.length); first | omega | (simp only [zA, zS, zT, zD, zR, zC, zN, zV, zI] <;> omega))) trivial))) ?_; clear hF295 a291; intro a310 hF311
      refine wl (s_load hT (d := 13) (A := ⟨(ablk A30), (aoff A30 + x245), none⟩) (v := .int .i64 (zs27.getD x245 0)) (by kernel_rfl) hF311 (Cells.at (hS280.own 2 rfl).rd.cells (vi_get zs27 (i := x245) (by have := (Eq.refl zs27.length); first | omega | (simp only [zA, zS, zT, zD, zR, zC, zN, zV, zI] <;> omega) | (simp [*]; done) | (simp [*]; omega))) (by first | rfl | omega)) ?_)
      rintro a312 ha314 hF313; clear ha314 hF311 a310
      have hF315 := hF313.pick [0, 1, 2, 3, 9, 13] (G := [(0, .pointer (some ⟨b3, 0, none⟩)), (1, .pointer (some ⟨b15, 0, none⟩)), (2, .slice A30 zs27.length c31), (3, .int .i64 ((x245 : Nat) : Int)), (9, .int .i64 ((x245 : Nat) : Int)), (13, .int .i64 (zs27.getD x245 0))]) (by kernel_rfl); clear hF313
      refine wl (s_call (d := 14) (f := 44) (l := [.int .i64 (zs27.getD x245 0), .int .i64 3]) (by kernel_rfl) hF315 cl44 (W_casemateref14_root (zs27.getD x245 0) (3 : Int) _ x306 hr308) ?_)
      rintro a316 w317 v318 ⟨rfl, hh309, hC319⟩ ha320 hF321; clear ha320 hF315 a312
      have hS322 : Heap w [] w317 [.blk b3 24 (vs .u64 (List.replicate 80 0)), .blk b15 24 (vs .u64 zs241), .row 3 1 A30 zs27.length c31 (vi zs27)] := Heap.call hS280 hC319; clear hS280
      have hF323 := hF321.pick [0, 1, 2, 3, 9, 14] (G := [(0, .pointer (some ⟨b3, 0, none⟩)), (1, .pointer (some ⟨b15, 0, none⟩)), (2, .slice A30 zs27.length c31), (3, .int .i64 ((x245 : Nat) : Int)), (9, .int .i64 ((x245 : Nat) : Int)), (14, .int .u64 ((x306 : Nat) : Int))]) (by kernel_rfl); clear hF321
      refine pu hT 1 _ hF323 [0, 1, 2, 3, 14, 15] (G := [(0, .pointer (some ⟨b3, 0, none⟩)), (1, .pointer (some ⟨b15, 0, none⟩)), (2, .slice A30 zs27.length c31), (3, .int .i64 ((x245 : Nat) : Int)), (14, .int .u64 ((x306 : Nat) : Int)), (15, .pointer (some ⟨b15, (0 + x245), none⟩))]) (cs := [0 ≤ ((x245 : Nat) : Int), ((x245 : Nat) : Int) < 80]) (by kernel_rfl) (And.intro (by omega) (And.intro hc293 trivial)) ?_; clear hF323 a316; intro a324 hF325
      refine wl (h_store hT (b := b15) (off := x245) (p := ⟨b15, (0 + x245), none⟩) (v := .int .u64 ((x306 : Nat) : Int)) (l' := vs .u64 (zs241.set x245 x306)) (by kernel_rfl) hF325 hS322 1 rfl (by first | rfl | (congr 1; omega)) (by have := hh242; simp only [zA, zS, zT, zD, zR, zC, zN, zV, zI] <;> omega) (by first | exact vs_set _ _ _ _ | exact vi_set _ _ _ | rfl) ?_)
      rintro a326 w327 ha330 hF331 hS328 g329; clear ha330 hF325 a324 hS322
      have hS332 : Heap w [] w327 [.blk b3 24 (vs .u64 (List.replicate 80 0)), .blk b15 24 (vs .u64 (zs241.set x245 x306)), .row 3 1 A30 zs27.length c31 (vi zs27)] := hS328; clear hS328
      have hF333 := hF331.pick [0, 1, 2, 3] (G := [(0, .pointer (some ⟨b3, 0, none⟩)), (1, .pointer (some ⟨b15, 0, none⟩)), (2, .slice A30 zs27.length c31), (3, .int .i64 ((x245 : Nat) : Int))]) (by kernel_rfl); clear hF331
      refine wpList_nil ?_
      refine hK303 _ _ ?_
      obtain ⟨g335, h334⟩ : ((((x245 + 1) : Nat) : Int) ≤ 9223372036854775807) ∧ _ := gd_some h307; clear h307
      refine wp_region_lit ?_
      refine pu_end hT 3 _ hF333 [0, 1, 2, 3] (G := [(0, .pointer (some ⟨b3, 0, none⟩)), (1, .pointer (some ⟨b15, 0, none⟩)), (2, .slice A30 zs27.length c31), (3, .int .i64 (((x245 + 1) : Nat) : Int))]) (cs := [-9223372036854775808 ≤ (((x245 + 1) : Nat) : Int), (((x245 + 1) : Nat) : Int) ≤ 9223372036854775807]) (by kernel_rfl) rfl (And.intro (by omega) (And.intro g335 trivial)) ?_; clear hF333 a326; intro a336 hF337
      obtain rfl := Option.some.inj h334
      exact hK274 _ _ _ hy273 ⟨(zs241.set x245 x306), (x245 + 1), rfl, hF337.pick [0, 1, 2, 3] (by kernel_rfl), hS332.pick [0, 1, 2] (by decide) rfl, (len_set hh242 x245 x306), (hh243.set hh309 x245)⟩
    · clear h281
      have hF338 : Fr 17 a291 [(0, .pointer (some ⟨b3, 0, none⟩)), (1, .pointer (some ⟨b15, 0, none⟩)), (2, .slice A30 zs27.length c31), (3, .int .i64 ((x245 : Nat) : Int)), (6, .bool false)] := hF292.pick [0, 1, 2, 3, 6] (by rw [decide_eq_false hc293]; kernel_rfl); clear hF292
      refine condF hF338 (by kernel_rfl) ?_
      refine wp_exit ?_
      obtain rfl := Option.some.inj h294
      obtain rfl : _ = xj176 := hy273
      exact ⟨zs241, rfl, hF338.pick [0, 1] (by kernel_rfl), hS280.pick [0, 1] (by decide) rfl, hh242, hh243⟩
  · skip
    clear hx177 hF42 hS39 
    rintro a339 w340 ⟨zs173, rfl, hF341, hS342, hh174, hh175⟩
    refine wp_seq_k (fun K344 hK345 => ?_)
    refine wp_region_lit ?_
    refine wl (s_loadA hT (d := 16) (b := b15) (off := 0) (sz := 80) (l := vs .u64 zs173) (by kernel_rfl) hF341 (hS342.blk 1 rfl).cells (by simp only [List.length_append, vs_length, vi_length, List.length_cons, List.length_nil, (hh174 : zs173.length = 80)]) ?_)
    rintro a346 ha348 hF347; clear ha348 hF341 a339
    have hF349 := hF347.pick [0, 16] (G := [(0, .pointer (some ⟨b3, 0, none⟩)), (16, .agg (vs .u64 zs173).toArray)]) (by kernel_rfl); clear hF347
    refine wl (h_storeV hT (b := b3) (l2 := vs .u64 zs173) (sz := 80) (by kernel_rfl) hF349 hS342 0 rfl (by simp only [List.length_append, vs_length, vi_length, List.length_cons, List.length_nil, (hh174 : zs173.length = 80)]) (by simp only [List.length_append, vs_length, vi_length, List.length_cons, List.length_nil, (hh174 : zs173.length = 80), ((len_rep (α := Nat) 80 0) : (List.replicate 80 0).length = 80)]) (vs_one) ?_)
    rintro a350 w351 ha354 hF355 hS352 g353; clear ha354 hF349 a346 hS342
    have hS356 : Heap w [] w351 [.blk b3 24 (vs .u64 zs173), .blk b15 24 (vs .u64 zs173)] := hS352; clear hS352
    have hF357 := hF355.pick [0] (G := [(0, .pointer (some ⟨b3, 0, none⟩))]) (by kernel_rfl); clear hF355
    refine wpList_nil ?_
    refine hK345 _ _ ?_
    refine wp_ret ?_
    obtain rfl := Option.some.inj h178
    refine retR1 (fn := Try.f17) (by first | exact .inl rfl | exact .inr rfl) hF357 rfl (resC hT (t := 0) (ty := 24) (b := b3) (by kernel_rfl) (i := tr24) (by kernel_rfl) rfl (hS356.blk 0 rfl) (show _ = 80 from by simp only [List.length_append, vs_length, vi_length, List.length_cons, List.length_nil, (hh174 : zs173.length = 80)])) ?_
    exact ⟨rfl, hh174, hh175, hS356.pick [] (by decide) rfl⟩

end Go.Proofs.Ytddphjmcoolinaa
