/- Walks of functions, printed by auto.py. -/
import Derived.Test.YtddphjmcoolinaaVd
import Derived.Test.YtddphjmcoolinaaVf
set_option linter.unusedVariables false
set_option linter.unusedSimpArgs false
set_option maxRecDepth 100000
namespace Go.Proofs.Ytddphjmcoolinaa
open Go.Proofs Go.RowKit
noncomputable def F_casematelaw14_Sha512Blocks (xs0 : List Nat) (xs1 : List Nat) : Option Bool := if 300 < ((xs1.length : Nat) : Int) then (some true) else (gd ((0 + xs1.length) * 1 ≤ 140737488355328) (bnd (F_sha512_Block xs0 xs1) fun (zs66, x67) => if xs1 = xs1 then (if ((xs1.length : Nat) : Int) = 128 then (bnd (F_casematelaw14_awake) fun (b160 : Bool) => if b160 = true then (if ((x67 : Nat) : Int) = 0 then (bnd (F_casemateref14_Rounds) fun (zs189 : List Nat) => bnd (F_casemateref14_Block zs189 xs0 xs1) fun (zs194 : List Nat) => some ((decide (zs66 = zs194)))) else (some false)) else (some false)) else (bnd (F_casematelaw14_awake) fun (b494 : Bool) => if b494 = true then (if ((x67 : Nat) : Int) = 1 then (some ((decide (zs66 = [0, 0, 0, 0, 0, 0, 0, 0])))) else (some false)) else (some false))) else (some false)))
set_option maxHeartbeats 4000000 in
theorem W_casematelaw14_Sha512Blocks (xs0 : List Nat) (pA1 : Option Addr) (pc1 : Nat) (xs1 : List Nat) (w : World) (pl0 : xs0.length = 8) (pb0 : LB 18446744073709551616 xs0) (pR1 : Rd w pA1 (vs .u8 xs1)) (pc_1 : xs1.length ≤ pc1) (pb1 : LB 256 xs1) (h : F_casematelaw14_Sha512Blocks xs0 xs1 = some true) :
    Calls Try.prog 6 [.agg (vs .u64 xs0).toArray, .slice pA1 xs1.length pc1].toArray w (Ret fun v w' => v = .bool true ∧ Heap w [] w' []) := by
  obtain ⟨r, hr0⟩ : ∃ r, r = true := ⟨_, rfl⟩; rw [← hr0] at h
  unfold F_casematelaw14_Sha512Blocks at h
  refine enter Try.func6 rfl (n := 51) Try.ntmps6 (by simp) ?_
  intro a hF
  have hS := Heap.init w
  refine wp_seq_k (fun K1 hK2 => ?_)
  refine wp_region_lit ?_
  refine wl (h_alloc hT (d := 2) (T := 26) (l := vs .u64 xs0) (by kernel_rfl) hF hS ?_)
  rintro a5 w6 b3 hS7 g8 ha9 hF10; clear ha9 hF a hS
  have hS11 : Heap w [] w6 [.blk b3 26 (vs .u64 xs0)] := hS7; clear hS7
  have hF12 := hF10.pick [1, 2] (G := [(1, .slice pA1 xs1.length pc1), (2, .pointer (some ⟨b3, 0, none⟩))]) (by kernel_rfl); clear hF10
  refine pu_end hT 1 _ hF12 [1, 2] (G := [(1, .slice pA1 xs1.length pc1), (2, .pointer (some ⟨b3, 0, none⟩))]) (cs := []) (by kernel_rfl) rfl trivial ?_; clear hF12 a5; intro a13 hF14
  refine hK2 _ _ ?_
  refine wp_seq_k (fun K21 hK22 => ?_)
  refine wp_seq_k (fun K23 hK24 => ?_)
  refine wp_region_lit ?_
  refine pu_end hT 3 _ hF14 [1, 2, 10] (G := [(1, .slice pA1 xs1.length pc1), (2, .pointer (some ⟨b3, 0, none⟩)), (10, .bool ((decide (300 < ((xs1.length : Nat) : Int)))))]) (cs := []) (by kernel_rfl) rfl trivial ?_; clear hF14 a13; intro a25 hF26
  refine hK24 _ _ ?_
  rcases (ite_some h : ((300 < ((xs1.length : Nat) : Int)) ∧ _) ∨ (¬ (300 < ((xs1.length : Nat) : Int)) ∧ _)) with ⟨hc27, h28⟩ | ⟨hc27, h28⟩
  · clear h
    have hF29 : Fr 51 a25 [(1, .slice pA1 xs1.length pc1), (2, .pointer (some ⟨b3, 0, none⟩)), (10, .bool true)] := hF26.pick [1, 2, 10] (by rw [decide_eq_true hc27]; kernel_rfl); clear hF26
    refine condT hF29 (by kernel_rfl) ?_
    refine wp_seq_k (fun K30 hK31 => ?_)
    refine wp_region_lit ?_
    refine pu_end hT 1 _ hF29 [4] (G := [(4, .bool true)]) (cs := []) (by kernel_rfl) rfl trivial ?_; clear hF29 a25; intro a32 hF33
    refine hK31 _ _ ?_
    refine wp_ret ?_
    obtain rfl := Option.some.inj h28
    refine ret1 hF33 rfl (v := .bool true) (by kernel_rfl) ?_
    exact ⟨by rw [show (true) = true from hr0], hS11.pick [] (by decide) rfl⟩
  · clear h
    have hF34 : Fr 51 a25 [(1, .slice pA1 xs1.length pc1), (2, .pointer (some ⟨b3, 0, none⟩)), (10, .bool false)] := hF26.pick [1, 2, 10] (by rw [decide_eq_false hc27]; kernel_rfl); clear hF26
    refine condF hF34 (by kernel_rfl) ?_
    refine wp_skip ?_
    refine hK22 _ _ ?_
    refine wp_seq_k (fun K35 hK36 => ?_)
    obtain ⟨g40, h39⟩ : ((0 + xs1.length) * 1 ≤ 140737488355328) ∧ _ := gd_some h28; clear h28
    refine wp_region_lit ?_
    refine wl (h_lit hT (d := 11) (T := 5) (l := vs .u8 []) (by kernel_rfl) hF34 hS11 (by simp [maxLen]) ?_)
    rintro a44 w45 A37 hS46 g47 ha48 hF49; clear ha48 hF34 a25 hS11
    have hS50 : Heap w [] w45 [.row 5 1 A37 0 0 (vs .u8 []), .blk b3 26 (vs .u64 xs0)] := hS46; clear hS46
    have hF51 := hF49.pick [1, 2, 11] (G := [(1, .slice pA1 xs1.length pc1), (2, .pointer (some ⟨b3, 0, none⟩)), (11, .slice A37 0 0)]) (by kernel_rfl); clear hF49
    refine pu hT 1 _ hF51 [1, 2, 11, 12] (G := [(1, .slice pA1 xs1.length pc1), (2, .pointer (some ⟨b3, 0, none⟩)), (11, .slice A37 0 0), (12, .slice pA1 xs1.length pc1)]) (cs := []) (by kernel_rfl) trivial ?_; clear hF51 a44; intro a52 hF53
    refine wl (h_app hT (d := 13) (T := 5) (i := tr5) (m := 0) (c := 0) (m2 := xs1.length) (c2 := pc1) (A2 := pA1) (l2 := vs .u8 xs1) (n' := xs1.length) (l' := vs .u8 xs1) (by kernel_rfl) hF53 hS50 0 rfl rfl (by decide) (hS50.rd0 pR1) (by show _ = xs1.length * 1; have := (Eq.refl xs1.length); simp only [zA, zS, zT, zD, zR, zC, zN, zV, zI] <;> omega) vs_one (by show (0 + xs1.length) * 1 ≤ 140737488355328; first | exact g40 | omega) (by decide) (by have := (show ([] : List Nat).length = 0 from rfl); have := (Eq.refl xs1.length); first | omega | (simp only [zA, zS, zT, zD, zR, zC, zN, zV, zI] <;> omega) | (simp only [zA, zS, zT, zD, zR, zC, zN, zV, zI] at * <;> omega)) (by first | rfl | exact (vs_append _ _ _).symm | exact (vi_append _ _).symm | simp [vs, vi]) ?_)
    rintro a54 w55 A41 c42 hS56 g57 ha58 hF59; clear ha58 hF53 a52 hS50
    have hS60 : Heap w [] w55 [.row 5 1 A41 xs1.length c42 (vs .u8 xs1), .blk b3 26 (vs .u64 xs0)] := hS56; clear hS56
    have hF61 := hF59.pick [1, 2, 13] (G := [(1, .slice pA1 xs1.length pc1), (2, .pointer (some ⟨b3, 0, none⟩)), (13, .slice A41 xs1.length c42)]) (by kernel_rfl); clear hF59
    refine pu_end hT 1 _ hF61 [1, 2, 5] (G := [(1, .slice pA1 xs1.length pc1), (2, .pointer (some ⟨b3, 0, none⟩)), (5, .slice A41 xs1.length c42)]) (cs := []) (by kernel_rfl) rfl trivial ?_; clear hF61 a54; intro a62 hF63
    refine hK36 _ _ ?_
    refine wp_seq_k (fun K64 hK65 => ?_)
    obtain ⟨⟨zs66, x67⟩, hr69, h68⟩ := bnd_some h39; clear h39; replace hr69 : F_sha512_Block xs0 xs1 = some (zs66, x67) := hr69
    refine wp_region_lit ?_
    refine wl (s_loadA hT (d := 15) (b := b3) (off := 0) (sz := 8) (l := vs .u64 xs0) (by kernel_rfl) hF63 (hS60.blk 1 rfl).cells (by simp only [List.length_append, vs_length, vi_length, List.length_cons, List.length_nil, (pl0 : xs0.length = 8)]) ?_)
    rintro a74 ha76 hF75; clear ha76 hF63 a62
    have hF77 := hF75.pick [1, 2, 5, 15] (G := [(1, .slice pA1 xs1.length pc1), (2, .pointer (some ⟨b3, 0, none⟩)), (5, .slice A41 xs1.length c42), (15, .agg (vs .u64 xs0).toArray)]) (by kernel_rfl); clear hF75
    refine pu hT 1 _ hF77 [1, 2, 5, 15, 16] (G := [(1, .slice pA1 xs1.length pc1), (2, .pointer (some ⟨b3, 0, none⟩)), (5, .slice A41 xs1.length c42), (15, .agg (vs .u64 xs0).toArray), (16, .slice A41 xs1.length c42)]) (cs := []) (by kernel_rfl) trivial ?_; clear hF77 a74; intro a78 hF79
    refine wl (s_call (d := 17) (f := 24) (l := [.agg (vs .u64 xs0).toArray, .slice A41 xs1.length c42]) (by kernel_rfl) hF79 cl24 (W_sha512_Block xs0 A41 c42 xs1 _ pl0 pb0 (hS60.own 0 rfl).rd (by have := (hS60.own 0 rfl).cap; have := (Eq.refl xs1.length); skip; have := (Eq.refl xs1.length); first | omega | (simp only [zA, zS, zT, zD, zR, zC, zN, zV, zI] <;> omega) | (simp only [zA, zS, zT, zD, zR, zC, zN, zV, zI] at * <;> omega)) pb1 zs66 x67 hr69) ?_)
    rintro a80 w81 v82 ⟨rfl, hh70, hh71, hC83⟩ ha84 hF85; clear ha84 hF79 a78
    have hS86 : Heap w [] w81 [.row 5 1 A41 xs1.length c42 (vs .u8 xs1), .blk b3 26 (vs .u64 xs0)] := Heap.call hS60 hC83; clear hS60
    have hF87 := hF85.pick [1, 2, 5, 17] (G := [(1, .slice pA1 xs1.length pc1), (2, .pointer (some ⟨b3, 0, none⟩)), (5, .slice A41 xs1.length c42), (17, .tuple #[.agg (vs .u64 zs66).toArray, .int .i64 ((x67 : Nat) : Int)])]) (by kernel_rfl); clear hF85
    refine pu hT 3 _ hF87 [1, 2, 5, 18, 19] (G := [(1, .slice pA1 xs1.length pc1), (2, .pointer (some ⟨b3, 0, none⟩)), (5, .slice A41 xs1.length c42), (18, .agg (vs .u64 zs66).toArray), (19, .int .i64 ((x67 : Nat) : Int))]) (cs := []) (by kernel_rfl) trivial ?_; clear hF87 a80; intro a88 hF89
    refine wl (h_alloc hT (d := 6) (T := 26) (l := vs .u64 (List.replicate 8 0)) (by kernel_rfl) hF89 hS86 ?_)
    rintro a90 w91 b72 hS92 g93 ha94 hF95; clear ha94 hF89 a88 hS86
    have hS96 : Heap w [] w91 [.blk b72 26 (vs .u64 (List.replicate 8 0)), .row 5 1 A41 xs1.length c42 (vs .u8 xs1), .blk b3 26 (vs .u64 xs0)] := hS92; clear hS92
    have hF97 := hF95.pick [1, 2, 5, 18, 19, 6] (G := [(1, .slice pA1 xs1.length pc1), (2, .pointer (some ⟨b3, 0, none⟩)), (5, .slice A41 xs1.length c42), (18, .agg (vs .u64 zs66).toArray), (19, .int .i64 ((x67 : Nat) : Int)), (6, .pointer (some ⟨b72, 0, none⟩))]) (by kernel_rfl); clear hF95
    refine wl (h_storeV hT (b := b72) (l2 := vs .u64 zs66) (sz := 8) (by kernel_rfl) hF97 hS96 0 rfl (by simp only [List.length_append, vs_length, vi_length, List.length_cons, List.length_nil, (hh70 : zs66.length = 8)]) (by simp only [List.length_append, vs_length, vi_length, List.length_cons, List.length_nil, (hh70 : zs66.length = 8), ((len_rep (α := Nat) 8 0) : (List.replicate 8 0).length = 8)]) (vs_one) ?_)
    rintro a98 w99 ha102 hF103 hS100 g101; clear ha102 hF97 a90 hS96
    have hS104 : Heap w [] w99 [.blk b72 26 (vs .u64 zs66), .row 5 1 A41 xs1.length c42 (vs .u8 xs1), .blk b3 26 (vs .u64 xs0)] := hS100; clear hS100
    have hF105 := hF103.pick [1, 2, 5, 19, 6] (G := [(1, .slice pA1 xs1.length pc1), (2, .pointer (some ⟨b3, 0, none⟩)), (5, .slice A41 xs1.length c42), (19, .int .i64 ((x67 : Nat) : Int)), (6, .pointer (some ⟨b72, 0, none⟩))]) (by kernel_rfl); clear hF103
    refine pu_end hT 1 _ hF105 [1, 2, 5, 6, 7] (G := [(1, .slice pA1 xs1.length pc1), (2, .pointer (some ⟨b3, 0, none⟩)), (5, .slice A41 xs1.length c42), (6, .pointer (some ⟨b72, 0, none⟩)), (7, .int .i64 ((x67 : Nat) : Int))]) (cs := []) (by kernel_rfl) rfl trivial ?_; clear hF105 a98; intro a106 hF107
    refine hK65 _ _ ?_
    refine wp_seq_k (fun K114 hK115 => ?_)
    refine wp_seq_k (fun K116 hK117 => ?_)
    refine wp_region_lit ?_
    refine pu hT 1 _ hF107 [1, 2, 6, 7, 20] (G := [(1, .slice pA1 xs1.length pc1), (2, .pointer (some ⟨b3, 0, none⟩)), (6, .pointer (some ⟨b72, 0, none⟩)), (7, .int .i64 ((x67 : Nat) : Int)), (20, .slice A41 xs1.length c42)]) (cs := []) (by kernel_rfl) trivial ?_; clear hF107 a106; intro a118 hF119
    refine wl (s_str hT (d := 21) (A := A41) (m := xs1.length) (xs := xs1) (by kernel_rfl) hF119 (hS104.own 1 rfl).rd (by have := (Eq.refl xs1.length); first | exact this | omega | (simp [*]; done)) ?_)
    rintro a120 ha122 hF121; clear ha122 hF119 a118
    have hF123 := hF121.pick [1, 2, 6, 7, 21] (G := [(1, .slice pA1 xs1.length pc1), (2, .pointer (some ⟨b3, 0, none⟩)), (6, .pointer (some ⟨b72, 0, none⟩)), (7, .int .i64 ((x67 : Nat) : Int)), (21, .string (str xs1))]) (by kernel_rfl); clear hF121
    refine pu hT 1 _ hF123 [1, 2, 6, 7, 21, 22] (G := [(1, .slice pA1 xs1.length pc1), (2, .pointer (some ⟨b3, 0, none⟩)), (6, .pointer (some ⟨b72, 0, none⟩)), (7, .int .i64 ((x67 : Nat) : Int)), (21, .string (str xs1)), (22, .slice pA1 xs1.length pc1)]) (cs := []) (by kernel_rfl) trivial ?_; clear hF123 a120; intro a124 hF125
    refine wl (s_str hT (d := 23) (A := pA1) (m := xs1.length) (xs := xs1) (by kernel_rfl) hF125 (hS104.rd0 pR1) (by have := (Eq.refl xs1.length); first | exact this | omega | (simp [*]; done)) ?_)
    rintro a126 ha128 hF127; clear ha128 hF125 a124
    have hF129 := hF127.pick [1, 2, 6, 7, 21, 23] (G := [(1, .slice pA1 xs1.length pc1), (2, .pointer (some ⟨b3, 0, none⟩)), (6, .pointer (some ⟨b72, 0, none⟩)), (7, .int .i64 ((x67 : Nat) : Int)), (21, .string (str xs1)), (23, .string (str xs1))]) (by kernel_rfl); clear hF127
    refine pu_end hT 1 _ hF129 [1, 2, 6, 7, 24] (G := [(1, .slice pA1 xs1.length pc1), (2, .pointer (some ⟨b3, 0, none⟩)), (6, .pointer (some ⟨b72, 0, none⟩)), (7, .int .i64 ((x67 : Nat) : Int)), (24, .bool (!((str xs1).toList == (str xs1).toList)))]) (cs := []) (by kernel_rfl) rfl trivial ?_; clear hF129 a126; intro a130 hF131
    have hF132 : Fr 51 a130 [(1, .slice pA1 xs1.length pc1), (2, .pointer (some ⟨b3, 0, none⟩)), (6, .pointer (some ⟨b72, 0, none⟩)), (7, .int .i64 ((x67 : Nat) : Int)), (24, .bool (!(decide (xs1 = xs1))))] := hF131.pick [1, 2, 6, 7, 24] (by rw [str_beq pb1 pb1]; kernel_rfl); clear hF131
    refine hK117 _ _ ?_
    rcases (ite_some h68 : ((xs1 = xs1) ∧ _) ∨ (¬ (xs1 = xs1) ∧ _)) with ⟨hc133, h134⟩ | ⟨hc133, h134⟩
    · clear h68
      have hF135 : Fr 51 a130 [(1, .slice pA1 xs1.length pc1), (2, .pointer (some ⟨b3, 0, none⟩)), (6, .pointer (some ⟨b72, 0, none⟩)), (7, .int .i64 ((x67 : Nat) : Int)), (24, .bool false)] := hF132.pick [1, 2, 6, 7, 24] (by rw [decide_eq_true hc133]; kernel_rfl); clear hF132
      refine condF hF135 (by kernel_rfl) ?_
      refine wp_skip ?_
      refine hK115 _ _ ?_
      refine wp_seq_k (fun K149 hK150 => ?_)
      refine wp_seq_k (fun K151 hK152 => ?_)
      refine wp_region_lit ?_
      refine pu_end hT 3 _ hF135 [1, 2, 6, 7, 27] (G := [(1, .slice pA1 xs1.length pc1), (2, .pointer (some ⟨b3, 0, none⟩)), (6, .pointer (some ⟨b72, 0, none⟩)), (7, .int .i64 ((x67 : Nat) : Int)), (27, .bool (!(decide (((xs1.length : Nat) : Int) = 128))))]) (cs := []) (by kernel_rfl) rfl trivial ?_; clear hF135 a130; intro a153 hF154
      refine hK152 _ _ ?_
      rcases (ite_some h134 : ((((xs1.length : Nat) : Int) = 128) ∧ _) ∨ (¬ (((xs1.length : Nat) : Int) = 128) ∧ _)) with ⟨hc155, h156⟩ | ⟨hc155, h156⟩
      · clear h134
        have hF157 : Fr 51 a153 [(1, .slice pA1 xs1.length pc1), (2, .pointer (some ⟨b3, 0, none⟩)), (6, .pointer (some ⟨b72, 0, none⟩)), (7, .int .i64 ((x67 : Nat) : Int)), (27, .bool false)] := hF154.pick [1, 2, 6, 7, 27] (by rw [decide_eq_true hc155]; kernel_rfl); clear hF154
        refine condF hF157 (by kernel_rfl) ?_
        refine wp_skip ?_
        refine hK150 _ _ ?_
        refine wp_seq_k (fun K158 hK159 => ?_)
        obtain ⟨b160, hr162, h161⟩ := bnd_some h156; clear h156; replace hr162 : F_casematelaw14_awake = some (b160) := hr162
        rcases (ite_some h161 : ((b160 = true) ∧ _) ∨ (¬ (b160 = true) ∧ _)) with ⟨hc163, h164⟩ | ⟨hc163, h164⟩
        · clear h161
          rcases (ite_some h164 : ((((x67 : Nat) : Int) = 0) ∧ _) ∨ (¬ (((x67 : Nat) : Int) = 0) ∧ _)) with ⟨hc177, h178⟩ | ⟨hc177, h178⟩
          · clear h164
            obtain ⟨zs189, hr191, h190⟩ := bnd_some h178; clear h178; replace hr191 : F_casemateref14_Rounds = some (zs189) := hr191
            obtain ⟨zs194, hr196, h195⟩ := bnd_some h190; clear h190; replace hr196 : F_casemateref14_Block zs189 xs0 xs1 = some (zs194) := hr196
            have hlt199 := hS104.ids
            have hsz201 := hS104.size
            let SL200 : List SP := [SP.val (.bool (b160)), SP.val (.bool true), SP.val (.int .i64 ((x67 : Nat) : Int)), SP.val (.bool ((decide (((x67 : Nat) : Int) = 0)))), SP.val (.bool ((decide (((x67 : Nat) : Int) = 0)))), SP.val (.bool true), SP.val (.agg (vs .u64 zs66).toArray), SP.mk' (fun B v W => v = .agg (vs .u64 zs189).toArray ∧ (zs189.length = 80) ∧ (LB 18446744073709551616 zs189)) (fun B v W W2 hh gg => by obtain ⟨e, hh192, hh193⟩ := hh; exact ⟨e, hh192, hh193⟩), SP.val (.agg (vs .u64 xs0).toArray), SP.val (.slice pA1 xs1.length pc1), SP.mk' (fun B v W => v = .agg (vs .u64 zs194).toArray ∧ (zs194.length = 8) ∧ (LB 18446744073709551616 zs194)) (fun B v W W2 hh gg => by obtain ⟨e, hh197, hh198⟩ := hh; exact ⟨e, hh197, hh198⟩), SP.val (.bool ((decide (zs66 = zs194)))), SP.val (.bool ((decide (zs66 = zs194)))), SP.val (.bool ((decide (zs66 = zs194))))]
            refine region_rel (SL := SL200) (J := (fun (B : Bool) (W : World) => w99.heap.size ≤ W.heap.size ∧ Heap w [] W [.blk b72 26 (vs .u64 zs66), .row 5 1 A41 xs1.length c42 (vs .u8 xs1), .blk b3 26 (vs .u64 xs0)])) (m := 14) wide (by kernel_rfl) (by kernel_rfl) hF157 rfl ?_ ⟨Nat.le_refl _, hS104⟩ ⟨?_, ?_, ?_, ?_, ?_, ?_, ?_, ?_, ?_, ?_, ?_, ?_, ?_, ?_, trivial⟩ [(4, some 13)] (by kernel_rfl) ?_
            · intro b W W' hj g; exact ⟨Nat.le_trans hj.1 g.size, hj.2.growN g⟩
            · -- operation 0
              rintro a203 w202 b206 KK212 hs208 hd209 hJ210 hb211 hr213 hK207
              have hr213x : RD SL200 b206 a203 a153 w202 [] := hr213 _ (by kernel_rfl)
              obtain ⟨hX214, hS205⟩ := hJ210
              have hF204 : Fr 51 a203 [] := Fr.of hs208 hd209 trivial
              refine s_call (d := 38) (f := 15) (l := []) (by kernel_rfl) hF204 cl15 (W_casematelaw14_awake _ b160 hr162) ?_
              rintro a215 w216 v217 ⟨rfl, hC218⟩ ha219 hF220
              have hS221 : Heap w [] w216 [.blk b72 26 (vs .u64 zs66), .row 5 1 A41 xs1.length c42 (vs .u8 xs1), .blk b3 26 (vs .u64 xs0)] := Heap.call hS205 hC218
              rw [ha219]
              exact hK207 _ _ rfl (hC218.grown)
            · -- operation 1
              rintro a223 w222 b226 KK232 hs228 hd229 hJ230 hb231 hr233 hK227
              have hr233x : RD SL200 b226 a223 a153 w222 [(38, some 0)] := hr233 _ (by kernel_rfl)
              obtain ⟨⟨v235, q234, s236⟩, -⟩ := hr233x
              obtain rfl : v235 = .bool (b160) := s236
              obtain ⟨hX237, hS225⟩ := hJ230
              have hF224 : Fr 51 a223 [(38, .bool (b160))] := Fr.of hs228 hd229 ⟨q234, trivial⟩
              refine s_pure hT (d := 39) (v := .bool (b160)) (cs := []) (by kernel_rfl) (by kernel_rfl) trivial hF224 ?_
              rintro a2 ha2 hF2; rw [ha2]
              exact hK227 _ _ (show (.bool (b160) : Value) = .bool true by (rw [hc163] <;> rfl)) (grown_refl _ _)
            · -- operation 2
              rintro a239 w238 b242 KK248 hs244 hd245 hJ246 hb247 hr249 hK243
              have hr249x : RD SL200 b242 a239 a153 w238 [(7, none), (39, some 1)] := hr249 _ (by kernel_rfl)
              obtain ⟨q250, ⟨v252, q251, s253⟩, -⟩ := hr249x
              obtain rfl : v252 = .bool true := s253
              obtain ⟨hX254, hS241⟩ := hJ246
              have hF240 : Fr 51 a239 [(7, .int .i64 ((x67 : Nat) : Int)), (39, .bool true)] := Fr.of hs244 hd245 ⟨(Fr.init hF157 q250 (by kernel_rfl)), q251, trivial⟩
              refine One.bare hF240 (by kernel_rfl) (s_pure hT (d := 40) (v := .int .i64 ((x67 : Nat) : Int)) (cs := []) (by kernel_rfl) (by kernel_rfl) trivial hF240 ?_)
              rintro a2 ha2 hF2; rw [ha2]
              exact hK243 _ _ rfl (grown_refl _ _)
            · -- operation 3
              rintro a256 w255 b259 KK265 hs261 hd262 hJ263 hb264 hr266 hK260
              have hr266x : RD SL200 b259 a256 a153 w255 [(40, some 2), (39, some 1)] := hr266 _ (by kernel_rfl)
              obtain ⟨⟨v268, q267, s269⟩, ⟨v271, q270, s272⟩, -⟩ := hr266x
              obtain rfl : v268 = .int .i64 ((x67 : Nat) : Int) := s269
              obtain rfl : v271 = .bool true := s272
              obtain ⟨hX273, hS258⟩ := hJ263
              have hF257 : Fr 51 a256 [(40, .int .i64 ((x67 : Nat) : Int)), (39, .bool true)] := Fr.of hs261 hd262 ⟨q267, q270, trivial⟩
              refine One.bare hF257 (by kernel_rfl) (s_pure hT (d := 41) (v := .bool ((decide (((x67 : Nat) : Int) = 0)))) (cs := []) (by kernel_rfl) (by kernel_rfl) trivial hF257 ?_)
              rintro a2 ha2 hF2; rw [ha2]
              exact hK260 _ _ rfl (grown_refl _ _)
            · -- operation 4
              rintro a275 w274 b278 KK284 hs280 hd281 hJ282 hb283 hr285 hK279
              have hr285x : RD SL200 b278 a275 a153 w274 [(39, some 1), (41, some 3)] := hr285 _ (by kernel_rfl)
              obtain ⟨⟨v287, q286, s288⟩, ⟨v290, q289, s291⟩, -⟩ := hr285x
              obtain rfl : v287 = .bool true := s288
              obtain rfl : v290 = .bool ((decide (((x67 : Nat) : Int) = 0))) := s291
              obtain ⟨hX292, hS277⟩ := hJ282
              have hF276 : Fr 51 a275 [(39, .bool true), (41, .bool ((decide (((x67 : Nat) : Int) = 0))))] := Fr.of hs280 hd281 ⟨q286, q289, trivial⟩
              refine s_pure hT (d := 42) (v := .bool ((decide (((x67 : Nat) : Int) = 0)))) (cs := []) (by kernel_rfl) (by kernel_rfl) trivial hF276 ?_
              rintro a2 ha2 hF2; rw [ha2]
              exact hK279 _ _ rfl (grown_refl _ _)
            · -- operation 5
              rintro a294 w293 b297 KK303 hs299 hd300 hJ301 hb302 hr304 hK298
              have hr304x : RD SL200 b297 a294 a153 w293 [(42, some 4)] := hr304 _ (by kernel_rfl)
              obtain ⟨⟨v306, q305, s307⟩, -⟩ := hr304x
              obtain rfl : v306 = .bool ((decide (((x67 : Nat) : Int) = 0))) := s307
              obtain ⟨hX308, hS296⟩ := hJ301
              have hF295 : Fr 51 a294 [(42, .bool ((decide (((x67 : Nat) : Int) = 0))))] := Fr.of hs299 hd300 ⟨q305, trivial⟩
              refine s_pure hT (d := 43) (v := .bool ((decide (((x67 : Nat) : Int) = 0)))) (cs := []) (by kernel_rfl) (by kernel_rfl) trivial hF295 ?_
              rintro a2 ha2 hF2; rw [ha2]
              exact hK298 _ _ (show (.bool ((decide (((x67 : Nat) : Int) = 0))) : Value) = .bool true by (rw [decide_eq_true hc177] <;> rfl)) (grown_refl _ _)
            · -- operation 6
              rintro a310 w309 b313 KK319 hs315 hd316 hJ317 hb318 hr320 hK314
              have hr320x : RD SL200 b313 a310 a153 w309 [(6, none), (43, some 5)] := hr320 _ (by kernel_rfl)
              obtain ⟨q321, ⟨v323, q322, s324⟩, -⟩ := hr320x
              obtain rfl : v323 = .bool true := s324
              obtain ⟨hX325, hS312⟩ := hJ317
              have hF311 : Fr 51 a310 [(6, .pointer (some ⟨b72, 0, none⟩)), (43, .bool true)] := Fr.of hs315 hd316 ⟨(Fr.init hF157 q321 (by kernel_rfl)), q322, trivial⟩
              refine One.bare hF311 (by kernel_rfl) (s_loadA hT (d := 44) (b := b72) (off := 0) (sz := 8) (l := vs .u64 zs66) (by kernel_rfl) hF311 (hS312.blk 0 rfl).cells (by simp only [List.length_append, vs_length, vi_length, List.length_cons, List.length_nil, (hh70 : zs66.length = 8)]) ?_)
              rintro a326 ha328 hF327
              rw [ha328]
              exact hK314 _ _ rfl (grown_refl _ _)
            · -- operation 7
              rintro a330 w329 b333 KK339 hs335 hd336 hJ337 hb338 hr340 hK334
              have hr340x : RD SL200 b333 a330 a153 w329 [(43, some 5)] := hr340 _ (by kernel_rfl)
              obtain ⟨⟨v342, q341, s343⟩, -⟩ := hr340x
              obtain rfl : v342 = .bool true := s343
              obtain ⟨hX344, hS332⟩ := hJ337
              have hF331 : Fr 51 a330 [(43, .bool true)] := Fr.of hs335 hd336 ⟨q341, trivial⟩
              refine One.bare hF331 (by kernel_rfl) (s_call (d := 45) (f := 17) (l := []) (by kernel_rfl) hF331 cl17 (W_casemateref14_Rounds _ zs189 hr191) ?_)
              rintro a345 w346 v347 ⟨rfl, hh192, hh193, hC348⟩ ha349 hF350
              have hS351 : Heap w [] w346 [.blk b72 26 (vs .u64 zs66), .row 5 1 A41 xs1.length c42 (vs .u8 xs1), .blk b3 26 (vs .u64 xs0)] := Heap.call hS332 hC348
              rw [ha349]
              exact hK334 _ _ ⟨rfl, hh192, hh193⟩ (hC348.grown)
            · -- operation 8
              rintro a353 w352 b356 KK362 hs358 hd359 hJ360 hb361 hr363 hK357
              have hr363x : RD SL200 b356 a353 a153 w352 [(2, none), (43, some 5)] := hr363 _ (by kernel_rfl)
              obtain ⟨q364, ⟨v366, q365, s367⟩, -⟩ := hr363x
              obtain rfl : v366 = .bool true := s367
              obtain ⟨hX368, hS355⟩ := hJ360
              have hF354 : Fr 51 a353 [(2, .pointer (some ⟨b3, 0, none⟩)), (43, .bool true)] := Fr.of hs358 hd359 ⟨(Fr.init hF157 q364 (by kernel_rfl)), q365, trivial⟩
              refine One.bare hF354 (by kernel_rfl) (s_loadA hT (d := 46) (b := b3) (off := 0) (sz := 8) (l := vs .u64 xs0) (by kernel_rfl) hF354 (hS355.blk 2 rfl).cells (by simp only [List.length_append, vs_length, vi_length, List.length_cons, List.length_nil, (pl0 : xs0.length = 8)]) ?_)
              rintro a369 ha371 hF370
              rw [ha371]
              exact hK357 _ _ rfl (grown_refl _ _)
            · -- operation 9
              rintro a373 w372 b376 KK382 hs378 hd379 hJ380 hb381 hr383 hK377
              have hr383x : RD SL200 b376 a373 a153 w372 [(1, none), (43, some 5)] := hr383 _ (by kernel_rfl)
              obtain ⟨q384, ⟨v386, q385, s387⟩, -⟩ := hr383x
              obtain rfl : v386 = .bool true := s387
              obtain ⟨hX388, hS375⟩ := hJ380
              have hF374 : Fr 51 a373 [(1, .slice pA1 xs1.length pc1), (43, .bool true)] := Fr.of hs378 hd379 ⟨(Fr.init hF157 q384 (by kernel_rfl)), q385, trivial⟩
              refine One.bare hF374 (by kernel_rfl) (s_pure hT (d := 47) (v := .slice pA1 xs1.length pc1) (cs := []) (by kernel_rfl) (by kernel_rfl) trivial hF374 ?_)
              rintro a2 ha2 hF2; rw [ha2]
              exact hK377 _ _ rfl (grown_refl _ _)
            · -- operation 10
              rintro a390 w389 b393 KK399 hs395 hd396 hJ397 hb398 hr400 hK394
              have hr400x : RD SL200 b393 a390 a153 w389 [(45, some 7), (46, some 8), (47, some 9), (43, some 5)] := hr400 _ (by kernel_rfl)
              obtain ⟨⟨v402, q401, s403⟩, ⟨v405, q404, s406⟩, ⟨v408, q407, s409⟩, ⟨v411, q410, s412⟩, -⟩ := hr400x
              obtain ⟨rfl, hh192, hh193⟩ := s403
              obtain rfl : v405 = .agg (vs .u64 xs0).toArray := s406
              obtain rfl : v408 = .slice pA1 xs1.length pc1 := s409
              obtain rfl : v411 = .bool true := s412
              obtain ⟨hX413, hS392⟩ := hJ397
              have hF391 : Fr 51 a390 [(45, .agg (vs .u64 zs189).toArray), (46, .agg (vs .u64 xs0).toArray), (47, .slice pA1 xs1.length pc1), (43, .bool true)] := Fr.of hs395 hd396 ⟨q401, q404, q407, q410, trivial⟩
              refine One.bare hF391 (by kernel_rfl) (s_call (d := 48) (f := 25) (l := [.agg (vs .u64 zs189).toArray, .agg (vs .u64 xs0).toArray, .slice pA1 xs1.length pc1]) (by kernel_rfl) hF391 cl25 (W_casemateref14_Block zs189 xs0 pA1 pc1 xs1 _ hh192 hh193 pl0 pb0 (hS392.rd0 pR1) (by have := pc_1; have := (Eq.refl xs1.length); skip; have := (Eq.refl xs1.length); first | omega | (simp only [zA, zS, zT, zD, zR, zC, zN, zV, zI] <;> omega) | (simp only [zA, zS, zT, zD, zR, zC, zN, zV, zI] at * <;> omega)) pb1 zs194 hr196) ?_)
              rintro a414 w415 v416 ⟨rfl, hh197, hh198, hC417⟩ ha418 hF419
              have hS420 : Heap w [] w415 [.blk b72 26 (vs .u64 zs66), .row 5 1 A41 xs1.length c42 (vs .u8 xs1), .blk b3 26 (vs .u64 xs0)] := Heap.call hS392 hC417
              rw [ha418]
              exact hK394 _ _ ⟨rfl, hh197, hh198⟩ (hC417.grown)
            · -- operation 11
              rintro a422 w421 b425 KK431 hs427 hd428 hJ429 hb430 hr432 hK426
              have hr432x : RD SL200 b425 a422 a153 w421 [(44, some 6), (48, some 10), (43, some 5)] := hr432 _ (by kernel_rfl)
              obtain ⟨⟨v434, q433, s435⟩, ⟨v437, q436, s438⟩, ⟨v440, q439, s441⟩, -⟩ := hr432x
              obtain rfl : v434 = .agg (vs .u64 zs66).toArray := s435
              obtain ⟨rfl, hh197, hh198⟩ := s438
              obtain rfl : v440 = .bool true := s441
              obtain ⟨hX442, hS424⟩ := hJ429
              have hF423 : Fr 51 a422 [(44, .agg (vs .u64 zs66).toArray), (48, .agg (vs .u64 zs194).toArray), (43, .bool true)] := Fr.of hs427 hd428 ⟨q433, q436, q439, trivial⟩
              refine One.bare hF423 (by kernel_rfl) (s_arrEq hT (d := 49) (m := 8) (e := true) (k := .u64) (xs := zs66) (ys := zs194) (b := (decide (zs66 = zs194))) (by kernel_rfl) (by intro t h; cases h; kernel_rfl) hF423 hh70 hh197 rfl ?_)
              rintro a443 ha445 hF444
              rw [ha445]
              exact hK426 _ _ rfl (grown_refl _ _)
            · -- operation 12
              rintro a447 w446 b450 KK456 hs452 hd453 hJ454 hb455 hr457 hK451
              have hr457x : RD SL200 b450 a447 a153 w446 [(43, some 5), (49, some 11)] := hr457 _ (by kernel_rfl)
              obtain ⟨⟨v459, q458, s460⟩, ⟨v462, q461, s463⟩, -⟩ := hr457x
              obtain rfl : v459 = .bool true := s460
              obtain rfl : v462 = .bool ((decide (zs66 = zs194))) := s463
              obtain ⟨hX464, hS449⟩ := hJ454
              have hF448 : Fr 51 a447 [(43, .bool true), (49, .bool ((decide (zs66 = zs194))))] := Fr.of hs452 hd453 ⟨q458, q461, trivial⟩
              refine s_pure hT (d := 50) (v := .bool ((decide (zs66 = zs194)))) (cs := []) (by kernel_rfl) (by kernel_rfl) trivial hF448 ?_
              rintro a2 ha2 hF2; rw [ha2]
              exact hK451 _ _ rfl (grown_refl _ _)
            · -- operation 13
              rintro a466 w465 b469 KK475 hs471 hd472 hJ473 hb474 hr476 hK470
              have hr476x : RD SL200 b469 a466 a153 w465 [(50, some 12)] := hr476 _ (by kernel_rfl)
              obtain ⟨⟨v478, q477, s479⟩, -⟩ := hr476x
              obtain rfl : v478 = .bool ((decide (zs66 = zs194))) := s479
              obtain ⟨hX480, hS468⟩ := hJ473
              have hF467 : Fr 51 a466 [(50, .bool ((decide (zs66 = zs194))))] := Fr.of hs471 hd472 ⟨q477, trivial⟩
              refine s_pure hT (d := 4) (v := .bool ((decide (zs66 = zs194)))) (cs := []) (by kernel_rfl) (by kernel_rfl) trivial hF467 ?_
              rintro a2 ha2 hF2; rw [ha2]
              exact hK470 _ _ rfl (grown_refl _ _)
            · -- behind the region
              rintro a481 w482 hs483 hd484 ⟨⟨v487, q488, s489⟩, -⟩ ⟨hX486, hS485⟩
              obtain rfl : v487 = .bool ((decide (zs66 = zs194))) := s489
              have hF490 : Fr 51 a481 [(4, .bool ((decide (zs66 = zs194))))] := Fr.of hs483 hd484 ⟨q488, trivial⟩
              clear hF157 hS104 hs483 hd484 q488
              refine hK159 _ _ ?_
              refine wp_ret ?_
              obtain rfl := Option.some.inj h195
              refine ret1 hF490 rfl (v := .bool ((decide (zs66 = zs194)))) (by kernel_rfl) ?_
              exact ⟨by rw [show ((decide (zs66 = zs194))) = true from hr0], hS485.pick [] (by decide) rfl⟩
          · clear h164
            obtain rfl := Option.some.inj h178
            exact absurd hr0 (by decide)
        · clear h161
          obtain rfl := Option.some.inj h164
          exact absurd hr0 (by decide)
      · clear h134
        have hF491 : Fr 51 a153 [(1, .slice pA1 xs1.length pc1), (2, .pointer (some ⟨b3, 0, none⟩)), (6, .pointer (some ⟨b72, 0, none⟩)), (7, .int .i64 ((x67 : Nat) : Int)), (27, .bool true)] := hF154.pick [1, 2, 6, 7, 27] (by rw [decide_eq_false hc155]; kernel_rfl); clear hF154
        refine condT hF491 (by kernel_rfl) ?_
        refine wp_seq_k (fun K492 hK493 => ?_)
        obtain ⟨b494, hr496, h495⟩ := bnd_some h156; clear h156; replace hr496 : F_casematelaw14_awake = some (b494) := hr496
        rcases (ite_some h495 : ((b494 = true) ∧ _) ∨ (¬ (b494 = true) ∧ _)) with ⟨hc497, h498⟩ | ⟨hc497, h498⟩
        · clear h495
          rcases (ite_some h498 : ((((x67 : Nat) : Int) = 1) ∧ _) ∨ (¬ (((x67 : Nat) : Int) = 1) ∧ _)) with ⟨hc501, h502⟩ | ⟨hc501, h502⟩
          · clear h498
            refine wp_region_lit ?_
            refine wl (s_call (d := 28) (f := 15) (l := []) (by kernel_rfl) hF491 cl15 (W_casematelaw14_awake _ b494 hr496) ?_)
            rintro a503 w504 v505 ⟨rfl, hC506⟩ ha507 hF508; clear ha507 hF491 a153
            have hS509 : Heap w [] w504 [.blk b72 26 (vs .u64 zs66), .row 5 1 A41 xs1.length c42 (vs .u8 xs1), .blk b3 26 (vs .u64 xs0)] := Heap.call hS104 hC506; clear hS104
            have hF510 := hF508.pick [6, 7, 28] (G := [(6, .pointer (some ⟨b72, 0, none⟩)), (7, .int .i64 ((x67 : Nat) : Int)), (28, .bool (b494))]) (by kernel_rfl); clear hF508
            refine pu hT 1 _ hF510 [6, 7, 29] (G := [(6, .pointer (some ⟨b72, 0, none⟩)), (7, .int .i64 ((x67 : Nat) : Int)), (29, .bool (b494))]) (cs := []) (by kernel_rfl) trivial ?_; clear hF510 a503; intro a511 hF512
            have hF513 : Fr 51 a511 [(6, .pointer (some ⟨b72, 0, none⟩)), (7, .int .i64 ((x67 : Nat) : Int)), (29, .bool true)] := hF512.pick [6, 7, 29] (by rw [hc497]; kernel_rfl); clear hF512
            refine pu hT 4 _ hF513 [6, 33] (G := [(6, .pointer (some ⟨b72, 0, none⟩)), (33, .bool ((decide (((x67 : Nat) : Int) = 1))))]) (cs := []) (by kernel_rfl) trivial ?_; clear hF513 a511; intro a514 hF515
            have hF516 : Fr 51 a514 [(6, .pointer (some ⟨b72, 0, none⟩)), (33, .bool true)] := hF515.pick [6, 33] (by rw [decide_eq_true hc501]; kernel_rfl); clear hF515
            refine wl (One.bare hF516 (by kernel_rfl) (s_loadA hT (d := 34) (b := b72) (off := 0) (sz := 8) (l := vs .u64 zs66) (by kernel_rfl) hF516 (hS509.blk 0 rfl).cells (by simp only [List.length_append, vs_length, vi_length, List.length_cons, List.length_nil, (hh70 : zs66.length = 8)]) ?_))
            rintro a517 ha519 hF518; clear ha519 hF516 a514
            have hF520 := hF518.pick [33, 34] (G := [(33, .bool true), (34, .agg (vs .u64 zs66).toArray)]) (by kernel_rfl); clear hF518
            refine wl (One.bare hF520 (by kernel_rfl) (s_build (d := 35) (t := 26) (ps := []) (cs := (vs .u64 [0, 0, 0, 0, 0, 0, 0, 0]).toArray) (by kernel_rfl) (by kernel_rfl) hF520 ?_))
            rintro a521 ha523 hF522; clear ha523 hF520 a517
            have hF524 := hF522.pick [33, 34, 35] (G := [(33, .bool true), (34, .agg (vs .u64 zs66).toArray), (35, .agg (vs .u64 [0, 0, 0, 0, 0, 0, 0, 0]).toArray)]) (by kernel_rfl); clear hF522
            refine wl (One.bare hF524 (by kernel_rfl) (s_arrEq hT (d := 36) (m := 8) (e := true) (k := .u64) (xs := zs66) (ys := [0, 0, 0, 0, 0, 0, 0, 0]) (b := (decide (zs66 = [0, 0, 0, 0, 0, 0, 0, 0]))) (by kernel_rfl) (by intro t h; cases h; kernel_rfl) hF524 hh70 (show ([0, 0, 0, 0, 0, 0, 0, 0] : List Nat).length = 8 from rfl) rfl ?_))
            rintro a525 ha527 hF526; clear ha527 hF524 a521
            have hF528 := hF526.pick [33, 36] (G := [(33, .bool true), (36, .bool ((decide (zs66 = [0, 0, 0, 0, 0, 0, 0, 0]))))]) (by kernel_rfl); clear hF526
            refine pu_end hT 2 _ hF528 [4] (G := [(4, .bool ((decide (zs66 = [0, 0, 0, 0, 0, 0, 0, 0]))))]) (cs := []) (by kernel_rfl) rfl trivial ?_; clear hF528 a525; intro a529 hF530
            refine hK493 _ _ ?_
            refine wp_ret ?_
            obtain rfl := Option.some.inj h502
            refine ret1 hF530 rfl (v := .bool ((decide (zs66 = [0, 0, 0, 0, 0, 0, 0, 0])))) (by kernel_rfl) ?_
            exact ⟨by rw [show ((decide (zs66 = [0, 0, 0, 0, 0, 0, 0, 0]))) = true from hr0], hS509.pick [] (by decide) rfl⟩
          · clear h498
            obtain rfl := Option.some.inj h502
            exact absurd hr0 (by decide)
        · clear h495
          obtain rfl := Option.some.inj h498
          exact absurd hr0 (by decide)
    · clear h68
      have hF531 : Fr 51 a130 [(1, .slice pA1 xs1.length pc1), (2, .pointer (some ⟨b3, 0, none⟩)), (6, .pointer (some ⟨b72, 0, none⟩)), (7, .int .i64 ((x67 : Nat) : Int)), (24, .bool true)] := hF132.pick [1, 2, 6, 7, 24] (by rw [decide_eq_false hc133]; kernel_rfl); clear hF132
      refine condT hF531 (by kernel_rfl) ?_
      refine wp_seq_k (fun K532 hK533 => ?_)
      refine wp_region_lit ?_
      refine pu_end hT 1 _ hF531 [4] (G := [(4, .bool false)]) (cs := []) (by kernel_rfl) rfl trivial ?_; clear hF531 a130; intro a534 hF535
      refine hK533 _ _ ?_
      refine wp_ret ?_
      obtain rfl := Option.some.inj h134
      exact absurd hr0 (by decide)

end Go.Proofs.Ytddphjmcoolinaa
