/- Walks of functions of the program: lemmas. -/
import Derived.Test.YtdabkjflpbbpeaaWi
set_option maxRecDepth 100000
set_option linter.unusedVariables false
set_option linter.unusedSimpArgs false
namespace Go.Proofs.Ytdabkjflpbbpeaa
open Go.Proofs Go.RowKit

theorem ref15_Mod (A : Option Addr) (n c : Nat) (xs : List Nat) (x : Nat) (A2 : Option Addr) (n2 c2 : Nat) (ys : List Nat) (y : Nat) (w : World) (hx : nv 256 xs = x) (hy : nv 256 ys = y) (hn : xs.length = n) (hn2 : ys.length = n2) (hR : Rd w A (vs .u8 xs)) (hR2 : Rd w A2 (vs .u8 ys)) (hbx : By xs) (hby : By ys) (hl : n ≤ 1099511627776) (hl2 : n2 ≤ 549755813888) (hpos : 0 < y) :
    Calls Try.prog 25 [.slice A n c, .slice A2 n2 c2].toArray w (Ret fun v w' => ∃ A' c', v = .slice A' (dig 256 (x % y)).length c' ∧ Ex w w' ∧ Own w' w.heap.size 5 1 A' (dig 256 (x % y)).length c' (vs .u8 (dig 256 (x % y)))) := by
  subst hx hy
  refine enter Try.func25 rfl (n := 44) Try.ntmps25 (by simp) ?_
  intro a hF
  have HE : Ex w w := Ex.refl w
  refine wp_seq_k (fun K1 hK2 => ?_)
  refine wp_region_lit ?_
  refine pures_end hT 1 _ hF (F' := [(4, .slice none 0 0), (0, .slice A n c), (1, .slice A2 n2 c2)]) (cs := []) (by kernel_rfl) rfl trivial ?_
  intro a3 hF4; clear hF a
  refine hK2 _ _ ?_
  refine wp_seq_k (fun K5 hK6 => ?_)
  refine wp_region_lit ?_
  refine pures_end hT 1 _ hF4 (F' := [(5, .slice none 0 0), (4, .slice none 0 0), (0, .slice A n c), (1, .slice A2 n2 c2)]) (cs := []) (by kernel_rfl) rfl trivial ?_
  intro a7 hF8; clear hF4 a3
  refine hK6 _ _ ?_
  refine wp_seq_k (fun K9 hK10 => ?_)
  refine wp_seq_k (fun K11 hK12 => ?_)
  refine wp_region_lit ?_
  refine pures_end hT 4 _ hF8 (F' := [(6, .int .i64 (((n : Nat) : Int) - 1)), (12, .int .i64 (((n : Nat) : Int) - 1)), (11, .int .i64 ((n : Nat) : Int)), (10, .slice A n c), (5, .slice none 0 0), (4, .slice none 0 0), (0, .slice A n c), (1, .slice A2 n2 c2)]) (cs := [-9223372036854775808 ≤ (((n : Nat) : Int) - 1), (((n : Nat) : Int) - 1) ≤ 9223372036854775807]) (by kernel_rfl) rfl (And.intro (by omega) (And.intro (by omega) trivial)) ?_
  intro a13 hF14; clear hF8 a7
  have hF15 := hF14.pick [6, 5, 4, 0, 1] (G := [(6, .int .i64 (((n : Nat) : Int) - 1)), (5, .slice none 0 0), (4, .slice none 0 0), (0, .slice A n c), (1, .slice A2 n2 c2)]) (by kernel_rfl); clear hF14
  refine hK12 _ _ ?_
  refine wp_block ?_
  refine loopK (fun mm_ a W => ∃ (k : Nat), ∃ (R : Nat), ∃ (A3 : Option Addr), ∃ (c3 : Nat), (k) = mm_ ∧ (Fr 44 a [(0, .slice A n c), (1, .slice A2 n2 c2), (5, .slice A3 ((dig 256 R).length) c3), (6, .int .i64 (((k : Nat) : Int) - 1))]) ∧ (Ex w W) ∧ (Own W (w.heap.size) 5 1 A3 ((dig 256 R).length) c3 (vs .u8 (dig 256 R))) ∧ (k ≤ n) ∧ (R < nv 256 ys) ∧ (R = nv 256 xs / 256 ^ k % nv 256 ys)) _ ⟨n, 0, none, 0, rfl, hF15.pick [0, 1, 5, 6] (by kernel_rfl), HE, Own.nil _ _ _ _, (by omega), hpos, (ref_mod_init hbx hn)⟩ ?_
  clear hF15 HE
  rintro mm_ a16 w17 ⟨k, R, A3, c3, rfl, hF20, HE, HOr, hk, hR3, hv⟩ K18 hK19
  refine wp_seq_k (fun K21 hK22 => ?_)
  refine wp_seq_k (fun K23 hK24 => ?_)
  refine wp_region_lit ?_
  refine pures_end hT 2 _ hF20 (F' := [(14, .bool ((decide (0 ≤ (((k : Nat) : Int) - 1))))), (13, .int .i64 (((k : Nat) : Int) - 1)), (0, .slice A n c), (1, .slice A2 n2 c2), (5, .slice A3 ((dig 256 R).length) c3), (6, .int .i64 (((k : Nat) : Int) - 1))]) (cs := []) (by kernel_rfl) rfl trivial ?_
  intro a25 hF26; clear hF20 a16
  have hF27 := hF26.pick [14, 0, 1, 5, 6] (G := [(14, .bool ((decide (0 ≤ (((k : Nat) : Int) - 1))))), (0, .slice A n c), (1, .slice A2 n2 c2), (5, .slice A3 ((dig 256 R).length) c3), (6, .int .i64 (((k : Nat) : Int) - 1))]) (by kernel_rfl); clear hF26
  refine hK24 _ _ ?_
  refine condK hF27 (p := 0 ≤ (((k : Nat) : Int) - 1)) (by kernel_rfl) (fun h28 => ?_) (fun h28 => ?_)
  · -- h28
    refine wp_skip ?_
    refine hK22 _ _ ?_
    refine wp_seq_k (fun K29 hK30 => ?_)
    refine wp_block ?_
    refine wp_seq_k (fun K31 hK32 => ?_)
    obtain ⟨j, rfl⟩ : ∃ j, k = j + 1 := ⟨k - 1, by omega⟩
    rw [show (((j + 1 : Nat) : Int) - 1) = ((j : Nat) : Int) from by omega] at hF27
    have hRl : (dig 256 R).length ≤ n2 := dlen (Nat.lt_trans hR3 (by have := nv_lt ys hby; rwa [hn2] at this))
    refine wp_region_lit ?_
    refine pures hT 3 _ hF27 (F' := [(19, .pointer (some ⟨(ablk A), ((aoff A) + j), none⟩)), (18, .int .i64 ((j : Nat) : Int)), (17, .slice A n c), (14, .bool ((decide (0 ≤ ((j : Nat) : Int))))), (0, .slice A n c), (1, .slice A2 n2 c2), (5, .slice A3 ((dig 256 R).length) c3), (6, .int .i64 ((j : Nat) : Int))]) (cs := [0 ≤ ((j : Nat) : Int), ((j : Nat) : Int) < ((n : Nat) : Int), (A : Option Addr) = some ⟨ablk A, aoff A, none⟩]) (by kernel_rfl) (And.intro (by omega) (And.intro (by omega) (And.intro ((hR.ex HE).some' (by (first | (simp only [vs_length, vi_length]; omega) | (simp; omega) | omega))) trivial))) ?_
    intro a33 hF34; clear hF27 a25
    refine wl (s_load hT (d := 20) (A := ⟨(ablk A), ((aoff A) + j), none⟩) (by kernel_rfl) hF34 ((hR.ex HE).cells.at (vs_get .u8 xs (i := j) (by omega)) rfl) ?_)
    rintro a35 ha37 hF36; clear ha37 hF34 a33
    have hz44 := HE.size
    have hz45 := HOr.base
    refine wl (s_lit hT (d := 21) (T := 5) (l := vs .u8 [(xs.getD j 0)]) (by kernel_rfl) hF36 ?_)
    rintro a46 w39 b38 h42 h43 HB41 g40 ha48 hF47; clear ha48 hF36 a35
    replace HE := HE.thenN g40
    replace HOr := HOr.growN g40
    refine pures_end hT 1 _ hF47 (F' := [(7, .slice (some ⟨b38, 0, none⟩) 1 1), (21, .slice (some ⟨b38, 0, none⟩) 1 1), (20, .int .u8 (((xs.getD j 0) : Nat) : Int)), (19, .pointer (some ⟨(ablk A), ((aoff A) + j), none⟩)), (18, .int .i64 ((j : Nat) : Int)), (17, .slice A n c), (14, .bool ((decide (0 ≤ ((j : Nat) : Int))))), (0, .slice A n c), (1, .slice A2 n2 c2), (5, .slice A3 ((dig 256 R).length) c3), (6, .int .i64 ((j : Nat) : Int))]) (cs := []) (by kernel_rfl) rfl trivial ?_
    intro a49 hF50; clear hF47 a46
    have hF51 := hF50.pick [7, 14, 0, 1, 5, 6] (G := [(7, .slice (some ⟨b38, 0, none⟩) 1 1), (14, .bool ((decide (0 ≤ ((j : Nat) : Int))))), (0, .slice A n c), (1, .slice A2 n2 c2), (5, .slice A3 ((dig 256 R).length) c3), (6, .int .i64 ((j : Nat) : Int))]) (by kernel_rfl); clear hF50
    refine hK32 _ _ ?_
    refine wp_seq_k (fun K52 hK53 => ?_)
    refine wp_region_lit ?_
    refine pures hT 2 _ hF51 (F' := [(23, .slice A3 ((dig 256 R).length) c3), (22, .slice (some ⟨b38, 0, none⟩) 1 1), (7, .slice (some ⟨b38, 0, none⟩) 1 1), (14, .bool ((decide (0 ≤ ((j : Nat) : Int))))), (0, .slice A n c), (1, .slice A2 n2 c2), (5, .slice A3 ((dig 256 R).length) c3), (6, .int .i64 ((j : Nat) : Int))]) (cs := []) (by kernel_rfl) trivial ?_
    intro a54 hF55; clear hF51 a49
    have hz56 := HE.size
    have hz57 := HOr.base
    have hz58 := HB41.lt
    refine wl (s_app hT (d := 24) (T := 5) (i := tr5) (B := w.heap.size) (m := 1) (c := 1) (m2 := (dig 256 R).length) (c2 := c3) (by kernel_rfl) hF55 rfl (by decide) (HB41.own (B := w.heap.size) (by omega) (by simp [maxLen])) HOr.rd (by show _ = ((dig 256 R).length) * 1; simp) vs_one (by show (1 + ((dig 256 R).length)) * 1 ≤ 140737488355328; omega) (by decide) (by have := HE.size; omega) ?_)
    rintro a65 w59 A62 c63 HO61 g60 hat64 ha67 hF66; clear ha67 hF55 a54
    rw [← vs_append] at HO61
    replace g60 : World.grownBy w39 w59 (some b38) := g60
    replace HE := HE.thenS g60 (by omega)
    replace HOr := HOr.grow g60 (own_blk hz45 (by omega))
    refine pures_end hT 1 _ hF66 (F' := [(7, .slice A62 (1 + ((dig 256 R).length)) c63), (24, .slice A62 (1 + ((dig 256 R).length)) c63), (23, .slice A3 ((dig 256 R).length) c3), (22, .slice (some ⟨b38, 0, none⟩) 1 1), (7, .slice (some ⟨b38, 0, none⟩) 1 1), (14, .bool ((decide (0 ≤ ((j : Nat) : Int))))), (0, .slice A n c), (1, .slice A2 n2 c2), (5, .slice A3 ((dig 256 R).length) c3), (6, .int .i64 ((j : Nat) : Int))]) (cs := []) (by kernel_rfl) rfl trivial ?_
    intro a68 hF69; clear hF66 a65
    have hF70 := hF69.pick [7, 14, 0, 1, 5, 6] (G := [(7, .slice A62 (1 + ((dig 256 R).length)) c63), (14, .bool ((decide (0 ≤ ((j : Nat) : Int))))), (0, .slice A n c), (1, .slice A2 n2 c2), (5, .slice A3 ((dig 256 R).length) c3), (6, .int .i64 ((j : Nat) : Int))]) (by kernel_rfl); clear hF69
    refine hK53 _ _ ?_
    refine wp_seq_k (fun K71 hK72 => ?_)
    have hL7 : nv 256 ([(xs.getD j 0)] ++ (dig 256 R)) = xs.getD j 0 + 256 * R := by rw [nv_append, nvd]; simp [nv]
    have hB7 : By ([(xs.getD j 0)] ++ (dig 256 R)) := by intro z hz; rcases List.mem_append.1 hz with q | q; simp at q; subst q; exact getD_lt (by decide) hbx j; exact by_dig R z q
    have hc7 := HO61.cap
    refine wp_region_lit ?_
    refine pures hT 1 _ hF70 (F' := [(25, .slice A62 (1 + ((dig 256 R).length)) c63), (7, .slice A62 (1 + ((dig 256 R).length)) c63), (14, .bool ((decide (0 ≤ ((j : Nat) : Int))))), (0, .slice A n c), (1, .slice A2 n2 c2), (5, .slice A3 ((dig 256 R).length) c3), (6, .int .i64 ((j : Nat) : Int))]) (cs := []) (by kernel_rfl) trivial ?_
    intro a73 hF74; clear hF70 a68
    have hz81 := HE.size
    have hz82 := HOr.base
    have hz83 := HO61.base
    refine wl (s_call (d := 26) (f := 21) (l := [.slice A62 (1 + ((dig 256 R).length)) c63]) (by kernel_rfl) hF74 cl21 (ref15_Norm A62 (1 + ((dig 256 R).length)) c63 ([(xs.getD j 0)] ++ (dig 256 R)) (xs.getD j 0 + 256 * R) _ hL7 (by first | omega | assumption | (simp; done) | (simp; omega) | decide) HO61.rd hB7 (by first | omega | assumption | (simp; done) | (simp; omega) | decide) (by first | omega | assumption | (simp; done) | (simp; omega) | decide)) ?_)
    rintro a84 w78 v79 ⟨A75, c76, rfl, HX80, HO77⟩ ha86 hF85; clear ha86 hF74 a73
    replace HE := HE.thenN HX80.g
    replace HOr := HOr.growN HX80.g
    replace HO61 := HO61.growN HX80.g
    have hcp87 := HO77.cap
    refine pures_end hT 1 _ hF85 (F' := [(5, .slice A75 ((dig 256 (xs.getD j 0 + 256 * R)).length) c76), (26, .slice A75 ((dig 256 (xs.getD j 0 + 256 * R)).length) c76), (25, .slice A62 (1 + ((dig 256 R).length)) c63), (7, .slice A62 (1 + ((dig 256 R).length)) c63), (14, .bool ((decide (0 ≤ ((j : Nat) : Int))))), (0, .slice A n c), (1, .slice A2 n2 c2), (5, .slice A3 ((dig 256 R).length) c3), (6, .int .i64 ((j : Nat) : Int))]) (cs := []) (by kernel_rfl) rfl trivial ?_
    intro a88 hF89; clear hF85 a84
    have hF90 := hF89.pick [5, 7, 14, 0, 1, 6] (G := [(5, .slice A75 ((dig 256 (xs.getD j 0 + 256 * R)).length) c76), (7, .slice A62 (1 + ((dig 256 R).length)) c63), (14, .bool ((decide (0 ≤ ((j : Nat) : Int))))), (0, .slice A n c), (1, .slice A2 n2 c2), (6, .int .i64 ((j : Nat) : Int))]) (by kernel_rfl); clear hF89
    refine hK72 _ _ ?_
    refine wp_seq_k (fun K91 hK92 => ?_)
    refine wp_region_lit ?_
    refine pures_end hT 1 _ hF90 (F' := [(8, .int .i64 128), (5, .slice A75 ((dig 256 (xs.getD j 0 + 256 * R)).length) c76), (7, .slice A62 (1 + ((dig 256 R).length)) c63), (14, .bool ((decide (0 ≤ ((j : Nat) : Int))))), (0, .slice A n c), (1, .slice A2 n2 c2), (6, .int .i64 ((j : Nat) : Int))]) (cs := []) (by kernel_rfl) rfl trivial ?_
    intro a93 hF94; clear hF90 a88
    refine hK92 _ _ ?_
    refine wp_block ?_
    refine loopK (fun mm_ a W => ∃ (e : Nat), ∃ (Q : Nat), ∃ (A3 : Option Addr), ∃ (c3 : Nat), (e) = mm_ ∧ (Fr 44 a [(0, .slice A n c), (1, .slice A2 n2 c2), (5, .slice A3 ((dig 256 Q).length) c3), (6, .int .i64 ((j : Nat) : Int)), (8, .int .i64 (((2 ^ e / 2) : Nat) : Int))]) ∧ (Ex w W) ∧ (Own W (w.heap.size) 5 1 A3 ((dig 256 Q).length) c3 (vs .u8 (dig 256 Q))) ∧ (e ≤ 8) ∧ (Q < 2 ^ e * nv 256 ys) ∧ (Q % nv 256 ys = nv 256 xs / 256 ^ j % nv 256 ys)) _ ⟨8, (xs.getD j 0 + 256 * R), _, _, rfl, hF94.pick [0, 1, 5, 6, 8] (by kernel_rfl), HE, (HO77.rebase (by omega)), (by omega), (ref_mod_in hbx hR3 hv).2, (ref_mod_in hbx hR3 hv).1⟩ ?_
    clear hF94 HE HOr HO61 HO77 hR3 hv
    rintro mm_ a95 w96 ⟨e, Q, A3, c3, rfl, hF99, HE, HOr, he, hQ, hv⟩ K97 hK98
    refine wp_seq_k (fun K100 hK101 => ?_)
    refine wp_seq_k (fun K102 hK103 => ?_)
    refine wp_region_lit ?_
    refine pures_end hT 2 _ hF99 (F' := [(28, .bool ((decide (1 ≤ (((2 ^ e / 2) : Nat) : Int))))), (27, .int .i64 (((2 ^ e / 2) : Nat) : Int)), (0, .slice A n c), (1, .slice A2 n2 c2), (5, .slice A3 ((dig 256 Q).length) c3), (6, .int .i64 ((j : Nat) : Int)), (8, .int .i64 (((2 ^ e / 2) : Nat) : Int))]) (cs := []) (by kernel_rfl) rfl trivial ?_
    intro a104 hF105; clear hF99 a95
    have hF106 := hF105.pick [28, 0, 1, 5, 6, 8] (G := [(28, .bool ((decide (1 ≤ (((2 ^ e / 2) : Nat) : Int))))), (0, .slice A n c), (1, .slice A2 n2 c2), (5, .slice A3 ((dig 256 Q).length) c3), (6, .int .i64 ((j : Nat) : Int)), (8, .int .i64 (((2 ^ e / 2) : Nat) : Int))]) (by kernel_rfl); clear hF105
    refine hK103 _ _ ?_
    refine condK hF106 (p := 1 ≤ (((2 ^ e / 2) : Nat) : Int)) (by kernel_rfl) (fun h107 => ?_) (fun h107 => ?_)
    · -- h107
      refine wp_skip ?_
      refine hK101 _ _ ?_
      refine wp_seq_k (fun K108 hK109 => ?_)
      refine wp_block ?_
      refine wp_seq_k (fun K110 hK111 => ?_)
      obtain ⟨f, rfl⟩ : ∃ f, e = f + 1 := ⟨e - 1, by cases e with | zero => simp at *  | succ f => rfl⟩
      have hwf := ref_w (f := f) (by omega)
      have hw2 := ref_w2 (f := f)
      have hcr := HOr.cap
      have hQl : (dig 256 Q).length ≤ n2 + 1 := dlen (ref_Q (by omega) hQ (by have := nv_lt ys hby; rwa [hn2] at this))
      refine wp_region_lit ?_
      refine pures hT 3 _ hF106 (F' := [(33, .int .u8 ((((2 ^ (f + 1) / 2) % 256) : Nat) : Int)), (32, .int .i64 (((2 ^ (f + 1) / 2) : Nat) : Int)), (31, .slice A2 n2 c2), (28, .bool ((decide (1 ≤ (((2 ^ (f + 1) / 2) : Nat) : Int))))), (0, .slice A n c), (1, .slice A2 n2 c2), (5, .slice A3 ((dig 256 Q).length) c3), (6, .int .i64 ((j : Nat) : Int)), (8, .int .i64 (((2 ^ (f + 1) / 2) : Nat) : Int))]) (cs := []) (by kernel_rfl) trivial ?_
      intro a112 hF113; clear hF106 a104
      have hz120 := HE.size
      have hz121 := HOr.base
      refine wl (s_lit hT (d := 34) (T := 5) (l := vs .u8 [((2 ^ (f + 1) / 2) % 256)]) (by kernel_rfl) hF113 ?_)
      rintro a122 w115 b114 h118 h119 HB117 g116 ha124 hF123; clear ha124 hF113 a112
      replace HE := HE.thenN g116
      replace HOr := HOr.growN g116
      have hz131 := HE.size
      have hz132 := HOr.base
      have hz133 := HB117.lt
      refine wl (s_call (d := 35) (f := 24) (l := [.slice A2 n2 c2, .slice (some ⟨b114, 0, none⟩) 1 1]) (by kernel_rfl) hF123 cl24 (ref15_Mul A2 n2 c2 ys (nv 256 ys) (some ⟨b114, 0, none⟩) 1 1 [((2 ^ (f + 1) / 2) % 256)] ((2 ^ (f + 1) / 2) % 256) _ rfl (nv_one _) (by first | omega | assumption | (simp; done) | (simp; omega) | decide) (by first | omega | assumption | (simp; done) | (simp; omega) | decide) (hR2.ex HE) HB117.rd (by first | assumption | exact by_dig _ | exact by_one (Nat.mod_lt _ (by decide)) | omega | simp | decide) (by first | assumption | exact by_dig _ | exact by_one (Nat.mod_lt _ (by decide)) | omega | simp | decide) (by first | omega | assumption | (simp; done) | (simp; omega) | decide) (by first | omega | assumption | (simp; done) | (simp; omega) | decide) ) ?_)
      rintro a134 w128 v129 ⟨A125, c126, rfl, HX130, HO127⟩ ha136 hF135; clear ha136 hF123 a122
      replace HE := HE.thenN HX130.g
      replace HOr := HOr.growN HX130.g
      replace HB117 := HB117.growN HX130.g
      have hcp137 := HO127.cap
      refine pures_end hT 1 _ hF135 (F' := [(9, .slice A125 ((dig 256 ((nv 256 ys) * ((2 ^ (f + 1) / 2) % 256))).length) c126), (35, .slice A125 ((dig 256 ((nv 256 ys) * ((2 ^ (f + 1) / 2) % 256))).length) c126), (34, .slice (some ⟨b114, 0, none⟩) 1 1), (33, .int .u8 ((((2 ^ (f + 1) / 2) % 256) : Nat) : Int)), (32, .int .i64 (((2 ^ (f + 1) / 2) : Nat) : Int)), (31, .slice A2 n2 c2), (28, .bool ((decide (1 ≤ (((2 ^ (f + 1) / 2) : Nat) : Int))))), (0, .slice A n c), (1, .slice A2 n2 c2), (5, .slice A3 ((dig 256 Q).length) c3), (6, .int .i64 ((j : Nat) : Int)), (8, .int .i64 (((2 ^ (f + 1) / 2) : Nat) : Int))]) (cs := []) (by kernel_rfl) rfl trivial ?_
      intro a138 hF139; clear hF135 a134
      have hF140 := hF139.pick [9, 28, 0, 1, 5, 6, 8] (G := [(9, .slice A125 ((dig 256 ((nv 256 ys) * ((2 ^ (f + 1) / 2) % 256))).length) c126), (28, .bool ((decide (1 ≤ (((2 ^ (f + 1) / 2) : Nat) : Int))))), (0, .slice A n c), (1, .slice A2 n2 c2), (5, .slice A3 ((dig 256 Q).length) c3), (6, .int .i64 ((j : Nat) : Int)), (8, .int .i64 (((2 ^ (f + 1) / 2) : Nat) : Int))]) (by kernel_rfl); clear hF139
      refine hK111 _ _ ?_
      refine wp_seq_k (fun K141 hK142 => ?_)
      have hbl : (dig 256 (nv 256 ys * ((2 ^ (f + 1) / 2) % 256))).length ≤ n2 + 1 := dlen (mul_lt (by have := nv_lt ys hby; rwa [hn2] at this) (show _ < 256 ^ 1 from Nat.mod_lt _ (by decide)))
      have hL9 : nv 256 ys * ((2 ^ (f + 1) / 2) % 256) = nv 256 ys * 2 ^ f := by rw [hwf]
      refine wp_region_lit ?_
      refine pures hT 2 _ hF140 (F' := [(37, .slice A125 ((dig 256 ((nv 256 ys) * ((2 ^ (f + 1) / 2) % 256))).length) c126), (36, .slice A3 ((dig 256 Q).length) c3), (9, .slice A125 ((dig 256 ((nv 256 ys) * ((2 ^ (f + 1) / 2) % 256))).length) c126), (28, .bool ((decide (1 ≤ (((2 ^ (f + 1) / 2) : Nat) : Int))))), (0, .slice A n c), (1, .slice A2 n2 c2), (5, .slice A3 ((dig 256 Q).length) c3), (6, .int .i64 ((j : Nat) : Int)), (8, .int .i64 (((2 ^ (f + 1) / 2) : Nat) : Int))]) (cs := []) (by kernel_rfl) trivial ?_
      intro a143 hF144; clear hF140 a138
      have hz148 := HE.size
      have hz149 := HOr.base
      have hz150 := HB117.lt
      have hz151 := HO127.base
      refine wl (s_call (d := 38) (f := 20) (l := [.slice A3 ((dig 256 Q).length) c3, .slice A125 ((dig 256 ((nv 256 ys) * ((2 ^ (f + 1) / 2) % 256))).length) c126]) (by kernel_rfl) hF144 cl20 (ref15_Cmp A3 ((dig 256 Q).length) c3 (dig 256 Q) Q A125 ((dig 256 ((nv 256 ys) * ((2 ^ (f + 1) / 2) % 256))).length) c126 (dig 256 ((nv 256 ys) * ((2 ^ (f + 1) / 2) % 256))) ((nv 256 ys) * ((2 ^ (f + 1) / 2) % 256)) _ (nvd _) (nvd _) (by first | omega | assumption | (simp; done) | (simp; omega) | decide) (by first | omega | assumption | (simp; done) | (simp; omega) | decide) HOr.rd HO127.rd (by first | assumption | exact by_dig _ | exact by_one (Nat.mod_lt _ (by decide)) | omega | simp | decide) (by first | assumption | exact by_dig _ | exact by_one (Nat.mod_lt _ (by decide)) | omega | simp | decide) (by first | omega | assumption | (simp; done) | (simp; omega) | decide) (by first | omega | assumption | (simp; done) | (simp; omega) | decide) ) ?_)
      rintro a152 w145 v146 ⟨rfl, HX147⟩ ha154 hF153; clear ha154 hF144 a143
      replace HE := HE.thenN HX147.g
      replace HOr := HOr.growN HX147.g
      replace HB117 := HB117.growN HX147.g
      replace HO127 := HO127.growN HX147.g
      refine pures_end hT 1 _ hF153 (F' := [(39, .bool ((decide (0 ≤ (cmpI Q ((nv 256 ys) * ((2 ^ (f + 1) / 2) % 256))))))), (38, .int .i64 (cmpI Q ((nv 256 ys) * ((2 ^ (f + 1) / 2) % 256)))), (37, .slice A125 ((dig 256 ((nv 256 ys) * ((2 ^ (f + 1) / 2) % 256))).length) c126), (36, .slice A3 ((dig 256 Q).length) c3), (9, .slice A125 ((dig 256 ((nv 256 ys) * ((2 ^ (f + 1) / 2) % 256))).length) c126), (28, .bool ((decide (1 ≤ (((2 ^ (f + 1) / 2) : Nat) : Int))))), (0, .slice A n c), (1, .slice A2 n2 c2), (5, .slice A3 ((dig 256 Q).length) c3), (6, .int .i64 ((j : Nat) : Int)), (8, .int .i64 (((2 ^ (f + 1) / 2) : Nat) : Int))]) (cs := []) (by kernel_rfl) rfl trivial ?_
      intro a155 hF156; clear hF153 a152
      have hF157 := hF156.pick [39, 9, 28, 0, 1, 5, 6, 8] (G := [(39, .bool ((decide (0 ≤ (cmpI Q ((nv 256 ys) * ((2 ^ (f + 1) / 2) % 256))))))), (9, .slice A125 ((dig 256 ((nv 256 ys) * ((2 ^ (f + 1) / 2) % 256))).length) c126), (28, .bool ((decide (1 ≤ (((2 ^ (f + 1) / 2) : Nat) : Int))))), (0, .slice A n c), (1, .slice A2 n2 c2), (5, .slice A3 ((dig 256 Q).length) c3), (6, .int .i64 ((j : Nat) : Int)), (8, .int .i64 (((2 ^ (f + 1) / 2) : Nat) : Int))]) (by kernel_rfl); clear hF156
      refine hK142 _ _ ?_
      refine condK hF157 (p := 0 ≤ (cmpI Q ((nv 256 ys) * ((2 ^ (f + 1) / 2) % 256)))) (by kernel_rfl) (fun h158 => ?_) (fun h158 => ?_)
      · -- h158
        refine wp_region_lit ?_
        refine pures hT 2 _ hF157 (F' := [(41, .slice A125 ((dig 256 ((nv 256 ys) * ((2 ^ (f + 1) / 2) % 256))).length) c126), (40, .slice A3 ((dig 256 Q).length) c3), (39, .bool ((decide (0 ≤ (cmpI Q ((nv 256 ys) * ((2 ^ (f + 1) / 2) % 256))))))), (9, .slice A125 ((dig 256 ((nv 256 ys) * ((2 ^ (f + 1) / 2) % 256))).length) c126), (28, .bool ((decide (1 ≤ (((2 ^ (f + 1) / 2) : Nat) : Int))))), (0, .slice A n c), (1, .slice A2 n2 c2), (5, .slice A3 ((dig 256 Q).length) c3), (6, .int .i64 ((j : Nat) : Int)), (8, .int .i64 (((2 ^ (f + 1) / 2) : Nat) : Int))]) (cs := []) (by kernel_rfl) trivial ?_
        intro a159 hF160; clear hF157 a155
        have hz167 := HE.size
        have hz168 := HOr.base
        have hz169 := HB117.lt
        have hz170 := HO127.base
        refine wl (s_call (d := 42) (f := 23) (l := [.slice A3 ((dig 256 Q).length) c3, .slice A125 ((dig 256 ((nv 256 ys) * ((2 ^ (f + 1) / 2) % 256))).length) c126]) (by kernel_rfl) hF160 cl23 (ref15_Sub A3 ((dig 256 Q).length) c3 (dig 256 Q) Q A125 ((dig 256 ((nv 256 ys) * ((2 ^ (f + 1) / 2) % 256))).length) c126 (dig 256 ((nv 256 ys) * ((2 ^ (f + 1) / 2) % 256))) ((nv 256 ys) * ((2 ^ (f + 1) / 2) % 256)) _ (nvd _) (nvd _) (by first | omega | assumption | (simp; done) | (simp; omega) | decide) (by first | omega | assumption | (simp; done) | (simp; omega) | decide) HOr.rd HO127.rd (by first | assumption | exact by_dig _ | exact by_one (Nat.mod_lt _ (by decide)) | omega | simp | decide) (by first | assumption | exact by_dig _ | exact by_one (Nat.mod_lt _ (by decide)) | omega | simp | decide) (by first | omega | assumption | (simp; done) | (simp; omega) | decide) (by first | omega | assumption | (simp; done) | (simp; omega) | decide) ) ?_)
        rintro a171 w164 v165 ⟨A161, c162, rfl, HX166, HO163⟩ ha173 hF172; clear ha173 hF160 a159
        replace HE := HE.thenN HX166.g
        replace HOr := HOr.growN HX166.g
        replace HB117 := HB117.growN HX166.g
        replace HO127 := HO127.growN HX166.g
        have hcp174 := HO163.cap
        refine pures_end hT 1 _ hF172 (F' := [(5, .slice A161 ((dig 256 (Q - ((nv 256 ys) * ((2 ^ (f + 1) / 2) % 256)))).length) c162), (42, .slice A161 ((dig 256 (Q - ((nv 256 ys) * ((2 ^ (f + 1) / 2) % 256)))).length) c162), (41, .slice A125 ((dig 256 ((nv 256 ys) * ((2 ^ (f + 1) / 2) % 256))).length) c126), (40, .slice A3 ((dig 256 Q).length) c3), (39, .bool ((decide (0 ≤ (cmpI Q ((nv 256 ys) * ((2 ^ (f + 1) / 2) % 256))))))), (9, .slice A125 ((dig 256 ((nv 256 ys) * ((2 ^ (f + 1) / 2) % 256))).length) c126), (28, .bool ((decide (1 ≤ (((2 ^ (f + 1) / 2) : Nat) : Int))))), (0, .slice A n c), (1, .slice A2 n2 c2), (5, .slice A3 ((dig 256 Q).length) c3), (6, .int .i64 ((j : Nat) : Int)), (8, .int .i64 (((2 ^ (f + 1) / 2) : Nat) : Int))]) (cs := []) (by kernel_rfl) rfl trivial ?_
        intro a175 hF176; clear hF172 a171
        have hF177 := hF176.pick [5, 39, 9, 28, 0, 1, 6, 8] (G := [(5, .slice A161 ((dig 256 (Q - ((nv 256 ys) * ((2 ^ (f + 1) / 2) % 256)))).length) c162), (39, .bool ((decide (0 ≤ (cmpI Q ((nv 256 ys) * ((2 ^ (f + 1) / 2) % 256))))))), (9, .slice A125 ((dig 256 ((nv 256 ys) * ((2 ^ (f + 1) / 2) % 256))).length) c126), (28, .bool ((decide (1 ≤ (((2 ^ (f + 1) / 2) : Nat) : Int))))), (0, .slice A n c), (1, .slice A2 n2 c2), (6, .int .i64 ((j : Nat) : Int)), (8, .int .i64 (((2 ^ (f + 1) / 2) : Nat) : Int))]) (by kernel_rfl); clear hF176
        refine hK109 _ _ ?_
        have hF178 := hF177.pick [5, 0, 1, 6, 8] (G := [(5, .slice A161 ((dig 256 (Q - ((nv 256 ys) * ((2 ^ (f + 1) / 2) % 256)))).length) c162), (0, .slice A n c), (1, .slice A2 n2 c2), (6, .int .i64 ((j : Nat) : Int)), (8, .int .i64 (((2 ^ (f + 1) / 2) : Nat) : Int))]) (by kernel_rfl); clear hF177
        have hge : nv 256 ys * 2 ^ f ≤ Q := by rw [← hwf]; exact cmpI_ge.1 (by assumption)
        rw [hwf] at HO163 hF178
        refine wp_region_lit ?_
        refine pures_end hT 3 _ hF178 (F' := [(8, .int .i64 ((((2 ^ (f + 1) / 2) / 2) : Nat) : Int)), (30, .int .i64 ((((2 ^ (f + 1) / 2) / 2) : Nat) : Int)), (29, .int .i64 (((2 ^ (f + 1) / 2) : Nat) : Int)), (5, .slice A161 ((dig 256 (Q - nv 256 ys * 2 ^ f)).length) c162), (0, .slice A n c), (1, .slice A2 n2 c2), (6, .int .i64 ((j : Nat) : Int)), (8, .int .i64 (((2 ^ (f + 1) / 2) : Nat) : Int))]) (cs := [0 ≤ (((2 ^ (f + 1) / 2) : Nat) : Int), (((2 ^ (f + 1) / 2) : Nat) : Int) ≤ 9223372036854775807, 0 < (2 : Int)]) (by kernel_rfl) rfl (And.intro (by omega) (And.intro (by omega) (And.intro (by omega) trivial))) ?_
        intro a179 hF180; clear hF178 a175
        have hF181 := hF180.pick [8, 5, 0, 1, 6] (G := [(8, .int .i64 ((((2 ^ (f + 1) / 2) / 2) : Nat) : Int)), (5, .slice A161 ((dig 256 (Q - nv 256 ys * 2 ^ f)).length) c162), (0, .slice A n c), (1, .slice A2 n2 c2), (6, .int .i64 ((j : Nat) : Int))]) (by kernel_rfl); clear hF180
        rw [ref_w2] at hF181
        refine hK98 _ _ _ (by omega) ⟨f, (Q - nv 256 ys * 2 ^ f), _, _, rfl, hF181.pick [0, 1, 5, 6, 8] (by kernel_rfl), HE, (HO163.rebase (by omega)), (by omega), ((ref_mod_step rfl hQ).1 hge).2, ((ref_mod_step hv hQ).1 hge).1⟩
      · -- h158
        refine wp_skip ?_
        refine hK109 _ _ ?_
        have hF182 := hF157.pick [0, 1, 5, 6, 8] (G := [(0, .slice A n c), (1, .slice A2 n2 c2), (5, .slice A3 ((dig 256 Q).length) c3), (6, .int .i64 ((j : Nat) : Int)), (8, .int .i64 (((2 ^ (f + 1) / 2) : Nat) : Int))]) (by kernel_rfl); clear hF157
        have hlt : Q < nv 256 ys * 2 ^ f := by have h9 := @cmpI_ge Q (nv 256 ys * ((2 ^ (f + 1) / 2) % 256)); rw [hwf] at *; omega
        refine wp_region_lit ?_
        refine pures_end hT 3 _ hF182 (F' := [(8, .int .i64 ((((2 ^ (f + 1) / 2) / 2) : Nat) : Int)), (30, .int .i64 ((((2 ^ (f + 1) / 2) / 2) : Nat) : Int)), (29, .int .i64 (((2 ^ (f + 1) / 2) : Nat) : Int)), (0, .slice A n c), (1, .slice A2 n2 c2), (5, .slice A3 ((dig 256 Q).length) c3), (6, .int .i64 ((j : Nat) : Int)), (8, .int .i64 (((2 ^ (f + 1) / 2) : Nat) : Int))]) (cs := [0 ≤ (((2 ^ (f + 1) / 2) : Nat) : Int), (((2 ^ (f + 1) / 2) : Nat) : Int) ≤ 9223372036854775807, 0 < (2 : Int)]) (by kernel_rfl) rfl (And.intro (by omega) (And.intro (by omega) (And.intro (by omega) trivial))) ?_
        intro a183 hF184; clear hF182 a155
        have hF185 := hF184.pick [8, 0, 1, 5, 6] (G := [(8, .int .i64 ((((2 ^ (f + 1) / 2) / 2) : Nat) : Int)), (0, .slice A n c), (1, .slice A2 n2 c2), (5, .slice A3 ((dig 256 Q).length) c3), (6, .int .i64 ((j : Nat) : Int))]) (by kernel_rfl); clear hF184
        rw [ref_w2] at hF185
        refine hK98 _ _ _ (by omega) ⟨f, Q, _, _, rfl, hF185.pick [0, 1, 5, 6, 8] (by kernel_rfl), HE, (HOr.rebase (by omega)), (by omega), ((ref_mod_step rfl hQ).2 hlt), hv⟩
    · -- h107
      refine wp_exit ?_
      refine hK30 _ _ ?_
      have he0 : e = 0 := ref_e0 (by assumption)
      refine wp_region_lit ?_
      refine pures_end hT 3 _ hF106 (F' := [(6, .int .i64 (((j : Nat) : Int) - 1)), (16, .int .i64 (((j : Nat) : Int) - 1)), (15, .int .i64 ((j : Nat) : Int)), (28, .bool ((decide (1 ≤ (((2 ^ e / 2) : Nat) : Int))))), (0, .slice A n c), (1, .slice A2 n2 c2), (5, .slice A3 ((dig 256 Q).length) c3), (6, .int .i64 ((j : Nat) : Int)), (8, .int .i64 (((2 ^ e / 2) : Nat) : Int))]) (cs := [-9223372036854775808 ≤ (((j : Nat) : Int) - 1), (((j : Nat) : Int) - 1) ≤ 9223372036854775807]) (by kernel_rfl) rfl (And.intro (by omega) (And.intro (by omega) trivial)) ?_
      intro a186 hF187; clear hF106 a104
      have hF188 := hF187.pick [6, 28, 0, 1, 5, 8] (G := [(6, .int .i64 (((j : Nat) : Int) - 1)), (28, .bool ((decide (1 ≤ (((2 ^ e / 2) : Nat) : Int))))), (0, .slice A n c), (1, .slice A2 n2 c2), (5, .slice A3 ((dig 256 Q).length) c3), (8, .int .i64 (((2 ^ e / 2) : Nat) : Int))]) (by kernel_rfl); clear hF187
      refine hK19 _ _ _ (by omega) ⟨j, Q, _, _, rfl, hF188.pick [0, 1, 5, 6] (by kernel_rfl), HE, HOr, (by omega), (by rw [he0, Nat.pow_zero, Nat.one_mul] at hQ; exact hQ), (by rw [← hv, Nat.mod_eq_of_lt]; rw [he0, Nat.pow_zero, Nat.one_mul] at hQ; exact hQ)⟩
  · -- h28
    refine wp_exit ?_
    refine hK10 _ _ ?_
    refine wp_seq_k (fun K189 hK190 => ?_)
    refine wp_region_lit ?_
    refine pures_end hT 2 _ hF27 (F' := [(4, .slice A3 ((dig 256 R).length) c3), (43, .slice A3 ((dig 256 R).length) c3), (14, .bool ((decide (0 ≤ (((k : Nat) : Int) - 1))))), (0, .slice A n c), (1, .slice A2 n2 c2), (5, .slice A3 ((dig 256 R).length) c3), (6, .int .i64 (((k : Nat) : Int) - 1))]) (cs := []) (by kernel_rfl) rfl trivial ?_
    intro a191 hF192; clear hF27 a25
    have hF193 := hF192.pick [4, 14, 0, 1, 5, 6] (G := [(4, .slice A3 ((dig 256 R).length) c3), (14, .bool ((decide (0 ≤ (((k : Nat) : Int) - 1))))), (0, .slice A n c), (1, .slice A2 n2 c2), (5, .slice A3 ((dig 256 R).length) c3), (6, .int .i64 (((k : Nat) : Int) - 1))]) (by kernel_rfl); clear hF192
    refine hK190 _ _ ?_
    refine wp_ret ?_
    refine ret1 hF193 rfl (v := .slice A3 ((dig 256 R).length) c3) (by kernel_rfl) ?_
    have hk0 : k = 0 := by omega
    subst hk0
    rw [Nat.pow_zero, Nat.div_one] at hv
    subst hv
    exact ⟨_, _, rfl, HE, HOr⟩

end Go.Proofs.Ytdabkjflpbbpeaa
