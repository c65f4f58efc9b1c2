/- Walks of functions of the program: lemmas. -/
import Derived.Test.YtdabkjflpbbpeaaLb
import Derived.Test.YtdabkjflpbbpeaaWd
set_option maxRecDepth 100000
set_option linter.unusedVariables false
set_option linter.unusedSimpArgs false
namespace Go.Proofs.Ytdabkjflpbbpeaa
open Go.Proofs Go.RowKit

set_option maxHeartbeats 4000000 in
theorem law15_laws (Ax : Option Addr) (cx : Nat) (xs : List Nat) (Ay : Option Addr) (cy : Nat) (ys : List Nat) (Az : Option Addr) (cz : Nat) (zs : List Nat) (w : World) (hxs : Rd w Ax (vs .u8 xs)) (hbxs : By xs) (hmxs : xs.length ≤ 9223372036854775807) (hys : Rd w Ay (vs .u8 ys)) (hbys : By ys) (hmys : ys.length ≤ 9223372036854775807) (hzs : Rd w Az (vs .u8 zs)) (hbzs : By zs) (hmzs : zs.length ≤ 9223372036854775807) :
    Calls Try.prog 6 [.slice Ax xs.length cx, .slice Ay ys.length cy, .slice Az zs.length cz].toArray w (Ret fun v w' => v = .bool true ∧ Ex w w') := by
  refine enter Try.func6 rfl (n := 100) Try.ntmps6 (by simp) ?_
  intro a hF
  have HE : Ex w w := Ex.refl w
  refine wp_seq_k (fun K1 hK2 => ?_)
  refine wp_region_lit ?_
  refine pures_end hT 1 _ hF (F' := [(6, .bool false), (0, .slice Ax xs.length cx), (1, .slice Ay ys.length cy), (2, .slice Az zs.length cz)]) (cs := []) (by kernel_rfl) rfl trivial ?_
  intro a3 hF4; clear hF a
  refine hK2 _ _ ?_
  refine wp_seq_k (fun K5 hK6 => ?_)
  refine wp_seq_k (fun K7 hK8 => ?_)
  refine wp_region_lit ?_
  refine pures hT 2 _ hF4 (F' := [(10, .slice Ay ys.length cy), (9, .slice Ax xs.length cx), (6, .bool false), (0, .slice Ax xs.length cx), (1, .slice Ay ys.length cy), (2, .slice Az zs.length cz)]) (cs := []) (by kernel_rfl) trivial ?_
  intro a9 hF10; clear hF4 a3
  have hz14 := HE.size
  refine wl (s_call (d := 11) (f := 12) (l := [.slice Ax xs.length cx, .slice Ay ys.length cy]) (by kernel_rfl) hF10 cl12 (law15_small Ax xs.length cx Ay ys.length cy _ (by omega) (by omega)) ?_)
  rintro a15 w11 v12 ⟨rfl, HX13⟩ ha17 hF16; clear ha17 hF10 a9
  replace HE := HE.thenN HX13.g
  refine pures hT 2 _ hF16 (F' := [(13, .bool (!(decide ((xs.length ≤ 120 ∧ ys.length ≤ 120))))), (12, .bool (!(decide ((xs.length ≤ 120 ∧ ys.length ≤ 120))))), (11, .bool ((decide ((xs.length ≤ 120 ∧ ys.length ≤ 120))))), (10, .slice Ay ys.length cy), (9, .slice Ax xs.length cx), (6, .bool false), (0, .slice Ax xs.length cx), (1, .slice Ay ys.length cy), (2, .slice Az zs.length cz)]) (cs := []) (by kernel_rfl) trivial ?_
  intro a18 hF19; clear hF16 a15
  rcases dec_cases ((xs.length ≤ 120 ∧ ys.length ≤ 120)) with ⟨h20, e21⟩ | ⟨h20, e21⟩
  · rw [e21] at hF19; clear e21; simp only [Bool.not_true, Bool.not_false] at hF19
    refine pures_end hT 4 _ hF19 (F' := [(17, .bool ((decide (120 < ((zs.length : Nat) : Int))))), (16, .bool ((decide (120 < ((zs.length : Nat) : Int))))), (15, .int .i64 ((zs.length : Nat) : Int)), (14, .slice Az zs.length cz), (13, .bool false), (12, .bool false), (11, .bool true), (10, .slice Ay ys.length cy), (9, .slice Ax xs.length cx), (6, .bool false), (0, .slice Ax xs.length cx), (1, .slice Ay ys.length cy), (2, .slice Az zs.length cz)]) (cs := []) (by kernel_rfl) rfl trivial ?_
    intro a22 hF23; clear hF19 a18
    have hF24 := hF23.pick [17, 6, 0, 1, 2] (G := [(17, .bool ((decide (120 < ((zs.length : Nat) : Int))))), (6, .bool false), (0, .slice Ax xs.length cx), (1, .slice Ay ys.length cy), (2, .slice Az zs.length cz)]) (by kernel_rfl); clear hF23
    refine hK8 _ _ ?_
    refine condK hF24 (p := 120 < ((zs.length : Nat) : Int)) (by kernel_rfl) (fun h25 => ?_) (fun h25 => ?_)
    · -- h25
      refine wp_seq_k (fun K26 hK27 => ?_)
      refine wp_region_lit ?_
      refine pures_end hT 1 _ hF24 (F' := [(6, .bool true), (17, .bool ((decide (120 < ((zs.length : Nat) : Int))))), (6, .bool false), (0, .slice Ax xs.length cx), (1, .slice Ay ys.length cy), (2, .slice Az zs.length cz)]) (cs := []) (by kernel_rfl) rfl trivial ?_
      intro a28 hF29; clear hF24 a22
      have hF30 := hF29.pick [6, 17, 0, 1, 2] (G := [(6, .bool true), (17, .bool ((decide (120 < ((zs.length : Nat) : Int))))), (0, .slice Ax xs.length cx), (1, .slice Ay ys.length cy), (2, .slice Az zs.length cz)]) (by kernel_rfl); clear hF29
      refine hK27 _ _ ?_
      refine wp_ret ?_
      refine ret1 hF30 rfl (v := .bool true) (by kernel_rfl) ?_
      exact ⟨rfl, HE⟩
    · -- h25
      refine wp_skip ?_
      refine hK6 _ _ ?_
      refine wp_seq_k (fun K31 hK32 => ?_)
      have hlxs : xs.length ≤ 120 := by omega
      have hlys : ys.length ≤ 120 := by omega
      have hlzs : zs.length ≤ 120 := by omega
      refine wp_region_lit ?_
      refine pures hT 2 _ hF24 (F' := [(19, .slice Ay ys.length cy), (18, .slice Ax xs.length cx), (17, .bool ((decide (120 < ((zs.length : Nat) : Int))))), (6, .bool false), (0, .slice Ax xs.length cx), (1, .slice Ay ys.length cy), (2, .slice Az zs.length cz)]) (cs := []) (by kernel_rfl) trivial ?_
      intro a33 hF34; clear hF24 a22
      have hz41 := HE.size
      refine wl (s_call (d := 20) (f := 17) (l := [.slice Ax xs.length cx, .slice Ay ys.length cy]) (by kernel_rfl) hF34 cl17 (Add' (A := Ax) (n := xs.length) (c := cx) (x := (nv 256 xs)) (xs := xs) (A2 := Ay) (n2 := ys.length) (c2 := cy) (y := (nv 256 ys)) (ys := ys) (w := _) rfl rfl  rfl rfl (hxs.ex HE) (hys.ex HE) hbxs hbys (Nat.le_trans hlxs (by decide)) (Nat.le_trans hlys (by decide))) ?_)
      rintro a42 w38 v39 ⟨A35, c36, rfl, HX40, HO37⟩ ha44 hF43; clear ha44 hF34 a33
      replace HE := HE.thenN HX40.g
      have hcp45 := HO37.cap
      refine pures_end hT 1 _ hF43 (F' := [(7, .slice A35 ((dig 256 ((nv 256 xs) + (nv 256 ys))).length) c36), (20, .slice A35 ((dig 256 ((nv 256 xs) + (nv 256 ys))).length) c36), (19, .slice Ay ys.length cy), (18, .slice Ax xs.length cx), (17, .bool ((decide (120 < ((zs.length : Nat) : Int))))), (6, .bool false), (0, .slice Ax xs.length cx), (1, .slice Ay ys.length cy), (2, .slice Az zs.length cz)]) (cs := []) (by kernel_rfl) rfl trivial ?_
      intro a46 hF47; clear hF43 a42
      have hF48 := hF47.pick [7, 17, 6, 0, 1, 2] (G := [(7, .slice A35 ((dig 256 ((nv 256 xs) + (nv 256 ys))).length) c36), (17, .bool ((decide (120 < ((zs.length : Nat) : Int))))), (6, .bool false), (0, .slice Ax xs.length cx), (1, .slice Ay ys.length cy), (2, .slice Az zs.length cz)]) (by kernel_rfl); clear hF47
      refine hK32 _ _ ?_
      refine wp_seq_k (fun K49 hK50 => ?_)
      refine wp_region_lit ?_
      refine pures hT 2 _ hF48 (F' := [(22, .slice Ay ys.length cy), (21, .slice Ax xs.length cx), (7, .slice A35 ((dig 256 ((nv 256 xs) + (nv 256 ys))).length) c36), (17, .bool ((decide (120 < ((zs.length : Nat) : Int))))), (6, .bool false), (0, .slice Ax xs.length cx), (1, .slice Ay ys.length cy), (2, .slice Az zs.length cz)]) (cs := []) (by kernel_rfl) trivial ?_
      intro a51 hF52; clear hF48 a46
      have hz59 := HE.size
      have hz60 := HO37.base
      refine wl (s_call (d := 23) (f := 18) (l := [.slice Ax xs.length cx, .slice Ay ys.length cy]) (by kernel_rfl) hF52 cl18 (Mul' (A := Ax) (n := xs.length) (c := cx) (x := (nv 256 xs)) (xs := xs) (A2 := Ay) (n2 := ys.length) (c2 := cy) (y := (nv 256 ys)) (ys := ys) (w := _) rfl rfl  rfl rfl (hxs.ex HE) (hys.ex HE) hbxs hbys (Nat.le_trans hlxs (by decide)) (Nat.le_trans hlys (by decide))) ?_)
      rintro a61 w56 v57 ⟨A53, c54, rfl, HX58, HO55⟩ ha63 hF62; clear ha63 hF52 a51
      replace HE := HE.thenN HX58.g
      replace HO37 := HO37.growN HX58.g
      have hcp64 := HO55.cap
      refine pures_end hT 1 _ hF62 (F' := [(8, .slice A53 ((dig 256 ((nv 256 xs) * (nv 256 ys))).length) c54), (23, .slice A53 ((dig 256 ((nv 256 xs) * (nv 256 ys))).length) c54), (22, .slice Ay ys.length cy), (21, .slice Ax xs.length cx), (7, .slice A35 ((dig 256 ((nv 256 xs) + (nv 256 ys))).length) c36), (17, .bool ((decide (120 < ((zs.length : Nat) : Int))))), (6, .bool false), (0, .slice Ax xs.length cx), (1, .slice Ay ys.length cy), (2, .slice Az zs.length cz)]) (cs := []) (by kernel_rfl) rfl trivial ?_
      intro a65 hF66; clear hF62 a61
      have hF67 := hF66.pick [8, 7, 17, 6, 0, 1, 2] (G := [(8, .slice A53 ((dig 256 ((nv 256 xs) * (nv 256 ys))).length) c54), (7, .slice A35 ((dig 256 ((nv 256 xs) + (nv 256 ys))).length) c36), (17, .bool ((decide (120 < ((zs.length : Nat) : Int))))), (6, .bool false), (0, .slice Ax xs.length cx), (1, .slice Ay ys.length cy), (2, .slice Az zs.length cz)]) (by kernel_rfl); clear hF66
      refine hK50 _ _ ?_
      refine wp_seq_k (fun K68 hK69 => ?_)
      have HE70 : Ex w56 w56 := Ex.refl _
      have HR71 := HO37.rd
      have HR71b := HO37.base
      clear HO37
      have HR72 := HO55.rd
      have HR72b := HO55.base
      clear HO55
      let SL_ : List SP := [SP.val (.bool true), SP.val (.bool true), SP.val (.slice A35 ((dig 256 ((nv 256 xs) + (nv 256 ys))).length) c36), SP.val (.string (str (dig 256 ((nv 256 xs) + (nv 256 ys))))), SP.val (.slice Ay ys.length cy), SP.val (.slice Ax xs.length cx), SP.mk' (fun v W => ∃ A c, v = .slice A ((dig 256 ((nv 256 ys) + (nv 256 xs))).length) c ∧ Rd W A (vs .u8 (dig 256 ((nv 256 ys) + (nv 256 xs))))) (fun v w w' h g => by obtain ⟨A, c, e, h⟩ := h; exact ⟨A, c, e, h.grow g (by simp)⟩), SP.val (.string (str (dig 256 ((nv 256 ys) + (nv 256 xs))))), SP.val (.bool true), SP.val (.bool true), SP.val (.bool true), SP.val (.slice A53 ((dig 256 ((nv 256 xs) * (nv 256 ys))).length) c54), SP.val (.string (str (dig 256 ((nv 256 xs) * (nv 256 ys))))), SP.val (.slice Ay ys.length cy), SP.val (.slice Ax xs.length cx), SP.mk' (fun v W => ∃ A c, v = .slice A ((dig 256 ((nv 256 ys) * (nv 256 xs))).length) c ∧ Rd W A (vs .u8 (dig 256 ((nv 256 ys) * (nv 256 xs))))) (fun v w w' h g => by obtain ⟨A, c, e, h⟩ := h; exact ⟨A, c, e, h.grow g (by simp)⟩), SP.val (.string (str (dig 256 ((nv 256 ys) * (nv 256 xs))))), SP.val (.bool true), SP.val (.bool true), SP.val (.bool true), SP.val (.slice A35 ((dig 256 ((nv 256 xs) + (nv 256 ys))).length) c36), SP.val (.slice Az zs.length cz), SP.mk' (fun v W => ∃ A c, v = .slice A ((dig 256 (((nv 256 xs) + (nv 256 ys)) + (nv 256 zs))).length) c ∧ Rd W A (vs .u8 (dig 256 (((nv 256 xs) + (nv 256 ys)) + (nv 256 zs))))) (fun v w w' h g => by obtain ⟨A, c, e, h⟩ := h; exact ⟨A, c, e, h.grow g (by simp)⟩), SP.val (.string (str (dig 256 (((nv 256 xs) + (nv 256 ys)) + (nv 256 zs))))), SP.val (.slice Ax xs.length cx), SP.val (.slice Ay ys.length cy), SP.val (.slice Az zs.length cz), SP.mk' (fun v W => ∃ A c, v = .slice A ((dig 256 ((nv 256 ys) + (nv 256 zs))).length) c ∧ Rd W A (vs .u8 (dig 256 ((nv 256 ys) + (nv 256 zs))))) (fun v w w' h g => by obtain ⟨A, c, e, h⟩ := h; exact ⟨A, c, e, h.grow g (by simp)⟩), SP.mk' (fun v W => ∃ A c, v = .slice A ((dig 256 ((nv 256 xs) + ((nv 256 ys) + (nv 256 zs)))).length) c ∧ Rd W A (vs .u8 (dig 256 ((nv 256 xs) + ((nv 256 ys) + (nv 256 zs)))))) (fun v w w' h g => by obtain ⟨A, c, e, h⟩ := h; exact ⟨A, c, e, h.grow g (by simp)⟩), SP.val (.string (str (dig 256 ((nv 256 xs) + ((nv 256 ys) + (nv 256 zs)))))), SP.val (.bool true), SP.val (.bool true), SP.val (.bool true), SP.val (.slice A53 ((dig 256 ((nv 256 xs) * (nv 256 ys))).length) c54), SP.val (.slice Az zs.length cz), SP.mk' (fun v W => ∃ A c, v = .slice A ((dig 256 (((nv 256 xs) * (nv 256 ys)) * (nv 256 zs))).length) c ∧ Rd W A (vs .u8 (dig 256 (((nv 256 xs) * (nv 256 ys)) * (nv 256 zs))))) (fun v w w' h g => by obtain ⟨A, c, e, h⟩ := h; exact ⟨A, c, e, h.grow g (by simp)⟩), SP.val (.string (str (dig 256 (((nv 256 xs) * (nv 256 ys)) * (nv 256 zs))))), SP.val (.slice Ax xs.length cx), SP.val (.slice Ay ys.length cy), SP.val (.slice Az zs.length cz), SP.mk' (fun v W => ∃ A c, v = .slice A ((dig 256 ((nv 256 ys) * (nv 256 zs))).length) c ∧ Rd W A (vs .u8 (dig 256 ((nv 256 ys) * (nv 256 zs))))) (fun v w w' h g => by obtain ⟨A, c, e, h⟩ := h; exact ⟨A, c, e, h.grow g (by simp)⟩), SP.mk' (fun v W => ∃ A c, v = .slice A ((dig 256 ((nv 256 xs) * ((nv 256 ys) * (nv 256 zs)))).length) c ∧ Rd W A (vs .u8 (dig 256 ((nv 256 xs) * ((nv 256 ys) * (nv 256 zs)))))) (fun v w w' h g => by obtain ⟨A, c, e, h⟩ := h; exact ⟨A, c, e, h.grow g (by simp)⟩), SP.val (.string (str (dig 256 ((nv 256 xs) * ((nv 256 ys) * (nv 256 zs)))))), SP.val (.bool true), SP.val (.bool true), SP.val (.bool true), SP.val (.slice A35 ((dig 256 ((nv 256 xs) + (nv 256 ys))).length) c36), SP.val (.slice Az zs.length cz), SP.mk' (fun v W => ∃ A c, v = .slice A ((dig 256 (((nv 256 xs) + (nv 256 ys)) * (nv 256 zs))).length) c ∧ Rd W A (vs .u8 (dig 256 (((nv 256 xs) + (nv 256 ys)) * (nv 256 zs))))) (fun v w w' h g => by obtain ⟨A, c, e, h⟩ := h; exact ⟨A, c, e, h.grow g (by simp)⟩), SP.val (.string (str (dig 256 (((nv 256 xs) + (nv 256 ys)) * (nv 256 zs))))), SP.val (.slice Ax xs.length cx), SP.val (.slice Az zs.length cz), SP.mk' (fun v W => ∃ A c, v = .slice A ((dig 256 ((nv 256 xs) * (nv 256 zs))).length) c ∧ Rd W A (vs .u8 (dig 256 ((nv 256 xs) * (nv 256 zs))))) (fun v w w' h g => by obtain ⟨A, c, e, h⟩ := h; exact ⟨A, c, e, h.grow g (by simp)⟩), SP.val (.slice Ay ys.length cy), SP.val (.slice Az zs.length cz), SP.mk' (fun v W => ∃ A c, v = .slice A ((dig 256 ((nv 256 ys) * (nv 256 zs))).length) c ∧ Rd W A (vs .u8 (dig 256 ((nv 256 ys) * (nv 256 zs))))) (fun v w w' h g => by obtain ⟨A, c, e, h⟩ := h; exact ⟨A, c, e, h.grow g (by simp)⟩), SP.mk' (fun v W => ∃ A c, v = .slice A ((dig 256 (((nv 256 xs) * (nv 256 zs)) + ((nv 256 ys) * (nv 256 zs)))).length) c ∧ Rd W A (vs .u8 (dig 256 (((nv 256 xs) * (nv 256 zs)) + ((nv 256 ys) * (nv 256 zs)))))) (fun v w w' h g => by obtain ⟨A, c, e, h⟩ := h; exact ⟨A, c, e, h.grow g (by simp)⟩), SP.val (.string (str (dig 256 (((nv 256 xs) * (nv 256 zs)) + ((nv 256 ys) * (nv 256 zs)))))), SP.val (.bool true), SP.val (.bool true), SP.val (.bool true), SP.val (.slice A35 ((dig 256 ((nv 256 xs) + (nv 256 ys))).length) c36), SP.val (.slice Ay ys.length cy), SP.mk' (fun v W => ∃ A c, v = .slice A ((dig 256 (((nv 256 xs) + (nv 256 ys)) - (nv 256 ys))).length) c ∧ Rd W A (vs .u8 (dig 256 (((nv 256 xs) + (nv 256 ys)) - (nv 256 ys))))) (fun v w w' h g => by obtain ⟨A, c, e, h⟩ := h; exact ⟨A, c, e, h.grow g (by simp)⟩), SP.val (.string (str (dig 256 (((nv 256 xs) + (nv 256 ys)) - (nv 256 ys))))), SP.val (.slice Ax xs.length cx), SP.mk' (fun v W => ∃ A c, v = .slice A ((dig 256 (nv 256 xs)).length) c ∧ Rd W A (vs .u8 (dig 256 (nv 256 xs)))) (fun v w w' h g => by obtain ⟨A, c, e, h⟩ := h; exact ⟨A, c, e, h.grow g (by simp)⟩), SP.val (.string (str (dig 256 (nv 256 xs)))), SP.val (.bool true), SP.val (.bool true), SP.val (.bool true), SP.val (.slice A35 ((dig 256 ((nv 256 xs) + (nv 256 ys))).length) c36), SP.val (.slice Ax xs.length cx), SP.val (.int .i64 (cmpI ((nv 256 xs) + (nv 256 ys)) (nv 256 xs))), SP.val (.bool true), SP.val (.bool true), SP.val (.bool true)]
      refine region_rel (SL := SL_) (J := (fun (b : Bool) (W : World) => (Ex w W) ∧ (Ex w56 W))) (m := 77) (bm := none) wide (by kernel_rfl) (by kernel_rfl) hF67 rfl ?_ ?_ ⟨HE, HE70⟩ ⟨?_, ?_, ?_, ?_, ?_, ?_, ?_, ?_, ?_, ?_, ?_, ?_, ?_, ?_, ?_, ?_, ?_, ?_, ?_, ?_, ?_, ?_, ?_, ?_, ?_, ?_, ?_, ?_, ?_, ?_, ?_, ?_, ?_, ?_, ?_, ?_, ?_, ?_, ?_, ?_, ?_, ?_, ?_, ?_, ?_, ?_, ?_, ?_, ?_, ?_, ?_, ?_, ?_, ?_, ?_, ?_, ?_, ?_, ?_, ?_, ?_, ?_, ?_, ?_, ?_, ?_, ?_, ?_, ?_, ?_, ?_, ?_, ?_, ?_, ?_, ?_, ?_, trivial⟩ [(6, some 76), (8, none), (7, none), (17, none), (0, none), (1, none), (2, none)] (by kernel_rfl) ?_
      · exact fun h => absurd h (by decide)
      · intro b W W' hj g; cases b <;> exact ⟨hj.1.thenN g, hj.2.thenN g⟩
      · -- operation 0
        rintro a74 w73 b76 KK82 hs78 hd79 hJ80 hb81 hr83 hK77
        have hr83x : RD SL_ a74 a65 w73 [] := hr83 _ (by kernel_rfl)
        obtain ⟨HE, HE70⟩ := hJ80
        have hF75 : Fr 100 a74 [] := Fr.of hs78 hd79 trivial
        have hz87 := HE.size
        have hz88 := HE70.size
        refine s_call (d := 24) (f := 14) (l := []) (by kernel_rfl) hF75 cl14 (law15_awake _) ?_
        rintro a89 w84 v85 ⟨rfl, HX86⟩ ha91 hF90
        replace HE := HE.thenN HX86.g
        replace HE70 := HE70.thenN HX86.g
        rw [ha91]; exact hK77 _ _ rfl HX86.g
      · -- operation 1
        rintro a93 w92 b95 KK101 hs97 hd98 hJ99 hb100 hr105 hK96
        have hr105x : RD SL_ a93 a65 w92 [(24, some 0)] := hr105 _ (by kernel_rfl)
        obtain ⟨⟨v103, q102, s104⟩, -⟩ := hr105x
        obtain rfl : v103 = .bool true := s104
        obtain ⟨HE, HE70⟩ := hJ99
        have hF94 : Fr 100 a93 [(24, .bool true)] := Fr.of hs97 hd98 ⟨q102, trivial⟩
        refine s_pure hT (d := 25) (v := .bool true) (cs := []) (by kernel_rfl) (by kernel_rfl) trivial hF94 ?_
        rintro a2 ha2 hF2; rw [ha2]; exact hK96 _ _ rfl (grown_refl _ _)
      · -- operation 2
        rintro a107 w106 b109 KK115 hs111 hd112 hJ113 hb114 hr120 hK110
        have hr120x : RD SL_ a107 a65 w106 [(7, none), (25, some 1)] := hr120 _ (by kernel_rfl)
        obtain ⟨q116, ⟨v118, q117, s119⟩, -⟩ := hr120x
        obtain rfl : v118 = .bool true := s119
        obtain ⟨HE, HE70⟩ := hJ113
        have hF108 : Fr 100 a107 [(7, .slice A35 ((dig 256 ((nv 256 xs) + (nv 256 ys))).length) c36), (25, .bool true)] := Fr.of hs111 hd112 ⟨(Fr.init hF67 q116 (by kernel_rfl)), q117, trivial⟩
        refine One.bare hF108 (by kernel_rfl) (s_pure hT (d := 26) (v := .slice A35 ((dig 256 ((nv 256 xs) + (nv 256 ys))).length) c36) (cs := []) (by kernel_rfl) (by kernel_rfl) trivial hF108 ?_)
        rintro a2 ha2 hF2; rw [ha2]; exact hK110 _ _ rfl (grown_refl _ _)
      · -- operation 3
        rintro a122 w121 b124 KK130 hs126 hd127 hJ128 hb129 hr137 hK125
        have hr137x : RD SL_ a122 a65 w121 [(26, some 2), (25, some 1)] := hr137 _ (by kernel_rfl)
        obtain ⟨⟨v132, q131, s133⟩, ⟨v135, q134, s136⟩, -⟩ := hr137x
        obtain rfl : v132 = .slice A35 ((dig 256 ((nv 256 xs) + (nv 256 ys))).length) c36 := s133
        obtain rfl : v135 = .bool true := s136
        obtain ⟨HE, HE70⟩ := hJ128
        have hF123 : Fr 100 a122 [(26, .slice A35 ((dig 256 ((nv 256 xs) + (nv 256 ys))).length) c36), (25, .bool true)] := Fr.of hs126 hd127 ⟨q131, q134, trivial⟩
        refine One.bare hF123 (by kernel_rfl) (s_str hT (d := 27) (A := A35) (m := (dig 256 ((nv 256 xs) + (nv 256 ys))).length) (xs := (dig 256 ((nv 256 xs) + (nv 256 ys)))) (by kernel_rfl) hF123 (HR71.ex HE70) (by (first | (simp only [vs_length, vi_length]; omega) | (simp; omega) | omega)) ?_)
        rintro a138 ha140 hF139
        rw [ha140]; exact hK125 _ _ rfl (grown_refl _ _)
      · -- operation 4
        rintro a142 w141 b144 KK150 hs146 hd147 hJ148 hb149 hr155 hK145
        have hr155x : RD SL_ a142 a65 w141 [(1, none), (25, some 1)] := hr155 _ (by kernel_rfl)
        obtain ⟨q151, ⟨v153, q152, s154⟩, -⟩ := hr155x
        obtain rfl : v153 = .bool true := s154
        obtain ⟨HE, HE70⟩ := hJ148
        have hF143 : Fr 100 a142 [(1, .slice Ay ys.length cy), (25, .bool true)] := Fr.of hs146 hd147 ⟨(Fr.init hF67 q151 (by kernel_rfl)), q152, trivial⟩
        refine One.bare hF143 (by kernel_rfl) (s_pure hT (d := 28) (v := .slice Ay ys.length cy) (cs := []) (by kernel_rfl) (by kernel_rfl) trivial hF143 ?_)
        rintro a2 ha2 hF2; rw [ha2]; exact hK145 _ _ rfl (grown_refl _ _)
      · -- operation 5
        rintro a157 w156 b159 KK165 hs161 hd162 hJ163 hb164 hr170 hK160
        have hr170x : RD SL_ a157 a65 w156 [(0, none), (25, some 1)] := hr170 _ (by kernel_rfl)
        obtain ⟨q166, ⟨v168, q167, s169⟩, -⟩ := hr170x
        obtain rfl : v168 = .bool true := s169
        obtain ⟨HE, HE70⟩ := hJ163
        have hF158 : Fr 100 a157 [(0, .slice Ax xs.length cx), (25, .bool true)] := Fr.of hs161 hd162 ⟨(Fr.init hF67 q166 (by kernel_rfl)), q167, trivial⟩
        refine One.bare hF158 (by kernel_rfl) (s_pure hT (d := 29) (v := .slice Ax xs.length cx) (cs := []) (by kernel_rfl) (by kernel_rfl) trivial hF158 ?_)
        rintro a2 ha2 hF2; rw [ha2]; exact hK160 _ _ rfl (grown_refl _ _)
      · -- operation 6
        rintro a172 w171 b174 KK180 hs176 hd177 hJ178 hb179 hr190 hK175
        have hr190x : RD SL_ a172 a65 w171 [(28, some 4), (29, some 5), (25, some 1)] := hr190 _ (by kernel_rfl)
        obtain ⟨⟨v182, q181, s183⟩, ⟨v185, q184, s186⟩, ⟨v188, q187, s189⟩, -⟩ := hr190x
        obtain rfl : v182 = .slice Ay ys.length cy := s183
        obtain rfl : v185 = .slice Ax xs.length cx := s186
        obtain rfl : v188 = .bool true := s189
        obtain ⟨HE, HE70⟩ := hJ178
        have hF173 : Fr 100 a172 [(28, .slice Ay ys.length cy), (29, .slice Ax xs.length cx), (25, .bool true)] := Fr.of hs176 hd177 ⟨q181, q184, q187, trivial⟩
        have hz197 := HE.size
        have hz198 := HE70.size
        refine One.bare hF173 (by kernel_rfl) (s_call (d := 30) (f := 17) (l := [.slice Ay ys.length cy, .slice Ax xs.length cx]) (by kernel_rfl) hF173 cl17 (Add' (A := Ay) (n := ys.length) (c := cy) (x := (nv 256 ys)) (xs := ys) (A2 := Ax) (n2 := xs.length) (c2 := cx) (y := (nv 256 xs)) (ys := xs) (w := _) rfl rfl  rfl rfl (hys.ex HE) (hxs.ex HE) hbys hbxs (Nat.le_trans hlys (by decide)) (Nat.le_trans hlxs (by decide))) ?_)
        rintro a199 w194 v195 ⟨A191, c192, rfl, HX196, HO193⟩ ha201 hF200
        replace HE := HE.thenN HX196.g
        replace HE70 := HE70.thenN HX196.g
        have hcp202 := HO193.cap
        rw [ha201]; exact hK175 _ _ ⟨_, _, rfl, HO193.rd⟩ HX196.g
      · -- operation 7
        rintro a204 w203 b206 KK212 hs208 hd209 hJ210 hb211 hr222 hK207
        have hr222x : RD SL_ a204 a65 w203 [(30, some 6), (25, some 1)] := hr222 _ (by kernel_rfl)
        obtain ⟨⟨v214, q213, s215⟩, ⟨v220, q219, s221⟩, -⟩ := hr222x
        obtain ⟨A216, c217, rfl, HR218⟩ := s215
        obtain rfl : v220 = .bool true := s221
        obtain ⟨HE, HE70⟩ := hJ210
        have hF205 : Fr 100 a204 [(30, .slice A216 ((dig 256 ((nv 256 ys) + (nv 256 xs))).length) c217), (25, .bool true)] := Fr.of hs208 hd209 ⟨q213, q219, trivial⟩
        refine One.bare hF205 (by kernel_rfl) (s_str hT (d := 31) (A := A216) (m := (dig 256 ((nv 256 ys) + (nv 256 xs))).length) (xs := (dig 256 ((nv 256 ys) + (nv 256 xs)))) (by kernel_rfl) hF205 HR218 (by (first | (simp only [vs_length, vi_length]; omega) | (simp; omega) | omega)) ?_)
        rintro a223 ha225 hF224
        rw [ha225]; exact hK207 _ _ rfl (grown_refl _ _)
      · -- operation 8
        rintro a227 w226 b229 KK235 hs231 hd232 hJ233 hb234 hr245 hK230
        have hr245x : RD SL_ a227 a65 w226 [(27, some 3), (31, some 7), (25, some 1)] := hr245 _ (by kernel_rfl)
        obtain ⟨⟨v237, q236, s238⟩, ⟨v240, q239, s241⟩, ⟨v243, q242, s244⟩, -⟩ := hr245x
        obtain rfl : v237 = .string (str (dig 256 ((nv 256 xs) + (nv 256 ys)))) := s238
        obtain rfl : v240 = .string (str (dig 256 ((nv 256 ys) + (nv 256 xs)))) := s241
        obtain rfl : v243 = .bool true := s244
        obtain ⟨HE, HE70⟩ := hJ233
        have hF228 : Fr 100 a227 [(27, .string (str (dig 256 ((nv 256 xs) + (nv 256 ys))))), (31, .string (str (dig 256 ((nv 256 ys) + (nv 256 xs))))), (25, .bool true)] := Fr.of hs231 hd232 ⟨q236, q239, q242, trivial⟩
        refine One.bare hF228 (by kernel_rfl) (s_pure hT (d := 32) (v := .bool ((ByteArray.toList (str (dig 256 ((nv 256 xs) + (nv 256 ys)))) == ByteArray.toList (str (dig 256 ((nv 256 ys) + (nv 256 xs))))))) (cs := []) (by kernel_rfl) (by kernel_rfl) trivial hF228 ?_)
        have htr : ((ByteArray.toList (str (dig 256 ((nv 256 xs) + (nv 256 ys)))) == ByteArray.toList (str (dig 256 ((nv 256 ys) + (nv 256 xs)))))) = true := (str_eqT (dig_congr (Nat.add_comm _ _)))
        rintro a2 ha2 hF2; rw [ha2]; exact hK230 _ _ (congrArg Value.bool htr) (grown_refl _ _)
      · -- operation 9
        rintro a247 w246 b249 KK255 hs251 hd252 hJ253 hb254 hr262 hK250
        have hr262x : RD SL_ a247 a65 w246 [(25, some 1), (32, some 8)] := hr262 _ (by kernel_rfl)
        obtain ⟨⟨v257, q256, s258⟩, ⟨v260, q259, s261⟩, -⟩ := hr262x
        obtain rfl : v257 = .bool true := s258
        obtain rfl : v260 = .bool true := s261
        obtain ⟨HE, HE70⟩ := hJ253
        have hF248 : Fr 100 a247 [(25, .bool true), (32, .bool true)] := Fr.of hs251 hd252 ⟨q256, q259, trivial⟩
        refine s_pure hT (d := 33) (v := .bool true) (cs := []) (by kernel_rfl) (by kernel_rfl) trivial hF248 ?_
        rintro a2 ha2 hF2; rw [ha2]; exact hK250 _ _ rfl (grown_refl _ _)
      · -- operation 10
        rintro a264 w263 b266 KK272 hs268 hd269 hJ270 hb271 hr276 hK267
        have hr276x : RD SL_ a264 a65 w263 [(33, some 9)] := hr276 _ (by kernel_rfl)
        obtain ⟨⟨v274, q273, s275⟩, -⟩ := hr276x
        obtain rfl : v274 = .bool true := s275
        obtain ⟨HE, HE70⟩ := hJ270
        have hF265 : Fr 100 a264 [(33, .bool true)] := Fr.of hs268 hd269 ⟨q273, trivial⟩
        refine s_pure hT (d := 34) (v := .bool true) (cs := []) (by kernel_rfl) (by kernel_rfl) trivial hF265 ?_
        rintro a2 ha2 hF2; rw [ha2]; exact hK267 _ _ rfl (grown_refl _ _)
      · -- operation 11
        rintro a278 w277 b280 KK286 hs282 hd283 hJ284 hb285 hr291 hK281
        have hr291x : RD SL_ a278 a65 w277 [(8, none), (34, some 10)] := hr291 _ (by kernel_rfl)
        obtain ⟨q287, ⟨v289, q288, s290⟩, -⟩ := hr291x
        obtain rfl : v289 = .bool true := s290
        obtain ⟨HE, HE70⟩ := hJ284
        have hF279 : Fr 100 a278 [(8, .slice A53 ((dig 256 ((nv 256 xs) * (nv 256 ys))).length) c54), (34, .bool true)] := Fr.of hs282 hd283 ⟨(Fr.init hF67 q287 (by kernel_rfl)), q288, trivial⟩
        refine One.bare hF279 (by kernel_rfl) (s_pure hT (d := 35) (v := .slice A53 ((dig 256 ((nv 256 xs) * (nv 256 ys))).length) c54) (cs := []) (by kernel_rfl) (by kernel_rfl) trivial hF279 ?_)
        rintro a2 ha2 hF2; rw [ha2]; exact hK281 _ _ rfl (grown_refl _ _)
      · -- operation 12
        rintro a293 w292 b295 KK301 hs297 hd298 hJ299 hb300 hr308 hK296
        have hr308x : RD SL_ a293 a65 w292 [(35, some 11), (34, some 10)] := hr308 _ (by kernel_rfl)
        obtain ⟨⟨v303, q302, s304⟩, ⟨v306, q305, s307⟩, -⟩ := hr308x
        obtain rfl : v303 = .slice A53 ((dig 256 ((nv 256 xs) * (nv 256 ys))).length) c54 := s304
        obtain rfl : v306 = .bool true := s307
        obtain ⟨HE, HE70⟩ := hJ299
        have hF294 : Fr 100 a293 [(35, .slice A53 ((dig 256 ((nv 256 xs) * (nv 256 ys))).length) c54), (34, .bool true)] := Fr.of hs297 hd298 ⟨q302, q305, trivial⟩
        refine One.bare hF294 (by kernel_rfl) (s_str hT (d := 36) (A := A53) (m := (dig 256 ((nv 256 xs) * (nv 256 ys))).length) (xs := (dig 256 ((nv 256 xs) * (nv 256 ys)))) (by kernel_rfl) hF294 (HR72.ex HE70) (by (first | (simp only [vs_length, vi_length]; omega) | (simp; omega) | omega)) ?_)
        rintro a309 ha311 hF310
        rw [ha311]; exact hK296 _ _ rfl (grown_refl _ _)
      · -- operation 13
        rintro a313 w312 b315 KK321 hs317 hd318 hJ319 hb320 hr326 hK316
        have hr326x : RD SL_ a313 a65 w312 [(1, none), (34, some 10)] := hr326 _ (by kernel_rfl)
        obtain ⟨q322, ⟨v324, q323, s325⟩, -⟩ := hr326x
        obtain rfl : v324 = .bool true := s325
        obtain ⟨HE, HE70⟩ := hJ319
        have hF314 : Fr 100 a313 [(1, .slice Ay ys.length cy), (34, .bool true)] := Fr.of hs317 hd318 ⟨(Fr.init hF67 q322 (by kernel_rfl)), q323, trivial⟩
        refine One.bare hF314 (by kernel_rfl) (s_pure hT (d := 37) (v := .slice Ay ys.length cy) (cs := []) (by kernel_rfl) (by kernel_rfl) trivial hF314 ?_)
        rintro a2 ha2 hF2; rw [ha2]; exact hK316 _ _ rfl (grown_refl _ _)
      · -- operation 14
        rintro a328 w327 b330 KK336 hs332 hd333 hJ334 hb335 hr341 hK331
        have hr341x : RD SL_ a328 a65 w327 [(0, none), (34, some 10)] := hr341 _ (by kernel_rfl)
        obtain ⟨q337, ⟨v339, q338, s340⟩, -⟩ := hr341x
        obtain rfl : v339 = .bool true := s340
        obtain ⟨HE, HE70⟩ := hJ334
        have hF329 : Fr 100 a328 [(0, .slice Ax xs.length cx), (34, .bool true)] := Fr.of hs332 hd333 ⟨(Fr.init hF67 q337 (by kernel_rfl)), q338, trivial⟩
        refine One.bare hF329 (by kernel_rfl) (s_pure hT (d := 38) (v := .slice Ax xs.length cx) (cs := []) (by kernel_rfl) (by kernel_rfl) trivial hF329 ?_)
        rintro a2 ha2 hF2; rw [ha2]; exact hK331 _ _ rfl (grown_refl _ _)
      · -- operation 15
        rintro a343 w342 b345 KK351 hs347 hd348 hJ349 hb350 hr361 hK346
        have hr361x : RD SL_ a343 a65 w342 [(37, some 13), (38, some 14), (34, some 10)] := hr361 _ (by kernel_rfl)
        obtain ⟨⟨v353, q352, s354⟩, ⟨v356, q355, s357⟩, ⟨v359, q358, s360⟩, -⟩ := hr361x
        obtain rfl : v353 = .slice Ay ys.length cy := s354
        obtain rfl : v356 = .slice Ax xs.length cx := s357
        obtain rfl : v359 = .bool true := s360
        obtain ⟨HE, HE70⟩ := hJ349
        have hF344 : Fr 100 a343 [(37, .slice Ay ys.length cy), (38, .slice Ax xs.length cx), (34, .bool true)] := Fr.of hs347 hd348 ⟨q352, q355, q358, trivial⟩
        have hz368 := HE.size
        have hz369 := HE70.size
        refine One.bare hF344 (by kernel_rfl) (s_call (d := 39) (f := 18) (l := [.slice Ay ys.length cy, .slice Ax xs.length cx]) (by kernel_rfl) hF344 cl18 (Mul' (A := Ay) (n := ys.length) (c := cy) (x := (nv 256 ys)) (xs := ys) (A2 := Ax) (n2 := xs.length) (c2 := cx) (y := (nv 256 xs)) (ys := xs) (w := _) rfl rfl  rfl rfl (hys.ex HE) (hxs.ex HE) hbys hbxs (Nat.le_trans hlys (by decide)) (Nat.le_trans hlxs (by decide))) ?_)
        rintro a370 w365 v366 ⟨A362, c363, rfl, HX367, HO364⟩ ha372 hF371
        replace HE := HE.thenN HX367.g
        replace HE70 := HE70.thenN HX367.g
        have hcp373 := HO364.cap
        rw [ha372]; exact hK346 _ _ ⟨_, _, rfl, HO364.rd⟩ HX367.g
      · -- operation 16
        rintro a375 w374 b377 KK383 hs379 hd380 hJ381 hb382 hr393 hK378
        have hr393x : RD SL_ a375 a65 w374 [(39, some 15), (34, some 10)] := hr393 _ (by kernel_rfl)
        obtain ⟨⟨v385, q384, s386⟩, ⟨v391, q390, s392⟩, -⟩ := hr393x
        obtain ⟨A387, c388, rfl, HR389⟩ := s386
        obtain rfl : v391 = .bool true := s392
        obtain ⟨HE, HE70⟩ := hJ381
        have hF376 : Fr 100 a375 [(39, .slice A387 ((dig 256 ((nv 256 ys) * (nv 256 xs))).length) c388), (34, .bool true)] := Fr.of hs379 hd380 ⟨q384, q390, trivial⟩
        refine One.bare hF376 (by kernel_rfl) (s_str hT (d := 40) (A := A387) (m := (dig 256 ((nv 256 ys) * (nv 256 xs))).length) (xs := (dig 256 ((nv 256 ys) * (nv 256 xs)))) (by kernel_rfl) hF376 HR389 (by (first | (simp only [vs_length, vi_length]; omega) | (simp; omega) | omega)) ?_)
        rintro a394 ha396 hF395
        rw [ha396]; exact hK378 _ _ rfl (grown_refl _ _)
      · -- operation 17
        rintro a398 w397 b400 KK406 hs402 hd403 hJ404 hb405 hr416 hK401
        have hr416x : RD SL_ a398 a65 w397 [(36, some 12), (40, some 16), (34, some 10)] := hr416 _ (by kernel_rfl)
        obtain ⟨⟨v408, q407, s409⟩, ⟨v411, q410, s412⟩, ⟨v414, q413, s415⟩, -⟩ := hr416x
        obtain rfl : v408 = .string (str (dig 256 ((nv 256 xs) * (nv 256 ys)))) := s409
        obtain rfl : v411 = .string (str (dig 256 ((nv 256 ys) * (nv 256 xs)))) := s412
        obtain rfl : v414 = .bool true := s415
        obtain ⟨HE, HE70⟩ := hJ404
        have hF399 : Fr 100 a398 [(36, .string (str (dig 256 ((nv 256 xs) * (nv 256 ys))))), (40, .string (str (dig 256 ((nv 256 ys) * (nv 256 xs))))), (34, .bool true)] := Fr.of hs402 hd403 ⟨q407, q410, q413, trivial⟩
        refine One.bare hF399 (by kernel_rfl) (s_pure hT (d := 41) (v := .bool ((ByteArray.toList (str (dig 256 ((nv 256 xs) * (nv 256 ys)))) == ByteArray.toList (str (dig 256 ((nv 256 ys) * (nv 256 xs))))))) (cs := []) (by kernel_rfl) (by kernel_rfl) trivial hF399 ?_)
        have htr : ((ByteArray.toList (str (dig 256 ((nv 256 xs) * (nv 256 ys)))) == ByteArray.toList (str (dig 256 ((nv 256 ys) * (nv 256 xs)))))) = true := (str_eqT (dig_congr (Nat.mul_comm _ _)))
        rintro a2 ha2 hF2; rw [ha2]; exact hK401 _ _ (congrArg Value.bool htr) (grown_refl _ _)
      · -- operation 18
        rintro a418 w417 b420 KK426 hs422 hd423 hJ424 hb425 hr433 hK421
        have hr433x : RD SL_ a418 a65 w417 [(34, some 10), (41, some 17)] := hr433 _ (by kernel_rfl)
        obtain ⟨⟨v428, q427, s429⟩, ⟨v431, q430, s432⟩, -⟩ := hr433x
        obtain rfl : v428 = .bool true := s429
        obtain rfl : v431 = .bool true := s432
        obtain ⟨HE, HE70⟩ := hJ424
        have hF419 : Fr 100 a418 [(34, .bool true), (41, .bool true)] := Fr.of hs422 hd423 ⟨q427, q430, trivial⟩
        refine s_pure hT (d := 42) (v := .bool true) (cs := []) (by kernel_rfl) (by kernel_rfl) trivial hF419 ?_
        rintro a2 ha2 hF2; rw [ha2]; exact hK421 _ _ rfl (grown_refl _ _)
      · -- operation 19
        rintro a435 w434 b437 KK443 hs439 hd440 hJ441 hb442 hr447 hK438
        have hr447x : RD SL_ a435 a65 w434 [(42, some 18)] := hr447 _ (by kernel_rfl)
        obtain ⟨⟨v445, q444, s446⟩, -⟩ := hr447x
        obtain rfl : v445 = .bool true := s446
        obtain ⟨HE, HE70⟩ := hJ441
        have hF436 : Fr 100 a435 [(42, .bool true)] := Fr.of hs439 hd440 ⟨q444, trivial⟩
        refine s_pure hT (d := 43) (v := .bool true) (cs := []) (by kernel_rfl) (by kernel_rfl) trivial hF436 ?_
        rintro a2 ha2 hF2; rw [ha2]; exact hK438 _ _ rfl (grown_refl _ _)
      · -- operation 20
        rintro a449 w448 b451 KK457 hs453 hd454 hJ455 hb456 hr462 hK452
        have hr462x : RD SL_ a449 a65 w448 [(7, none), (43, some 19)] := hr462 _ (by kernel_rfl)
        obtain ⟨q458, ⟨v460, q459, s461⟩, -⟩ := hr462x
        obtain rfl : v460 = .bool true := s461
        obtain ⟨HE, HE70⟩ := hJ455
        have hF450 : Fr 100 a449 [(7, .slice A35 ((dig 256 ((nv 256 xs) + (nv 256 ys))).length) c36), (43, .bool true)] := Fr.of hs453 hd454 ⟨(Fr.init hF67 q458 (by kernel_rfl)), q459, trivial⟩
        refine One.bare hF450 (by kernel_rfl) (s_pure hT (d := 44) (v := .slice A35 ((dig 256 ((nv 256 xs) + (nv 256 ys))).length) c36) (cs := []) (by kernel_rfl) (by kernel_rfl) trivial hF450 ?_)
        rintro a2 ha2 hF2; rw [ha2]; exact hK452 _ _ rfl (grown_refl _ _)
      · -- operation 21
        rintro a464 w463 b466 KK472 hs468 hd469 hJ470 hb471 hr477 hK467
        have hr477x : RD SL_ a464 a65 w463 [(2, none), (43, some 19)] := hr477 _ (by kernel_rfl)
        obtain ⟨q473, ⟨v475, q474, s476⟩, -⟩ := hr477x
        obtain rfl : v475 = .bool true := s476
        obtain ⟨HE, HE70⟩ := hJ470
        have hF465 : Fr 100 a464 [(2, .slice Az zs.length cz), (43, .bool true)] := Fr.of hs468 hd469 ⟨(Fr.init hF67 q473 (by kernel_rfl)), q474, trivial⟩
        refine One.bare hF465 (by kernel_rfl) (s_pure hT (d := 45) (v := .slice Az zs.length cz) (cs := []) (by kernel_rfl) (by kernel_rfl) trivial hF465 ?_)
        rintro a2 ha2 hF2; rw [ha2]; exact hK467 _ _ rfl (grown_refl _ _)
      · -- operation 22
        rintro a479 w478 b481 KK487 hs483 hd484 hJ485 hb486 hr497 hK482
        have hr497x : RD SL_ a479 a65 w478 [(44, some 20), (45, some 21), (43, some 19)] := hr497 _ (by kernel_rfl)
        obtain ⟨⟨v489, q488, s490⟩, ⟨v492, q491, s493⟩, ⟨v495, q494, s496⟩, -⟩ := hr497x
        obtain rfl : v489 = .slice A35 ((dig 256 ((nv 256 xs) + (nv 256 ys))).length) c36 := s490
        obtain rfl : v492 = .slice Az zs.length cz := s493
        obtain rfl : v495 = .bool true := s496
        obtain ⟨HE, HE70⟩ := hJ485
        have hF480 : Fr 100 a479 [(44, .slice A35 ((dig 256 ((nv 256 xs) + (nv 256 ys))).length) c36), (45, .slice Az zs.length cz), (43, .bool true)] := Fr.of hs483 hd484 ⟨q488, q491, q494, trivial⟩
        have hz504 := HE.size
        have hz505 := HE70.size
        refine One.bare hF480 (by kernel_rfl) (s_call (d := 46) (f := 17) (l := [.slice A35 ((dig 256 ((nv 256 xs) + (nv 256 ys))).length) c36, .slice Az zs.length cz]) (by kernel_rfl) hF480 cl17 (Add' (A := A35) (n := ((dig 256 ((nv 256 xs) + (nv 256 ys))).length)) (c := c36) (x := ((nv 256 xs) + (nv 256 ys))) (xs := (dig 256 ((nv 256 xs) + (nv 256 ys)))) (A2 := Az) (n2 := zs.length) (c2 := cz) (y := (nv 256 zs)) (ys := zs) (w := _) (nvd _) rfl  rfl rfl (HR71.ex HE70) (hzs.ex HE) (by_dig _) hbzs (Nat.le_trans (dlen (add_lt (m := 120) (nlen hbxs hlxs) (nlen hbys hlys) (by decide) (by decide))) (by decide)) (Nat.le_trans hlzs (by decide))) ?_)
        rintro a506 w501 v502 ⟨A498, c499, rfl, HX503, HO500⟩ ha508 hF507
        replace HE := HE.thenN HX503.g
        replace HE70 := HE70.thenN HX503.g
        have hcp509 := HO500.cap
        rw [ha508]; exact hK482 _ _ ⟨_, _, rfl, HO500.rd⟩ HX503.g
      · -- operation 23
        rintro a511 w510 b513 KK519 hs515 hd516 hJ517 hb518 hr529 hK514
        have hr529x : RD SL_ a511 a65 w510 [(46, some 22), (43, some 19)] := hr529 _ (by kernel_rfl)
        obtain ⟨⟨v521, q520, s522⟩, ⟨v527, q526, s528⟩, -⟩ := hr529x
        obtain ⟨A523, c524, rfl, HR525⟩ := s522
        obtain rfl : v527 = .bool true := s528
        obtain ⟨HE, HE70⟩ := hJ517
        have hF512 : Fr 100 a511 [(46, .slice A523 ((dig 256 (((nv 256 xs) + (nv 256 ys)) + (nv 256 zs))).length) c524), (43, .bool true)] := Fr.of hs515 hd516 ⟨q520, q526, trivial⟩
        refine One.bare hF512 (by kernel_rfl) (s_str hT (d := 47) (A := A523) (m := (dig 256 (((nv 256 xs) + (nv 256 ys)) + (nv 256 zs))).length) (xs := (dig 256 (((nv 256 xs) + (nv 256 ys)) + (nv 256 zs)))) (by kernel_rfl) hF512 HR525 (by (first | (simp only [vs_length, vi_length]; omega) | (simp; omega) | omega)) ?_)
        rintro a530 ha532 hF531
        rw [ha532]; exact hK514 _ _ rfl (grown_refl _ _)
      · -- operation 24
        rintro a534 w533 b536 KK542 hs538 hd539 hJ540 hb541 hr547 hK537
        have hr547x : RD SL_ a534 a65 w533 [(0, none), (43, some 19)] := hr547 _ (by kernel_rfl)
        obtain ⟨q543, ⟨v545, q544, s546⟩, -⟩ := hr547x
        obtain rfl : v545 = .bool true := s546
        obtain ⟨HE, HE70⟩ := hJ540
        have hF535 : Fr 100 a534 [(0, .slice Ax xs.length cx), (43, .bool true)] := Fr.of hs538 hd539 ⟨(Fr.init hF67 q543 (by kernel_rfl)), q544, trivial⟩
        refine One.bare hF535 (by kernel_rfl) (s_pure hT (d := 48) (v := .slice Ax xs.length cx) (cs := []) (by kernel_rfl) (by kernel_rfl) trivial hF535 ?_)
        rintro a2 ha2 hF2; rw [ha2]; exact hK537 _ _ rfl (grown_refl _ _)
      · -- operation 25
        rintro a549 w548 b551 KK557 hs553 hd554 hJ555 hb556 hr562 hK552
        have hr562x : RD SL_ a549 a65 w548 [(1, none), (43, some 19)] := hr562 _ (by kernel_rfl)
        obtain ⟨q558, ⟨v560, q559, s561⟩, -⟩ := hr562x
        obtain rfl : v560 = .bool true := s561
        obtain ⟨HE, HE70⟩ := hJ555
        have hF550 : Fr 100 a549 [(1, .slice Ay ys.length cy), (43, .bool true)] := Fr.of hs553 hd554 ⟨(Fr.init hF67 q558 (by kernel_rfl)), q559, trivial⟩
        refine One.bare hF550 (by kernel_rfl) (s_pure hT (d := 49) (v := .slice Ay ys.length cy) (cs := []) (by kernel_rfl) (by kernel_rfl) trivial hF550 ?_)
        rintro a2 ha2 hF2; rw [ha2]; exact hK552 _ _ rfl (grown_refl _ _)
      · -- operation 26
        rintro a564 w563 b566 KK572 hs568 hd569 hJ570 hb571 hr577 hK567
        have hr577x : RD SL_ a564 a65 w563 [(2, none), (43, some 19)] := hr577 _ (by kernel_rfl)
        obtain ⟨q573, ⟨v575, q574, s576⟩, -⟩ := hr577x
        obtain rfl : v575 = .bool true := s576
        obtain ⟨HE, HE70⟩ := hJ570
        have hF565 : Fr 100 a564 [(2, .slice Az zs.length cz), (43, .bool true)] := Fr.of hs568 hd569 ⟨(Fr.init hF67 q573 (by kernel_rfl)), q574, trivial⟩
        refine One.bare hF565 (by kernel_rfl) (s_pure hT (d := 50) (v := .slice Az zs.length cz) (cs := []) (by kernel_rfl) (by kernel_rfl) trivial hF565 ?_)
        rintro a2 ha2 hF2; rw [ha2]; exact hK567 _ _ rfl (grown_refl _ _)
      · -- operation 27
        rintro a579 w578 b581 KK587 hs583 hd584 hJ585 hb586 hr597 hK582
        have hr597x : RD SL_ a579 a65 w578 [(49, some 25), (50, some 26), (43, some 19)] := hr597 _ (by kernel_rfl)
        obtain ⟨⟨v589, q588, s590⟩, ⟨v592, q591, s593⟩, ⟨v595, q594, s596⟩, -⟩ := hr597x
        obtain rfl : v589 = .slice Ay ys.length cy := s590
        obtain rfl : v592 = .slice Az zs.length cz := s593
        obtain rfl : v595 = .bool true := s596
        obtain ⟨HE, HE70⟩ := hJ585
        have hF580 : Fr 100 a579 [(49, .slice Ay ys.length cy), (50, .slice Az zs.length cz), (43, .bool true)] := Fr.of hs583 hd584 ⟨q588, q591, q594, trivial⟩
        have hz604 := HE.size
        have hz605 := HE70.size
        refine One.bare hF580 (by kernel_rfl) (s_call (d := 51) (f := 17) (l := [.slice Ay ys.length cy, .slice Az zs.length cz]) (by kernel_rfl) hF580 cl17 (Add' (A := Ay) (n := ys.length) (c := cy) (x := (nv 256 ys)) (xs := ys) (A2 := Az) (n2 := zs.length) (c2 := cz) (y := (nv 256 zs)) (ys := zs) (w := _) rfl rfl  rfl rfl (hys.ex HE) (hzs.ex HE) hbys hbzs (Nat.le_trans hlys (by decide)) (Nat.le_trans hlzs (by decide))) ?_)
        rintro a606 w601 v602 ⟨A598, c599, rfl, HX603, HO600⟩ ha608 hF607
        replace HE := HE.thenN HX603.g
        replace HE70 := HE70.thenN HX603.g
        have hcp609 := HO600.cap
        rw [ha608]; exact hK582 _ _ ⟨_, _, rfl, HO600.rd⟩ HX603.g
      · -- operation 28
        rintro a611 w610 b613 KK619 hs615 hd616 hJ617 hb618 hr632 hK614
        have hr632x : RD SL_ a611 a65 w610 [(48, some 24), (51, some 27), (43, some 19)] := hr632 _ (by kernel_rfl)
        obtain ⟨⟨v621, q620, s622⟩, ⟨v624, q623, s625⟩, ⟨v630, q629, s631⟩, -⟩ := hr632x
        obtain rfl : v621 = .slice Ax xs.length cx := s622
        obtain ⟨A626, c627, rfl, HR628⟩ := s625
        obtain rfl : v630 = .bool true := s631
        obtain ⟨HE, HE70⟩ := hJ617
        have hF612 : Fr 100 a611 [(48, .slice Ax xs.length cx), (51, .slice A626 ((dig 256 ((nv 256 ys) + (nv 256 zs))).length) c627), (43, .bool true)] := Fr.of hs615 hd616 ⟨q620, q623, q629, trivial⟩
        have hz639 := HE.size
        have hz640 := HE70.size
        refine One.bare hF612 (by kernel_rfl) (s_call (d := 52) (f := 17) (l := [.slice Ax xs.length cx, .slice A626 ((dig 256 ((nv 256 ys) + (nv 256 zs))).length) c627]) (by kernel_rfl) hF612 cl17 (Add' (A := Ax) (n := xs.length) (c := cx) (x := (nv 256 xs)) (xs := xs) (A2 := A626) (n2 := ((dig 256 ((nv 256 ys) + (nv 256 zs))).length)) (c2 := c627) (y := ((nv 256 ys) + (nv 256 zs))) (ys := (dig 256 ((nv 256 ys) + (nv 256 zs)))) (w := _) rfl (nvd _)  rfl rfl (hxs.ex HE) HR628 hbxs (by_dig _) (Nat.le_trans hlxs (by decide)) (Nat.le_trans (dlen (add_lt (m := 120) (nlen hbys hlys) (nlen hbzs hlzs) (by decide) (by decide))) (by decide))) ?_)
        rintro a641 w636 v637 ⟨A633, c634, rfl, HX638, HO635⟩ ha643 hF642
        replace HE := HE.thenN HX638.g
        replace HE70 := HE70.thenN HX638.g
        replace HR628 := HR628.grow HX638.g (by simp)
        have hcp644 := HO635.cap
        rw [ha643]; exact hK614 _ _ ⟨_, _, rfl, HO635.rd⟩ HX638.g
      · -- operation 29
        rintro a646 w645 b648 KK654 hs650 hd651 hJ652 hb653 hr664 hK649
        have hr664x : RD SL_ a646 a65 w645 [(52, some 28), (43, some 19)] := hr664 _ (by kernel_rfl)
        obtain ⟨⟨v656, q655, s657⟩, ⟨v662, q661, s663⟩, -⟩ := hr664x
        obtain ⟨A658, c659, rfl, HR660⟩ := s657
        obtain rfl : v662 = .bool true := s663
        obtain ⟨HE, HE70⟩ := hJ652
        have hF647 : Fr 100 a646 [(52, .slice A658 ((dig 256 ((nv 256 xs) + ((nv 256 ys) + (nv 256 zs)))).length) c659), (43, .bool true)] := Fr.of hs650 hd651 ⟨q655, q661, trivial⟩
        refine One.bare hF647 (by kernel_rfl) (s_str hT (d := 53) (A := A658) (m := (dig 256 ((nv 256 xs) + ((nv 256 ys) + (nv 256 zs)))).length) (xs := (dig 256 ((nv 256 xs) + ((nv 256 ys) + (nv 256 zs))))) (by kernel_rfl) hF647 HR660 (by (first | (simp only [vs_length, vi_length]; omega) | (simp; omega) | omega)) ?_)
        rintro a665 ha667 hF666
        rw [ha667]; exact hK649 _ _ rfl (grown_refl _ _)
      · -- operation 30
        rintro a669 w668 b671 KK677 hs673 hd674 hJ675 hb676 hr687 hK672
        have hr687x : RD SL_ a669 a65 w668 [(47, some 23), (53, some 29), (43, some 19)] := hr687 _ (by kernel_rfl)
        obtain ⟨⟨v679, q678, s680⟩, ⟨v682, q681, s683⟩, ⟨v685, q684, s686⟩, -⟩ := hr687x
        obtain rfl : v679 = .string (str (dig 256 (((nv 256 xs) + (nv 256 ys)) + (nv 256 zs)))) := s680
        obtain rfl : v682 = .string (str (dig 256 ((nv 256 xs) + ((nv 256 ys) + (nv 256 zs))))) := s683
        obtain rfl : v685 = .bool true := s686
        obtain ⟨HE, HE70⟩ := hJ675
        have hF670 : Fr 100 a669 [(47, .string (str (dig 256 (((nv 256 xs) + (nv 256 ys)) + (nv 256 zs))))), (53, .string (str (dig 256 ((nv 256 xs) + ((nv 256 ys) + (nv 256 zs)))))), (43, .bool true)] := Fr.of hs673 hd674 ⟨q678, q681, q684, trivial⟩
        refine One.bare hF670 (by kernel_rfl) (s_pure hT (d := 54) (v := .bool ((ByteArray.toList (str (dig 256 (((nv 256 xs) + (nv 256 ys)) + (nv 256 zs)))) == ByteArray.toList (str (dig 256 ((nv 256 xs) + ((nv 256 ys) + (nv 256 zs)))))))) (cs := []) (by kernel_rfl) (by kernel_rfl) trivial hF670 ?_)
        have htr : ((ByteArray.toList (str (dig 256 (((nv 256 xs) + (nv 256 ys)) + (nv 256 zs)))) == ByteArray.toList (str (dig 256 ((nv 256 xs) + ((nv 256 ys) + (nv 256 zs))))))) = true := (str_eqT (dig_congr (Nat.add_assoc _ _ _)))
        rintro a2 ha2 hF2; rw [ha2]; exact hK672 _ _ (congrArg Value.bool htr) (grown_refl _ _)
      · -- operation 31
        rintro a689 w688 b691 KK697 hs693 hd694 hJ695 hb696 hr704 hK692
        have hr704x : RD SL_ a689 a65 w688 [(43, some 19), (54, some 30)] := hr704 _ (by kernel_rfl)
        obtain ⟨⟨v699, q698, s700⟩, ⟨v702, q701, s703⟩, -⟩ := hr704x
        obtain rfl : v699 = .bool true := s700
        obtain rfl : v702 = .bool true := s703
        obtain ⟨HE, HE70⟩ := hJ695
        have hF690 : Fr 100 a689 [(43, .bool true), (54, .bool true)] := Fr.of hs693 hd694 ⟨q698, q701, trivial⟩
        refine s_pure hT (d := 55) (v := .bool true) (cs := []) (by kernel_rfl) (by kernel_rfl) trivial hF690 ?_
        rintro a2 ha2 hF2; rw [ha2]; exact hK692 _ _ rfl (grown_refl _ _)
      · -- operation 32
        rintro a706 w705 b708 KK714 hs710 hd711 hJ712 hb713 hr718 hK709
        have hr718x : RD SL_ a706 a65 w705 [(55, some 31)] := hr718 _ (by kernel_rfl)
        obtain ⟨⟨v716, q715, s717⟩, -⟩ := hr718x
        obtain rfl : v716 = .bool true := s717
        obtain ⟨HE, HE70⟩ := hJ712
        have hF707 : Fr 100 a706 [(55, .bool true)] := Fr.of hs710 hd711 ⟨q715, trivial⟩
        refine s_pure hT (d := 56) (v := .bool true) (cs := []) (by kernel_rfl) (by kernel_rfl) trivial hF707 ?_
        rintro a2 ha2 hF2; rw [ha2]; exact hK709 _ _ rfl (grown_refl _ _)
      · -- operation 33
        rintro a720 w719 b722 KK728 hs724 hd725 hJ726 hb727 hr733 hK723
        have hr733x : RD SL_ a720 a65 w719 [(8, none), (56, some 32)] := hr733 _ (by kernel_rfl)
        obtain ⟨q729, ⟨v731, q730, s732⟩, -⟩ := hr733x
        obtain rfl : v731 = .bool true := s732
        obtain ⟨HE, HE70⟩ := hJ726
        have hF721 : Fr 100 a720 [(8, .slice A53 ((dig 256 ((nv 256 xs) * (nv 256 ys))).length) c54), (56, .bool true)] := Fr.of hs724 hd725 ⟨(Fr.init hF67 q729 (by kernel_rfl)), q730, trivial⟩
        refine One.bare hF721 (by kernel_rfl) (s_pure hT (d := 57) (v := .slice A53 ((dig 256 ((nv 256 xs) * (nv 256 ys))).length) c54) (cs := []) (by kernel_rfl) (by kernel_rfl) trivial hF721 ?_)
        rintro a2 ha2 hF2; rw [ha2]; exact hK723 _ _ rfl (grown_refl _ _)
      · -- operation 34
        rintro a735 w734 b737 KK743 hs739 hd740 hJ741 hb742 hr748 hK738
        have hr748x : RD SL_ a735 a65 w734 [(2, none), (56, some 32)] := hr748 _ (by kernel_rfl)
        obtain ⟨q744, ⟨v746, q745, s747⟩, -⟩ := hr748x
        obtain rfl : v746 = .bool true := s747
        obtain ⟨HE, HE70⟩ := hJ741
        have hF736 : Fr 100 a735 [(2, .slice Az zs.length cz), (56, .bool true)] := Fr.of hs739 hd740 ⟨(Fr.init hF67 q744 (by kernel_rfl)), q745, trivial⟩
        refine One.bare hF736 (by kernel_rfl) (s_pure hT (d := 58) (v := .slice Az zs.length cz) (cs := []) (by kernel_rfl) (by kernel_rfl) trivial hF736 ?_)
        rintro a2 ha2 hF2; rw [ha2]; exact hK738 _ _ rfl (grown_refl _ _)
      · -- operation 35
        rintro a750 w749 b752 KK758 hs754 hd755 hJ756 hb757 hr768 hK753
        have hr768x : RD SL_ a750 a65 w749 [(57, some 33), (58, some 34), (56, some 32)] := hr768 _ (by kernel_rfl)
        obtain ⟨⟨v760, q759, s761⟩, ⟨v763, q762, s764⟩, ⟨v766, q765, s767⟩, -⟩ := hr768x
        obtain rfl : v760 = .slice A53 ((dig 256 ((nv 256 xs) * (nv 256 ys))).length) c54 := s761
        obtain rfl : v763 = .slice Az zs.length cz := s764
        obtain rfl : v766 = .bool true := s767
        obtain ⟨HE, HE70⟩ := hJ756
        have hF751 : Fr 100 a750 [(57, .slice A53 ((dig 256 ((nv 256 xs) * (nv 256 ys))).length) c54), (58, .slice Az zs.length cz), (56, .bool true)] := Fr.of hs754 hd755 ⟨q759, q762, q765, trivial⟩
        have hz775 := HE.size
        have hz776 := HE70.size
        refine One.bare hF751 (by kernel_rfl) (s_call (d := 59) (f := 18) (l := [.slice A53 ((dig 256 ((nv 256 xs) * (nv 256 ys))).length) c54, .slice Az zs.length cz]) (by kernel_rfl) hF751 cl18 (Mul' (A := A53) (n := ((dig 256 ((nv 256 xs) * (nv 256 ys))).length)) (c := c54) (x := ((nv 256 xs) * (nv 256 ys))) (xs := (dig 256 ((nv 256 xs) * (nv 256 ys)))) (A2 := Az) (n2 := zs.length) (c2 := cz) (y := (nv 256 zs)) (ys := zs) (w := _) (nvd _) rfl  rfl rfl (HR72.ex HE70) (hzs.ex HE) (by_dig _) hbzs (Nat.le_trans (dlen (mul_lt (nlen hbxs hlxs) (nlen hbys hlys))) (by decide)) (Nat.le_trans hlzs (by decide))) ?_)
        rintro a777 w772 v773 ⟨A769, c770, rfl, HX774, HO771⟩ ha779 hF778
        replace HE := HE.thenN HX774.g
        replace HE70 := HE70.thenN HX774.g
        have hcp780 := HO771.cap
        rw [ha779]; exact hK753 _ _ ⟨_, _, rfl, HO771.rd⟩ HX774.g
      · -- operation 36
        rintro a782 w781 b784 KK790 hs786 hd787 hJ788 hb789 hr800 hK785
        have hr800x : RD SL_ a782 a65 w781 [(59, some 35), (56, some 32)] := hr800 _ (by kernel_rfl)
        obtain ⟨⟨v792, q791, s793⟩, ⟨v798, q797, s799⟩, -⟩ := hr800x
        obtain ⟨A794, c795, rfl, HR796⟩ := s793
        obtain rfl : v798 = .bool true := s799
        obtain ⟨HE, HE70⟩ := hJ788
        have hF783 : Fr 100 a782 [(59, .slice A794 ((dig 256 (((nv 256 xs) * (nv 256 ys)) * (nv 256 zs))).length) c795), (56, .bool true)] := Fr.of hs786 hd787 ⟨q791, q797, trivial⟩
        refine One.bare hF783 (by kernel_rfl) (s_str hT (d := 60) (A := A794) (m := (dig 256 (((nv 256 xs) * (nv 256 ys)) * (nv 256 zs))).length) (xs := (dig 256 (((nv 256 xs) * (nv 256 ys)) * (nv 256 zs)))) (by kernel_rfl) hF783 HR796 (by (first | (simp only [vs_length, vi_length]; omega) | (simp; omega) | omega)) ?_)
        rintro a801 ha803 hF802
        rw [ha803]; exact hK785 _ _ rfl (grown_refl _ _)
      · -- operation 37
        rintro a805 w804 b807 KK813 hs809 hd810 hJ811 hb812 hr818 hK808
        have hr818x : RD SL_ a805 a65 w804 [(0, none), (56, some 32)] := hr818 _ (by kernel_rfl)
        obtain ⟨q814, ⟨v816, q815, s817⟩, -⟩ := hr818x
        obtain rfl : v816 = .bool true := s817
        obtain ⟨HE, HE70⟩ := hJ811
        have hF806 : Fr 100 a805 [(0, .slice Ax xs.length cx), (56, .bool true)] := Fr.of hs809 hd810 ⟨(Fr.init hF67 q814 (by kernel_rfl)), q815, trivial⟩
        refine One.bare hF806 (by kernel_rfl) (s_pure hT (d := 61) (v := .slice Ax xs.length cx) (cs := []) (by kernel_rfl) (by kernel_rfl) trivial hF806 ?_)
        rintro a2 ha2 hF2; rw [ha2]; exact hK808 _ _ rfl (grown_refl _ _)
      · -- operation 38
        rintro a820 w819 b822 KK828 hs824 hd825 hJ826 hb827 hr833 hK823
        have hr833x : RD SL_ a820 a65 w819 [(1, none), (56, some 32)] := hr833 _ (by kernel_rfl)
        obtain ⟨q829, ⟨v831, q830, s832⟩, -⟩ := hr833x
        obtain rfl : v831 = .bool true := s832
        obtain ⟨HE, HE70⟩ := hJ826
        have hF821 : Fr 100 a820 [(1, .slice Ay ys.length cy), (56, .bool true)] := Fr.of hs824 hd825 ⟨(Fr.init hF67 q829 (by kernel_rfl)), q830, trivial⟩
        refine One.bare hF821 (by kernel_rfl) (s_pure hT (d := 62) (v := .slice Ay ys.length cy) (cs := []) (by kernel_rfl) (by kernel_rfl) trivial hF821 ?_)
        rintro a2 ha2 hF2; rw [ha2]; exact hK823 _ _ rfl (grown_refl _ _)
      · -- operation 39
        rintro a835 w834 b837 KK843 hs839 hd840 hJ841 hb842 hr848 hK838
        have hr848x : RD SL_ a835 a65 w834 [(2, none), (56, some 32)] := hr848 _ (by kernel_rfl)
        obtain ⟨q844, ⟨v846, q845, s847⟩, -⟩ := hr848x
        obtain rfl : v846 = .bool true := s847
        obtain ⟨HE, HE70⟩ := hJ841
        have hF836 : Fr 100 a835 [(2, .slice Az zs.length cz), (56, .bool true)] := Fr.of hs839 hd840 ⟨(Fr.init hF67 q844 (by kernel_rfl)), q845, trivial⟩
        refine One.bare hF836 (by kernel_rfl) (s_pure hT (d := 63) (v := .slice Az zs.length cz) (cs := []) (by kernel_rfl) (by kernel_rfl) trivial hF836 ?_)
        rintro a2 ha2 hF2; rw [ha2]; exact hK838 _ _ rfl (grown_refl _ _)
      · -- operation 40
        rintro a850 w849 b852 KK858 hs854 hd855 hJ856 hb857 hr868 hK853
        have hr868x : RD SL_ a850 a65 w849 [(62, some 38), (63, some 39), (56, some 32)] := hr868 _ (by kernel_rfl)
        obtain ⟨⟨v860, q859, s861⟩, ⟨v863, q862, s864⟩, ⟨v866, q865, s867⟩, -⟩ := hr868x
        obtain rfl : v860 = .slice Ay ys.length cy := s861
        obtain rfl : v863 = .slice Az zs.length cz := s864
        obtain rfl : v866 = .bool true := s867
        obtain ⟨HE, HE70⟩ := hJ856
        have hF851 : Fr 100 a850 [(62, .slice Ay ys.length cy), (63, .slice Az zs.length cz), (56, .bool true)] := Fr.of hs854 hd855 ⟨q859, q862, q865, trivial⟩
        have hz875 := HE.size
        have hz876 := HE70.size
        refine One.bare hF851 (by kernel_rfl) (s_call (d := 64) (f := 18) (l := [.slice Ay ys.length cy, .slice Az zs.length cz]) (by kernel_rfl) hF851 cl18 (Mul' (A := Ay) (n := ys.length) (c := cy) (x := (nv 256 ys)) (xs := ys) (A2 := Az) (n2 := zs.length) (c2 := cz) (y := (nv 256 zs)) (ys := zs) (w := _) rfl rfl  rfl rfl (hys.ex HE) (hzs.ex HE) hbys hbzs (Nat.le_trans hlys (by decide)) (Nat.le_trans hlzs (by decide))) ?_)
        rintro a877 w872 v873 ⟨A869, c870, rfl, HX874, HO871⟩ ha879 hF878
        replace HE := HE.thenN HX874.g
        replace HE70 := HE70.thenN HX874.g
        have hcp880 := HO871.cap
        rw [ha879]; exact hK853 _ _ ⟨_, _, rfl, HO871.rd⟩ HX874.g
      · -- operation 41
        rintro a882 w881 b884 KK890 hs886 hd887 hJ888 hb889 hr903 hK885
        have hr903x : RD SL_ a882 a65 w881 [(61, some 37), (64, some 40), (56, some 32)] := hr903 _ (by kernel_rfl)
        obtain ⟨⟨v892, q891, s893⟩, ⟨v895, q894, s896⟩, ⟨v901, q900, s902⟩, -⟩ := hr903x
        obtain rfl : v892 = .slice Ax xs.length cx := s893
        obtain ⟨A897, c898, rfl, HR899⟩ := s896
        obtain rfl : v901 = .bool true := s902
        obtain ⟨HE, HE70⟩ := hJ888
        have hF883 : Fr 100 a882 [(61, .slice Ax xs.length cx), (64, .slice A897 ((dig 256 ((nv 256 ys) * (nv 256 zs))).length) c898), (56, .bool true)] := Fr.of hs886 hd887 ⟨q891, q894, q900, trivial⟩
        have hz910 := HE.size
        have hz911 := HE70.size
        refine One.bare hF883 (by kernel_rfl) (s_call (d := 65) (f := 18) (l := [.slice Ax xs.length cx, .slice A897 ((dig 256 ((nv 256 ys) * (nv 256 zs))).length) c898]) (by kernel_rfl) hF883 cl18 (Mul' (A := Ax) (n := xs.length) (c := cx) (x := (nv 256 xs)) (xs := xs) (A2 := A897) (n2 := ((dig 256 ((nv 256 ys) * (nv 256 zs))).length)) (c2 := c898) (y := ((nv 256 ys) * (nv 256 zs))) (ys := (dig 256 ((nv 256 ys) * (nv 256 zs)))) (w := _) rfl (nvd _)  rfl rfl (hxs.ex HE) HR899 hbxs (by_dig _) (Nat.le_trans hlxs (by decide)) (Nat.le_trans (dlen (mul_lt (nlen hbys hlys) (nlen hbzs hlzs))) (by decide))) ?_)
        rintro a912 w907 v908 ⟨A904, c905, rfl, HX909, HO906⟩ ha914 hF913
        replace HE := HE.thenN HX909.g
        replace HE70 := HE70.thenN HX909.g
        replace HR899 := HR899.grow HX909.g (by simp)
        have hcp915 := HO906.cap
        rw [ha914]; exact hK885 _ _ ⟨_, _, rfl, HO906.rd⟩ HX909.g
      · -- operation 42
        rintro a917 w916 b919 KK925 hs921 hd922 hJ923 hb924 hr935 hK920
        have hr935x : RD SL_ a917 a65 w916 [(65, some 41), (56, some 32)] := hr935 _ (by kernel_rfl)
        obtain ⟨⟨v927, q926, s928⟩, ⟨v933, q932, s934⟩, -⟩ := hr935x
        obtain ⟨A929, c930, rfl, HR931⟩ := s928
        obtain rfl : v933 = .bool true := s934
        obtain ⟨HE, HE70⟩ := hJ923
        have hF918 : Fr 100 a917 [(65, .slice A929 ((dig 256 ((nv 256 xs) * ((nv 256 ys) * (nv 256 zs)))).length) c930), (56, .bool true)] := Fr.of hs921 hd922 ⟨q926, q932, trivial⟩
        refine One.bare hF918 (by kernel_rfl) (s_str hT (d := 66) (A := A929) (m := (dig 256 ((nv 256 xs) * ((nv 256 ys) * (nv 256 zs)))).length) (xs := (dig 256 ((nv 256 xs) * ((nv 256 ys) * (nv 256 zs))))) (by kernel_rfl) hF918 HR931 (by (first | (simp only [vs_length, vi_length]; omega) | (simp; omega) | omega)) ?_)
        rintro a936 ha938 hF937
        rw [ha938]; exact hK920 _ _ rfl (grown_refl _ _)
      · -- operation 43
        rintro a940 w939 b942 KK948 hs944 hd945 hJ946 hb947 hr958 hK943
        have hr958x : RD SL_ a940 a65 w939 [(60, some 36), (66, some 42), (56, some 32)] := hr958 _ (by kernel_rfl)
        obtain ⟨⟨v950, q949, s951⟩, ⟨v953, q952, s954⟩, ⟨v956, q955, s957⟩, -⟩ := hr958x
        obtain rfl : v950 = .string (str (dig 256 (((nv 256 xs) * (nv 256 ys)) * (nv 256 zs)))) := s951
        obtain rfl : v953 = .string (str (dig 256 ((nv 256 xs) * ((nv 256 ys) * (nv 256 zs))))) := s954
        obtain rfl : v956 = .bool true := s957
        obtain ⟨HE, HE70⟩ := hJ946
        have hF941 : Fr 100 a940 [(60, .string (str (dig 256 (((nv 256 xs) * (nv 256 ys)) * (nv 256 zs))))), (66, .string (str (dig 256 ((nv 256 xs) * ((nv 256 ys) * (nv 256 zs)))))), (56, .bool true)] := Fr.of hs944 hd945 ⟨q949, q952, q955, trivial⟩
        refine One.bare hF941 (by kernel_rfl) (s_pure hT (d := 67) (v := .bool ((ByteArray.toList (str (dig 256 (((nv 256 xs) * (nv 256 ys)) * (nv 256 zs)))) == ByteArray.toList (str (dig 256 ((nv 256 xs) * ((nv 256 ys) * (nv 256 zs)))))))) (cs := []) (by kernel_rfl) (by kernel_rfl) trivial hF941 ?_)
        have htr : ((ByteArray.toList (str (dig 256 (((nv 256 xs) * (nv 256 ys)) * (nv 256 zs)))) == ByteArray.toList (str (dig 256 ((nv 256 xs) * ((nv 256 ys) * (nv 256 zs))))))) = true := (str_eqT (dig_congr (Nat.mul_assoc _ _ _)))
        rintro a2 ha2 hF2; rw [ha2]; exact hK943 _ _ (congrArg Value.bool htr) (grown_refl _ _)
      · -- operation 44
        rintro a960 w959 b962 KK968 hs964 hd965 hJ966 hb967 hr975 hK963
        have hr975x : RD SL_ a960 a65 w959 [(56, some 32), (67, some 43)] := hr975 _ (by kernel_rfl)
        obtain ⟨⟨v970, q969, s971⟩, ⟨v973, q972, s974⟩, -⟩ := hr975x
        obtain rfl : v970 = .bool true := s971
        obtain rfl : v973 = .bool true := s974
        obtain ⟨HE, HE70⟩ := hJ966
        have hF961 : Fr 100 a960 [(56, .bool true), (67, .bool true)] := Fr.of hs964 hd965 ⟨q969, q972, trivial⟩
        refine s_pure hT (d := 68) (v := .bool true) (cs := []) (by kernel_rfl) (by kernel_rfl) trivial hF961 ?_
        rintro a2 ha2 hF2; rw [ha2]; exact hK963 _ _ rfl (grown_refl _ _)
      · -- operation 45
        rintro a977 w976 b979 KK985 hs981 hd982 hJ983 hb984 hr989 hK980
        have hr989x : RD SL_ a977 a65 w976 [(68, some 44)] := hr989 _ (by kernel_rfl)
        obtain ⟨⟨v987, q986, s988⟩, -⟩ := hr989x
        obtain rfl : v987 = .bool true := s988
        obtain ⟨HE, HE70⟩ := hJ983
        have hF978 : Fr 100 a977 [(68, .bool true)] := Fr.of hs981 hd982 ⟨q986, trivial⟩
        refine s_pure hT (d := 69) (v := .bool true) (cs := []) (by kernel_rfl) (by kernel_rfl) trivial hF978 ?_
        rintro a2 ha2 hF2; rw [ha2]; exact hK980 _ _ rfl (grown_refl _ _)
      · -- operation 46
        rintro a991 w990 b993 KK999 hs995 hd996 hJ997 hb998 hr1004 hK994
        have hr1004x : RD SL_ a991 a65 w990 [(7, none), (69, some 45)] := hr1004 _ (by kernel_rfl)
        obtain ⟨q1000, ⟨v1002, q1001, s1003⟩, -⟩ := hr1004x
        obtain rfl : v1002 = .bool true := s1003
        obtain ⟨HE, HE70⟩ := hJ997
        have hF992 : Fr 100 a991 [(7, .slice A35 ((dig 256 ((nv 256 xs) + (nv 256 ys))).length) c36), (69, .bool true)] := Fr.of hs995 hd996 ⟨(Fr.init hF67 q1000 (by kernel_rfl)), q1001, trivial⟩
        refine One.bare hF992 (by kernel_rfl) (s_pure hT (d := 70) (v := .slice A35 ((dig 256 ((nv 256 xs) + (nv 256 ys))).length) c36) (cs := []) (by kernel_rfl) (by kernel_rfl) trivial hF992 ?_)
        rintro a2 ha2 hF2; rw [ha2]; exact hK994 _ _ rfl (grown_refl _ _)
      · -- operation 47
        rintro a1006 w1005 b1008 KK1014 hs1010 hd1011 hJ1012 hb1013 hr1019 hK1009
        have hr1019x : RD SL_ a1006 a65 w1005 [(2, none), (69, some 45)] := hr1019 _ (by kernel_rfl)
        obtain ⟨q1015, ⟨v1017, q1016, s1018⟩, -⟩ := hr1019x
        obtain rfl : v1017 = .bool true := s1018
        obtain ⟨HE, HE70⟩ := hJ1012
        have hF1007 : Fr 100 a1006 [(2, .slice Az zs.length cz), (69, .bool true)] := Fr.of hs1010 hd1011 ⟨(Fr.init hF67 q1015 (by kernel_rfl)), q1016, trivial⟩
        refine One.bare hF1007 (by kernel_rfl) (s_pure hT (d := 71) (v := .slice Az zs.length cz) (cs := []) (by kernel_rfl) (by kernel_rfl) trivial hF1007 ?_)
        rintro a2 ha2 hF2; rw [ha2]; exact hK1009 _ _ rfl (grown_refl _ _)
      · -- operation 48
        rintro a1021 w1020 b1023 KK1029 hs1025 hd1026 hJ1027 hb1028 hr1039 hK1024
        have hr1039x : RD SL_ a1021 a65 w1020 [(70, some 46), (71, some 47), (69, some 45)] := hr1039 _ (by kernel_rfl)
        obtain ⟨⟨v1031, q1030, s1032⟩, ⟨v1034, q1033, s1035⟩, ⟨v1037, q1036, s1038⟩, -⟩ := hr1039x
        obtain rfl : v1031 = .slice A35 ((dig 256 ((nv 256 xs) + (nv 256 ys))).length) c36 := s1032
        obtain rfl : v1034 = .slice Az zs.length cz := s1035
        obtain rfl : v1037 = .bool true := s1038
        obtain ⟨HE, HE70⟩ := hJ1027
        have hF1022 : Fr 100 a1021 [(70, .slice A35 ((dig 256 ((nv 256 xs) + (nv 256 ys))).length) c36), (71, .slice Az zs.length cz), (69, .bool true)] := Fr.of hs1025 hd1026 ⟨q1030, q1033, q1036, trivial⟩
        have hz1046 := HE.size
        have hz1047 := HE70.size
        refine One.bare hF1022 (by kernel_rfl) (s_call (d := 72) (f := 18) (l := [.slice A35 ((dig 256 ((nv 256 xs) + (nv 256 ys))).length) c36, .slice Az zs.length cz]) (by kernel_rfl) hF1022 cl18 (Mul' (A := A35) (n := ((dig 256 ((nv 256 xs) + (nv 256 ys))).length)) (c := c36) (x := ((nv 256 xs) + (nv 256 ys))) (xs := (dig 256 ((nv 256 xs) + (nv 256 ys)))) (A2 := Az) (n2 := zs.length) (c2 := cz) (y := (nv 256 zs)) (ys := zs) (w := _) (nvd _) rfl  rfl rfl (HR71.ex HE70) (hzs.ex HE) (by_dig _) hbzs (Nat.le_trans (dlen (add_lt (m := 120) (nlen hbxs hlxs) (nlen hbys hlys) (by decide) (by decide))) (by decide)) (Nat.le_trans hlzs (by decide))) ?_)
        rintro a1048 w1043 v1044 ⟨A1040, c1041, rfl, HX1045, HO1042⟩ ha1050 hF1049
        replace HE := HE.thenN HX1045.g
        replace HE70 := HE70.thenN HX1045.g
        have hcp1051 := HO1042.cap
        rw [ha1050]; exact hK1024 _ _ ⟨_, _, rfl, HO1042.rd⟩ HX1045.g
      · -- operation 49
        rintro a1053 w1052 b1055 KK1061 hs1057 hd1058 hJ1059 hb1060 hr1071 hK1056
        have hr1071x : RD SL_ a1053 a65 w1052 [(72, some 48), (69, some 45)] := hr1071 _ (by kernel_rfl)
        obtain ⟨⟨v1063, q1062, s1064⟩, ⟨v1069, q1068, s1070⟩, -⟩ := hr1071x
        obtain ⟨A1065, c1066, rfl, HR1067⟩ := s1064
        obtain rfl : v1069 = .bool true := s1070
        obtain ⟨HE, HE70⟩ := hJ1059
        have hF1054 : Fr 100 a1053 [(72, .slice A1065 ((dig 256 (((nv 256 xs) + (nv 256 ys)) * (nv 256 zs))).length) c1066), (69, .bool true)] := Fr.of hs1057 hd1058 ⟨q1062, q1068, trivial⟩
        refine One.bare hF1054 (by kernel_rfl) (s_str hT (d := 73) (A := A1065) (m := (dig 256 (((nv 256 xs) + (nv 256 ys)) * (nv 256 zs))).length) (xs := (dig 256 (((nv 256 xs) + (nv 256 ys)) * (nv 256 zs)))) (by kernel_rfl) hF1054 HR1067 (by (first | (simp only [vs_length, vi_length]; omega) | (simp; omega) | omega)) ?_)
        rintro a1072 ha1074 hF1073
        rw [ha1074]; exact hK1056 _ _ rfl (grown_refl _ _)
      · -- operation 50
        rintro a1076 w1075 b1078 KK1084 hs1080 hd1081 hJ1082 hb1083 hr1089 hK1079
        have hr1089x : RD SL_ a1076 a65 w1075 [(0, none), (69, some 45)] := hr1089 _ (by kernel_rfl)
        obtain ⟨q1085, ⟨v1087, q1086, s1088⟩, -⟩ := hr1089x
        obtain rfl : v1087 = .bool true := s1088
        obtain ⟨HE, HE70⟩ := hJ1082
        have hF1077 : Fr 100 a1076 [(0, .slice Ax xs.length cx), (69, .bool true)] := Fr.of hs1080 hd1081 ⟨(Fr.init hF67 q1085 (by kernel_rfl)), q1086, trivial⟩
        refine One.bare hF1077 (by kernel_rfl) (s_pure hT (d := 74) (v := .slice Ax xs.length cx) (cs := []) (by kernel_rfl) (by kernel_rfl) trivial hF1077 ?_)
        rintro a2 ha2 hF2; rw [ha2]; exact hK1079 _ _ rfl (grown_refl _ _)
      · -- operation 51
        rintro a1091 w1090 b1093 KK1099 hs1095 hd1096 hJ1097 hb1098 hr1104 hK1094
        have hr1104x : RD SL_ a1091 a65 w1090 [(2, none), (69, some 45)] := hr1104 _ (by kernel_rfl)
        obtain ⟨q1100, ⟨v1102, q1101, s1103⟩, -⟩ := hr1104x
        obtain rfl : v1102 = .bool true := s1103
        obtain ⟨HE, HE70⟩ := hJ1097
        have hF1092 : Fr 100 a1091 [(2, .slice Az zs.length cz), (69, .bool true)] := Fr.of hs1095 hd1096 ⟨(Fr.init hF67 q1100 (by kernel_rfl)), q1101, trivial⟩
        refine One.bare hF1092 (by kernel_rfl) (s_pure hT (d := 75) (v := .slice Az zs.length cz) (cs := []) (by kernel_rfl) (by kernel_rfl) trivial hF1092 ?_)
        rintro a2 ha2 hF2; rw [ha2]; exact hK1094 _ _ rfl (grown_refl _ _)
      · -- operation 52
        rintro a1106 w1105 b1108 KK1114 hs1110 hd1111 hJ1112 hb1113 hr1124 hK1109
        have hr1124x : RD SL_ a1106 a65 w1105 [(74, some 50), (75, some 51), (69, some 45)] := hr1124 _ (by kernel_rfl)
        obtain ⟨⟨v1116, q1115, s1117⟩, ⟨v1119, q1118, s1120⟩, ⟨v1122, q1121, s1123⟩, -⟩ := hr1124x
        obtain rfl : v1116 = .slice Ax xs.length cx := s1117
        obtain rfl : v1119 = .slice Az zs.length cz := s1120
        obtain rfl : v1122 = .bool true := s1123
        obtain ⟨HE, HE70⟩ := hJ1112
        have hF1107 : Fr 100 a1106 [(74, .slice Ax xs.length cx), (75, .slice Az zs.length cz), (69, .bool true)] := Fr.of hs1110 hd1111 ⟨q1115, q1118, q1121, trivial⟩
        have hz1131 := HE.size
        have hz1132 := HE70.size
        refine One.bare hF1107 (by kernel_rfl) (s_call (d := 76) (f := 18) (l := [.slice Ax xs.length cx, .slice Az zs.length cz]) (by kernel_rfl) hF1107 cl18 (Mul' (A := Ax) (n := xs.length) (c := cx) (x := (nv 256 xs)) (xs := xs) (A2 := Az) (n2 := zs.length) (c2 := cz) (y := (nv 256 zs)) (ys := zs) (w := _) rfl rfl  rfl rfl (hxs.ex HE) (hzs.ex HE) hbxs hbzs (Nat.le_trans hlxs (by decide)) (Nat.le_trans hlzs (by decide))) ?_)
        rintro a1133 w1128 v1129 ⟨A1125, c1126, rfl, HX1130, HO1127⟩ ha1135 hF1134
        replace HE := HE.thenN HX1130.g
        replace HE70 := HE70.thenN HX1130.g
        have hcp1136 := HO1127.cap
        rw [ha1135]; exact hK1109 _ _ ⟨_, _, rfl, HO1127.rd⟩ HX1130.g
      · -- operation 53
        rintro a1138 w1137 b1140 KK1146 hs1142 hd1143 hJ1144 hb1145 hr1151 hK1141
        have hr1151x : RD SL_ a1138 a65 w1137 [(1, none), (69, some 45)] := hr1151 _ (by kernel_rfl)
        obtain ⟨q1147, ⟨v1149, q1148, s1150⟩, -⟩ := hr1151x
        obtain rfl : v1149 = .bool true := s1150
        obtain ⟨HE, HE70⟩ := hJ1144
        have hF1139 : Fr 100 a1138 [(1, .slice Ay ys.length cy), (69, .bool true)] := Fr.of hs1142 hd1143 ⟨(Fr.init hF67 q1147 (by kernel_rfl)), q1148, trivial⟩
        refine One.bare hF1139 (by kernel_rfl) (s_pure hT (d := 77) (v := .slice Ay ys.length cy) (cs := []) (by kernel_rfl) (by kernel_rfl) trivial hF1139 ?_)
        rintro a2 ha2 hF2; rw [ha2]; exact hK1141 _ _ rfl (grown_refl _ _)
      · -- operation 54
        rintro a1153 w1152 b1155 KK1161 hs1157 hd1158 hJ1159 hb1160 hr1166 hK1156
        have hr1166x : RD SL_ a1153 a65 w1152 [(2, none), (69, some 45)] := hr1166 _ (by kernel_rfl)
        obtain ⟨q1162, ⟨v1164, q1163, s1165⟩, -⟩ := hr1166x
        obtain rfl : v1164 = .bool true := s1165
        obtain ⟨HE, HE70⟩ := hJ1159
        have hF1154 : Fr 100 a1153 [(2, .slice Az zs.length cz), (69, .bool true)] := Fr.of hs1157 hd1158 ⟨(Fr.init hF67 q1162 (by kernel_rfl)), q1163, trivial⟩
        refine One.bare hF1154 (by kernel_rfl) (s_pure hT (d := 78) (v := .slice Az zs.length cz) (cs := []) (by kernel_rfl) (by kernel_rfl) trivial hF1154 ?_)
        rintro a2 ha2 hF2; rw [ha2]; exact hK1156 _ _ rfl (grown_refl _ _)
      · -- operation 55
        rintro a1168 w1167 b1170 KK1176 hs1172 hd1173 hJ1174 hb1175 hr1186 hK1171
        have hr1186x : RD SL_ a1168 a65 w1167 [(77, some 53), (78, some 54), (69, some 45)] := hr1186 _ (by kernel_rfl)
        obtain ⟨⟨v1178, q1177, s1179⟩, ⟨v1181, q1180, s1182⟩, ⟨v1184, q1183, s1185⟩, -⟩ := hr1186x
        obtain rfl : v1178 = .slice Ay ys.length cy := s1179
        obtain rfl : v1181 = .slice Az zs.length cz := s1182
        obtain rfl : v1184 = .bool true := s1185
        obtain ⟨HE, HE70⟩ := hJ1174
        have hF1169 : Fr 100 a1168 [(77, .slice Ay ys.length cy), (78, .slice Az zs.length cz), (69, .bool true)] := Fr.of hs1172 hd1173 ⟨q1177, q1180, q1183, trivial⟩
        have hz1193 := HE.size
        have hz1194 := HE70.size
        refine One.bare hF1169 (by kernel_rfl) (s_call (d := 79) (f := 18) (l := [.slice Ay ys.length cy, .slice Az zs.length cz]) (by kernel_rfl) hF1169 cl18 (Mul' (A := Ay) (n := ys.length) (c := cy) (x := (nv 256 ys)) (xs := ys) (A2 := Az) (n2 := zs.length) (c2 := cz) (y := (nv 256 zs)) (ys := zs) (w := _) rfl rfl  rfl rfl (hys.ex HE) (hzs.ex HE) hbys hbzs (Nat.le_trans hlys (by decide)) (Nat.le_trans hlzs (by decide))) ?_)
        rintro a1195 w1190 v1191 ⟨A1187, c1188, rfl, HX1192, HO1189⟩ ha1197 hF1196
        replace HE := HE.thenN HX1192.g
        replace HE70 := HE70.thenN HX1192.g
        have hcp1198 := HO1189.cap
        rw [ha1197]; exact hK1171 _ _ ⟨_, _, rfl, HO1189.rd⟩ HX1192.g
      · -- operation 56
        rintro a1200 w1199 b1202 KK1208 hs1204 hd1205 hJ1206 hb1207 hr1224 hK1203
        have hr1224x : RD SL_ a1200 a65 w1199 [(76, some 52), (79, some 55), (69, some 45)] := hr1224 _ (by kernel_rfl)
        obtain ⟨⟨v1210, q1209, s1211⟩, ⟨v1216, q1215, s1217⟩, ⟨v1222, q1221, s1223⟩, -⟩ := hr1224x
        obtain ⟨A1212, c1213, rfl, HR1214⟩ := s1211
        obtain ⟨A1218, c1219, rfl, HR1220⟩ := s1217
        obtain rfl : v1222 = .bool true := s1223
        obtain ⟨HE, HE70⟩ := hJ1206
        have hF1201 : Fr 100 a1200 [(76, .slice A1212 ((dig 256 ((nv 256 xs) * (nv 256 zs))).length) c1213), (79, .slice A1218 ((dig 256 ((nv 256 ys) * (nv 256 zs))).length) c1219), (69, .bool true)] := Fr.of hs1204 hd1205 ⟨q1209, q1215, q1221, trivial⟩
        have hz1231 := HE.size
        have hz1232 := HE70.size
        refine One.bare hF1201 (by kernel_rfl) (s_call (d := 80) (f := 17) (l := [.slice A1212 ((dig 256 ((nv 256 xs) * (nv 256 zs))).length) c1213, .slice A1218 ((dig 256 ((nv 256 ys) * (nv 256 zs))).length) c1219]) (by kernel_rfl) hF1201 cl17 (Add' (A := A1212) (n := ((dig 256 ((nv 256 xs) * (nv 256 zs))).length)) (c := c1213) (x := ((nv 256 xs) * (nv 256 zs))) (xs := (dig 256 ((nv 256 xs) * (nv 256 zs)))) (A2 := A1218) (n2 := ((dig 256 ((nv 256 ys) * (nv 256 zs))).length)) (c2 := c1219) (y := ((nv 256 ys) * (nv 256 zs))) (ys := (dig 256 ((nv 256 ys) * (nv 256 zs)))) (w := _) (nvd _) (nvd _)  rfl rfl HR1214 HR1220 (by_dig _) (by_dig _) (Nat.le_trans (dlen (mul_lt (nlen hbxs hlxs) (nlen hbzs hlzs))) (by decide)) (Nat.le_trans (dlen (mul_lt (nlen hbys hlys) (nlen hbzs hlzs))) (by decide))) ?_)
        rintro a1233 w1228 v1229 ⟨A1225, c1226, rfl, HX1230, HO1227⟩ ha1235 hF1234
        replace HE := HE.thenN HX1230.g
        replace HE70 := HE70.thenN HX1230.g
        replace HR1214 := HR1214.grow HX1230.g (by simp)
        replace HR1220 := HR1220.grow HX1230.g (by simp)
        have hcp1236 := HO1227.cap
        rw [ha1235]; exact hK1203 _ _ ⟨_, _, rfl, HO1227.rd⟩ HX1230.g
      · -- operation 57
        rintro a1238 w1237 b1240 KK1246 hs1242 hd1243 hJ1244 hb1245 hr1256 hK1241
        have hr1256x : RD SL_ a1238 a65 w1237 [(80, some 56), (69, some 45)] := hr1256 _ (by kernel_rfl)
        obtain ⟨⟨v1248, q1247, s1249⟩, ⟨v1254, q1253, s1255⟩, -⟩ := hr1256x
        obtain ⟨A1250, c1251, rfl, HR1252⟩ := s1249
        obtain rfl : v1254 = .bool true := s1255
        obtain ⟨HE, HE70⟩ := hJ1244
        have hF1239 : Fr 100 a1238 [(80, .slice A1250 ((dig 256 (((nv 256 xs) * (nv 256 zs)) + ((nv 256 ys) * (nv 256 zs)))).length) c1251), (69, .bool true)] := Fr.of hs1242 hd1243 ⟨q1247, q1253, trivial⟩
        refine One.bare hF1239 (by kernel_rfl) (s_str hT (d := 81) (A := A1250) (m := (dig 256 (((nv 256 xs) * (nv 256 zs)) + ((nv 256 ys) * (nv 256 zs)))).length) (xs := (dig 256 (((nv 256 xs) * (nv 256 zs)) + ((nv 256 ys) * (nv 256 zs))))) (by kernel_rfl) hF1239 HR1252 (by (first | (simp only [vs_length, vi_length]; omega) | (simp; omega) | omega)) ?_)
        rintro a1257 ha1259 hF1258
        rw [ha1259]; exact hK1241 _ _ rfl (grown_refl _ _)
      · -- operation 58
        rintro a1261 w1260 b1263 KK1269 hs1265 hd1266 hJ1267 hb1268 hr1279 hK1264
        have hr1279x : RD SL_ a1261 a65 w1260 [(73, some 49), (81, some 57), (69, some 45)] := hr1279 _ (by kernel_rfl)
        obtain ⟨⟨v1271, q1270, s1272⟩, ⟨v1274, q1273, s1275⟩, ⟨v1277, q1276, s1278⟩, -⟩ := hr1279x
        obtain rfl : v1271 = .string (str (dig 256 (((nv 256 xs) + (nv 256 ys)) * (nv 256 zs)))) := s1272
        obtain rfl : v1274 = .string (str (dig 256 (((nv 256 xs) * (nv 256 zs)) + ((nv 256 ys) * (nv 256 zs))))) := s1275
        obtain rfl : v1277 = .bool true := s1278
        obtain ⟨HE, HE70⟩ := hJ1267
        have hF1262 : Fr 100 a1261 [(73, .string (str (dig 256 (((nv 256 xs) + (nv 256 ys)) * (nv 256 zs))))), (81, .string (str (dig 256 (((nv 256 xs) * (nv 256 zs)) + ((nv 256 ys) * (nv 256 zs)))))), (69, .bool true)] := Fr.of hs1265 hd1266 ⟨q1270, q1273, q1276, trivial⟩
        refine One.bare hF1262 (by kernel_rfl) (s_pure hT (d := 82) (v := .bool ((ByteArray.toList (str (dig 256 (((nv 256 xs) + (nv 256 ys)) * (nv 256 zs)))) == ByteArray.toList (str (dig 256 (((nv 256 xs) * (nv 256 zs)) + ((nv 256 ys) * (nv 256 zs)))))))) (cs := []) (by kernel_rfl) (by kernel_rfl) trivial hF1262 ?_)
        have htr : ((ByteArray.toList (str (dig 256 (((nv 256 xs) + (nv 256 ys)) * (nv 256 zs)))) == ByteArray.toList (str (dig 256 (((nv 256 xs) * (nv 256 zs)) + ((nv 256 ys) * (nv 256 zs))))))) = true := (str_eqT (dig_congr (Nat.add_mul _ _ _)))
        rintro a2 ha2 hF2; rw [ha2]; exact hK1264 _ _ (congrArg Value.bool htr) (grown_refl _ _)
      · -- operation 59
        rintro a1281 w1280 b1283 KK1289 hs1285 hd1286 hJ1287 hb1288 hr1296 hK1284
        have hr1296x : RD SL_ a1281 a65 w1280 [(69, some 45), (82, some 58)] := hr1296 _ (by kernel_rfl)
        obtain ⟨⟨v1291, q1290, s1292⟩, ⟨v1294, q1293, s1295⟩, -⟩ := hr1296x
        obtain rfl : v1291 = .bool true := s1292
        obtain rfl : v1294 = .bool true := s1295
        obtain ⟨HE, HE70⟩ := hJ1287
        have hF1282 : Fr 100 a1281 [(69, .bool true), (82, .bool true)] := Fr.of hs1285 hd1286 ⟨q1290, q1293, trivial⟩
        refine s_pure hT (d := 83) (v := .bool true) (cs := []) (by kernel_rfl) (by kernel_rfl) trivial hF1282 ?_
        rintro a2 ha2 hF2; rw [ha2]; exact hK1284 _ _ rfl (grown_refl _ _)
      · -- operation 60
        rintro a1298 w1297 b1300 KK1306 hs1302 hd1303 hJ1304 hb1305 hr1310 hK1301
        have hr1310x : RD SL_ a1298 a65 w1297 [(83, some 59)] := hr1310 _ (by kernel_rfl)
        obtain ⟨⟨v1308, q1307, s1309⟩, -⟩ := hr1310x
        obtain rfl : v1308 = .bool true := s1309
        obtain ⟨HE, HE70⟩ := hJ1304
        have hF1299 : Fr 100 a1298 [(83, .bool true)] := Fr.of hs1302 hd1303 ⟨q1307, trivial⟩
        refine s_pure hT (d := 84) (v := .bool true) (cs := []) (by kernel_rfl) (by kernel_rfl) trivial hF1299 ?_
        rintro a2 ha2 hF2; rw [ha2]; exact hK1301 _ _ rfl (grown_refl _ _)
      · -- operation 61
        rintro a1312 w1311 b1314 KK1320 hs1316 hd1317 hJ1318 hb1319 hr1325 hK1315
        have hr1325x : RD SL_ a1312 a65 w1311 [(7, none), (84, some 60)] := hr1325 _ (by kernel_rfl)
        obtain ⟨q1321, ⟨v1323, q1322, s1324⟩, -⟩ := hr1325x
        obtain rfl : v1323 = .bool true := s1324
        obtain ⟨HE, HE70⟩ := hJ1318
        have hF1313 : Fr 100 a1312 [(7, .slice A35 ((dig 256 ((nv 256 xs) + (nv 256 ys))).length) c36), (84, .bool true)] := Fr.of hs1316 hd1317 ⟨(Fr.init hF67 q1321 (by kernel_rfl)), q1322, trivial⟩
        refine One.bare hF1313 (by kernel_rfl) (s_pure hT (d := 85) (v := .slice A35 ((dig 256 ((nv 256 xs) + (nv 256 ys))).length) c36) (cs := []) (by kernel_rfl) (by kernel_rfl) trivial hF1313 ?_)
        rintro a2 ha2 hF2; rw [ha2]; exact hK1315 _ _ rfl (grown_refl _ _)
      · -- operation 62
        rintro a1327 w1326 b1329 KK1335 hs1331 hd1332 hJ1333 hb1334 hr1340 hK1330
        have hr1340x : RD SL_ a1327 a65 w1326 [(1, none), (84, some 60)] := hr1340 _ (by kernel_rfl)
        obtain ⟨q1336, ⟨v1338, q1337, s1339⟩, -⟩ := hr1340x
        obtain rfl : v1338 = .bool true := s1339
        obtain ⟨HE, HE70⟩ := hJ1333
        have hF1328 : Fr 100 a1327 [(1, .slice Ay ys.length cy), (84, .bool true)] := Fr.of hs1331 hd1332 ⟨(Fr.init hF67 q1336 (by kernel_rfl)), q1337, trivial⟩
        refine One.bare hF1328 (by kernel_rfl) (s_pure hT (d := 86) (v := .slice Ay ys.length cy) (cs := []) (by kernel_rfl) (by kernel_rfl) trivial hF1328 ?_)
        rintro a2 ha2 hF2; rw [ha2]; exact hK1330 _ _ rfl (grown_refl _ _)
      · -- operation 63
        rintro a1342 w1341 b1344 KK1350 hs1346 hd1347 hJ1348 hb1349 hr1360 hK1345
        have hr1360x : RD SL_ a1342 a65 w1341 [(85, some 61), (86, some 62), (84, some 60)] := hr1360 _ (by kernel_rfl)
        obtain ⟨⟨v1352, q1351, s1353⟩, ⟨v1355, q1354, s1356⟩, ⟨v1358, q1357, s1359⟩, -⟩ := hr1360x
        obtain rfl : v1352 = .slice A35 ((dig 256 ((nv 256 xs) + (nv 256 ys))).length) c36 := s1353
        obtain rfl : v1355 = .slice Ay ys.length cy := s1356
        obtain rfl : v1358 = .bool true := s1359
        obtain ⟨HE, HE70⟩ := hJ1348
        have hF1343 : Fr 100 a1342 [(85, .slice A35 ((dig 256 ((nv 256 xs) + (nv 256 ys))).length) c36), (86, .slice Ay ys.length cy), (84, .bool true)] := Fr.of hs1346 hd1347 ⟨q1351, q1354, q1357, trivial⟩
        have hz1367 := HE.size
        have hz1368 := HE70.size
        refine One.bare hF1343 (by kernel_rfl) (s_call (d := 87) (f := 15) (l := [.slice A35 ((dig 256 ((nv 256 xs) + (nv 256 ys))).length) c36, .slice Ay ys.length cy]) (by kernel_rfl) hF1343 cl15 (Sub' (A := A35) (n := ((dig 256 ((nv 256 xs) + (nv 256 ys))).length)) (c := c36) (x := ((nv 256 xs) + (nv 256 ys))) (xs := (dig 256 ((nv 256 xs) + (nv 256 ys)))) (A2 := Ay) (n2 := ys.length) (c2 := cy) (y := (nv 256 ys)) (ys := ys) (w := _) (nvd _) rfl  rfl rfl (HR71.ex HE70) (hys.ex HE) (by_dig _) hbys (Nat.le_trans (dlen (add_lt (m := 120) (nlen hbxs hlxs) (nlen hbys hlys) (by decide) (by decide))) (by decide)) (Nat.le_trans hlys (by decide))) ?_)
        rintro a1369 w1364 v1365 ⟨A1361, c1362, rfl, HX1366, HO1363⟩ ha1371 hF1370
        replace HE := HE.thenN HX1366.g
        replace HE70 := HE70.thenN HX1366.g
        have hcp1372 := HO1363.cap
        rw [ha1371]; exact hK1345 _ _ ⟨_, _, rfl, HO1363.rd⟩ HX1366.g
      · -- operation 64
        rintro a1374 w1373 b1376 KK1382 hs1378 hd1379 hJ1380 hb1381 hr1392 hK1377
        have hr1392x : RD SL_ a1374 a65 w1373 [(87, some 63), (84, some 60)] := hr1392 _ (by kernel_rfl)
        obtain ⟨⟨v1384, q1383, s1385⟩, ⟨v1390, q1389, s1391⟩, -⟩ := hr1392x
        obtain ⟨A1386, c1387, rfl, HR1388⟩ := s1385
        obtain rfl : v1390 = .bool true := s1391
        obtain ⟨HE, HE70⟩ := hJ1380
        have hF1375 : Fr 100 a1374 [(87, .slice A1386 ((dig 256 (((nv 256 xs) + (nv 256 ys)) - (nv 256 ys))).length) c1387), (84, .bool true)] := Fr.of hs1378 hd1379 ⟨q1383, q1389, trivial⟩
        refine One.bare hF1375 (by kernel_rfl) (s_str hT (d := 88) (A := A1386) (m := (dig 256 (((nv 256 xs) + (nv 256 ys)) - (nv 256 ys))).length) (xs := (dig 256 (((nv 256 xs) + (nv 256 ys)) - (nv 256 ys)))) (by kernel_rfl) hF1375 HR1388 (by (first | (simp only [vs_length, vi_length]; omega) | (simp; omega) | omega)) ?_)
        rintro a1393 ha1395 hF1394
        rw [ha1395]; exact hK1377 _ _ rfl (grown_refl _ _)
      · -- operation 65
        rintro a1397 w1396 b1399 KK1405 hs1401 hd1402 hJ1403 hb1404 hr1410 hK1400
        have hr1410x : RD SL_ a1397 a65 w1396 [(0, none), (84, some 60)] := hr1410 _ (by kernel_rfl)
        obtain ⟨q1406, ⟨v1408, q1407, s1409⟩, -⟩ := hr1410x
        obtain rfl : v1408 = .bool true := s1409
        obtain ⟨HE, HE70⟩ := hJ1403
        have hF1398 : Fr 100 a1397 [(0, .slice Ax xs.length cx), (84, .bool true)] := Fr.of hs1401 hd1402 ⟨(Fr.init hF67 q1406 (by kernel_rfl)), q1407, trivial⟩
        refine One.bare hF1398 (by kernel_rfl) (s_pure hT (d := 89) (v := .slice Ax xs.length cx) (cs := []) (by kernel_rfl) (by kernel_rfl) trivial hF1398 ?_)
        rintro a2 ha2 hF2; rw [ha2]; exact hK1400 _ _ rfl (grown_refl _ _)
      · -- operation 66
        rintro a1412 w1411 b1414 KK1420 hs1416 hd1417 hJ1418 hb1419 hr1427 hK1415
        have hr1427x : RD SL_ a1412 a65 w1411 [(89, some 65), (84, some 60)] := hr1427 _ (by kernel_rfl)
        obtain ⟨⟨v1422, q1421, s1423⟩, ⟨v1425, q1424, s1426⟩, -⟩ := hr1427x
        obtain rfl : v1422 = .slice Ax xs.length cx := s1423
        obtain rfl : v1425 = .bool true := s1426
        obtain ⟨HE, HE70⟩ := hJ1418
        have hF1413 : Fr 100 a1412 [(89, .slice Ax xs.length cx), (84, .bool true)] := Fr.of hs1416 hd1417 ⟨q1421, q1424, trivial⟩
        have hz1434 := HE.size
        have hz1435 := HE70.size
        refine One.bare hF1413 (by kernel_rfl) (s_call (d := 90) (f := 19) (l := [.slice Ax xs.length cx]) (by kernel_rfl) hF1413 cl19 (Norm' (A := Ax) (n := xs.length) (c := cx) (x := (nv 256 xs)) (xs := xs) (w := _) rfl rfl (hxs.ex HE) hbxs (Nat.le_trans hlxs (by decide))) ?_)
        rintro a1436 w1431 v1432 ⟨A1428, c1429, rfl, HX1433, HO1430⟩ ha1438 hF1437
        replace HE := HE.thenN HX1433.g
        replace HE70 := HE70.thenN HX1433.g
        have hcp1439 := HO1430.cap
        rw [ha1438]; exact hK1415 _ _ ⟨_, _, rfl, HO1430.rd⟩ HX1433.g
      · -- operation 67
        rintro a1441 w1440 b1443 KK1449 hs1445 hd1446 hJ1447 hb1448 hr1459 hK1444
        have hr1459x : RD SL_ a1441 a65 w1440 [(90, some 66), (84, some 60)] := hr1459 _ (by kernel_rfl)
        obtain ⟨⟨v1451, q1450, s1452⟩, ⟨v1457, q1456, s1458⟩, -⟩ := hr1459x
        obtain ⟨A1453, c1454, rfl, HR1455⟩ := s1452
        obtain rfl : v1457 = .bool true := s1458
        obtain ⟨HE, HE70⟩ := hJ1447
        have hF1442 : Fr 100 a1441 [(90, .slice A1453 ((dig 256 (nv 256 xs)).length) c1454), (84, .bool true)] := Fr.of hs1445 hd1446 ⟨q1450, q1456, trivial⟩
        refine One.bare hF1442 (by kernel_rfl) (s_str hT (d := 91) (A := A1453) (m := (dig 256 (nv 256 xs)).length) (xs := (dig 256 (nv 256 xs))) (by kernel_rfl) hF1442 HR1455 (by (first | (simp only [vs_length, vi_length]; omega) | (simp; omega) | omega)) ?_)
        rintro a1460 ha1462 hF1461
        rw [ha1462]; exact hK1444 _ _ rfl (grown_refl _ _)
      · -- operation 68
        rintro a1464 w1463 b1466 KK1472 hs1468 hd1469 hJ1470 hb1471 hr1482 hK1467
        have hr1482x : RD SL_ a1464 a65 w1463 [(88, some 64), (91, some 67), (84, some 60)] := hr1482 _ (by kernel_rfl)
        obtain ⟨⟨v1474, q1473, s1475⟩, ⟨v1477, q1476, s1478⟩, ⟨v1480, q1479, s1481⟩, -⟩ := hr1482x
        obtain rfl : v1474 = .string (str (dig 256 (((nv 256 xs) + (nv 256 ys)) - (nv 256 ys)))) := s1475
        obtain rfl : v1477 = .string (str (dig 256 (nv 256 xs))) := s1478
        obtain rfl : v1480 = .bool true := s1481
        obtain ⟨HE, HE70⟩ := hJ1470
        have hF1465 : Fr 100 a1464 [(88, .string (str (dig 256 (((nv 256 xs) + (nv 256 ys)) - (nv 256 ys))))), (91, .string (str (dig 256 (nv 256 xs)))), (84, .bool true)] := Fr.of hs1468 hd1469 ⟨q1473, q1476, q1479, trivial⟩
        refine One.bare hF1465 (by kernel_rfl) (s_pure hT (d := 92) (v := .bool ((ByteArray.toList (str (dig 256 (((nv 256 xs) + (nv 256 ys)) - (nv 256 ys)))) == ByteArray.toList (str (dig 256 (nv 256 xs)))))) (cs := []) (by kernel_rfl) (by kernel_rfl) trivial hF1465 ?_)
        have htr : ((ByteArray.toList (str (dig 256 (((nv 256 xs) + (nv 256 ys)) - (nv 256 ys)))) == ByteArray.toList (str (dig 256 (nv 256 xs))))) = true := (str_eqT (dig_congr (Nat.add_sub_cancel _ _)))
        rintro a2 ha2 hF2; rw [ha2]; exact hK1467 _ _ (congrArg Value.bool htr) (grown_refl _ _)
      · -- operation 69
        rintro a1484 w1483 b1486 KK1492 hs1488 hd1489 hJ1490 hb1491 hr1499 hK1487
        have hr1499x : RD SL_ a1484 a65 w1483 [(84, some 60), (92, some 68)] := hr1499 _ (by kernel_rfl)
        obtain ⟨⟨v1494, q1493, s1495⟩, ⟨v1497, q1496, s1498⟩, -⟩ := hr1499x
        obtain rfl : v1494 = .bool true := s1495
        obtain rfl : v1497 = .bool true := s1498
        obtain ⟨HE, HE70⟩ := hJ1490
        have hF1485 : Fr 100 a1484 [(84, .bool true), (92, .bool true)] := Fr.of hs1488 hd1489 ⟨q1493, q1496, trivial⟩
        refine s_pure hT (d := 93) (v := .bool true) (cs := []) (by kernel_rfl) (by kernel_rfl) trivial hF1485 ?_
        rintro a2 ha2 hF2; rw [ha2]; exact hK1487 _ _ rfl (grown_refl _ _)
      · -- operation 70
        rintro a1501 w1500 b1503 KK1509 hs1505 hd1506 hJ1507 hb1508 hr1513 hK1504
        have hr1513x : RD SL_ a1501 a65 w1500 [(93, some 69)] := hr1513 _ (by kernel_rfl)
        obtain ⟨⟨v1511, q1510, s1512⟩, -⟩ := hr1513x
        obtain rfl : v1511 = .bool true := s1512
        obtain ⟨HE, HE70⟩ := hJ1507
        have hF1502 : Fr 100 a1501 [(93, .bool true)] := Fr.of hs1505 hd1506 ⟨q1510, trivial⟩
        refine s_pure hT (d := 94) (v := .bool true) (cs := []) (by kernel_rfl) (by kernel_rfl) trivial hF1502 ?_
        rintro a2 ha2 hF2; rw [ha2]; exact hK1504 _ _ rfl (grown_refl _ _)
      · -- operation 71
        rintro a1515 w1514 b1517 KK1523 hs1519 hd1520 hJ1521 hb1522 hr1528 hK1518
        have hr1528x : RD SL_ a1515 a65 w1514 [(7, none), (94, some 70)] := hr1528 _ (by kernel_rfl)
        obtain ⟨q1524, ⟨v1526, q1525, s1527⟩, -⟩ := hr1528x
        obtain rfl : v1526 = .bool true := s1527
        obtain ⟨HE, HE70⟩ := hJ1521
        have hF1516 : Fr 100 a1515 [(7, .slice A35 ((dig 256 ((nv 256 xs) + (nv 256 ys))).length) c36), (94, .bool true)] := Fr.of hs1519 hd1520 ⟨(Fr.init hF67 q1524 (by kernel_rfl)), q1525, trivial⟩
        refine One.bare hF1516 (by kernel_rfl) (s_pure hT (d := 95) (v := .slice A35 ((dig 256 ((nv 256 xs) + (nv 256 ys))).length) c36) (cs := []) (by kernel_rfl) (by kernel_rfl) trivial hF1516 ?_)
        rintro a2 ha2 hF2; rw [ha2]; exact hK1518 _ _ rfl (grown_refl _ _)
      · -- operation 72
        rintro a1530 w1529 b1532 KK1538 hs1534 hd1535 hJ1536 hb1537 hr1543 hK1533
        have hr1543x : RD SL_ a1530 a65 w1529 [(0, none), (94, some 70)] := hr1543 _ (by kernel_rfl)
        obtain ⟨q1539, ⟨v1541, q1540, s1542⟩, -⟩ := hr1543x
        obtain rfl : v1541 = .bool true := s1542
        obtain ⟨HE, HE70⟩ := hJ1536
        have hF1531 : Fr 100 a1530 [(0, .slice Ax xs.length cx), (94, .bool true)] := Fr.of hs1534 hd1535 ⟨(Fr.init hF67 q1539 (by kernel_rfl)), q1540, trivial⟩
        refine One.bare hF1531 (by kernel_rfl) (s_pure hT (d := 96) (v := .slice Ax xs.length cx) (cs := []) (by kernel_rfl) (by kernel_rfl) trivial hF1531 ?_)
        rintro a2 ha2 hF2; rw [ha2]; exact hK1533 _ _ rfl (grown_refl _ _)
      · -- operation 73
        rintro a1545 w1544 b1547 KK1553 hs1549 hd1550 hJ1551 hb1552 hr1563 hK1548
        have hr1563x : RD SL_ a1545 a65 w1544 [(95, some 71), (96, some 72), (94, some 70)] := hr1563 _ (by kernel_rfl)
        obtain ⟨⟨v1555, q1554, s1556⟩, ⟨v1558, q1557, s1559⟩, ⟨v1561, q1560, s1562⟩, -⟩ := hr1563x
        obtain rfl : v1555 = .slice A35 ((dig 256 ((nv 256 xs) + (nv 256 ys))).length) c36 := s1556
        obtain rfl : v1558 = .slice Ax xs.length cx := s1559
        obtain rfl : v1561 = .bool true := s1562
        obtain ⟨HE, HE70⟩ := hJ1551
        have hF1546 : Fr 100 a1545 [(95, .slice A35 ((dig 256 ((nv 256 xs) + (nv 256 ys))).length) c36), (96, .slice Ax xs.length cx), (94, .bool true)] := Fr.of hs1549 hd1550 ⟨q1554, q1557, q1560, trivial⟩
        have hz1567 := HE.size
        have hz1568 := HE70.size
        refine One.bare hF1546 (by kernel_rfl) (s_call (d := 97) (f := 16) (l := [.slice A35 ((dig 256 ((nv 256 xs) + (nv 256 ys))).length) c36, .slice Ax xs.length cx]) (by kernel_rfl) hF1546 cl16 (Cmp' (A := A35) (n := ((dig 256 ((nv 256 xs) + (nv 256 ys))).length)) (c := c36) (x := ((nv 256 xs) + (nv 256 ys))) (xs := (dig 256 ((nv 256 xs) + (nv 256 ys)))) (A2 := Ax) (n2 := xs.length) (c2 := cx) (y := (nv 256 xs)) (ys := xs) (w := _) (nvd _) rfl  rfl rfl (HR71.ex HE70) (hxs.ex HE) (by_dig _) hbxs (Nat.le_trans (dlen (add_lt (m := 120) (nlen hbxs hlxs) (nlen hbys hlys) (by decide) (by decide))) (by decide)) (Nat.le_trans hlxs (by decide))) ?_)
        rintro a1569 w1564 v1565 ⟨rfl, HX1566⟩ ha1571 hF1570
        replace HE := HE.thenN HX1566.g
        replace HE70 := HE70.thenN HX1566.g
        rw [ha1571]; exact hK1548 _ _ rfl HX1566.g
      · -- operation 74
        rintro a1573 w1572 b1575 KK1581 hs1577 hd1578 hJ1579 hb1580 hr1588 hK1576
        have hr1588x : RD SL_ a1573 a65 w1572 [(97, some 73), (94, some 70)] := hr1588 _ (by kernel_rfl)
        obtain ⟨⟨v1583, q1582, s1584⟩, ⟨v1586, q1585, s1587⟩, -⟩ := hr1588x
        obtain rfl : v1583 = .int .i64 (cmpI ((nv 256 xs) + (nv 256 ys)) (nv 256 xs)) := s1584
        obtain rfl : v1586 = .bool true := s1587
        obtain ⟨HE, HE70⟩ := hJ1579
        have hF1574 : Fr 100 a1573 [(97, .int .i64 (cmpI ((nv 256 xs) + (nv 256 ys)) (nv 256 xs))), (94, .bool true)] := Fr.of hs1577 hd1578 ⟨q1582, q1585, trivial⟩
        refine One.bare hF1574 (by kernel_rfl) (s_pure hT (d := 98) (v := .bool ((decide (0 ≤ (cmpI ((nv 256 xs) + (nv 256 ys)) (nv 256 xs)))))) (cs := []) (by kernel_rfl) (by kernel_rfl) trivial hF1574 ?_)
        have htr : ((decide (0 ≤ (cmpI ((nv 256 xs) + (nv 256 ys)) (nv 256 xs))))) = true := (decide_eq_true (cmpI_ge.2 (Nat.le_add_right _ _)))
        rintro a2 ha2 hF2; rw [ha2]; exact hK1576 _ _ (congrArg Value.bool htr) (grown_refl _ _)
      · -- operation 75
        rintro a1590 w1589 b1592 KK1598 hs1594 hd1595 hJ1596 hb1597 hr1605 hK1593
        have hr1605x : RD SL_ a1590 a65 w1589 [(94, some 70), (98, some 74)] := hr1605 _ (by kernel_rfl)
        obtain ⟨⟨v1600, q1599, s1601⟩, ⟨v1603, q1602, s1604⟩, -⟩ := hr1605x
        obtain rfl : v1600 = .bool true := s1601
        obtain rfl : v1603 = .bool true := s1604
        obtain ⟨HE, HE70⟩ := hJ1596
        have hF1591 : Fr 100 a1590 [(94, .bool true), (98, .bool true)] := Fr.of hs1594 hd1595 ⟨q1599, q1602, trivial⟩
        refine s_pure hT (d := 99) (v := .bool true) (cs := []) (by kernel_rfl) (by kernel_rfl) trivial hF1591 ?_
        rintro a2 ha2 hF2; rw [ha2]; exact hK1593 _ _ rfl (grown_refl _ _)
      · -- operation 76
        rintro a1607 w1606 b1609 KK1615 hs1611 hd1612 hJ1613 hb1614 hr1619 hK1610
        have hr1619x : RD SL_ a1607 a65 w1606 [(99, some 75)] := hr1619 _ (by kernel_rfl)
        obtain ⟨⟨v1617, q1616, s1618⟩, -⟩ := hr1619x
        obtain rfl : v1617 = .bool true := s1618
        obtain ⟨HE, HE70⟩ := hJ1613
        have hF1608 : Fr 100 a1607 [(99, .bool true)] := Fr.of hs1611 hd1612 ⟨q1616, trivial⟩
        refine s_pure hT (d := 6) (v := .bool true) (cs := []) (by kernel_rfl) (by kernel_rfl) trivial hF1608 ?_
        rintro a2 ha2 hF2; rw [ha2]; exact hK1610 _ _ rfl (grown_refl _ _)
      · -- behind the region
        rintro a1621 w1622 hs1623 hd1624 ⟨⟨v1626, q1627, s1628⟩, q1629, q1630, q1631, q1632, q1633, q1634, -⟩ ⟨HE, HE70⟩
        obtain rfl : v1626 = .bool true := s1628
        have hF1635 : Fr 100 a1621 [(6, .bool true), (8, .slice A53 ((dig 256 ((nv 256 xs) * (nv 256 ys))).length) c54), (7, .slice A35 ((dig 256 ((nv 256 xs) + (nv 256 ys))).length) c36), (17, .bool ((decide (120 < ((zs.length : Nat) : Int))))), (0, .slice Ax xs.length cx), (1, .slice Ay ys.length cy), (2, .slice Az zs.length cz)] := Fr.of hs1623 hd1624 ⟨q1627, (Fr.init hF67 q1629 (by kernel_rfl)), (Fr.init hF67 q1630 (by kernel_rfl)), (Fr.init hF67 q1631 (by kernel_rfl)), (Fr.init hF67 q1632 (by kernel_rfl)), (Fr.init hF67 q1633 (by kernel_rfl)), (Fr.init hF67 q1634 (by kernel_rfl)), trivial⟩
        clear hF67 hs1623 hd1624 q1627 q1629 q1630 q1631 q1632 q1633 q1634
        refine hK69 _ _ ?_
        refine wp_ret ?_
        refine ret1 hF1635 rfl (v := .bool true) (by kernel_rfl) ?_
        exact ⟨rfl, HE⟩
  · rw [e21] at hF19; clear e21; simp only [Bool.not_true, Bool.not_false] at hF19
    refine pures_end hT 4 _ hF19 (F' := [(17, .bool true), (16, undef), (15, undef), (14, undef), (13, .bool true), (12, .bool true), (11, .bool false), (10, .slice Ay ys.length cy), (9, .slice Ax xs.length cx), (6, .bool false), (0, .slice Ax xs.length cx), (1, .slice Ay ys.length cy), (2, .slice Az zs.length cz)]) (cs := []) (by kernel_rfl) rfl trivial ?_
    intro a1636 hF1637; clear hF19 a18
    have hF1638 := hF1637.pick [17, 6, 0, 1, 2] (G := [(17, .bool true), (6, .bool false), (0, .slice Ax xs.length cx), (1, .slice Ay ys.length cy), (2, .slice Az zs.length cz)]) (by kernel_rfl); clear hF1637
    refine hK8 _ _ ?_
    refine condT hF1638 (by kernel_rfl) ?_
    refine wp_seq_k (fun K1639 hK1640 => ?_)
    refine wp_region_lit ?_
    refine pures_end hT 1 _ hF1638 (F' := [(6, .bool true), (17, .bool true), (6, .bool false), (0, .slice Ax xs.length cx), (1, .slice Ay ys.length cy), (2, .slice Az zs.length cz)]) (cs := []) (by kernel_rfl) rfl trivial ?_
    intro a1641 hF1642; clear hF1638 a1636
    have hF1643 := hF1642.pick [6, 17, 0, 1, 2] (G := [(6, .bool true), (17, .bool true), (0, .slice Ax xs.length cx), (1, .slice Ay ys.length cy), (2, .slice Az zs.length cz)]) (by kernel_rfl); clear hF1642
    refine hK1640 _ _ ?_
    refine wp_ret ?_
    refine ret1 hF1643 rfl (v := .bool true) (by kernel_rfl) ?_
    exact ⟨rfl, HE⟩

end Go.Proofs.Ytdabkjflpbbpeaa
