/- Walks of functions of the program: lemmas. -/
import Derived.Test.YtdabkjflpbbpeaaWm
set_option maxRecDepth 100000
set_option linter.unusedVariables false
set_option linter.unusedSimpArgs false
namespace Go.Proofs.Ytdabkjflpbbpeaa
open Go.Proofs Go.RowKit

theorem scal_MulAdd (xs : List Nat) (x : Nat) (ys : List Nat) (y : Nat) (zs : List Nat) (z : Nat) (w : World) (hx : nv 256 xs = x) (hxl : xs.length = 32) (hbx : By xs) (hy : nv 256 ys = y) (hyl : ys.length = 32) (hby : By ys) (hz0 : nv 256 zs = z) (hz : zs.length = 32) (hbz : By zs) :
    Calls Try.prog 32 [.agg (vs .u8 xs).toArray, .agg (vs .u8 ys).toArray, .agg (vs .u8 zs).toArray].toArray w (Ret fun v w' => v = .agg (vs .u8 (le 32 ((x * y + z) % Lq))).toArray ∧ Ex w w') := by
  subst hx hy hz0
  have hpm := mul_lt (nlen hbx (Nat.le_of_eq hxl)) (nlen hby (Nat.le_of_eq hyl))
  have hpl := dlen hpm
  have hsl := dlen (add_lt (m := 64) hpm (nlen hbz (Nat.le_of_eq hz)) (by decide) (by decide))
  clear hpm
  refine enter Try.func32 rfl (n := 15) Try.ntmps32 (by simp) ?_
  intro a hF
  have HE : Ex w w := Ex.refl w
  refine wp_seq_k (fun K1 hK2 => ?_)
  refine wp_region_lit ?_
  have hz9 := HE.size
  refine wl (s_alloc hT (d := 3) (T := 32) (l := vs .u8 xs) (by kernel_rfl) hF ?_)
  rintro a10 w4 b3 h7 h8 HB6 g5 ha12 hF11; clear ha12 hF a
  replace HE := HE.thenN g5
  have hz19 := HE.size
  have hz20 := HB6.lt
  refine wl (s_alloc hT (d := 4) (T := 32) (l := vs .u8 ys) (by kernel_rfl) hF11 ?_)
  rintro a21 w14 b13 h17 h18 HB16 g15 ha23 hF22; clear ha23 hF11 a10
  replace HE := HE.thenN g15
  replace HB6 := HB6.growN g15
  have hz30 := HE.size
  have hz31 := HB6.lt
  have hz32 := HB16.lt
  refine wl (s_alloc hT (d := 5) (T := 32) (l := vs .u8 zs) (by kernel_rfl) hF22 ?_)
  rintro a33 w25 b24 h28 h29 HB27 g26 ha35 hF34; clear ha35 hF22 a21
  replace HE := HE.thenN g26
  replace HB6 := HB6.growN g26
  replace HB16 := HB16.growN g26
  have hz42 := HE.size
  have hz43 := HB6.lt
  have hz44 := HB16.lt
  have hz45 := HB27.lt
  refine wl (s_alloc hT (d := 6) (T := 32) (l := vs .u8 [0, 0, 0, 0, 0, 0, 0, 0, 0, 0, 0, 0, 0, 0, 0, 0, 0, 0, 0, 0, 0, 0, 0, 0, 0, 0, 0, 0, 0, 0, 0, 0]) (by kernel_rfl) hF34 ?_)
  rintro a46 w37 b36 h40 h41 HB39 g38 ha48 hF47; clear ha48 hF34 a33
  replace HE := HE.thenN g38
  replace HB6 := HB6.growN g38
  replace HB16 := HB16.growN g38
  replace HB27 := HB27.growN g38
  refine wpList_nil ?_
  refine hK2 _ _ ?_
  refine wp_seq_k (fun K49 hK50 => ?_)
  refine wp_region_lit ?_
  refine wl (s_makeFunc (d := 8) (f := .func 47) (l := [.pointer (some ⟨b24, 0, none⟩)]) (by kernel_rfl) hF47 ?_)
  rintro a51 ha53 hF52; clear ha53 hF47 a46
  refine pures_end hT 1 _ hF52 (F' := [(7, .func (.func 47) #[] #[.pointer (some ⟨b24, 0, none⟩)]), (8, .func (.func 47) #[] #[.pointer (some ⟨b24, 0, none⟩)]), (6, .pointer (some ⟨b36, 0, none⟩)), (5, .pointer (some ⟨b24, 0, none⟩)), (4, .pointer (some ⟨b13, 0, none⟩)), (3, .pointer (some ⟨b3, 0, none⟩)), (0, .agg (vs .u8 xs).toArray), (1, .agg (vs .u8 ys).toArray), (2, .agg (vs .u8 zs).toArray)]) (cs := []) (by kernel_rfl) rfl trivial ?_
  intro a54 hF55; clear hF52 a51
  have hF56 := hF55.pick [7, 6, 5, 4, 3, 0, 1, 2] (G := [(7, .func (.func 47) #[] #[.pointer (some ⟨b24, 0, none⟩)]), (6, .pointer (some ⟨b36, 0, none⟩)), (5, .pointer (some ⟨b24, 0, none⟩)), (4, .pointer (some ⟨b13, 0, none⟩)), (3, .pointer (some ⟨b3, 0, none⟩)), (0, .agg (vs .u8 xs).toArray), (1, .agg (vs .u8 ys).toArray), (2, .agg (vs .u8 zs).toArray)]) (by kernel_rfl); clear hF55
  refine hK50 _ _ ?_
  refine wp_seq_k (fun K57 hK58 => ?_)
  have hz60 := HE.size
  have hz61 := HB6.lt
  have hz62 := HB16.lt
  have hz63 := HB27.lt
  have hz64 := HB39.lt
  have HZ59 : w37.heap.size ≤ w37.heap.size := Nat.le_refl _
  let SL_ : List SP := [SP.val (.func (.func 47) #[] #[.pointer (some ⟨b24, 0, none⟩)]), SP.val (.slice (some ⟨b3, 0, none⟩) 32 32), SP.val (.slice (some ⟨b13, 0, none⟩) 32 32), SP.mk' (fun _ v W => ∃ A c, v = .slice A ((dig 256 ((nv 256 xs) * (nv 256 ys))).length) c ∧ Rd W A (vs .u8 (dig 256 ((nv 256 xs) * (nv 256 ys)))) ∧ ∀ k, oblk A = some k → w37.heap.size ≤ k) (fun _ v w w' h g => by obtain ⟨A, c, e, h, h2⟩ := h; exact ⟨A, c, e, h.grow g (by simp), h2⟩), SP.mk' (fun _ v W => ∃ A c, v = .slice A ((dig 256 (((nv 256 xs) * (nv 256 ys)) + nv 256 zs)).length) c ∧ Rd W A (vs .u8 (dig 256 (((nv 256 xs) * (nv 256 ys)) + nv 256 zs))) ∧ ∀ k, oblk A = some k → w37.heap.size ≤ k) (fun _ v w w' h g => by obtain ⟨A, c, e, h, h2⟩ := h; exact ⟨A, c, e, h.grow g (by simp), h2⟩), SP.val (.agg (vs .u8 (le 32 ((((nv 256 xs) * (nv 256 ys)) + nv 256 zs) % Lq))).toArray), SP.any]
  refine region_rel (SL := SL_) (J := (fun (b : Bool) (W : World) => (Ex w W) ∧ (Blk W b3 32 (vs .u8 xs)) ∧ (Blk W b13 32 (vs .u8 ys)) ∧ (Blk W b24 32 (vs .u8 zs)) ∧ (match b with | true => Blk W b36 32 (vs .u8 (le 32 ((((nv 256 xs) * (nv 256 ys)) + nv 256 zs) % Lq))) | false => Blk W b36 32 (vs .u8 [0, 0, 0, 0, 0, 0, 0, 0, 0, 0, 0, 0, 0, 0, 0, 0, 0, 0, 0, 0, 0, 0, 0, 0, 0, 0, 0, 0, 0, 0, 0, 0])) ∧ (w37.heap.size ≤ W.heap.size))) (m := 6) wide (by kernel_rfl) (by kernel_rfl) hF56 rfl ?_ ⟨HE, HB6, HB16, HB27, HB39, HZ59⟩ ⟨?_, ?_, ?_, ?_, ?_, ?_, ?_, trivial⟩ [(7, none), (6, none), (5, none), (4, none), (3, none), (0, none), (1, none), (2, none)] (by kernel_rfl) ?_
  · intro b W W' hj g; cases b <;> exact ⟨hj.1.thenN g, hj.2.1.growN g, hj.2.2.1.growN g, hj.2.2.2.1.growN g, hj.2.2.2.2.1.growN g, Nat.le_trans hj.2.2.2.2.2 g.size⟩
  · -- operation 0
    rintro a66 w65 b68 KK74 hs70 hd71 hJ72 hb73 hr76 hK69
    have hr76x : RD SL_ b68 a66 a54 w65 [(7, none)] := hr76 _ (by kernel_rfl)
    obtain ⟨q75, -⟩ := hr76x
    obtain rfl : b68 = false := by cases b68; rfl; exact absurd ((hb73 rfl).2 _ rfl) (by decide)
    obtain ⟨HE, HB6, HB16, HB27, HB39, HZ59⟩ := hJ72
    have hF67 : Fr 15 a66 [(7, .func (.func 47) #[] #[.pointer (some ⟨b24, 0, none⟩)])] := Fr.of hs70 hd71 ⟨(Fr.init hF56 q75 (by kernel_rfl)), trivial⟩
    refine s_pure hT (d := 9) (v := .func (.func 47) #[] #[.pointer (some ⟨b24, 0, none⟩)]) (cs := []) (by kernel_rfl) (by kernel_rfl) trivial hF67 ?_
    rintro a2 ha2 hF2; rw [ha2]; exact hK69 _ _ rfl (grown_refl _ _)
  · -- operation 1
    rintro a78 w77 b80 KK86 hs82 hd83 hJ84 hb85 hr88 hK81
    have hr88x : RD SL_ b80 a78 a54 w77 [(3, none)] := hr88 _ (by kernel_rfl)
    obtain ⟨q87, -⟩ := hr88x
    obtain rfl : b80 = false := by cases b80; rfl; exact absurd ((hb85 rfl).2 _ rfl) (by decide)
    obtain ⟨HE, HB6, HB16, HB27, HB39, HZ59⟩ := hJ84
    have hF79 : Fr 15 a78 [(3, .pointer (some ⟨b3, 0, none⟩))] := Fr.of hs82 hd83 ⟨(Fr.init hF56 q87 (by kernel_rfl)), trivial⟩
    refine s_sliceA hT (d := 10) (b := b3) (off := 0) (m := 32) (sz := 1) (lo := 0) (hi := 32) (by kernel_rfl) hF79 (by omega) (by omega) (by omega) ?_
    rintro a89 ha91 hF90
    replace hF90 : Fr 15 a89 [(10, .slice (some ⟨b3, 0, none⟩) 32 32), (3, .pointer (some ⟨b3, 0, none⟩))] := hF90
    rw [ha91]; exact hK81 _ _ rfl (grown_refl _ _)
  · -- operation 2
    rintro a93 w92 b95 KK101 hs97 hd98 hJ99 hb100 hr103 hK96
    have hr103x : RD SL_ b95 a93 a54 w92 [(4, none)] := hr103 _ (by kernel_rfl)
    obtain ⟨q102, -⟩ := hr103x
    obtain rfl : b95 = false := by cases b95; rfl; exact absurd ((hb100 rfl).2 _ rfl) (by decide)
    obtain ⟨HE, HB6, HB16, HB27, HB39, HZ59⟩ := hJ99
    have hF94 : Fr 15 a93 [(4, .pointer (some ⟨b13, 0, none⟩))] := Fr.of hs97 hd98 ⟨(Fr.init hF56 q102 (by kernel_rfl)), trivial⟩
    refine s_sliceA hT (d := 11) (b := b13) (off := 0) (m := 32) (sz := 1) (lo := 0) (hi := 32) (by kernel_rfl) hF94 (by omega) (by omega) (by omega) ?_
    rintro a104 ha106 hF105
    replace hF105 : Fr 15 a104 [(11, .slice (some ⟨b13, 0, none⟩) 32 32), (4, .pointer (some ⟨b13, 0, none⟩))] := hF105
    rw [ha106]; exact hK96 _ _ rfl (grown_refl _ _)
  · -- operation 3
    rintro a108 w107 b110 KK116 hs112 hd113 hJ114 hb115 hr123 hK111
    have hr123x : RD SL_ b110 a108 a54 w107 [(10, some 1), (11, some 2)] := hr123 _ (by kernel_rfl)
    obtain ⟨⟨v118, q117, s119⟩, ⟨v121, q120, s122⟩, -⟩ := hr123x
    obtain rfl : v118 = .slice (some ⟨b3, 0, none⟩) 32 32 := s119
    obtain rfl : v121 = .slice (some ⟨b13, 0, none⟩) 32 32 := s122
    obtain rfl : b110 = false := by cases b110; rfl; exact absurd ((hb115 rfl).2 _ rfl) (by decide)
    obtain ⟨HE, HB6, HB16, HB27, HB39, HZ59⟩ := hJ114
    have hF109 : Fr 15 a108 [(10, .slice (some ⟨b3, 0, none⟩) 32 32), (11, .slice (some ⟨b13, 0, none⟩) 32 32)] := Fr.of hs112 hd113 ⟨q117, q120, trivial⟩
    have hz130 := HE.size
    have hz131 := HB6.lt
    have hz132 := HB16.lt
    have hz133 := HB27.lt
    have hz134 := HB39.lt
    have hz135 := HZ59
    refine s_call (d := 12) (f := 18) (l := [.slice (some ⟨b3, 0, none⟩) 32 32, .slice (some ⟨b13, 0, none⟩) 32 32]) (by kernel_rfl) hF109 cl18 (Mul' (A := (some ⟨b3, 0, none⟩)) (n := 32) (c := 32) (x := (nv 256 xs)) (xs := xs) (A2 := (some ⟨b13, 0, none⟩)) (n2 := 32) (c2 := 32) (y := (nv 256 ys)) (ys := ys) (w := _) rfl rfl  (by first | rfl | exact le_length _ _ | assumption) (by first | rfl | exact le_length _ _ | assumption) HB6.rd HB16.rd hbx hby (by decide) (by decide)) ?_
    rintro a136 w127 v128 ⟨A124, c125, rfl, HX129, HO126⟩ ha138 hF137
    replace HE := HE.thenN HX129.g
    replace HB6 := HB6.growN HX129.g
    replace HB16 := HB16.growN HX129.g
    replace HB27 := HB27.growN HX129.g
    replace HB39 := HB39.growN HX129.g
    replace HZ59 := Nat.le_trans HZ59 HX129.g.size
    have hcp139 := HO126.cap
    rw [ha138]; exact hK111 _ _ ⟨_, _, rfl, HO126.rd, fun k hk => (by have := (HO126.base k hk).1; omega)⟩ HX129.g
  · -- operation 4
    rintro a141 w140 b143 KK149 hs145 hd146 hJ147 hb148 hr160 hK144
    have hr160x : RD SL_ b143 a141 a54 w140 [(9, some 0), (12, some 3)] := hr160 _ (by kernel_rfl)
    obtain ⟨⟨v151, q150, s152⟩, ⟨v154, q153, s155⟩, -⟩ := hr160x
    obtain rfl : v151 = .func (.func 47) #[] #[.pointer (some ⟨b24, 0, none⟩)] := s152
    obtain ⟨A156, c157, rfl, HR158, h159⟩ := s155
    obtain rfl : b143 = false := by cases b143; rfl; exact absurd ((hb148 rfl).2 _ rfl) (by decide)
    obtain ⟨HE, HB6, HB16, HB27, HB39, HZ59⟩ := hJ147
    have hF142 : Fr 15 a141 [(9, .func (.func 47) #[] #[.pointer (some ⟨b24, 0, none⟩)]), (12, .slice A156 ((dig 256 ((nv 256 xs) * (nv 256 ys))).length) c157)] := Fr.of hs145 hd146 ⟨q150, q153, trivial⟩
    have hz167 := HE.size
    have hz168 := HB6.lt
    have hz169 := HB16.lt
    have hz170 := HB27.lt
    have hz171 := HB39.lt
    have hz172 := HZ59
    refine s_call (d := 13) (f := 47) (l := [.slice A156 ((dig 256 ((nv 256 xs) * (nv 256 ys))).length) c157, .pointer (some ⟨b24, 0, none⟩)]) (by kernel_rfl) hF142 cl47 (scal_sum A156 ((dig 256 ((nv 256 xs) * (nv 256 ys))).length) c157 (dig 256 ((nv 256 xs) * (nv 256 ys))) ((nv 256 xs) * (nv 256 ys)) b24 zs _ (nvd _) rfl HR158 (by_dig _) (Nat.le_trans (dlen (mul_lt (nlen (k := 32) hbx (Nat.le_of_eq hxl)) (nlen (k := 32) hby (Nat.le_of_eq hyl)))) (by decide)) hbz hz HB27) ?_
    rintro a173 w164 v165 ⟨A161, c162, rfl, HX166, HO163⟩ ha175 hF174
    replace HE := HE.thenN HX166.g
    replace HB6 := HB6.growN HX166.g
    replace HB16 := HB16.growN HX166.g
    replace HB27 := HB27.growN HX166.g
    replace HB39 := HB39.growN HX166.g
    replace HZ59 := Nat.le_trans HZ59 HX166.g.size
    replace HR158 := HR158.grow HX166.g (by simp)
    have hcp176 := HO163.cap
    rw [ha175]; exact hK144 _ _ ⟨_, _, rfl, HO163.rd, fun k hk => (by have := (HO163.base k hk).1; omega)⟩ HX166.g
  · -- operation 5
    rintro a178 w177 b180 KK186 hs182 hd183 hJ184 hb185 hr194 hK181
    have hr194x : RD SL_ b180 a178 a54 w177 [(13, some 4)] := hr194 _ (by kernel_rfl)
    obtain ⟨⟨v188, q187, s189⟩, -⟩ := hr194x
    obtain ⟨A190, c191, rfl, HR192, h193⟩ := s189
    obtain rfl : b180 = false := by cases b180; rfl; exact absurd ((hb185 rfl).2 _ rfl) (by decide)
    obtain ⟨HE, HB6, HB16, HB27, HB39, HZ59⟩ := hJ184
    have hF179 : Fr 15 a178 [(13, .slice A190 ((dig 256 (((nv 256 xs) * (nv 256 ys)) + nv 256 zs)).length) c191)] := Fr.of hs182 hd183 ⟨q187, trivial⟩
    have hz198 := HE.size
    have hz199 := HB6.lt
    have hz200 := HB16.lt
    have hz201 := HB27.lt
    have hz202 := HB39.lt
    have hz203 := HZ59
    refine s_call (d := 14) (f := 27) (l := [.slice A190 ((dig 256 (((nv 256 xs) * (nv 256 ys)) + nv 256 zs)).length) c191]) (by kernel_rfl) hF179 cl27 (scal_Reduce A190 ((dig 256 (((nv 256 xs) * (nv 256 ys)) + nv 256 zs)).length) c191 (dig 256 (((nv 256 xs) * (nv 256 ys)) + nv 256 zs)) (((nv 256 xs) * (nv 256 ys)) + nv 256 zs) _ (nvd _) (by first | rfl | omega | exact le_length _ _ | assumption) HR192 (by_dig _) (Nat.le_trans (dlen (add_lt (m := 64) (mul_lt (nlen (k := 32) hbx (Nat.le_of_eq hxl)) (nlen (k := 32) hby (Nat.le_of_eq hyl))) (nlen (k := 32) hbz (Nat.le_of_eq hz)) (by decide) (by decide))) (by decide))) ?_
    rintro a204 w195 v196 ⟨rfl, HX197⟩ ha206 hF205
    replace HE := HE.thenN HX197.g
    replace HB6 := HB6.growN HX197.g
    replace HB16 := HB16.growN HX197.g
    replace HB27 := HB27.growN HX197.g
    replace HB39 := HB39.growN HX197.g
    replace HZ59 := Nat.le_trans HZ59 HX197.g.size
    replace HR192 := HR192.grow HX197.g (by simp)
    rw [ha206]; exact hK181 _ _ rfl HX197.g
  · -- operation 6
    rintro a208 w207 b210 KK216 hs212 hd213 hJ214 hb215 hr221 hK211
    have hr221x : RD SL_ b210 a208 a54 w207 [(6, none), (14, some 5)] := hr221 _ (by kernel_rfl)
    obtain ⟨q217, ⟨v219, q218, s220⟩, -⟩ := hr221x
    obtain rfl : v219 = .agg (vs .u8 (le 32 ((((nv 256 xs) * (nv 256 ys)) + nv 256 zs) % Lq))).toArray := s220
    obtain rfl : b210 = false := by cases b210; rfl; exact absurd rfl (hb215 rfl).1
    obtain ⟨HE, HB6, HB16, HB27, HB39, HZ59⟩ := hJ214
    have hF209 : Fr 15 a208 [(6, .pointer (some ⟨b36, 0, none⟩)), (14, .agg (vs .u8 (le 32 ((((nv 256 xs) * (nv 256 ys)) + nv 256 zs) % Lq))).toArray)] := Fr.of hs212 hd213 ⟨(Fr.init hF56 q217 (by kernel_rfl)), q218, trivial⟩
    refine s_storeV hT (b := b36) (l2 := vs .u8 (le 32 ((((nv 256 xs) * (nv 256 ys)) + nv 256 zs) % Lq))) (sz := 32) (by kernel_rfl) hF209 HB39 (by first | rfl | (simp only [vs_length, vi_length]; first | assumption | omega) | (simp only [vs_length, le_length]; done) | (simp only [vs_length, le_length]; first | rfl | assumption | (symm; assumption) | omega | simp) | (simp; done)) (by first | rfl | (simp only [vs_length, vi_length]; first | assumption | omega) | (simp only [vs_length, le_length]; done) | (simp only [vs_length, le_length]; first | rfl | assumption | (symm; assumption) | omega | simp) | (simp; done) | (simp only [vs_length, vi_length]; simp; omega)) (by exact vs_one) ?_
    rintro a224 w222 ha226 hF225 HB39x g223; replace HB39 := HB39x
    replace HE := HE.thenS g223 (by omega)
    replace HB6 := HB6.growS g223 (by omega)
    replace HB16 := HB16.growS g223 (by omega)
    replace HB27 := HB27.growS g223 (by omega)
    replace HZ59 := Nat.le_trans HZ59 g223.size
    rw [ha226]; exact hK211 undef _ trivial ⟨⟨.inl rfl, .inl rfl, .inl rfl, .inr (fun d v hd hv q => by obtain ⟨A, c, e, h1, h2⟩ := q; exact ⟨A, c, e, h1.grow' g223 (by refine .inr (fun e => ?_); have h9 := h2 _ e.symm; omega), h2⟩), .inr (fun d v hd hv q => by obtain ⟨A, c, e, h1, h2⟩ := q; exact ⟨A, c, e, h1.grow' g223 (by refine .inr (fun e => ?_); have h9 := h2 _ e.symm; omega), h2⟩), .inl rfl, .inl rfl, trivial⟩, ⟨HE, HB6, HB16, HB27, HB39, HZ59⟩⟩
  · -- behind the region
    rintro a228 w229 hs230 hd231 ⟨q233, q234, q235, q236, q237, q238, q239, q240, -⟩ ⟨HE, HB6, HB16, HB27, HB39, HZ59⟩
    replace HB39 : Blk w229 b36 32 (vs .u8 (le 32 ((((nv 256 xs) * (nv 256 ys)) + nv 256 zs) % Lq))) := HB39
    have hF241 : Fr 15 a228 [(7, .func (.func 47) #[] #[.pointer (some ⟨b24, 0, none⟩)]), (6, .pointer (some ⟨b36, 0, none⟩)), (5, .pointer (some ⟨b24, 0, none⟩)), (4, .pointer (some ⟨b13, 0, none⟩)), (3, .pointer (some ⟨b3, 0, none⟩)), (0, .agg (vs .u8 xs).toArray), (1, .agg (vs .u8 ys).toArray), (2, .agg (vs .u8 zs).toArray)] := Fr.of hs230 hd231 ⟨(Fr.init hF56 q233 (by kernel_rfl)), (Fr.init hF56 q234 (by kernel_rfl)), (Fr.init hF56 q235 (by kernel_rfl)), (Fr.init hF56 q236 (by kernel_rfl)), (Fr.init hF56 q237 (by kernel_rfl)), (Fr.init hF56 q238 (by kernel_rfl)), (Fr.init hF56 q239 (by kernel_rfl)), (Fr.init hF56 q240 (by kernel_rfl)), trivial⟩
    clear hF56 hs230 hd231 q233 q234 q235 q236 q237 q238 q239 q240
    refine hK58 _ _ ?_
    refine wp_ret ?_
    refine retR1 (by first | exact .inl rfl | exact .inr rfl) hF241 rfl (resC hT (t := 6) (ty := 32) (b := b36) (by kernel_rfl) (i := tr32) (by kernel_rfl) rfl HB39 (by show _ = 32; first | rfl | (simp only [vs_length, vi_length]; first | assumption | omega) | (simp only [vs_length, le_length]; done) | (simp only [vs_length, le_length]; first | rfl | assumption | (symm; assumption) | omega | simp) | (simp; done))) ?_
    exact ⟨rfl, HE⟩

theorem ref18_MulAdd (xs : List Nat) (x : Nat) (ys : List Nat) (y : Nat) (zs : List Nat) (z : Nat) (w : World) (hx : nv 256 xs = x) (hxl : xs.length = 32) (hbx : By xs) (hy : nv 256 ys = y) (hyl : ys.length = 32) (hby : By ys) (hz0 : nv 256 zs = z) (hz : zs.length = 32) (hbz : By zs) :
    Calls Try.prog 33 [.agg (vs .u8 xs).toArray, .agg (vs .u8 ys).toArray, .agg (vs .u8 zs).toArray].toArray w (Ret fun v w' => v = .agg (vs .u8 (le 32 ((x * y + z) % Lq))).toArray ∧ Ex w w') := by
  subst hx hy hz0
  have hpm := mul_lt (nlen hbx (Nat.le_of_eq hxl)) (nlen hby (Nat.le_of_eq hyl))
  have hpl := dlen hpm
  have hsl := dlen (add_lt (m := 64) hpm (nlen hbz (Nat.le_of_eq hz)) (by decide) (by decide))
  clear hpm
  refine enter Try.func33 rfl (n := 13) Try.ntmps33 (by simp) ?_
  intro a hF
  have HE : Ex w w := Ex.refl w
  refine wp_seq_k (fun K1 hK2 => ?_)
  refine wp_region_lit ?_
  have hz9 := HE.size
  refine wl (s_alloc hT (d := 3) (T := 32) (l := vs .u8 xs) (by kernel_rfl) hF ?_)
  rintro a10 w4 b3 h7 h8 HB6 g5 ha12 hF11; clear ha12 hF a
  replace HE := HE.thenN g5
  have hz19 := HE.size
  have hz20 := HB6.lt
  refine wl (s_alloc hT (d := 4) (T := 32) (l := vs .u8 ys) (by kernel_rfl) hF11 ?_)
  rintro a21 w14 b13 h17 h18 HB16 g15 ha23 hF22; clear ha23 hF11 a10
  replace HE := HE.thenN g15
  replace HB6 := HB6.growN g15
  have hz30 := HE.size
  have hz31 := HB6.lt
  have hz32 := HB16.lt
  refine wl (s_alloc hT (d := 5) (T := 32) (l := vs .u8 zs) (by kernel_rfl) hF22 ?_)
  rintro a33 w25 b24 h28 h29 HB27 g26 ha35 hF34; clear ha35 hF22 a21
  replace HE := HE.thenN g26
  replace HB6 := HB6.growN g26
  replace HB16 := HB16.growN g26
  have hz42 := HE.size
  have hz43 := HB6.lt
  have hz44 := HB16.lt
  have hz45 := HB27.lt
  refine wl (s_alloc hT (d := 6) (T := 32) (l := vs .u8 [0, 0, 0, 0, 0, 0, 0, 0, 0, 0, 0, 0, 0, 0, 0, 0, 0, 0, 0, 0, 0, 0, 0, 0, 0, 0, 0, 0, 0, 0, 0, 0]) (by kernel_rfl) hF34 ?_)
  rintro a46 w37 b36 h40 h41 HB39 g38 ha48 hF47; clear ha48 hF34 a33
  replace HE := HE.thenN g38
  replace HB6 := HB6.growN g38
  replace HB16 := HB16.growN g38
  replace HB27 := HB27.growN g38
  refine wpList_nil ?_
  refine hK2 _ _ ?_
  refine wp_seq_k (fun K49 hK50 => ?_)
  have hz52 := HE.size
  have hz53 := HB6.lt
  have hz54 := HB16.lt
  have hz55 := HB27.lt
  have hz56 := HB39.lt
  have HZ51 : w37.heap.size ≤ w37.heap.size := Nat.le_refl _
  let SL_ : List SP := [SP.val (.slice (some ⟨b3, 0, none⟩) 32 32), SP.val (.slice (some ⟨b13, 0, none⟩) 32 32), SP.mk' (fun _ v W => ∃ A c, v = .slice A ((dig 256 ((nv 256 xs) * (nv 256 ys))).length) c ∧ Rd W A (vs .u8 (dig 256 ((nv 256 xs) * (nv 256 ys)))) ∧ ∀ k, oblk A = some k → w37.heap.size ≤ k) (fun _ v w w' h g => by obtain ⟨A, c, e, h, h2⟩ := h; exact ⟨A, c, e, h.grow g (by simp), h2⟩), SP.val (.slice (some ⟨b24, 0, none⟩) 32 32), SP.mk' (fun _ v W => ∃ A c, v = .slice A ((dig 256 (((nv 256 xs) * (nv 256 ys)) + (nv 256 zs))).length) c ∧ Rd W A (vs .u8 (dig 256 (((nv 256 xs) * (nv 256 ys)) + (nv 256 zs)))) ∧ ∀ k, oblk A = some k → w37.heap.size ≤ k) (fun _ v w w' h g => by obtain ⟨A, c, e, h, h2⟩ := h; exact ⟨A, c, e, h.grow g (by simp), h2⟩), SP.val (.agg (vs .u8 (le 32 ((((nv 256 xs) * (nv 256 ys)) + (nv 256 zs)) % Lq))).toArray), SP.any]
  refine region_rel (SL := SL_) (J := (fun (b : Bool) (W : World) => (Ex w W) ∧ (Blk W b3 32 (vs .u8 xs)) ∧ (Blk W b13 32 (vs .u8 ys)) ∧ (Blk W b24 32 (vs .u8 zs)) ∧ (match b with | true => Blk W b36 32 (vs .u8 (le 32 ((((nv 256 xs) * (nv 256 ys)) + (nv 256 zs)) % Lq))) | false => Blk W b36 32 (vs .u8 [0, 0, 0, 0, 0, 0, 0, 0, 0, 0, 0, 0, 0, 0, 0, 0, 0, 0, 0, 0, 0, 0, 0, 0, 0, 0, 0, 0, 0, 0, 0, 0])) ∧ (w37.heap.size ≤ W.heap.size))) (m := 6) wide (by kernel_rfl) (by kernel_rfl) hF47 rfl ?_ ⟨HE, HB6, HB16, HB27, HB39, HZ51⟩ ⟨?_, ?_, ?_, ?_, ?_, ?_, ?_, trivial⟩ [(6, none), (5, none), (4, none), (3, none), (0, none), (1, none), (2, none)] (by kernel_rfl) ?_
  · intro b W W' hj g; cases b <;> exact ⟨hj.1.thenN g, hj.2.1.growN g, hj.2.2.1.growN g, hj.2.2.2.1.growN g, hj.2.2.2.2.1.growN g, Nat.le_trans hj.2.2.2.2.2 g.size⟩
  · -- operation 0
    rintro a58 w57 b60 KK66 hs62 hd63 hJ64 hb65 hr68 hK61
    have hr68x : RD SL_ b60 a58 a46 w57 [(3, none)] := hr68 _ (by kernel_rfl)
    obtain ⟨q67, -⟩ := hr68x
    obtain rfl : b60 = false := by cases b60; rfl; exact absurd ((hb65 rfl).2 _ rfl) (by decide)
    obtain ⟨HE, HB6, HB16, HB27, HB39, HZ51⟩ := hJ64
    have hF59 : Fr 13 a58 [(3, .pointer (some ⟨b3, 0, none⟩))] := Fr.of hs62 hd63 ⟨(Fr.init hF47 q67 (by kernel_rfl)), trivial⟩
    refine s_sliceA hT (d := 7) (b := b3) (off := 0) (m := 32) (sz := 1) (lo := 0) (hi := 32) (by kernel_rfl) hF59 (by omega) (by omega) (by omega) ?_
    rintro a69 ha71 hF70
    replace hF70 : Fr 13 a69 [(7, .slice (some ⟨b3, 0, none⟩) 32 32), (3, .pointer (some ⟨b3, 0, none⟩))] := hF70
    rw [ha71]; exact hK61 _ _ rfl (grown_refl _ _)
  · -- operation 1
    rintro a73 w72 b75 KK81 hs77 hd78 hJ79 hb80 hr83 hK76
    have hr83x : RD SL_ b75 a73 a46 w72 [(4, none)] := hr83 _ (by kernel_rfl)
    obtain ⟨q82, -⟩ := hr83x
    obtain rfl : b75 = false := by cases b75; rfl; exact absurd ((hb80 rfl).2 _ rfl) (by decide)
    obtain ⟨HE, HB6, HB16, HB27, HB39, HZ51⟩ := hJ79
    have hF74 : Fr 13 a73 [(4, .pointer (some ⟨b13, 0, none⟩))] := Fr.of hs77 hd78 ⟨(Fr.init hF47 q82 (by kernel_rfl)), trivial⟩
    refine s_sliceA hT (d := 8) (b := b13) (off := 0) (m := 32) (sz := 1) (lo := 0) (hi := 32) (by kernel_rfl) hF74 (by omega) (by omega) (by omega) ?_
    rintro a84 ha86 hF85
    replace hF85 : Fr 13 a84 [(8, .slice (some ⟨b13, 0, none⟩) 32 32), (4, .pointer (some ⟨b13, 0, none⟩))] := hF85
    rw [ha86]; exact hK76 _ _ rfl (grown_refl _ _)
  · -- operation 2
    rintro a88 w87 b90 KK96 hs92 hd93 hJ94 hb95 hr103 hK91
    have hr103x : RD SL_ b90 a88 a46 w87 [(7, some 0), (8, some 1)] := hr103 _ (by kernel_rfl)
    obtain ⟨⟨v98, q97, s99⟩, ⟨v101, q100, s102⟩, -⟩ := hr103x
    obtain rfl : v98 = .slice (some ⟨b3, 0, none⟩) 32 32 := s99
    obtain rfl : v101 = .slice (some ⟨b13, 0, none⟩) 32 32 := s102
    obtain rfl : b90 = false := by cases b90; rfl; exact absurd ((hb95 rfl).2 _ rfl) (by decide)
    obtain ⟨HE, HB6, HB16, HB27, HB39, HZ51⟩ := hJ94
    have hF89 : Fr 13 a88 [(7, .slice (some ⟨b3, 0, none⟩) 32 32), (8, .slice (some ⟨b13, 0, none⟩) 32 32)] := Fr.of hs92 hd93 ⟨q97, q100, trivial⟩
    have hz110 := HE.size
    have hz111 := HB6.lt
    have hz112 := HB16.lt
    have hz113 := HB27.lt
    have hz114 := HB39.lt
    have hz115 := HZ51
    refine s_call (d := 9) (f := 24) (l := [.slice (some ⟨b3, 0, none⟩) 32 32, .slice (some ⟨b13, 0, none⟩) 32 32]) (by kernel_rfl) hF89 cl24 (ref15_Mul (some ⟨b3, 0, none⟩) 32 32 xs (nv 256 xs) (some ⟨b13, 0, none⟩) 32 32 ys (nv 256 ys) _ rfl rfl (by first | omega | assumption | (simp; done) | (simp; omega) | decide) (by first | omega | assumption | (simp; done) | (simp; omega) | decide) HB6.rd HB16.rd (by first | assumption | exact by_dig _ | exact by_one (Nat.mod_lt _ (by decide)) | omega | (simp; done) | decide) (by first | assumption | exact by_dig _ | exact by_one (Nat.mod_lt _ (by decide)) | omega | (simp; done) | decide) (by first | omega | assumption | (simp; done) | (simp; omega) | decide) (by first | omega | assumption | (simp; done) | (simp; omega) | decide) ) ?_
    rintro a116 w107 v108 ⟨A104, c105, rfl, HX109, HO106⟩ ha118 hF117
    replace HE := HE.thenN HX109.g
    replace HB6 := HB6.growN HX109.g
    replace HB16 := HB16.growN HX109.g
    replace HB27 := HB27.growN HX109.g
    replace HB39 := HB39.growN HX109.g
    replace HZ51 := Nat.le_trans HZ51 HX109.g.size
    have hcp119 := HO106.cap
    rw [ha118]; exact hK91 _ _ ⟨_, _, rfl, HO106.rd, fun k hk => (by have := (HO106.base k hk).1; omega)⟩ HX109.g
  · -- operation 3
    rintro a121 w120 b123 KK129 hs125 hd126 hJ127 hb128 hr131 hK124
    have hr131x : RD SL_ b123 a121 a46 w120 [(5, none)] := hr131 _ (by kernel_rfl)
    obtain ⟨q130, -⟩ := hr131x
    obtain rfl : b123 = false := by cases b123; rfl; exact absurd ((hb128 rfl).2 _ rfl) (by decide)
    obtain ⟨HE, HB6, HB16, HB27, HB39, HZ51⟩ := hJ127
    have hF122 : Fr 13 a121 [(5, .pointer (some ⟨b24, 0, none⟩))] := Fr.of hs125 hd126 ⟨(Fr.init hF47 q130 (by kernel_rfl)), trivial⟩
    refine s_sliceA hT (d := 10) (b := b24) (off := 0) (m := 32) (sz := 1) (lo := 0) (hi := 32) (by kernel_rfl) hF122 (by omega) (by omega) (by omega) ?_
    rintro a132 ha134 hF133
    replace hF133 : Fr 13 a132 [(10, .slice (some ⟨b24, 0, none⟩) 32 32), (5, .pointer (some ⟨b24, 0, none⟩))] := hF133
    rw [ha134]; exact hK124 _ _ rfl (grown_refl _ _)
  · -- operation 4
    rintro a136 w135 b138 KK144 hs140 hd141 hJ142 hb143 hr155 hK139
    have hr155x : RD SL_ b138 a136 a46 w135 [(9, some 2), (10, some 3)] := hr155 _ (by kernel_rfl)
    obtain ⟨⟨v146, q145, s147⟩, ⟨v153, q152, s154⟩, -⟩ := hr155x
    obtain ⟨A148, c149, rfl, HR150, h151⟩ := s147
    obtain rfl : v153 = .slice (some ⟨b24, 0, none⟩) 32 32 := s154
    obtain rfl : b138 = false := by cases b138; rfl; exact absurd ((hb143 rfl).2 _ rfl) (by decide)
    obtain ⟨HE, HB6, HB16, HB27, HB39, HZ51⟩ := hJ142
    have hF137 : Fr 13 a136 [(9, .slice A148 ((dig 256 ((nv 256 xs) * (nv 256 ys))).length) c149), (10, .slice (some ⟨b24, 0, none⟩) 32 32)] := Fr.of hs140 hd141 ⟨q145, q152, trivial⟩
    have hz162 := HE.size
    have hz163 := HB6.lt
    have hz164 := HB16.lt
    have hz165 := HB27.lt
    have hz166 := HB39.lt
    have hz167 := HZ51
    refine s_call (d := 11) (f := 22) (l := [.slice A148 ((dig 256 ((nv 256 xs) * (nv 256 ys))).length) c149, .slice (some ⟨b24, 0, none⟩) 32 32]) (by kernel_rfl) hF137 cl22 (ref15_Add A148 ((dig 256 ((nv 256 xs) * (nv 256 ys))).length) c149 (dig 256 ((nv 256 xs) * (nv 256 ys))) ((nv 256 xs) * (nv 256 ys)) (some ⟨b24, 0, none⟩) 32 32 zs (nv 256 zs) _ (nvd _) rfl (by first | omega | assumption | (simp; done) | (simp; omega) | decide) (by first | omega | assumption | (simp; done) | (simp; omega) | decide) HR150 HB27.rd (by first | assumption | exact by_dig _ | exact by_one (Nat.mod_lt _ (by decide)) | omega | (simp; done) | decide) (by first | assumption | exact by_dig _ | exact by_one (Nat.mod_lt _ (by decide)) | omega | (simp; done) | decide) (by first | omega | assumption | (simp; done) | (simp; omega) | decide) (by first | omega | assumption | (simp; done) | (simp; omega) | decide) ) ?_
    rintro a168 w159 v160 ⟨A156, c157, rfl, HX161, HO158⟩ ha170 hF169
    replace HE := HE.thenN HX161.g
    replace HB6 := HB6.growN HX161.g
    replace HB16 := HB16.growN HX161.g
    replace HB27 := HB27.growN HX161.g
    replace HB39 := HB39.growN HX161.g
    replace HZ51 := Nat.le_trans HZ51 HX161.g.size
    replace HR150 := HR150.grow HX161.g (by simp)
    have hcp171 := HO158.cap
    rw [ha170]; exact hK139 _ _ ⟨_, _, rfl, HO158.rd, fun k hk => (by have := (HO158.base k hk).1; omega)⟩ HX161.g
  · -- operation 5
    rintro a173 w172 b175 KK181 hs177 hd178 hJ179 hb180 hr189 hK176
    have hr189x : RD SL_ b175 a173 a46 w172 [(11, some 4)] := hr189 _ (by kernel_rfl)
    obtain ⟨⟨v183, q182, s184⟩, -⟩ := hr189x
    obtain ⟨A185, c186, rfl, HR187, h188⟩ := s184
    obtain rfl : b175 = false := by cases b175; rfl; exact absurd ((hb180 rfl).2 _ rfl) (by decide)
    obtain ⟨HE, HB6, HB16, HB27, HB39, HZ51⟩ := hJ179
    have hF174 : Fr 13 a173 [(11, .slice A185 ((dig 256 (((nv 256 xs) * (nv 256 ys)) + (nv 256 zs))).length) c186)] := Fr.of hs177 hd178 ⟨q182, trivial⟩
    have hz193 := HE.size
    have hz194 := HB6.lt
    have hz195 := HB16.lt
    have hz196 := HB27.lt
    have hz197 := HB39.lt
    have hz198 := HZ51
    refine s_call (d := 12) (f := 31) (l := [.slice A185 ((dig 256 (((nv 256 xs) * (nv 256 ys)) + (nv 256 zs))).length) c186]) (by kernel_rfl) hF174 cl31 (ref18_Reduce A185 ((dig 256 (((nv 256 xs) * (nv 256 ys)) + (nv 256 zs))).length) c186 (dig 256 (((nv 256 xs) * (nv 256 ys)) + (nv 256 zs))) (((nv 256 xs) * (nv 256 ys)) + (nv 256 zs)) _ (nvd _) (by first | rfl | omega | exact le_length _ _ | assumption) HR187 (by_dig _) (by first | omega | assumption | (simp; done) | (simp; omega) | decide)) ?_
    rintro a199 w190 v191 ⟨rfl, HX192⟩ ha201 hF200
    replace HE := HE.thenN HX192.g
    replace HB6 := HB6.growN HX192.g
    replace HB16 := HB16.growN HX192.g
    replace HB27 := HB27.growN HX192.g
    replace HB39 := HB39.growN HX192.g
    replace HZ51 := Nat.le_trans HZ51 HX192.g.size
    replace HR187 := HR187.grow HX192.g (by simp)
    rw [ha201]; exact hK176 _ _ rfl HX192.g
  · -- operation 6
    rintro a203 w202 b205 KK211 hs207 hd208 hJ209 hb210 hr216 hK206
    have hr216x : RD SL_ b205 a203 a46 w202 [(6, none), (12, some 5)] := hr216 _ (by kernel_rfl)
    obtain ⟨q212, ⟨v214, q213, s215⟩, -⟩ := hr216x
    obtain rfl : v214 = .agg (vs .u8 (le 32 ((((nv 256 xs) * (nv 256 ys)) + (nv 256 zs)) % Lq))).toArray := s215
    obtain rfl : b205 = false := by cases b205; rfl; exact absurd rfl (hb210 rfl).1
    obtain ⟨HE, HB6, HB16, HB27, HB39, HZ51⟩ := hJ209
    have hF204 : Fr 13 a203 [(6, .pointer (some ⟨b36, 0, none⟩)), (12, .agg (vs .u8 (le 32 ((((nv 256 xs) * (nv 256 ys)) + (nv 256 zs)) % Lq))).toArray)] := Fr.of hs207 hd208 ⟨(Fr.init hF47 q212 (by kernel_rfl)), q213, trivial⟩
    refine s_storeV hT (b := b36) (l2 := vs .u8 (le 32 ((((nv 256 xs) * (nv 256 ys)) + (nv 256 zs)) % Lq))) (sz := 32) (by kernel_rfl) hF204 HB39 (by first | rfl | (simp only [vs_length, vi_length]; first | assumption | omega) | (simp only [vs_length, le_length]; done) | (simp only [vs_length, le_length]; first | rfl | assumption | (symm; assumption) | omega | simp) | (simp; done)) (by first | rfl | (simp only [vs_length, vi_length]; first | assumption | omega) | (simp only [vs_length, le_length]; done) | (simp only [vs_length, le_length]; first | rfl | assumption | (symm; assumption) | omega | simp) | (simp; done) | (simp only [vs_length, vi_length]; simp; omega)) (by exact vs_one) ?_
    rintro a219 w217 ha221 hF220 HB39x g218; replace HB39 := HB39x
    replace HE := HE.thenS g218 (by omega)
    replace HB6 := HB6.growS g218 (by omega)
    replace HB16 := HB16.growS g218 (by omega)
    replace HB27 := HB27.growS g218 (by omega)
    replace HZ51 := Nat.le_trans HZ51 g218.size
    rw [ha221]; exact hK206 undef _ trivial ⟨⟨.inl rfl, .inl rfl, .inr (fun d v hd hv q => by obtain ⟨A, c, e, h1, h2⟩ := q; exact ⟨A, c, e, h1.grow' g218 (by refine .inr (fun e => ?_); have h9 := h2 _ e.symm; omega), h2⟩), .inl rfl, .inr (fun d v hd hv q => by obtain ⟨A, c, e, h1, h2⟩ := q; exact ⟨A, c, e, h1.grow' g218 (by refine .inr (fun e => ?_); have h9 := h2 _ e.symm; omega), h2⟩), .inl rfl, .inl rfl, trivial⟩, ⟨HE, HB6, HB16, HB27, HB39, HZ51⟩⟩
  · -- behind the region
    rintro a223 w224 hs225 hd226 ⟨q228, q229, q230, q231, q232, q233, q234, -⟩ ⟨HE, HB6, HB16, HB27, HB39, HZ51⟩
    replace HB39 : Blk w224 b36 32 (vs .u8 (le 32 ((((nv 256 xs) * (nv 256 ys)) + (nv 256 zs)) % Lq))) := HB39
    have hF235 : Fr 13 a223 [(6, .pointer (some ⟨b36, 0, none⟩)), (5, .pointer (some ⟨b24, 0, none⟩)), (4, .pointer (some ⟨b13, 0, none⟩)), (3, .pointer (some ⟨b3, 0, none⟩)), (0, .agg (vs .u8 xs).toArray), (1, .agg (vs .u8 ys).toArray), (2, .agg (vs .u8 zs).toArray)] := Fr.of hs225 hd226 ⟨(Fr.init hF47 q228 (by kernel_rfl)), (Fr.init hF47 q229 (by kernel_rfl)), (Fr.init hF47 q230 (by kernel_rfl)), (Fr.init hF47 q231 (by kernel_rfl)), (Fr.init hF47 q232 (by kernel_rfl)), (Fr.init hF47 q233 (by kernel_rfl)), (Fr.init hF47 q234 (by kernel_rfl)), trivial⟩
    clear hF47 hs225 hd226 q228 q229 q230 q231 q232 q233 q234
    refine hK50 _ _ ?_
    refine wp_ret ?_
    refine retR1 (by first | exact .inl rfl | exact .inr rfl) hF235 rfl (resC hT (t := 6) (ty := 32) (b := b36) (by kernel_rfl) (i := tr32) (by kernel_rfl) rfl HB39 (by show _ = 32; first | rfl | (simp only [vs_length, vi_length]; first | assumption | omega) | (simp only [vs_length, le_length]; done) | (simp only [vs_length, le_length]; first | rfl | assumption | (symm; assumption) | omega | simp) | (simp; done))) ?_
    exact ⟨rfl, HE⟩

end Go.Proofs.Ytdabkjflpbbpeaa
