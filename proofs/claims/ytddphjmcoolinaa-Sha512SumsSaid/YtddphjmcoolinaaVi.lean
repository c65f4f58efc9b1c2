/- Walks of functions, printed by auto.py. -/
import Derived.Test.YtddphjmcoolinaaVd
import Derived.Test.YtddphjmcoolinaaVg
set_option linter.unusedVariables false
set_option linter.unusedSimpArgs false
set_option maxRecDepth 100000
namespace Go.Proofs.Ytddphjmcoolinaa
open Go.Proofs Go.RowKit
noncomputable def F_casematelaw14_Sha512Sums (xs0 : List Nat) : Option Bool := if 1000 < ((xs0.length : Nat) : Int) then (some true) else (gd ((0 + xs0.length) * 1 ≤ 140737488355328) (bnd (F_sha512_Sum [xs0]) fun (zs58 : List Nat) => bnd (F_sha512_Pad xs0) fun (zs101 : List Nat) => bnd (F_casematelaw14_awake) fun (b122 : Bool) => if b122 = true then (if xs0 = xs0 then (bnd (F_casemateref14_Sum xs0) fun (zs159 : List Nat) => if zs58 = zs159 then (bnd (F_casemateref14_Pad xs0) fun (zs173 : List Nat) => some ((decide (zs101 = zs173)))) else (some false)) else (some false)) else (some false)))
set_option maxHeartbeats 4000000 in
theorem W_casematelaw14_Sha512Sums (pA0 : Option Addr) (pc0 : Nat) (xs0 : List Nat) (w : World) (pR0 : Rd w pA0 (vs .u8 xs0)) (pc_0 : xs0.length ≤ pc0) (pb0 : LB 256 xs0) (h : F_casematelaw14_Sha512Sums xs0 = some true) :
    Calls Try.prog 4 [.slice pA0 xs0.length pc0].toArray w (Ret fun v w' => v = .bool true ∧ Heap w [] w' []) := by
  obtain ⟨r, hr0⟩ : ∃ r, r = true := ⟨_, rfl⟩; rw [← hr0] at h
  unfold F_casematelaw14_Sha512Sums at h
  refine enter Try.func4 rfl (n := 39) Try.ntmps4 (by simp) ?_
  intro a hF
  have hS := Heap.init w
  refine wp_seq_k (fun K1 hK2 => ?_)
  refine wp_region_lit ?_
  refine pu_end hT 1 _ hF [0] (G := [(0, .slice pA0 xs0.length pc0)]) (cs := []) (by kernel_rfl) rfl trivial ?_; clear hF a; intro a3 hF4
  refine hK2 _ _ ?_
  refine wp_seq_k (fun K11 hK12 => ?_)
  refine wp_seq_k (fun K13 hK14 => ?_)
  refine wp_region_lit ?_
  refine pu_end hT 3 _ hF4 [0, 8] (G := [(0, .slice pA0 xs0.length pc0), (8, .bool ((decide (1000 < ((xs0.length : Nat) : Int)))))]) (cs := []) (by kernel_rfl) rfl trivial ?_; clear hF4 a3; intro a15 hF16
  refine hK14 _ _ ?_
  rcases (ite_some h : ((1000 < ((xs0.length : Nat) : Int)) ∧ _) ∨ (¬ (1000 < ((xs0.length : Nat) : Int)) ∧ _)) with ⟨hc17, h18⟩ | ⟨hc17, h18⟩
  · clear h
    have hF19 : Fr 39 a15 [(0, .slice pA0 xs0.length pc0), (8, .bool true)] := hF16.pick [0, 8] (by rw [decide_eq_true hc17]; kernel_rfl); clear hF16
    refine condT hF19 (by kernel_rfl) ?_
    refine wp_seq_k (fun K20 hK21 => ?_)
    refine wp_region_lit ?_
    refine pu_end hT 1 _ hF19 [2] (G := [(2, .bool true)]) (cs := []) (by kernel_rfl) rfl trivial ?_; clear hF19 a15; intro a22 hF23
    refine hK21 _ _ ?_
    refine wp_ret ?_
    obtain rfl := Option.some.inj h18
    refine ret1 hF23 rfl (v := .bool true) (by kernel_rfl) ?_
    exact ⟨by rw [show (true) = true from hr0], hS.pick [] (by decide) rfl⟩
  · clear h
    have hF24 : Fr 39 a15 [(0, .slice pA0 xs0.length pc0), (8, .bool false)] := hF16.pick [0, 8] (by rw [decide_eq_false hc17]; kernel_rfl); clear hF16
    refine condF hF24 (by kernel_rfl) ?_
    refine wp_skip ?_
    refine hK12 _ _ ?_
    refine wp_seq_k (fun K25 hK26 => ?_)
    obtain ⟨g30, h29⟩ : ((0 + xs0.length) * 1 ≤ 140737488355328) ∧ _ := gd_some h18; clear h18
    refine wp_region_lit ?_
    refine wl (h_lit hT (d := 9) (T := 5) (l := vs .u8 []) (by kernel_rfl) hF24 hS (by simp [maxLen]) ?_)
    rintro a34 w35 A27 hS36 g37 ha38 hF39; clear ha38 hF24 a15 hS
    have hS40 : Heap w [] w35 [.row 5 1 A27 0 0 (vs .u8 [])] := hS36; clear hS36
    have hF41 := hF39.pick [0, 9] (G := [(0, .slice pA0 xs0.length pc0), (9, .slice A27 0 0)]) (by kernel_rfl); clear hF39
    refine pu hT 1 _ hF41 [0, 9, 10] (G := [(0, .slice pA0 xs0.length pc0), (9, .slice A27 0 0), (10, .slice pA0 xs0.length pc0)]) (cs := []) (by kernel_rfl) trivial ?_; clear hF41 a34; intro a42 hF43
    refine wl (h_app hT (d := 11) (T := 5) (i := tr5) (m := 0) (c := 0) (m2 := xs0.length) (c2 := pc0) (A2 := pA0) (l2 := vs .u8 xs0) (n' := xs0.length) (l' := vs .u8 xs0) (by kernel_rfl) hF43 hS40 0 rfl rfl (by decide) (hS40.rd0 pR0) (by show _ = xs0.length * 1; have := (Eq.refl xs0.length); simp only [zA, zS, zT, zD, zR, zC, zN, zV, zI] <;> omega) vs_one (by show (0 + xs0.length) * 1 ≤ 140737488355328; first | exact g30 | omega) (by decide) (by have := (show ([] : List Nat).length = 0 from rfl); have := (Eq.refl xs0.length); first | omega | (simp only [zA, zS, zT, zD, zR, zC, zN, zV, zI] <;> omega) | (simp only [zA, zS, zT, zD, zR, zC, zN, zV, zI] at * <;> omega)) (by first | rfl | exact (vs_append _ _ _).symm | exact (vi_append _ _).symm | simp [vs, vi]) ?_)
    rintro a44 w45 A31 c32 hS46 g47 ha48 hF49; clear ha48 hF43 a42 hS40
    have hS50 : Heap w [] w45 [.row 5 1 A31 xs0.length c32 (vs .u8 xs0)] := hS46; clear hS46
    have hF51 := hF49.pick [0, 11] (G := [(0, .slice pA0 xs0.length pc0), (11, .slice A31 xs0.length c32)]) (by kernel_rfl); clear hF49
    refine pu_end hT 1 _ hF51 [0, 3] (G := [(0, .slice pA0 xs0.length pc0), (3, .slice A31 xs0.length c32)]) (cs := []) (by kernel_rfl) rfl trivial ?_; clear hF51 a44; intro a52 hF53
    refine hK26 _ _ ?_
    refine wp_seq_k (fun K54 hK55 => ?_)
    obtain ⟨zs58, hr60, h59⟩ := bnd_some h29; clear h29; replace hr60 : F_sha512_Sum [xs0] = some (zs58) := hr60
    refine wp_region_lit ?_
    refine pu hT 1 _ hF53 [0, 3, 12] (G := [(0, .slice pA0 xs0.length pc0), (3, .slice A31 xs0.length c32), (12, .slice A31 xs0.length c32)]) (cs := []) (by kernel_rfl) trivial ?_; clear hF53 a52; intro a65 hF66
    refine wl (h_lit hT (d := 13) (T := 29) (l := [.slice A31 xs0.length c32]) (by kernel_rfl) hF66 hS50 (by simp [maxLen]) ?_)
    rintro a67 w68 A56 hS69 g70 ha71 hF72; clear ha71 hF66 a65 hS50
    have hS73 : Heap w [] w68 [.row 29 1 A56 1 1 ([.slice A31 xs0.length c32]), .row 5 1 A31 xs0.length c32 (vs .u8 xs0)] := hS69; clear hS69
    have hF74 := hF72.pick [0, 3, 13] (G := [(0, .slice pA0 xs0.length pc0), (3, .slice A31 xs0.length c32), (13, .slice A56 1 1)]) (by kernel_rfl); clear hF72
    refine wl (s_call (d := 14) (f := 20) (l := [.slice A56 1 1]) (by kernel_rfl) hF74 cl20 (W_sha512_Sum A56 1 [(A31, c32)] [xs0] _ (hS73.own 0 rfl).rd (by simp) ⟨⟨(hS73.own 1 rfl).rd, pb0, (by have := (hS73.own 1 rfl).cap; have := (Eq.refl xs0.length); skip; have := (Eq.refl xs0.length); omega)⟩, trivial⟩ zs58 hr60) ?_)
    rintro a75 w76 v77 ⟨rfl, hh61, hh62, hC78⟩ ha79 hF80; clear ha79 hF74 a67
    have hS81 : Heap w [] w76 [.row 29 1 A56 1 1 ([.slice A31 xs0.length c32]), .row 5 1 A31 xs0.length c32 (vs .u8 xs0)] := Heap.call hS73 hC78; clear hS73
    have hF82 := hF80.pick [0, 3, 14] (G := [(0, .slice pA0 xs0.length pc0), (3, .slice A31 xs0.length c32), (14, .agg (vs .u8 zs58).toArray)]) (by kernel_rfl); clear hF80
    refine wl (h_alloc hT (d := 4) (T := 30) (l := vs .u8 (List.replicate 64 0)) (by kernel_rfl) hF82 hS81 ?_)
    rintro a83 w84 b63 hS85 g86 ha87 hF88; clear ha87 hF82 a75 hS81
    have hS89 : Heap w [] w84 [.blk b63 30 (vs .u8 (List.replicate 64 0)), .row 29 1 A56 1 1 ([.slice A31 xs0.length c32]), .row 5 1 A31 xs0.length c32 (vs .u8 xs0)] := hS85; clear hS85
    have hF90 := hF88.pick [0, 3, 14, 4] (G := [(0, .slice pA0 xs0.length pc0), (3, .slice A31 xs0.length c32), (14, .agg (vs .u8 zs58).toArray), (4, .pointer (some ⟨b63, 0, none⟩))]) (by kernel_rfl); clear hF88
    refine wl (h_storeV hT (b := b63) (l2 := vs .u8 zs58) (sz := 64) (by kernel_rfl) hF90 hS89 0 rfl (by simp only [List.length_append, vs_length, vi_length, List.length_cons, List.length_nil, (hh61 : zs58.length = 64)]) (by simp only [List.length_append, vs_length, vi_length, List.length_cons, List.length_nil, (hh61 : zs58.length = 64), ((len_rep (α := Nat) 64 0) : (List.replicate 64 0).length = 64)]) (vs_one) ?_)
    rintro a91 w92 ha95 hF96 hS93 g94; clear ha95 hF90 a83 hS89
    have hS97 : Heap w [] w92 [.blk b63 30 (vs .u8 zs58), .row 29 1 A56 1 1 ([.slice A31 xs0.length c32]), .row 5 1 A31 xs0.length c32 (vs .u8 xs0)] := hS93; clear hS93
    have hF98 := hF96.pick [0, 3, 4] (G := [(0, .slice pA0 xs0.length pc0), (3, .slice A31 xs0.length c32), (4, .pointer (some ⟨b63, 0, none⟩))]) (by kernel_rfl); clear hF96
    refine wpList_nil ?_
    refine hK55 _ _ ?_
    refine wp_seq_k (fun K99 hK100 => ?_)
    obtain ⟨zs101, hr103, h102⟩ := bnd_some h59; clear h59; replace hr103 : F_sha512_Pad xs0 = some (zs101) := hr103
    refine wp_region_lit ?_
    refine pu hT 1 _ hF98 [0, 3, 4, 15] (G := [(0, .slice pA0 xs0.length pc0), (3, .slice A31 xs0.length c32), (4, .pointer (some ⟨b63, 0, none⟩)), (15, .slice A31 xs0.length c32)]) (cs := []) (by kernel_rfl) trivial ?_; clear hF98 a91; intro a108 hF109
    refine wl (s_call (d := 16) (f := 21) (l := [.slice A31 xs0.length c32]) (by kernel_rfl) hF109 cl21 (W_sha512_Pad A31 c32 xs0 _ (hS97.own 2 rfl).rd (by have := (hS97.own 2 rfl).cap; have := (Eq.refl xs0.length); skip; have := (Eq.refl xs0.length); first | omega | (simp only [zA, zS, zT, zD, zR, zC, zN, zV, zI] <;> omega) | (simp only [zA, zS, zT, zD, zR, zC, zN, zV, zI] at * <;> omega)) pb0 zs101 hr103) ?_)
    rintro a110 w111 v112 ⟨A104, c105, rfl, hh106, hC113⟩ ha114 hF115; clear ha114 hF109 a108
    have hS116 : Heap w [] w111 [.row 5 1 A104 zs101.length c105 (vs .u8 zs101), .blk b63 30 (vs .u8 zs58), .row 29 1 A56 1 1 ([.slice A31 xs0.length c32]), .row 5 1 A31 xs0.length c32 (vs .u8 xs0)] := Heap.call hS97 hC113; clear hS97
    have hF117 := hF115.pick [0, 3, 4, 16] (G := [(0, .slice pA0 xs0.length pc0), (3, .slice A31 xs0.length c32), (4, .pointer (some ⟨b63, 0, none⟩)), (16, .slice A104 zs101.length c105)]) (by kernel_rfl); clear hF115
    refine pu_end hT 1 _ hF117 [0, 3, 4, 5] (G := [(0, .slice pA0 xs0.length pc0), (3, .slice A31 xs0.length c32), (4, .pointer (some ⟨b63, 0, none⟩)), (5, .slice A104 zs101.length c105)]) (cs := []) (by kernel_rfl) rfl trivial ?_; clear hF117 a110; intro a118 hF119
    refine hK100 _ _ ?_
    refine wp_seq_k (fun K120 hK121 => ?_)
    obtain ⟨b122, hr124, h123⟩ := bnd_some h102; clear h102; replace hr124 : F_casematelaw14_awake = some (b122) := hr124
    rcases (ite_some h123 : ((b122 = true) ∧ _) ∨ (¬ (b122 = true) ∧ _)) with ⟨hc125, h126⟩ | ⟨hc125, h126⟩
    · clear h123
      rcases (ite_some h126 : ((xs0 = xs0) ∧ _) ∨ (¬ (xs0 = xs0) ∧ _)) with ⟨hc143, h144⟩ | ⟨hc143, h144⟩
      · clear h126
        obtain ⟨zs159, hr161, h160⟩ := bnd_some h144; clear h144; replace hr161 : F_casemateref14_Sum xs0 = some (zs159) := hr161
        rcases (ite_some h160 : ((zs58 = zs159) ∧ _) ∨ (¬ (zs58 = zs159) ∧ _)) with ⟨hc164, h165⟩ | ⟨hc164, h165⟩
        · clear h160
          obtain ⟨zs173, hr175, h174⟩ := bnd_some h165; clear h165; replace hr175 : F_casemateref14_Pad xs0 = some (zs173) := hr175
          have hlt182 := hS116.ids
          have hsz184 := hS116.size
          let SL183 : List SP := [SP.val (.bool (b122)), SP.val (.bool true), SP.val (.slice A31 xs0.length c32), SP.val (.string (str xs0)), SP.val (.slice pA0 xs0.length pc0), SP.val (.string (str xs0)), SP.val (.bool ((decide (xs0 = xs0)))), SP.val (.bool ((decide (xs0 = xs0)))), SP.val (.bool true), SP.val (.agg (vs .u8 zs58).toArray), SP.val (.slice pA0 xs0.length pc0), SP.mk' (fun B v W => v = .agg (vs .u8 zs159).toArray ∧ (zs159.length = 64) ∧ (LB 256 zs159)) (fun B v W W2 hh gg => by obtain ⟨e, hh162, hh163⟩ := hh; exact ⟨e, hh162, hh163⟩), SP.val (.bool ((decide (zs58 = zs159)))), SP.val (.bool ((decide (zs58 = zs159)))), SP.val (.bool true), SP.val (.slice A104 zs101.length c105), SP.val (.string (str zs101)), SP.val (.slice pA0 xs0.length pc0), SP.mk' (fun B v W => ∃ (A176 : Option Addr), ∃ (c177 : Nat), v = .slice A176 zs173.length c177 ∧ (∀ k, oblk A176 = some k → w111.heap.size ≤ k) ∧ (Own W 0 5 1 A176 zs173.length c177 (vs .u8 zs173)) ∧ (LB 256 zs173)) (fun B v W W2 hh gg => by obtain ⟨A176, c177, e, hq181, hl180, hh178⟩ := hh; exact ⟨A176, c177, e, hq181, Own.growN hl180 gg, hh178⟩), SP.mk' (fun B v W => v = .string (str zs173) ∧ (LB 256 zs173)) (fun B v W W2 hh gg => by obtain ⟨e, hh178⟩ := hh; exact ⟨e, hh178⟩), SP.val (.bool ((decide (zs101 = zs173)))), SP.val (.bool ((decide (zs101 = zs173)))), SP.val (.bool ((decide (zs101 = zs173))))]
          refine region_rel (SL := SL183) (J := (fun (B : Bool) (W : World) => w111.heap.size ≤ W.heap.size ∧ Heap w [] W [.row 5 1 A104 zs101.length c105 (vs .u8 zs101), .blk b63 30 (vs .u8 zs58), .row 29 1 A56 1 1 ([.slice A31 xs0.length c32]), .row 5 1 A31 xs0.length c32 (vs .u8 xs0)])) (m := 23) wide (by kernel_rfl) (by kernel_rfl) hF119 rfl ?_ ⟨Nat.le_refl _, hS116⟩ ⟨?_, ?_, ?_, ?_, ?_, ?_, ?_, ?_, ?_, ?_, ?_, ?_, ?_, ?_, ?_, ?_, ?_, ?_, ?_, ?_, ?_, ?_, ?_, trivial⟩ [(2, some 22)] (by kernel_rfl) ?_
          · intro b W W' hj g; exact ⟨Nat.le_trans hj.1 g.size, hj.2.growN g⟩
          · -- operation 0
            rintro a186 w185 b189 KK195 hs191 hd192 hJ193 hb194 hr196 hK190
            have hr196x : RD SL183 b189 a186 a118 w185 [] := hr196 _ (by kernel_rfl)
            obtain ⟨hX197, hS188⟩ := hJ193
            have hF187 : Fr 39 a186 [] := Fr.of hs191 hd192 trivial
            refine s_call (d := 17) (f := 15) (l := []) (by kernel_rfl) hF187 cl15 (W_casematelaw14_awake _ b122 hr124) ?_
            rintro a198 w199 v200 ⟨rfl, hC201⟩ ha202 hF203
            have hS204 : Heap w [] w199 [.row 5 1 A104 zs101.length c105 (vs .u8 zs101), .blk b63 30 (vs .u8 zs58), .row 29 1 A56 1 1 ([.slice A31 xs0.length c32]), .row 5 1 A31 xs0.length c32 (vs .u8 xs0)] := Heap.call hS188 hC201
            rw [ha202]
            exact hK190 _ _ rfl (hC201.grown)
          · -- operation 1
            rintro a206 w205 b209 KK215 hs211 hd212 hJ213 hb214 hr216 hK210
            have hr216x : RD SL183 b209 a206 a118 w205 [(17, some 0)] := hr216 _ (by kernel_rfl)
            obtain ⟨⟨v218, q217, s219⟩, -⟩ := hr216x
            obtain rfl : v218 = .bool (b122) := s219
            obtain ⟨hX220, hS208⟩ := hJ213
            have hF207 : Fr 39 a206 [(17, .bool (b122))] := Fr.of hs211 hd212 ⟨q217, trivial⟩
            refine s_pure hT (d := 18) (v := .bool (b122)) (cs := []) (by kernel_rfl) (by kernel_rfl) trivial hF207 ?_
            rintro a2 ha2 hF2; rw [ha2]
            exact hK210 _ _ (show (.bool (b122) : Value) = .bool true by (rw [hc125] <;> rfl)) (grown_refl _ _)
          · -- operation 2
            rintro a222 w221 b225 KK231 hs227 hd228 hJ229 hb230 hr232 hK226
            have hr232x : RD SL183 b225 a222 a118 w221 [(3, none), (18, some 1)] := hr232 _ (by kernel_rfl)
            obtain ⟨q233, ⟨v235, q234, s236⟩, -⟩ := hr232x
            obtain rfl : v235 = .bool true := s236
            obtain ⟨hX237, hS224⟩ := hJ229
            have hF223 : Fr 39 a222 [(3, .slice A31 xs0.length c32), (18, .bool true)] := Fr.of hs227 hd228 ⟨(Fr.init hF119 q233 (by kernel_rfl)), q234, trivial⟩
            refine One.bare hF223 (by kernel_rfl) (s_pure hT (d := 19) (v := .slice A31 xs0.length c32) (cs := []) (by kernel_rfl) (by kernel_rfl) trivial hF223 ?_)
            rintro a2 ha2 hF2; rw [ha2]
            exact hK226 _ _ rfl (grown_refl _ _)
          · -- operation 3
            rintro a239 w238 b242 KK248 hs244 hd245 hJ246 hb247 hr249 hK243
            have hr249x : RD SL183 b242 a239 a118 w238 [(19, some 2), (18, some 1)] := hr249 _ (by kernel_rfl)
            obtain ⟨⟨v251, q250, s252⟩, ⟨v254, q253, s255⟩, -⟩ := hr249x
            obtain rfl : v251 = .slice A31 xs0.length c32 := s252
            obtain rfl : v254 = .bool true := s255
            obtain ⟨hX256, hS241⟩ := hJ246
            have hF240 : Fr 39 a239 [(19, .slice A31 xs0.length c32), (18, .bool true)] := Fr.of hs244 hd245 ⟨q250, q253, trivial⟩
            refine One.bare hF240 (by kernel_rfl) (s_str hT (d := 20) (A := A31) (m := xs0.length) (xs := xs0) (by kernel_rfl) hF240 (hS241.own 3 rfl).rd (by have := (Eq.refl xs0.length); first | exact this | omega | (simp [*]; done)) ?_)
            rintro a257 ha259 hF258
            rw [ha259]
            exact hK243 _ _ rfl (grown_refl _ _)
          · -- operation 4
            rintro a261 w260 b264 KK270 hs266 hd267 hJ268 hb269 hr271 hK265
            have hr271x : RD SL183 b264 a261 a118 w260 [(0, none), (18, some 1)] := hr271 _ (by kernel_rfl)
            obtain ⟨q272, ⟨v274, q273, s275⟩, -⟩ := hr271x
            obtain rfl : v274 = .bool true := s275
            obtain ⟨hX276, hS263⟩ := hJ268
            have hF262 : Fr 39 a261 [(0, .slice pA0 xs0.length pc0), (18, .bool true)] := Fr.of hs266 hd267 ⟨(Fr.init hF119 q272 (by kernel_rfl)), q273, trivial⟩
            refine One.bare hF262 (by kernel_rfl) (s_pure hT (d := 21) (v := .slice pA0 xs0.length pc0) (cs := []) (by kernel_rfl) (by kernel_rfl) trivial hF262 ?_)
            rintro a2 ha2 hF2; rw [ha2]
            exact hK265 _ _ rfl (grown_refl _ _)
          · -- operation 5
            rintro a278 w277 b281 KK287 hs283 hd284 hJ285 hb286 hr288 hK282
            have hr288x : RD SL183 b281 a278 a118 w277 [(21, some 4), (18, some 1)] := hr288 _ (by kernel_rfl)
            obtain ⟨⟨v290, q289, s291⟩, ⟨v293, q292, s294⟩, -⟩ := hr288x
            obtain rfl : v290 = .slice pA0 xs0.length pc0 := s291
            obtain rfl : v293 = .bool true := s294
            obtain ⟨hX295, hS280⟩ := hJ285
            have hF279 : Fr 39 a278 [(21, .slice pA0 xs0.length pc0), (18, .bool true)] := Fr.of hs283 hd284 ⟨q289, q292, trivial⟩
            refine One.bare hF279 (by kernel_rfl) (s_str hT (d := 22) (A := pA0) (m := xs0.length) (xs := xs0) (by kernel_rfl) hF279 (hS280.rd0 pR0) (by have := (Eq.refl xs0.length); first | exact this | omega | (simp [*]; done)) ?_)
            rintro a296 ha298 hF297
            rw [ha298]
            exact hK282 _ _ rfl (grown_refl _ _)
          · -- operation 6
            rintro a300 w299 b303 KK309 hs305 hd306 hJ307 hb308 hr310 hK304
            have hr310x : RD SL183 b303 a300 a118 w299 [(20, some 3), (22, some 5), (18, some 1)] := hr310 _ (by kernel_rfl)
            obtain ⟨⟨v312, q311, s313⟩, ⟨v315, q314, s316⟩, ⟨v318, q317, s319⟩, -⟩ := hr310x
            obtain rfl : v312 = .string (str xs0) := s313
            obtain rfl : v315 = .string (str xs0) := s316
            obtain rfl : v318 = .bool true := s319
            obtain ⟨hX320, hS302⟩ := hJ307
            have hF301 : Fr 39 a300 [(20, .string (str xs0)), (22, .string (str xs0)), (18, .bool true)] := Fr.of hs305 hd306 ⟨q311, q314, q317, trivial⟩
            refine One.bare hF301 (by kernel_rfl) (s_pure hT (d := 23) (v := .bool (((str xs0).toList == (str xs0).toList))) (cs := []) (by kernel_rfl) (by kernel_rfl) trivial hF301 ?_)
            rintro a2 ha2 hF2; rw [ha2]
            exact hK304 _ _ (show (.bool (((str xs0).toList == (str xs0).toList)) : Value) = .bool ((decide (xs0 = xs0))) by (rw [str_beq pb0 pb0] <;> rfl)) (grown_refl _ _)
          · -- operation 7
            rintro a322 w321 b325 KK331 hs327 hd328 hJ329 hb330 hr332 hK326
            have hr332x : RD SL183 b325 a322 a118 w321 [(18, some 1), (23, some 6)] := hr332 _ (by kernel_rfl)
            obtain ⟨⟨v334, q333, s335⟩, ⟨v337, q336, s338⟩, -⟩ := hr332x
            obtain rfl : v334 = .bool true := s335
            obtain rfl : v337 = .bool ((decide (xs0 = xs0))) := s338
            obtain ⟨hX339, hS324⟩ := hJ329
            have hF323 : Fr 39 a322 [(18, .bool true), (23, .bool ((decide (xs0 = xs0))))] := Fr.of hs327 hd328 ⟨q333, q336, trivial⟩
            refine s_pure hT (d := 24) (v := .bool ((decide (xs0 = xs0)))) (cs := []) (by kernel_rfl) (by kernel_rfl) trivial hF323 ?_
            rintro a2 ha2 hF2; rw [ha2]
            exact hK326 _ _ rfl (grown_refl _ _)
          · -- operation 8
            rintro a341 w340 b344 KK350 hs346 hd347 hJ348 hb349 hr351 hK345
            have hr351x : RD SL183 b344 a341 a118 w340 [(24, some 7)] := hr351 _ (by kernel_rfl)
            obtain ⟨⟨v353, q352, s354⟩, -⟩ := hr351x
            obtain rfl : v353 = .bool ((decide (xs0 = xs0))) := s354
            obtain ⟨hX355, hS343⟩ := hJ348
            have hF342 : Fr 39 a341 [(24, .bool ((decide (xs0 = xs0))))] := Fr.of hs346 hd347 ⟨q352, trivial⟩
            refine s_pure hT (d := 25) (v := .bool ((decide (xs0 = xs0)))) (cs := []) (by kernel_rfl) (by kernel_rfl) trivial hF342 ?_
            rintro a2 ha2 hF2; rw [ha2]
            exact hK345 _ _ (show (.bool ((decide (xs0 = xs0))) : Value) = .bool true by (rw [decide_eq_true hc143] <;> rfl)) (grown_refl _ _)
          · -- operation 9
            rintro a357 w356 b360 KK366 hs362 hd363 hJ364 hb365 hr367 hK361
            have hr367x : RD SL183 b360 a357 a118 w356 [(4, none), (25, some 8)] := hr367 _ (by kernel_rfl)
            obtain ⟨q368, ⟨v370, q369, s371⟩, -⟩ := hr367x
            obtain rfl : v370 = .bool true := s371
            obtain ⟨hX372, hS359⟩ := hJ364
            have hF358 : Fr 39 a357 [(4, .pointer (some ⟨b63, 0, none⟩)), (25, .bool true)] := Fr.of hs362 hd363 ⟨(Fr.init hF119 q368 (by kernel_rfl)), q369, trivial⟩
            refine One.bare hF358 (by kernel_rfl) (s_loadA hT (d := 26) (b := b63) (off := 0) (sz := 64) (l := vs .u8 zs58) (by kernel_rfl) hF358 (hS359.blk 1 rfl).cells (by simp only [List.length_append, vs_length, vi_length, List.length_cons, List.length_nil, (hh61 : zs58.length = 64)]) ?_)
            rintro a373 ha375 hF374
            rw [ha375]
            exact hK361 _ _ rfl (grown_refl _ _)
          · -- operation 10
            rintro a377 w376 b380 KK386 hs382 hd383 hJ384 hb385 hr387 hK381
            have hr387x : RD SL183 b380 a377 a118 w376 [(0, none), (25, some 8)] := hr387 _ (by kernel_rfl)
            obtain ⟨q388, ⟨v390, q389, s391⟩, -⟩ := hr387x
            obtain rfl : v390 = .bool true := s391
            obtain ⟨hX392, hS379⟩ := hJ384
            have hF378 : Fr 39 a377 [(0, .slice pA0 xs0.length pc0), (25, .bool true)] := Fr.of hs382 hd383 ⟨(Fr.init hF119 q388 (by kernel_rfl)), q389, trivial⟩
            refine One.bare hF378 (by kernel_rfl) (s_pure hT (d := 27) (v := .slice pA0 xs0.length pc0) (cs := []) (by kernel_rfl) (by kernel_rfl) trivial hF378 ?_)
            rintro a2 ha2 hF2; rw [ha2]
            exact hK381 _ _ rfl (grown_refl _ _)
          · -- operation 11
            rintro a394 w393 b397 KK403 hs399 hd400 hJ401 hb402 hr404 hK398
            have hr404x : RD SL183 b397 a394 a118 w393 [(27, some 10), (25, some 8)] := hr404 _ (by kernel_rfl)
            obtain ⟨⟨v406, q405, s407⟩, ⟨v409, q408, s410⟩, -⟩ := hr404x
            obtain rfl : v406 = .slice pA0 xs0.length pc0 := s407
            obtain rfl : v409 = .bool true := s410
            obtain ⟨hX411, hS396⟩ := hJ401
            have hF395 : Fr 39 a394 [(27, .slice pA0 xs0.length pc0), (25, .bool true)] := Fr.of hs399 hd400 ⟨q405, q408, trivial⟩
            refine One.bare hF395 (by kernel_rfl) (s_call (d := 28) (f := 22) (l := [.slice pA0 xs0.length pc0]) (by kernel_rfl) hF395 cl22 (W_casemateref14_Sum pA0 pc0 xs0 _ (hS396.rd0 pR0) (by have := pc_0; have := (Eq.refl xs0.length); skip; have := (Eq.refl xs0.length); first | omega | (simp only [zA, zS, zT, zD, zR, zC, zN, zV, zI] <;> omega) | (simp only [zA, zS, zT, zD, zR, zC, zN, zV, zI] at * <;> omega)) pb0 zs159 hr161) ?_)
            rintro a412 w413 v414 ⟨rfl, hh162, hh163, hC415⟩ ha416 hF417
            have hS418 : Heap w [] w413 [.row 5 1 A104 zs101.length c105 (vs .u8 zs101), .blk b63 30 (vs .u8 zs58), .row 29 1 A56 1 1 ([.slice A31 xs0.length c32]), .row 5 1 A31 xs0.length c32 (vs .u8 xs0)] := Heap.call hS396 hC415
            rw [ha416]
            exact hK398 _ _ ⟨rfl, hh162, hh163⟩ (hC415.grown)
          · -- operation 12
            rintro a420 w419 b423 KK429 hs425 hd426 hJ427 hb428 hr430 hK424
            have hr430x : RD SL183 b423 a420 a118 w419 [(26, some 9), (28, some 11), (25, some 8)] := hr430 _ (by kernel_rfl)
            obtain ⟨⟨v432, q431, s433⟩, ⟨v435, q434, s436⟩, ⟨v438, q437, s439⟩, -⟩ := hr430x
            obtain rfl : v432 = .agg (vs .u8 zs58).toArray := s433
            obtain ⟨rfl, hh162, hh163⟩ := s436
            obtain rfl : v438 = .bool true := s439
            obtain ⟨hX440, hS422⟩ := hJ427
            have hF421 : Fr 39 a420 [(26, .agg (vs .u8 zs58).toArray), (28, .agg (vs .u8 zs159).toArray), (25, .bool true)] := Fr.of hs425 hd426 ⟨q431, q434, q437, trivial⟩
            refine One.bare hF421 (by kernel_rfl) (s_arrEq hT (d := 29) (m := 64) (e := true) (k := .u8) (xs := zs58) (ys := zs159) (b := (decide (zs58 = zs159))) (by kernel_rfl) (by intro t h; cases h; kernel_rfl) hF421 hh61 hh162 rfl ?_)
            rintro a441 ha443 hF442
            rw [ha443]
            exact hK424 _ _ rfl (grown_refl _ _)
          · -- operation 13
            rintro a445 w444 b448 KK454 hs450 hd451 hJ452 hb453 hr455 hK449
            have hr455x : RD SL183 b448 a445 a118 w444 [(25, some 8), (29, some 12)] := hr455 _ (by kernel_rfl)
            obtain ⟨⟨v457, q456, s458⟩, ⟨v460, q459, s461⟩, -⟩ := hr455x
            obtain rfl : v457 = .bool true := s458
            obtain rfl : v460 = .bool ((decide (zs58 = zs159))) := s461
            obtain ⟨hX462, hS447⟩ := hJ452
            have hF446 : Fr 39 a445 [(25, .bool true), (29, .bool ((decide (zs58 = zs159))))] := Fr.of hs450 hd451 ⟨q456, q459, trivial⟩
            refine s_pure hT (d := 30) (v := .bool ((decide (zs58 = zs159)))) (cs := []) (by kernel_rfl) (by kernel_rfl) trivial hF446 ?_
            rintro a2 ha2 hF2; rw [ha2]
            exact hK449 _ _ rfl (grown_refl _ _)
          · -- operation 14
            rintro a464 w463 b467 KK473 hs469 hd470 hJ471 hb472 hr474 hK468
            have hr474x : RD SL183 b467 a464 a118 w463 [(30, some 13)] := hr474 _ (by kernel_rfl)
            obtain ⟨⟨v476, q475, s477⟩, -⟩ := hr474x
            obtain rfl : v476 = .bool ((decide (zs58 = zs159))) := s477
            obtain ⟨hX478, hS466⟩ := hJ471
            have hF465 : Fr 39 a464 [(30, .bool ((decide (zs58 = zs159))))] := Fr.of hs469 hd470 ⟨q475, trivial⟩
            refine s_pure hT (d := 31) (v := .bool ((decide (zs58 = zs159)))) (cs := []) (by kernel_rfl) (by kernel_rfl) trivial hF465 ?_
            rintro a2 ha2 hF2; rw [ha2]
            exact hK468 _ _ (show (.bool ((decide (zs58 = zs159))) : Value) = .bool true by (rw [decide_eq_true hc164] <;> rfl)) (grown_refl _ _)
          · -- operation 15
            rintro a480 w479 b483 KK489 hs485 hd486 hJ487 hb488 hr490 hK484
            have hr490x : RD SL183 b483 a480 a118 w479 [(5, none), (31, some 14)] := hr490 _ (by kernel_rfl)
            obtain ⟨q491, ⟨v493, q492, s494⟩, -⟩ := hr490x
            obtain rfl : v493 = .bool true := s494
            obtain ⟨hX495, hS482⟩ := hJ487
            have hF481 : Fr 39 a480 [(5, .slice A104 zs101.length c105), (31, .bool true)] := Fr.of hs485 hd486 ⟨(Fr.init hF119 q491 (by kernel_rfl)), q492, trivial⟩
            refine One.bare hF481 (by kernel_rfl) (s_pure hT (d := 32) (v := .slice A104 zs101.length c105) (cs := []) (by kernel_rfl) (by kernel_rfl) trivial hF481 ?_)
            rintro a2 ha2 hF2; rw [ha2]
            exact hK484 _ _ rfl (grown_refl _ _)
          · -- operation 16
            rintro a497 w496 b500 KK506 hs502 hd503 hJ504 hb505 hr507 hK501
            have hr507x : RD SL183 b500 a497 a118 w496 [(32, some 15), (31, some 14)] := hr507 _ (by kernel_rfl)
            obtain ⟨⟨v509, q508, s510⟩, ⟨v512, q511, s513⟩, -⟩ := hr507x
            obtain rfl : v509 = .slice A104 zs101.length c105 := s510
            obtain rfl : v512 = .bool true := s513
            obtain ⟨hX514, hS499⟩ := hJ504
            have hF498 : Fr 39 a497 [(32, .slice A104 zs101.length c105), (31, .bool true)] := Fr.of hs502 hd503 ⟨q508, q511, trivial⟩
            refine One.bare hF498 (by kernel_rfl) (s_str hT (d := 33) (A := A104) (m := zs101.length) (xs := zs101) (by kernel_rfl) hF498 (hS499.own 0 rfl).rd (by have := (Eq.refl zs101.length); first | exact this | omega | (simp [*]; done)) ?_)
            rintro a515 ha517 hF516
            rw [ha517]
            exact hK501 _ _ rfl (grown_refl _ _)
          · -- operation 17
            rintro a519 w518 b522 KK528 hs524 hd525 hJ526 hb527 hr529 hK523
            have hr529x : RD SL183 b522 a519 a118 w518 [(0, none), (31, some 14)] := hr529 _ (by kernel_rfl)
            obtain ⟨q530, ⟨v532, q531, s533⟩, -⟩ := hr529x
            obtain rfl : v532 = .bool true := s533
            obtain ⟨hX534, hS521⟩ := hJ526
            have hF520 : Fr 39 a519 [(0, .slice pA0 xs0.length pc0), (31, .bool true)] := Fr.of hs524 hd525 ⟨(Fr.init hF119 q530 (by kernel_rfl)), q531, trivial⟩
            refine One.bare hF520 (by kernel_rfl) (s_pure hT (d := 34) (v := .slice pA0 xs0.length pc0) (cs := []) (by kernel_rfl) (by kernel_rfl) trivial hF520 ?_)
            rintro a2 ha2 hF2; rw [ha2]
            exact hK523 _ _ rfl (grown_refl _ _)
          · -- operation 18
            rintro a536 w535 b539 KK545 hs541 hd542 hJ543 hb544 hr546 hK540
            have hr546x : RD SL183 b539 a536 a118 w535 [(34, some 17), (31, some 14)] := hr546 _ (by kernel_rfl)
            obtain ⟨⟨v548, q547, s549⟩, ⟨v551, q550, s552⟩, -⟩ := hr546x
            obtain rfl : v548 = .slice pA0 xs0.length pc0 := s549
            obtain rfl : v551 = .bool true := s552
            obtain ⟨hX553, hS538⟩ := hJ543
            have hF537 : Fr 39 a536 [(34, .slice pA0 xs0.length pc0), (31, .bool true)] := Fr.of hs541 hd542 ⟨q547, q550, trivial⟩
            refine One.bare hF537 (by kernel_rfl) (s_call (d := 35) (f := 23) (l := [.slice pA0 xs0.length pc0]) (by kernel_rfl) hF537 cl23 (W_casemateref14_Pad pA0 pc0 xs0 _ (hS538.rd0 pR0) (by have := pc_0; have := (Eq.refl xs0.length); skip; have := (Eq.refl xs0.length); first | omega | (simp only [zA, zS, zT, zD, zR, zC, zN, zV, zI] <;> omega) | (simp only [zA, zS, zT, zD, zR, zC, zN, zV, zI] at * <;> omega)) pb0 zs173 hr175) ?_)
            rintro a554 w555 v556 ⟨A176, c177, rfl, hh178, hC557⟩ ha558 hF559
            have hS560 : Heap w [] w555 [.row 5 1 A176 zs173.length c177 (vs .u8 zs173), .row 5 1 A104 zs101.length c105 (vs .u8 zs101), .blk b63 30 (vs .u8 zs58), .row 29 1 A56 1 1 ([.slice A31 xs0.length c32]), .row 5 1 A31 xs0.length c32 (vs .u8 xs0)] := Heap.call hS538 hC557
            rw [ha558]
            exact hK540 _ _ ⟨A176, c177, rfl, (fun k hk => Nat.le_trans hX553 (Heap.newge hC557 0 rfl hk)), (hS560.own 0 rfl), hh178⟩ (hC557.grown)
          · -- operation 19
            rintro a562 w561 b565 KK571 hs567 hd568 hJ569 hb570 hr572 hK566
            have hr572x : RD SL183 b565 a562 a118 w561 [(35, some 18), (31, some 14)] := hr572 _ (by kernel_rfl)
            obtain ⟨⟨v574, q573, s575⟩, ⟨v577, q576, s578⟩, -⟩ := hr572x
            obtain ⟨A176, c177, rfl, hq181, hl180, hh178⟩ := s575
            obtain rfl : v577 = .bool true := s578
            obtain ⟨hX579, hS564⟩ := hJ569
            have hF563 : Fr 39 a562 [(35, .slice A176 zs173.length c177), (31, .bool true)] := Fr.of hs567 hd568 ⟨q573, q576, trivial⟩
            refine One.bare hF563 (by kernel_rfl) (s_str hT (d := 36) (A := A176) (m := zs173.length) (xs := zs173) (by kernel_rfl) hF563 hl180.rd (by have := (Eq.refl zs173.length); first | exact this | omega | (simp [*]; done)) ?_)
            rintro a580 ha582 hF581
            rw [ha582]
            exact hK566 _ _ ⟨rfl, hh178⟩ (grown_refl _ _)
          · -- operation 20
            rintro a584 w583 b587 KK593 hs589 hd590 hJ591 hb592 hr594 hK588
            have hr594x : RD SL183 b587 a584 a118 w583 [(33, some 16), (36, some 19), (31, some 14)] := hr594 _ (by kernel_rfl)
            obtain ⟨⟨v596, q595, s597⟩, ⟨v599, q598, s600⟩, ⟨v602, q601, s603⟩, -⟩ := hr594x
            obtain rfl : v596 = .string (str zs101) := s597
            obtain ⟨rfl, hh178⟩ := s600
            obtain rfl : v602 = .bool true := s603
            obtain ⟨hX604, hS586⟩ := hJ591
            have hF585 : Fr 39 a584 [(33, .string (str zs101)), (36, .string (str zs173)), (31, .bool true)] := Fr.of hs589 hd590 ⟨q595, q598, q601, trivial⟩
            refine One.bare hF585 (by kernel_rfl) (s_pure hT (d := 37) (v := .bool (((str zs101).toList == (str zs173).toList))) (cs := []) (by kernel_rfl) (by kernel_rfl) trivial hF585 ?_)
            rintro a2 ha2 hF2; rw [ha2]
            exact hK588 _ _ (show (.bool (((str zs101).toList == (str zs173).toList)) : Value) = .bool ((decide (zs101 = zs173))) by (rw [str_beq hh106 hh178] <;> rfl)) (grown_refl _ _)
          · -- operation 21
            rintro a606 w605 b609 KK615 hs611 hd612 hJ613 hb614 hr616 hK610
            have hr616x : RD SL183 b609 a606 a118 w605 [(31, some 14), (37, some 20)] := hr616 _ (by kernel_rfl)
            obtain ⟨⟨v618, q617, s619⟩, ⟨v621, q620, s622⟩, -⟩ := hr616x
            obtain rfl : v618 = .bool true := s619
            obtain rfl : v621 = .bool ((decide (zs101 = zs173))) := s622
            obtain ⟨hX623, hS608⟩ := hJ613
            have hF607 : Fr 39 a606 [(31, .bool true), (37, .bool ((decide (zs101 = zs173))))] := Fr.of hs611 hd612 ⟨q617, q620, trivial⟩
            refine s_pure hT (d := 38) (v := .bool ((decide (zs101 = zs173)))) (cs := []) (by kernel_rfl) (by kernel_rfl) trivial hF607 ?_
            rintro a2 ha2 hF2; rw [ha2]
            exact hK610 _ _ rfl (grown_refl _ _)
          · -- operation 22
            rintro a625 w624 b628 KK634 hs630 hd631 hJ632 hb633 hr635 hK629
            have hr635x : RD SL183 b628 a625 a118 w624 [(38, some 21)] := hr635 _ (by kernel_rfl)
            obtain ⟨⟨v637, q636, s638⟩, -⟩ := hr635x
            obtain rfl : v637 = .bool ((decide (zs101 = zs173))) := s638
            obtain ⟨hX639, hS627⟩ := hJ632
            have hF626 : Fr 39 a625 [(38, .bool ((decide (zs101 = zs173))))] := Fr.of hs630 hd631 ⟨q636, trivial⟩
            refine s_pure hT (d := 2) (v := .bool ((decide (zs101 = zs173)))) (cs := []) (by kernel_rfl) (by kernel_rfl) trivial hF626 ?_
            rintro a2 ha2 hF2; rw [ha2]
            exact hK629 _ _ rfl (grown_refl _ _)
          · -- behind the region
            rintro a640 w641 hs642 hd643 ⟨⟨v646, q647, s648⟩, -⟩ ⟨hX645, hS644⟩
            obtain rfl : v646 = .bool ((decide (zs101 = zs173))) := s648
            have hF649 : Fr 39 a640 [(2, .bool ((decide (zs101 = zs173))))] := Fr.of hs642 hd643 ⟨q647, trivial⟩
            clear hF119 hS116 hs642 hd643 q647
            refine hK121 _ _ ?_
            refine wp_ret ?_
            obtain rfl := Option.some.inj h174
            refine ret1 hF649 rfl (v := .bool ((decide (zs101 = zs173)))) (by kernel_rfl) ?_
            exact ⟨by rw [show ((decide (zs101 = zs173))) = true from hr0], hS644.pick [] (by decide) rfl⟩
        · clear h160
          obtain rfl := Option.some.inj h165
          exact absurd hr0 (by decide)
      · clear h126
        obtain rfl := Option.some.inj h144
        exact absurd hr0 (by decide)
    · clear h123
      obtain rfl := Option.some.inj h126
      exact absurd hr0 (by decide)

end Go.Proofs.Ytddphjmcoolinaa
